/- Whatever words: what stands at each end (PickEnds answers true at every input). No condition beyond the row's own. -/
import Derived.Test.YtjnckolidgbckaaPickLaws
namespace Go.Proofs.Ytjnckolidgbckaa
open Go.RowKit Go.SepYtjnckolidgbckaa
set_option linter.unusedSimpArgs false
set_option linter.unusedVariables false
set_option maxRecDepth 100000
attribute [local go_sem] field_state field_end field_stamp
def noneRel (w0 : World) (m : Nat) (gk : Nat) (s i : Value) (w' : World) : Prop :=
  ∃ n : Nat, n + gk = m ∧ i = .int .i64 n ∧ s = .bool false ∧ sat w0 w' []
def endRel (w0 : World) (words : List Int) (gk : Nat) (s i : Value) (w' : World) : Prop :=
  ∃ n : Nat, n + gk = words.length ∧ i = .int .i64 n ∧ s = .bool (decide (liveM words n ≠ [])) ∧ sat w0 w' []
theorem ends_none (words : List Int) (p : Option Addr) (cap : Nat) (w : World) (hc : OldU w p words) (hwf : ∀ x ∈ words, 0 ≤ x ∧ x < 18446744073709551616) (h100 : ¬ words.length > 100) (hno : orderM words = []) :
    Tells 4 #[.slice p words.length cap] w (.bool true) := by
  have HD := fun w => Lib.hid (head_calls w)
  have K := Lib.hid (sat.start w)
  have c0 : decide ((words.length : Int) > 100) = false := by simp; omega
  have e0 := atM_nil 0 hno
  have e1 := atM_nil 1 hno
  have A0 := fun w' (b : Below w.heap.size w w') => Lib.hid (at_calls words p cap 0 w' (hc.grown b) hwf (by omega))
  have A1 := fun w' (b : Below w.heap.size w w') => Lib.hid (at_calls words p cap 1 w' (hc.grown b) hwf (by omega))
  simp only [e0] at A0
  simp only [e1] at A1
  have NL : ∀ n (hn : n < words.length), (unpack words[n]).state ≠ 1 := fun n hn e => by
    have : (n : Int) ∈ orderM words := (mem_orderM words n).2 ⟨by omega, by omega, by rw [show getI words n = words[n] by simp [getI, hn]]; exact e⟩
    rw [hno] at this
    simp at this
  have H := Lib.hid hc
  clear hc e0 e1 hno
  go_enter Try.func4, Try.ntmps4
  go_wp2_with (first | (go_at_call 9; (with_reducible refine ((HD _).out).mono ?_); rintro e w1 ⟨rfl, hb⟩; have K1 := sat.grown (by repeat (first | exact K.out | apply sat.alloc_any | apply sat.drew | apply sat.drewN)) hb; clear hb; have K2 := Lib.hid K1; clear K1 K; (try clear a0); (try clear l0); (try clear a1); (try clear l1); (try clear a2); (try clear l2); have K := K2; clear K2) | (go_at_call 12; (with_reducible refine ((A0 _ (RowKit.Hid.out K).below).out).mono ?_); rintro e w1 ⟨rfl, hb⟩; have K1 := sat.grown (by repeat (first | exact K.out | apply sat.alloc_any | apply sat.drew | apply sat.drewN)) hb; clear hb; have K2 := Lib.hid K1; clear K1 K; (try clear a0); (try clear l0); (try clear a1); (try clear l1); (try clear a2); (try clear l2); have K := K2; clear K2) | (go_at_call 12; (with_reducible refine ((A1 _ (RowKit.Hid.out K).below).out).mono ?_); rintro e w1 ⟨rfl, hb⟩; have K1 := sat.grown (by repeat (first | exact K.out | apply sat.alloc_any | apply sat.drew | apply sat.drewN)) hb; clear hb; have K2 := Lib.hid K1; clear K1 K; (try clear a0); (try clear l0); (try clear a1); (try clear l1); (try clear a2); (try clear l2); have K := K2; clear K2))
  go_loopg [5, 19] words.length (fun gk s i w' => noneRel w words.length gk s i w')
  case atStart => exact ⟨0, by simp, rfl, rfl, K.out⟩
  case round =>
    obtain ⟨n, hn, rfl, rfl, hs⟩ := hrel
    clear K
    have K := Lib.hid hs
    clear hs
    by_cases hlt : n < words.length
    · have d0 : decide (n < words.length) = true := by simpa using hlt
      obtain ⟨bw, off, rfl, hb, hx0⟩ := H.out n hlt
      have hx : wr.cell? ⟨bw, off + n, none⟩ = some (.int .u64 words[n]) := (K.out.below.cell (p := ⟨bw, off + n, none⟩) hb).trans hx0
      clear hx0
      have hxw := hwf words[n] (List.getElem_mem hlt)
      have U := fun w => Lib.hid (unpack_calls words[n] hxw.1 hxw.2 w)
      have c1 : ((unpack words[n]).state != 1) = true := by simpa using NL n hlt
      have HN := Lib.hid hn
      clear hn hxw NL
      generalize unpack words[n] = x at *
      generalize words[n] = xn at *
      unfold WordM.v at U
      obtain ⟨gk', rfl⟩ : ∃ g', gk = g' + 1 := ⟨gk - 1, by have := HN.out; omega⟩
      go_wp2_with (first | (go_at_call 13; (with_reducible refine ((U _).out).mono ?_); rintro e w1 ⟨rfl, hb⟩; have K1 := sat.grown (by repeat (first | exact K.out | apply sat.alloc_any | apply sat.drew | apply sat.drewN)) hb; clear hb; have K2 := Lib.hid K1; clear K1 K; (try clear a0); (try clear l0); (try clear a1); (try clear l1); (try clear a2); (try clear l2); have K := K2; clear K2))
      go_roundg gk'
      case measure => omega
      case rel => exact ⟨n + 1, by have := HN.out; omega, by simp, rfl, (by repeat (first | exact K.out | apply sat.alloc_any | apply sat.drew | apply sat.drewN))⟩
    · have d0 : decide (n < words.length) = false := by simpa using hlt
      clear hn NL
      go_wp2
      go_ret
      exact ⟨rfl, K.out.below⟩
theorem ends_some (words : List Int) (p : Option Addr) (cap : Nat) (w : World) (hc : OldU w p words) (hwf : ∀ x ∈ words, 0 ≤ x ∧ x < 18446744073709551616) (h100 : ¬ words.length > 100) (hsome : orderM words ≠ []) :
    Tells 4 #[.slice p words.length cap] w (.bool true) := by
  have HD := fun w => Lib.hid (head_calls w)
  have K := Lib.hid (sat.start w)
  have c0 : decide ((words.length : Int) > 100) = false := by simp; omega
  obtain ⟨h0a, h0b, h0c⟩ := (mem_orderM words _).1 (atM_mem words 0 hsome)
  obtain ⟨h1a, h1b, h1c⟩ := (mem_orderM words _).1 (atM_mem words 1 hsome)
  have FA : ∀ i : Nat, (i : Int) ∈ orderM words → (i : Int) = atM words 0 ∨ aheadB words i (atM words 0) = false := fun i hi => (atM_first words i hi).imp id (fun h => by
    cases h2 : aheadB words i (atM words 0) with
    | false => rfl
    | true => exact (aheadB_asymm _ _ _ h h2).elim)
  have FB : ∀ i : Nat, (i : Int) ∈ orderM words → (i : Int) = atM words 1 ∨ aheadB words (atM words 1) i = false := fun i hi => (atM_last words 1 (by omega) i hi).imp id (fun h => by
    cases h2 : aheadB words (atM words 1) i with
    | false => rfl
    | true => exact (aheadB_asymm _ _ _ h h2).elim)
  have A0 := fun w' (b : Below w.heap.size w w') => Lib.hid (at_calls words p cap 0 w' (hc.grown b) hwf (by omega))
  have A1 := fun w' (b : Below w.heap.size w w') => Lib.hid (at_calls words p cap 1 w' (hc.grown b) hwf (by omega))
  have AH := fun w' (b : Below w.heap.size w w') a b' ha hb => Lib.hid (ahead_calls words p cap w' (hc.grown b) hwf a b' ha hb)
  obtain ⟨l0, e0⟩ : ∃ a : Nat, atM words 0 = (a : Int) := ⟨(atM words 0).toNat, by omega⟩
  obtain ⟨r0, e1⟩ : ∃ a : Nat, atM words 1 = (a : Int) := ⟨(atM words 1).toNat, by omega⟩
  rw [e0] at h0a h0b h0c
  rw [e1] at h1a h1b h1c
  simp only [e0] at A0 FA
  simp only [e1] at A1 FB
  have hl0 : l0 < words.length := by omega
  have hr0 : r0 < words.length := by omega
  rw [show getI words l0 = words[l0] by simp [getI, hl0]] at h0c
  rw [show getI words r0 = words[r0] by simp [getI, hr0]] at h1c
  have MEM : ∀ n (hn : n < words.length), (unpack words[n]).state = 1 → (n : Int) ∈ orderM words := fun n hn e => 
    (mem_orderM words n).2 ⟨by omega, by omega, by rw [show getI words n = words[n] by simp [getI, hn]]; exact e⟩
  have LS : liveM words words.length ≠ [] := fun h => hsome (by have := (orderM_perm words).length_eq; rw [h] at this; simpa using this)
  have LN : ∀ n (hn : n < words.length), liveM words (n + 1) = if (unpack words[n]).state = 1 then (n : Int) :: liveM words n else liveM words n := fun n hn => by
    rw [show words[n] = getI words n by simp [getI, hn]]; rfl
  have H := Lib.hid hc
  clear hc e0 e1 h0a h0b h1a h1b hsome
  go_enter Try.func4, Try.ntmps4
  go_wp2_with (first | (go_at_call 9; (with_reducible refine ((HD _).out).mono ?_); rintro e w1 ⟨rfl, hb⟩; have K1 := sat.grown (by repeat (first | exact K.out | apply sat.alloc_any | apply sat.drew | apply sat.drewN)) hb; clear hb; have K2 := Lib.hid K1; clear K1 K; (try clear a0); (try clear l0); (try clear a1); (try clear l1); (try clear a2); (try clear l2); have K := K2; clear K2) | (go_at_call 12; (with_reducible refine ((A0 _ (RowKit.Hid.out K).below).out).mono ?_); rintro e w1 ⟨rfl, hb⟩; have K1 := sat.grown (by repeat (first | exact K.out | apply sat.alloc_any | apply sat.drew | apply sat.drewN)) hb; clear hb; have K2 := Lib.hid K1; clear K1 K; (try clear a0); (try clear l0); (try clear a1); (try clear l1); (try clear a2); (try clear l2); have K := K2; clear K2) | (go_at_call 12; (with_reducible refine ((A1 _ (RowKit.Hid.out K).below).out).mono ?_); rintro e w1 ⟨rfl, hb⟩; have K1 := sat.grown (by repeat (first | exact K.out | apply sat.alloc_any | apply sat.drew | apply sat.drewN)) hb; clear hb; have K2 := Lib.hid K1; clear K1 K; (try clear a0); (try clear l0); (try clear a1); (try clear l1); (try clear a2); (try clear l2); have K := K2; clear K2))
  go_loopg [5, 19] words.length (fun gk s i w' => endRel w words gk s i w')
  case atStart => exact ⟨0, by simp, rfl, by simp [liveM], K.out⟩
  case round =>
    obtain ⟨n, hn, rfl, rfl, hs⟩ := hrel
    clear K
    have K := Lib.hid hs
    clear hs
    by_cases hlt : n < words.length
    · have d0 : decide (n < words.length) = true := by simpa using hlt
      have LN1 := Lib.hid (LN n hlt)
      have MEM1 := MEM n hlt
      obtain ⟨bw, off, rfl, hb, hx0⟩ := H.out n hlt
      have hx : wr.cell? ⟨bw, off + n, none⟩ = some (.int .u64 words[n]) := (K.out.below.cell (p := ⟨bw, off + n, none⟩) hb).trans hx0
      clear hx0
      have hxw := hwf words[n] (List.getElem_mem hlt)
      have U := fun w => Lib.hid (unpack_calls words[n] hxw.1 hxw.2 w)
      have HN := Lib.hid hn
      clear hn hxw MEM LN LS h0c h1c
      generalize unpack words[n] = x at *
      generalize words[n] = xn at *
      unfold WordM.v at U
      generalize hss : decide (liveM words n ≠ []) = ss at *
      obtain ⟨gk', rfl⟩ : ∃ g', gk = g' + 1 := ⟨gk - 1, by have := HN.out; omega⟩
      by_cases hs1 : x.state = 1
      · have c1 : (x.state != 1) = false := by simpa using hs1
        have hm := MEM1 hs1
        have B1 := fun w' b => AH w' b n l0 hlt hl0
        have B2 := fun w' b => AH w' b r0 n hr0 hlt
        have fa := FA n hm
        have fb := FB n hm
        have S1 := Lib.hid hs1
        clear MEM1 FA FB AH hm hs1
        have z1 : decide ((l0 : Int) < 0) = false := by simp
        have z2 : decide ((r0 : Int) < 0) = false := by simp
        by_cases ql : (l0 : Int) = n
        · by_cases qr : (r0 : Int) = n
          · have q1 : ((l0 : Int) != (n : Int)) = false := by simp; omega
            have q2 : ((r0 : Int) != (n : Int)) = false := by simp; omega
            clear fa fb ql qr
            go_wp2_with (first | (go_at_call 13; (with_reducible refine ((U _).out).mono ?_); rintro e w1 ⟨rfl, hb⟩; have K1 := sat.grown (by repeat (first | exact K.out | apply sat.alloc_any | apply sat.drew | apply sat.drewN)) hb; clear hb; have K2 := Lib.hid K1; clear K1 K; (try clear a0); (try clear l0); (try clear a1); (try clear l1); (try clear a2); (try clear l2); have K := K2; clear K2) | (go_at_call 14; (with_reducible refine ((B1 _ (RowKit.Hid.out K).below).out).mono ?_); rintro e w1 ⟨rfl, hb⟩; have K1 := sat.grown (by repeat (first | exact K.out | apply sat.alloc_any | apply sat.drew | apply sat.drewN)) hb; clear hb; have K2 := Lib.hid K1; clear K1 K; (try clear a0); (try clear l0); (try clear a1); (try clear l1); (try clear a2); (try clear l2); have K := K2; clear K2) | (go_at_call 14; (with_reducible refine ((B2 _ (RowKit.Hid.out K).below).out).mono ?_); rintro e w1 ⟨rfl, hb⟩; have K1 := sat.grown (by repeat (first | exact K.out | apply sat.alloc_any | apply sat.drew | apply sat.drewN)) hb; clear hb; have K2 := Lib.hid K1; clear K1 K; (try clear a0); (try clear l0); (try clear a1); (try clear l1); (try clear a2); (try clear l2); have K := K2; clear K2))
            go_roundg gk'
            case measure => omega
            case rel => exact ⟨n + 1, by have := HN.out; omega, by simp, by rw [LN1.out, if_pos S1.out]; simp, (by repeat (first | exact K.out | apply sat.alloc_any | apply sat.drew | apply sat.drewN))⟩
          · have q1 : ((l0 : Int) != (n : Int)) = false := by simp; omega
            have q2 : ((r0 : Int) != (n : Int)) = true := by simp; omega
            have fb' := fb.resolve_left (fun h => qr h.symm)
            simp only [fb'] at B2
            clear fb'
            clear fa fb ql qr
            go_wp2_with (first | (go_at_call 13; (with_reducible refine ((U _).out).mono ?_); rintro e w1 ⟨rfl, hb⟩; have K1 := sat.grown (by repeat (first | exact K.out | apply sat.alloc_any | apply sat.drew | apply sat.drewN)) hb; clear hb; have K2 := Lib.hid K1; clear K1 K; (try clear a0); (try clear l0); (try clear a1); (try clear l1); (try clear a2); (try clear l2); have K := K2; clear K2) | (go_at_call 14; (with_reducible refine ((B1 _ (RowKit.Hid.out K).below).out).mono ?_); rintro e w1 ⟨rfl, hb⟩; have K1 := sat.grown (by repeat (first | exact K.out | apply sat.alloc_any | apply sat.drew | apply sat.drewN)) hb; clear hb; have K2 := Lib.hid K1; clear K1 K; (try clear a0); (try clear l0); (try clear a1); (try clear l1); (try clear a2); (try clear l2); have K := K2; clear K2) | (go_at_call 14; (with_reducible refine ((B2 _ (RowKit.Hid.out K).below).out).mono ?_); rintro e w1 ⟨rfl, hb⟩; have K1 := sat.grown (by repeat (first | exact K.out | apply sat.alloc_any | apply sat.drew | apply sat.drewN)) hb; clear hb; have K2 := Lib.hid K1; clear K1 K; (try clear a0); (try clear l0); (try clear a1); (try clear l1); (try clear a2); (try clear l2); have K := K2; clear K2))
            go_roundg gk'
            case measure => omega
            case rel => exact ⟨n + 1, by have := HN.out; omega, by simp, by rw [LN1.out, if_pos S1.out]; simp, (by repeat (first | exact K.out | apply sat.alloc_any | apply sat.drew | apply sat.drewN))⟩
        · by_cases qr : (r0 : Int) = n
          · have q1 : ((l0 : Int) != (n : Int)) = true := by simp; omega
            have q2 : ((r0 : Int) != (n : Int)) = false := by simp; omega
            have fa' := fa.resolve_left (fun h => ql h.symm)
            simp only [fa'] at B1
            clear fa'
            clear fa fb ql qr
            go_wp2_with (first | (go_at_call 13; (with_reducible refine ((U _).out).mono ?_); rintro e w1 ⟨rfl, hb⟩; have K1 := sat.grown (by repeat (first | exact K.out | apply sat.alloc_any | apply sat.drew | apply sat.drewN)) hb; clear hb; have K2 := Lib.hid K1; clear K1 K; (try clear a0); (try clear l0); (try clear a1); (try clear l1); (try clear a2); (try clear l2); have K := K2; clear K2) | (go_at_call 14; (with_reducible refine ((B1 _ (RowKit.Hid.out K).below).out).mono ?_); rintro e w1 ⟨rfl, hb⟩; have K1 := sat.grown (by repeat (first | exact K.out | apply sat.alloc_any | apply sat.drew | apply sat.drewN)) hb; clear hb; have K2 := Lib.hid K1; clear K1 K; (try clear a0); (try clear l0); (try clear a1); (try clear l1); (try clear a2); (try clear l2); have K := K2; clear K2) | (go_at_call 14; (with_reducible refine ((B2 _ (RowKit.Hid.out K).below).out).mono ?_); rintro e w1 ⟨rfl, hb⟩; have K1 := sat.grown (by repeat (first | exact K.out | apply sat.alloc_any | apply sat.drew | apply sat.drewN)) hb; clear hb; have K2 := Lib.hid K1; clear K1 K; (try clear a0); (try clear l0); (try clear a1); (try clear l1); (try clear a2); (try clear l2); have K := K2; clear K2))
            go_roundg gk'
            case measure => omega
            case rel => exact ⟨n + 1, by have := HN.out; omega, by simp, by rw [LN1.out, if_pos S1.out]; simp, (by repeat (first | exact K.out | apply sat.alloc_any | apply sat.drew | apply sat.drewN))⟩
          · have q1 : ((l0 : Int) != (n : Int)) = true := by simp; omega
            have q2 : ((r0 : Int) != (n : Int)) = true := by simp; omega
            have fa' := fa.resolve_left (fun h => ql h.symm)
            simp only [fa'] at B1
            clear fa'
            have fb' := fb.resolve_left (fun h => qr h.symm)
            simp only [fb'] at B2
            clear fb'
            clear fa fb ql qr
            go_wp2_with (first | (go_at_call 13; (with_reducible refine ((U _).out).mono ?_); rintro e w1 ⟨rfl, hb⟩; have K1 := sat.grown (by repeat (first | exact K.out | apply sat.alloc_any | apply sat.drew | apply sat.drewN)) hb; clear hb; have K2 := Lib.hid K1; clear K1 K; (try clear a0); (try clear l0); (try clear a1); (try clear l1); (try clear a2); (try clear l2); have K := K2; clear K2) | (go_at_call 14; (with_reducible refine ((B1 _ (RowKit.Hid.out K).below).out).mono ?_); rintro e w1 ⟨rfl, hb⟩; have K1 := sat.grown (by repeat (first | exact K.out | apply sat.alloc_any | apply sat.drew | apply sat.drewN)) hb; clear hb; have K2 := Lib.hid K1; clear K1 K; (try clear a0); (try clear l0); (try clear a1); (try clear l1); (try clear a2); (try clear l2); have K := K2; clear K2) | (go_at_call 14; (with_reducible refine ((B2 _ (RowKit.Hid.out K).below).out).mono ?_); rintro e w1 ⟨rfl, hb⟩; have K1 := sat.grown (by repeat (first | exact K.out | apply sat.alloc_any | apply sat.drew | apply sat.drewN)) hb; clear hb; have K2 := Lib.hid K1; clear K1 K; (try clear a0); (try clear l0); (try clear a1); (try clear l1); (try clear a2); (try clear l2); have K := K2; clear K2))
            go_roundg gk'
            case measure => omega
            case rel => exact ⟨n + 1, by have := HN.out; omega, by simp, by rw [LN1.out, if_pos S1.out]; simp, (by repeat (first | exact K.out | apply sat.alloc_any | apply sat.drew | apply sat.drewN))⟩
      · have c1 : (x.state != 1) = true := by simpa using hs1
        have S1 := Lib.hid hs1
        have SS := Lib.hid hss
        clear MEM1 FA FB AH hs1 hss
        go_wp2_with (first | (go_at_call 13; (with_reducible refine ((U _).out).mono ?_); rintro e w1 ⟨rfl, hb⟩; have K1 := sat.grown (by repeat (first | exact K.out | apply sat.alloc_any | apply sat.drew | apply sat.drewN)) hb; clear hb; have K2 := Lib.hid K1; clear K1 K; (try clear a0); (try clear l0); (try clear a1); (try clear l1); (try clear a2); (try clear l2); have K := K2; clear K2))
        go_roundg gk'
        case measure => omega
        case rel => exact ⟨n + 1, by have := HN.out; omega, by simp, by rw [LN1.out, if_neg S1.out, SS.out], (by repeat (first | exact K.out | apply sat.alloc_any | apply sat.drew | apply sat.drewN))⟩
    · have hnl : n = words.length := by omega
      subst hnl
      have d0 : decide (words.length < words.length) = false := by simp
      have cs : decide (liveM words words.length ≠ []) = true := decide_eq_true LS
      rw [cs]
      obtain ⟨bw, off, rfl, hb, hx0⟩ := H.out l0 hl0
      obtain ⟨bw', off', e', -, hx1⟩ := H.out r0 hr0
      simp only [Option.some.injEq, Addr.mk.injEq, and_true] at e'
      obtain ⟨rfl, rfl⟩ := e'
      have F : ∀ w', Below w.heap.size w w' → w'.cell? ⟨bw, off + l0, none⟩ = some (.int .u64 words[l0]) ∧ w'.cell? ⟨bw, off + r0, none⟩ = some (.int .u64 words[r0]) := fun w' h => ⟨(h.cell (p := ⟨bw, off + l0, none⟩) hb).trans hx0, (h.cell (p := ⟨bw, off + r0, none⟩) hb).trans hx1⟩
      have FF := Lib.hid F
      have xl := hwf words[l0] (List.getElem_mem hl0)
      have xr := hwf words[r0] (List.getElem_mem hr0)
      have U0 := fun w => Lib.hid (unpack_calls words[l0] xl.1 xl.2 w)
      have U1 := fun w => Lib.hid (unpack_calls words[r0] xr.1 xr.2 w)
      have g0 : ((unpack words[l0]).state == 1) = true := by simpa using h0c
      have g1 : ((unpack words[r0]).state == 1) = true := by simpa using h1c
      clear F hn hx0 hx1 cs LS LN MEM FA FB AH xl xr h0c h1c A0 A1
      generalize unpack words[l0] = x at *
      generalize unpack words[r0] = y at *
      generalize words[l0] = xn at *
      generalize words[r0] = yn at *
      unfold WordM.v at U0 U1
      have f0 := (FF.out _ K.out.below).1
      go_wp2_with (first | ((go_at_call 13; (with_reducible refine ((U0 _).out).mono ?_); rintro e w1 ⟨rfl, hb⟩; have K1 := sat.grown (by repeat (first | exact K.out | apply sat.alloc_any | apply sat.drew | apply sat.drewN)) hb; clear hb; have K2 := Lib.hid K1; clear K1 K; (try clear a0); (try clear l0); (try clear a1); (try clear l1); (try clear a2); (try clear l2); have K := K2; clear K2); have f1 := (FF.out _ K.out.below).2) | (go_at_call 13; (with_reducible refine ((U1 _).out).mono ?_); rintro e w1 ⟨rfl, hb⟩; have K1 := sat.grown (by repeat (first | exact K.out | apply sat.alloc_any | apply sat.drew | apply sat.drewN)) hb; clear hb; have K2 := Lib.hid K1; clear K1 K; (try clear a0); (try clear l0); (try clear a1); (try clear l1); (try clear a2); (try clear l2); have K := K2; clear K2))
      go_ret
      exact ⟨rfl, K.out.below⟩
theorem pickEnds_calls (W : World) (a : Option Addr) (len cap : Nat) (rows : List (List Value)) (h : RowsAt W [.int .u64] a len cap rows) :
    Calls Try.prog 4 #[.slice a len cap] W fun e W' => e = .returned (.bool true) ∧ Below W.heap.size W W' := by
  obtain ⟨words, rfl, hwf, hc⟩ := oldU_of h
  by_cases h100 : words.length > 100
  · have HD := fun w => Lib.hid (head_calls w)
    have K := Lib.hid (sat.start W)
    have c0 : decide ((words.length : Int) > 100) = true := by simp; omega
    clear hc h
    go_enter Try.func4, Try.ntmps4
    go_wp2_with (first | (go_at_call 9; (with_reducible refine ((HD _).out).mono ?_); rintro e w1 ⟨rfl, hb⟩; have K1 := sat.grown (by repeat (first | exact K.out | apply sat.alloc_any | apply sat.drew | apply sat.drewN)) hb; clear hb; have K2 := Lib.hid K1; clear K1 K; (try clear a0); (try clear l0); (try clear a1); (try clear l1); (try clear a2); (try clear l2); have K := K2; clear K2))
    go_ret
    exact ⟨rfl, K.out.below⟩
  · by_cases hno : orderM words = []
    · exact ends_none words a cap W hc hwf h100 hno
    · exact ends_some words a cap W hc hwf h100 hno
end Go.Proofs.Ytjnckolidgbckaa
