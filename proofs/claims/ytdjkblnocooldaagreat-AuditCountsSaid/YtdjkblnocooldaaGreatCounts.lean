/- As many places are live as values were put in and not taken (AuditCounts answers true at every input). No condition beyond the row's own. -/
import Derived.Test.YtdjkblnocooldaaGreatBs
import Derived.Test.YtdjkblnocooldaaGreatBu
import Derived.Test.YtdjkblnocooldaaGreatBc
namespace Go.Proofs.YtdjkblnocooldaaGreat
open Go.RowKit Go.SepYtdjkblnocooldaaGreat
set_option linter.unusedSimpArgs false
set_option linter.unusedVariables false
set_option maxRecDepth 100000
set_option maxHeartbeats 4000000
theorem field_stateC (a b c d e : Value) (w : World) : (Instr.field 154 (.agg #[a, b, c, d, e]) 0).run Tryz.prog w = .ok a w := by kernel_rfl
attribute [local go_sem] field_stateC
abbrev u64V (x : Int) : List Value := [.int .u64 x]
theorem flat_u64 : ∀ l : List Int, l.flatMap u64V = u64s l
  | [] => rfl
  | a :: l => by
    show [Value.int .u64 a] ++ l.flatMap u64V = Value.int .u64 a :: u64s l
    rw [flat_u64 l]; rfl
theorem oldU_row {E w : World} {L : List SA} {p : Option Addr} {n c t : Nat} {l : List Int} (h : sat E w (rowA (.slice p n c) t 1 l.length (u64s l) :: L)) : OldS u64V 1 w p l := by
  refine oldS_row (V := u64V) (fun _ => rfl) (L := L) (n := n) (c := c) (t := t) (E := E) ?_
  rw [flat_u64]; exact h
theorem stN_snoc (s : Int) (l : List Int) (x : Int) : stN s (l ++ [x]) = stN s l + (if (unpack x).state = s then 1 else 0) := by
  unfold stN
  rw [sumN_append]
  show _ + ((if (unpack x).state = s then (1 : Int) else 0) + 0) = _
  omega
theorem sumN_bd {α : Type} {f : α → Int} (hf : ∀ a, 0 ≤ f a ∧ f a ≤ 1) : ∀ l : List α, 0 ≤ sumN f l ∧ sumN f l ≤ l.length
  | [] => ⟨Int.le_refl _, Int.le_refl _⟩
  | a :: l => by
    have h1 := hf a
    have h2 := sumN_bd hf l
    show 0 ≤ f a + sumN f l ∧ f a + sumN f l ≤ ((l.length + 1 : Nat) : Int)
    omega
theorem stN_bd (s : Int) (l : List Int) : 0 ≤ stN s l ∧ stN s l ≤ l.length := sumN_bd (fun a => by split <;> omega) l
theorem okPD_bd (d : DeedM) : 0 ≤ okPD d ∧ okPD d ≤ 1 := by unfold okPD; split <;> omega
theorem okGD_bd (d : DeedM) : 0 ≤ okGD d ∧ okGD d ≤ 1 := by unfold okGD; split <;> omega
theorem pendD_bd (d : DeedM) : 0 ≤ pendD d ∧ pendD d ≤ 1 := by unfold pendD; split <;> omega
theorem counts_calls (p : Option Addr) (l : List Int) (cap : Nat) (w : World) (hl : l.length ≤ 100000) (hwf : ∀ x ∈ l, 0 ≤ x ∧ x < 18446744073709551616) (h : OldS u64V 1 w p l) :
    Tells 60 #[.slice p l.length cap] w (.tuple #[.int .i64 (stN 0 l), .int .i64 (stN 1 l), .int .i64 (stN 2 l)]) := by
  have K := Lib.hid (sat.start w)
  have H := Lib.hid h
  have HW := Lib.hid hwf
  clear h hwf
  go_enter Tryz.func60, Tryz.ntmps60
  go_wp2_with fail
  go_loopg [12, 5, 6, 7] l.length (fun GG i a b c w' => ∃ (n : Nat) (x y z : Int), n + GG = l.length ∧ i = .int .i64 n ∧ a = .int .i64 x ∧ b = .int .i64 y ∧ c = .int .i64 z ∧ x = stN 0 (l.take n) ∧ y = stN 1 (l.take n) ∧ z = stN 2 (l.take n) ∧ sat w w' [])
  case atStart => exact ⟨0, 0, 0, 0, by simp, rfl, rfl, rfl, rfl, rfl, rfl, rfl, K.out⟩
  case round =>
    obtain ⟨n, x, y, z, hn, rfl, rfl, rfl, rfl, hx, hy, hz, hs⟩ := hrel
    clear K
    have K := Lib.hid hs
    clear hs
    have HN := Lib.hid hn
    by_cases hlt : n < l.length
    · have d0 : decide (n < l.length) = true := by simpa using hlt
      obtain ⟨b2, off2, hq, hb2, hx2⟩ := H.out n hlt
      have HX := Lib.hid (show ∀ w', Below w.heap.size w w' → w'.cell? ⟨b2, off2 + n, none⟩ = some (.int .u64 l[n]) from fun w' hb => (hb.cell (p := ⟨b2, off2 + n, none⟩) hb2).trans (by have := hx2 0 (.int .u64 l[n]) rfl; simpa using this))
      have y0 := HX.out _ K.out.below
      clear hx2
      subst hq
      have hv := HW.out l[n] (List.getElem_mem _)
      have bx := stN_bd 0 (l.take n)
      have by' := stN_bd 1 (l.take n)
      have bz := stN_bd 2 (l.take n)
      have hln : (l.take n).length = n := by simp; omega
      have ET := List.take_succ_eq_append_getElem hlt
      have E0 : stN 0 (l.take (n + 1)) = x + (if (unpack l[n]).state = 0 then 1 else 0) := by rw [ET, stN_snoc, ← hx]
      have E1 : stN 1 (l.take (n + 1)) = y + (if (unpack l[n]).state = 1 then 1 else 0) := by rw [ET, stN_snoc, ← hy]
      have E2 : stN 2 (l.take (n + 1)) = z + (if (unpack l[n]).state = 2 then 1 else 0) := by rw [ET, stN_snoc, ← hz]
      rw [← hx, hln] at bx
      rw [← hy, hln] at by'
      rw [← hz, hln] at bz
      have UP := fun w => Lib.hid (unpack_calls l[n] hv.1 hv.2 w)
      have wx : wrap64 (x + 1) = x + 1 := w64 (by omega) (by omega)
      have wy : wrap64 (y + 1) = y + 1 := w64 (by omega) (by omega)
      have wz : wrap64 (z + 1) = z + 1 := w64 (by omega) (by omega)
      have hn5 : n < 100001 := by omega
      obtain ⟨gk', rfl⟩ : ∃ g', gk = g' + 1 := ⟨gk - 1, by omega⟩
      clear hx hy hz bx by' bz hln ET hv hn HX
      generalize l[n] = u at *
      obtain ⟨s, hs⟩ : ∃ s, s = (unpack u).state := ⟨_, rfl⟩
      rw [← hs] at E0 E1 E2
      simp only [WordM.v] at UP
      simp only [← hs] at UP
      clear hs
      have HE := Lib.hid (And.intro E0 (And.intro E1 E2))
      clear E0 E1 E2
      by_cases s0 : s = 0
      · have f0 : (s == 0) = true := by simpa using s0
        have HS := Lib.hid s0
        clear s0
        go_wp2_with (first | (go_at_call 90; (with_reducible refine ((UP _).out).mono ?_); rintro e w1 ⟨rfl, hb⟩; have K1 := sat.grown (by repeat (with_reducible first | exact K.out | apply sat.alloc_any | apply sat.drew | apply sat.drewN)) hb; clear hb; have K2 := Lib.hid K1; clear K1 K; (try clear a0); (try clear l0); (try clear a1); (try clear l1); (try clear a2); (try clear l2); have K := K2; clear K2))
        go_roundg gk'
        case measure => omega
        case rel => exact ⟨n + 1, x + 1, y, z, by have := HN.out; omega, by first | (simp; done) | (simp; exact w64 (by omega) (by omega)), by first | rfl | rw [wx], rfl, rfl, by rw [HE.out.1, if_pos HS.out], by rw [HE.out.2.1, if_neg (by have := HS.out; omega)]; omega, by rw [HE.out.2.2, if_neg (by have := HS.out; omega)]; omega, K.out⟩
      · have f0 : (s == 0) = false := by simpa using s0
        by_cases s1 : s = 1
        · have f1 : (s == 1) = true := by simpa using s1
          have HS := Lib.hid s1
          clear s0 s1
          go_wp2_with (first | (go_at_call 90; (with_reducible refine ((UP _).out).mono ?_); rintro e w1 ⟨rfl, hb⟩; have K1 := sat.grown (by repeat (with_reducible first | exact K.out | apply sat.alloc_any | apply sat.drew | apply sat.drewN)) hb; clear hb; have K2 := Lib.hid K1; clear K1 K; (try clear a0); (try clear l0); (try clear a1); (try clear l1); (try clear a2); (try clear l2); have K := K2; clear K2))
          go_roundg gk'
          case measure => omega
          case rel => exact ⟨n + 1, x, y + 1, z, by have := HN.out; omega, by first | (simp; done) | (simp; exact w64 (by omega) (by omega)), rfl, by first | rfl | rw [wy], rfl, by rw [HE.out.1, if_neg (by have := HS.out; omega)]; omega, by rw [HE.out.2.1, if_pos HS.out], by rw [HE.out.2.2, if_neg (by have := HS.out; omega)]; omega, K.out⟩
        · have f1 : (s == 1) = false := by simpa using s1
          by_cases s2 : s = 2
          · have f2 : (s == 2) = true := by simpa using s2
            have HS := Lib.hid s2
            clear s0 s1 s2
            go_wp2_with (first | (go_at_call 90; (with_reducible refine ((UP _).out).mono ?_); rintro e w1 ⟨rfl, hb⟩; have K1 := sat.grown (by repeat (with_reducible first | exact K.out | apply sat.alloc_any | apply sat.drew | apply sat.drewN)) hb; clear hb; have K2 := Lib.hid K1; clear K1 K; (try clear a0); (try clear l0); (try clear a1); (try clear l1); (try clear a2); (try clear l2); have K := K2; clear K2))
            go_roundg gk'
            case measure => omega
            case rel => exact ⟨n + 1, x, y, z + 1, by have := HN.out; omega, by first | (simp; done) | (simp; exact w64 (by omega) (by omega)), rfl, rfl, by first | rfl | rw [wz], by rw [HE.out.1, if_neg (by have := HS.out; omega)]; omega, by rw [HE.out.2.1, if_neg (by have := HS.out; omega)]; omega, by rw [HE.out.2.2, if_pos HS.out], K.out⟩
          · have f2 : (s == 2) = false := by simpa using s2
            have HS := Lib.hid (And.intro s0 (And.intro s1 s2))
            clear s0 s1 s2
            go_wp2_with (first | (go_at_call 90; (with_reducible refine ((UP _).out).mono ?_); rintro e w1 ⟨rfl, hb⟩; have K1 := sat.grown (by repeat (with_reducible first | exact K.out | apply sat.alloc_any | apply sat.drew | apply sat.drewN)) hb; clear hb; have K2 := Lib.hid K1; clear K1 K; (try clear a0); (try clear l0); (try clear a1); (try clear l1); (try clear a2); (try clear l2); have K := K2; clear K2))
            go_roundg gk'
            case measure => omega
            case rel => exact ⟨n + 1, x, y, z, by have := HN.out; omega, by first | (simp; done) | (simp; exact w64 (by omega) (by omega)), rfl, rfl, rfl, by rw [HE.out.1, if_neg HS.out.1]; omega, by rw [HE.out.2.1, if_neg HS.out.2.1]; omega, by rw [HE.out.2.2, if_neg HS.out.2.2]; omega, K.out⟩
    · have d0 : decide (n < l.length) = false := by simpa using hlt
      have hnl : n = l.length := by omega
      subst hnl
      rw [List.take_length] at hx hy hz
      have HR := Lib.hid (And.intro hx (And.intro hy hz))
      clear hn hx hy hz
      go_wp2_with fail
      exact bodyPost_ret (v := .tuple #[.int .i64 x, .int .i64 y, .int .i64 z]) (by simp [results, Tryz.results60, go_sem]) rfl ⟨by rw [← HR.out.1, ← HR.out.2.1, ← HR.out.2.2], K.out.below⟩
theorem peekN_wordsC {c : ConfM} (hc : c.ok) {m : MemM} (hl : (m.cells.length : Int) = c.cells) : peekN (fun i => i) m c.all.toNat = wordsC c m := by
  have hal := hc.all_bd
  have hcc : c.all ≤ c.cells := by have := hc.th1; unfold ConfM.cells; omega
  unfold peekN wordsC
  refine List.ext_getElem (by simp only [List.length_map, List.length_range, List.length_take]; omega) (fun i h1 h2 => ?_)
  simp only [List.length_map, List.length_range] at h1
  rw [List.getElem_map, List.getElem_range, List.getElem_take]
  dsimp only
  unfold MemM.peek
  rw [if_pos ⟨by omega, by omega⟩]
  unfold getI
  rw [List.getD_eq_getElem?_getD, Int.toNat_natCast, List.getElem?_eq_getElem (by omega)]
  rfl
theorem row_elemK {α : Type} {V : α → List Value} {k : Nat} (hk : ∀ x, (V x).length = k) {E w : World} {L : List SA} {g n c t : Nat} {l : List α} (h : sat E w (rowA (.slice (some ⟨g, 0, none⟩) n c) t k l.length (l.flatMap V) :: L)) {j : Nat} (hj : j < l.length) : ∀ i u, (V l[j])[i]? = some u → w.cell? ⟨g, j * k + i, none⟩ = some u := by
  intro i u hi
  obtain ⟨b, off, e1, e2, e3⟩ := oldS_row hk h j hj
  simp only [Option.some.injEq, Addr.mk.injEq] at e1
  obtain ⟨rfl, rfl, _⟩ := e1
  have := e3 i u hi
  simpa using this
theorem auditCounts_main (t s r : Int) (p : Option Addr) (l : List MoveM) (cap : Nat) (E : World) (hwf : ∀ v ∈ l, v.wf) (ho : OldS MoveM.v 7 E p l) :
    Calls Tryz.prog 13 #[.int .i64 t, .int .i64 s, .int .i64 r, .slice p l.length cap] E fun e w' => e = .returned (.bool true) ∧ Below E.heap.size E w' := by
  have K := Lib.hid (sat.start E)
  have HD := fun w => Lib.hid (head17_calls w)
  by_cases h300 : (l.length : Int) > 300
  · have c0 : decide ((l.length : Int) > 300) = true := by simpa using h300
    go_enter Tryz.func13, Tryz.ntmps13
    go_wp2_with (first | (go_at_call 56; (with_reducible refine ((HD _).out).mono ?_); rintro e w1 ⟨rfl, hb⟩; have K1 := sat.grown (by repeat (with_reducible first | exact K.out | apply sat.alloc_any | apply sat.drew | apply sat.drewN)) hb; clear hb; have K2 := Lib.hid K1; clear K1 K; (try clear a0); (try clear l0); (try clear a1); (try clear l1); (try clear a2); (try clear l2); have K := K2; clear K2))
    go_ret
    exact ⟨rfl, K.out.below⟩
  · have c0 : decide ((l.length : Int) > 300) = false := by simpa using h300
    have hl : l.length ≤ 300 := by omega
    have RN := fun w' (M : List SA) (h : sat E w' M) => Lib.hid (run17_calls t s r p l cap hl hwf ho h)
    have hc := confS_ok t s r 1
    have hO := run_okn hc l hwf l.length (by omega)
    rw [List.take_length] at hO
    have hI := runsM_cinv (confS t s r 1).th l (YardM.new_cinv hc) hwf
    generalize runsM (confS t s r 1).th (YardM.new (confS t s r 1)) l = Y at *
    have hd := hO.1.dl
    have hcY : Y.conf.ok := hO.1.conf
    have hCL := count_law hI
    have hpw := peekN_wordsC hcY hI.p.proto.logd.cl
    have hEach := Lib.hid hI.h.each
    have DC := fun w' gy (M : List SA) (h : sat E w' (yardA gy Y :: M)) => Lib.hid (ydeeds_calls gy Y (by omega) h)
    have CC := fun w' gy (M : List SA) (h : sat E w' (yardA gy Y :: M)) => Lib.hid (yconf_calls gy Y h)
    have WC := fun w' gy (M : List SA) (h : sat E w' (yardA gy Y :: M)) => Lib.hid (yWords_calls gy Y hcY h)
    rw [hpw] at WC
    have AL := fun w => Lib.hid (all_calls Y.conf w hcY)
    have hwl : (wordsC Y.conf Y.mem).length = Y.conf.all.toNat := by rw [← hpw]; exact peekN_len _ _ _
    have hwwf : ∀ x ∈ wordsC Y.conf Y.mem, 0 ≤ x ∧ x < 18446744073709551616 := fun x hx => hI.p.proto.wf x (List.mem_of_mem_take hx)
    have hal := hcY.all_bd
    have AC := fun w' p1 k1 (M : List SA) (h : sat E w' (rowA (.slice p1 Y.conf.all.toNat k1) 32 1 Y.conf.all.toNat (u64s (wordsC Y.conf Y.mem)) :: M)) => Lib.hid (counts_calls p1 (wordsC Y.conf Y.mem) k1 w' (by omega) hwwf (oldU_row (by rw [hwl]; exact h)))
    rw [hwl] at AC
    have b0 := stN_bd 0 (wordsC Y.conf Y.mem)
    have b1 := stN_bd 1 (wordsC Y.conf Y.mem)
    have b2 := stN_bd 2 (wordsC Y.conf Y.mem)
    rw [hwl] at b0 b1 b2
    have hdl : Y.deeds.length ≤ 300 := by omega
    clear hwf ho hO hI hc hwwf hpw hcY hd hwl
    generalize wordsC Y.conf Y.mem = W at *
    generalize stN 0 W = f0 at *
    generalize stN 1 W = f1 at *
    generalize stN 2 W = f2 at *
    go_enter Tryz.func13, Tryz.ntmps13
    go_wp2_with (first | (go_at_call 56; (with_reducible refine ((HD _).out).mono ?_); rintro e w1 ⟨rfl, hb⟩; have K1 := sat.grown (by repeat (with_reducible first | exact K.out | apply sat.alloc_any | apply sat.drew | apply sat.drewN)) hb; clear hb; have K2 := Lib.hid K1; clear K1 K; (try clear a0); (try clear l0); (try clear a1); (try clear l1); (try clear a2); (try clear l2); have K := K2; clear K2) | (go_at_call 57; (with_reducible refine ((RN _ _ (show sat E _ _ from by iterate 6 (try (with_reducible first | exact K.out | apply sat.alloc_any | apply sat.drew | apply sat.drewN)))).out).mono ?_); rintro e w1 ⟨gy, rfl, K1⟩; have K2 := Lib.hid K1; clear K1 K; (try clear a0); (try clear l0); (try clear a1); (try clear l1); (try clear a2); (try clear l2); have K := K2; clear K2) | (go_at_call 19; (with_reducible refine ((DC _ _ _ (show sat E _ _ from by iterate 6 (try (with_reducible first | exact K.out | apply sat.alloc_any | apply sat.drew | apply sat.drewN)))).out).mono ?_); rintro e w1 ⟨p1, k1, rfl, K1⟩; have K2 := Lib.hid K1; clear K1 K; (try clear a0); (try clear l0); (try clear a1); (try clear l1); (try clear a2); (try clear l2); have K := K2; clear K2))
    go_loopg [33, 10, 11, 12] Y.deeds.length (fun GG i a b c w' => ∃ (j : Nat) (x y z : Int), j + GG = Y.deeds.length ∧ i = .int .i64 j ∧ a = .int .i64 x ∧ b = .int .i64 y ∧ c = .int .i64 z ∧ x = sumN okPD (Y.deeds.take j) ∧ y = sumN okGD (Y.deeds.take j) ∧ z = sumN pendD (Y.deeds.take j) ∧ sat E w' [rowA (.slice p1 Y.deeds.length k1) 47 11 Y.deeds.length (Y.deeds.flatMap DeedM.v), yardA gy Y])
    case atStart => exact ⟨0, 0, 0, 0, by simp, rfl, rfl, rfl, rfl, rfl, rfl, rfl, K.out⟩
    case round =>
      obtain ⟨j, x, y, z, hj, rfl, rfl, rfl, rfl, hx, hy, hz, hs⟩ := hrel
      clear K
      have K := Lib.hid hs
      clear hs
      have HJ := Lib.hid hj
      have bx := sumN_bd okPD_bd (Y.deeds.take j)
      have by' := sumN_bd okGD_bd (Y.deeds.take j)
      have bz := sumN_bd pendD_bd (Y.deeds.take j)
      rw [← hx] at bx
      rw [← hy] at by'
      rw [← hz] at bz
      have hlj : (Y.deeds.take j).length ≤ 300 := by rw [List.length_take]; omega
      by_cases hlt : j < Y.deeds.length
      · have d0 : decide (j < Y.deeds.length) = true := by simpa using hlt
        obtain ⟨g1, hg1, _⟩ := Go.SepYtdjkblnocooldaaGreat.row_some K.out (by omega)
        subst hg1
        have hxx := row_elemK dv_len K.out hlt
        have y0 : wr.cell? ⟨g1, j * 11, none⟩ = _ := hxx 0 _ rfl
        have y1 := hxx 1 _ rfl; have y2 := hxx 2 _ rfl; have y3 := hxx 3 _ rfl; have y4 := hxx 4 _ rfl; have y5 := hxx 5 _ rfl; have y6 := hxx 6 _ rfl; have y7 := hxx 7 _ rfl; have y8 := hxx 8 _ rfl; have y9 := hxx 9 _ rfl; have y10 := hxx 10 _ rfl
        have ET := List.take_succ_eq_append_getElem hlt
        have EP : sumN okPD (Y.deeds.take (j + 1)) = x + okPD Y.deeds[j] := by rw [ET, sumN_append, ← hx]; show x + (okPD Y.deeds[j] + 0) = _; omega
        have EG : sumN okGD (Y.deeds.take (j + 1)) = y + okGD Y.deeds[j] := by rw [ET, sumN_append, ← hy]; show y + (okGD Y.deeds[j] + 0) = _; omega
        have EZ : sumN pendD (Y.deeds.take (j + 1)) = z + pendD Y.deeds[j] := by rw [ET, sumN_append, ← hz]; show z + (pendD Y.deeds[j] + 0) = _; omega
        have hst := (hEach.out j Y.deeds[j] (List.getElem?_eq_getElem hlt)).2.2.2.2.2
        have hs0 := (hEach.out j Y.deeds[j] (List.getElem?_eq_getElem hlt)).1
        have wx : wrap64 (x + 1) = x + 1 := w64 (by omega) (by omega)
        have wy : wrap64 (y + 1) = y + 1 := w64 (by omega) (by omega)
        have wz : wrap64 (z + 1) = z + 1 := w64 (by omega) (by omega)
        have hj3 : j < 1000 := by omega
        have HLT := Lib.hid hlt
        obtain ⟨gk', rfl⟩ : ∃ g', gk = g' + 1 := ⟨gk - 1, by omega⟩
        clear hxx hx hy hz bx by' bz hlj ET hj hCL b0 b1 b2
        generalize Y.deeds[j] = d at *
        have hok0 : d.stop < 0 → d.reply.ok = false := fun q => by
          rcases hst with z | z
          · rw [z.2]; rfl
          · omega
        clear hst hs0
        have HE := Lib.hid (And.intro EP (And.intro EG EZ))
        clear EP EG EZ
        by_cases q1 : d.stop < 0
        · have g1' : decide (d.stop < 0) = true := by simpa using q1
          have hb := hok0 q1
          clear hok0
          by_cases q2 : d.call.kind = 1
          · have g2' : (d.call.kind == 1) = true := by simpa using q2
            have HS := Lib.hid (And.intro q1 (And.intro q2 hb))
            clear q1 q2 hb
            go_wp2_with (first | ((with_reducible refine at_alloc ?_); refine st_allocf K.out (fun _ => rfl) ?_; intro gd w1 K1; have K2 := Lib.hid K1; clear K1 K; (try clear a0); (try clear l0); (try clear a1); (try clear l1); (try clear a2); (try clear l2); have K := K2; clear K2; have a0 := K.out.rd 0 rfl; have l0 := K.out.ltp 0 rfl) | ((with_reducible refine at_store ?_); refine st_store 0 K.out rfl rfl rfl rfl ?_ ?_ ?_ ?_; (· kernel_rfl); (· simp); (· simp [Value.oneCell']); intro w1 K1; simp only [List.set, putL] at K1; have K2 := Lib.hid K1; clear K1 K; (try clear a0); (try clear l0); (try clear a1); (try clear l1); (try clear a2); (try clear l2); have K := K2; clear K2; have a0 := K.out.rd 0 rfl; have l0 := K.out.ltp 0 rfl))
            go_roundg gk'
            case measure => omega
            case rel => exact ⟨j + 1, x, y, z + 1, by have := HJ.out; omega, by first | (simp; done) | (simp; exact w64 (by omega) (by omega)), rfl, rfl, by first | rfl | rw [wz], by rw [HE.out.1]; unfold okPD; rw [if_neg (by rw [HS.out.2.2]; rintro ⟨q, _⟩; cases q)]; omega, by rw [HE.out.2.1]; unfold okGD; rw [if_neg (by rw [HS.out.2.2]; rintro ⟨q, _⟩; cases q)]; omega, by rw [HE.out.2.2]; unfold pendD; rw [if_pos ⟨HS.out.1, HS.out.2.1⟩], K.out.drop⟩
          · have g2' : (d.call.kind == 1) = false := by simpa using q2
            have HS := Lib.hid (And.intro q1 (And.intro q2 hb))
            clear q1 q2
            go_wp2_with (first | ((with_reducible refine at_alloc ?_); refine st_allocf K.out (fun _ => rfl) ?_; intro gd w1 K1; have K2 := Lib.hid K1; clear K1 K; (try clear a0); (try clear l0); (try clear a1); (try clear l1); (try clear a2); (try clear l2); have K := K2; clear K2; have a0 := K.out.rd 0 rfl; have l0 := K.out.ltp 0 rfl) | ((with_reducible refine at_store ?_); refine st_store 0 K.out rfl rfl rfl rfl ?_ ?_ ?_ ?_; (· kernel_rfl); (· simp); (· simp [Value.oneCell']); intro w1 K1; simp only [List.set, putL] at K1; have K2 := Lib.hid K1; clear K1 K; (try clear a0); (try clear l0); (try clear a1); (try clear l1); (try clear a2); (try clear l2); have K := K2; clear K2; have a0 := K.out.rd 0 rfl; have l0 := K.out.ltp 0 rfl))
            go_roundg gk'
            case measure => omega
            case rel => exact ⟨j + 1, x, y, z, by have := HJ.out; omega, by first | (simp; done) | (simp; exact w64 (by omega) (by omega)), rfl, rfl, rfl, by rw [HE.out.1]; unfold okPD; rw [if_neg (by rw [HS.out.2.2]; rintro ⟨q, _⟩; cases q)]; omega, by rw [HE.out.2.1]; unfold okGD; rw [if_neg (by rw [HS.out.2.2]; rintro ⟨q, _⟩; cases q)]; omega, by rw [HE.out.2.2]; unfold pendD; rw [if_neg (fun q => HS.out.2.1 q.2)]; omega, K.out.drop⟩
        · have g1' : decide (d.stop < 0) = false := by simpa using q1
          clear hok0
          cases hb : d.reply.ok with
          | false =>
            have HS := Lib.hid (And.intro q1 hb)
            clear q1
            go_wp2_with (first | ((with_reducible refine at_alloc ?_); refine st_allocf K.out (fun _ => rfl) ?_; intro gd w1 K1; have K2 := Lib.hid K1; clear K1 K; (try clear a0); (try clear l0); (try clear a1); (try clear l1); (try clear a2); (try clear l2); have K := K2; clear K2; have a0 := K.out.rd 0 rfl; have l0 := K.out.ltp 0 rfl) | ((with_reducible refine at_store ?_); refine st_store 0 K.out rfl rfl rfl rfl ?_ ?_ ?_ ?_; (· kernel_rfl); (· simp); (· simp [Value.oneCell']); intro w1 K1; simp only [List.set, putL] at K1; have K2 := Lib.hid K1; clear K1 K; (try clear a0); (try clear l0); (try clear a1); (try clear l1); (try clear a2); (try clear l2); have K := K2; clear K2; have a0 := K.out.rd 0 rfl; have l0 := K.out.ltp 0 rfl))
            go_roundg gk'
            case measure => omega
            case rel => exact ⟨j + 1, x, y, z, by have := HJ.out; omega, by first | (simp; done) | (simp; exact w64 (by omega) (by omega)), rfl, rfl, rfl, by rw [HE.out.1]; unfold okPD; rw [if_neg (by rw [HS.out.2]; rintro ⟨q, _⟩; cases q)]; omega, by rw [HE.out.2.1]; unfold okGD; rw [if_neg (by rw [HS.out.2]; rintro ⟨q, _⟩; cases q)]; omega, by rw [HE.out.2.2]; unfold pendD; rw [if_neg (fun q => by have h1 := HS.out.1; have h2 := q.1; omega)]; omega, K.out.drop⟩
          | true =>
            by_cases q2 : d.call.kind = 0
            · have g2' : (d.call.kind == 0) = true := by simpa using q2
              have HS := Lib.hid (And.intro q1 (And.intro hb q2))
              clear q1 q2
              go_wp2_with (first | ((with_reducible refine at_alloc ?_); refine st_allocf K.out (fun _ => rfl) ?_; intro gd w1 K1; have K2 := Lib.hid K1; clear K1 K; (try clear a0); (try clear l0); (try clear a1); (try clear l1); (try clear a2); (try clear l2); have K := K2; clear K2; have a0 := K.out.rd 0 rfl; have l0 := K.out.ltp 0 rfl) | ((with_reducible refine at_store ?_); refine st_store 0 K.out rfl rfl rfl rfl ?_ ?_ ?_ ?_; (· kernel_rfl); (· simp); (· simp [Value.oneCell']); intro w1 K1; simp only [List.set, putL] at K1; have K2 := Lib.hid K1; clear K1 K; (try clear a0); (try clear l0); (try clear a1); (try clear l1); (try clear a2); (try clear l2); have K := K2; clear K2; have a0 := K.out.rd 0 rfl; have l0 := K.out.ltp 0 rfl))
              go_roundg gk'
              case measure => omega
              case rel => exact ⟨j + 1, x + 1, y, z, by have := HJ.out; omega, by first | (simp; done) | (simp; exact w64 (by omega) (by omega)), by first | rfl | rw [wx], rfl, rfl, by rw [HE.out.1]; unfold okPD; rw [if_pos ⟨HS.out.2.1, HS.out.2.2⟩], by rw [HE.out.2.1]; unfold okGD; rw [if_neg (fun q => q.2 HS.out.2.2)]; omega, by rw [HE.out.2.2]; unfold pendD; rw [if_neg (fun q => by have h1 := HS.out.1; have h2 := q.1; omega)]; omega, K.out.drop⟩
            · have g2' : (d.call.kind == 0) = false := by simpa using q2
              have HS := Lib.hid (And.intro q1 (And.intro hb q2))
              clear q1 q2
              go_wp2_with (first | ((with_reducible refine at_alloc ?_); refine st_allocf K.out (fun _ => rfl) ?_; intro gd w1 K1; have K2 := Lib.hid K1; clear K1 K; (try clear a0); (try clear l0); (try clear a1); (try clear l1); (try clear a2); (try clear l2); have K := K2; clear K2; have a0 := K.out.rd 0 rfl; have l0 := K.out.ltp 0 rfl) | ((with_reducible refine at_store ?_); refine st_store 0 K.out rfl rfl rfl rfl ?_ ?_ ?_ ?_; (· kernel_rfl); (· simp); (· simp [Value.oneCell']); intro w1 K1; simp only [List.set, putL] at K1; have K2 := Lib.hid K1; clear K1 K; (try clear a0); (try clear l0); (try clear a1); (try clear l1); (try clear a2); (try clear l2); have K := K2; clear K2; have a0 := K.out.rd 0 rfl; have l0 := K.out.ltp 0 rfl))
              go_roundg gk'
              case measure => omega
              case rel => exact ⟨j + 1, x, y + 1, z, by have := HJ.out; omega, by first | (simp; done) | (simp; exact w64 (by omega) (by omega)), rfl, by first | rfl | rw [wy], rfl, by rw [HE.out.1]; unfold okPD; rw [if_neg (fun q => HS.out.2.2 q.2)]; omega, by rw [HE.out.2.1]; unfold okGD; rw [if_pos ⟨HS.out.2.1, HS.out.2.2⟩], by rw [HE.out.2.2]; unfold pendD; rw [if_neg (fun q => by have h1 := HS.out.1; have h2 := q.1; omega)]; omega, K.out.drop⟩
      · have d0 : decide (j < Y.deeds.length) = false := by simpa using hlt
        have hjl : j = Y.deeds.length := by omega
        subst hjl
        rw [List.take_length] at hx hy hz
        rw [← hx, ← hy, ← hz] at hCL
        rw [List.take_length] at bx by' bz
        obtain ⟨L1, L2, L3⟩ := hCL
        have v1 : wrap64 (f0 + f1) = f0 + f1 := w64 (by omega) (by omega)
        have v2 : wrap64 (f0 + f1 + f2) = f0 + f1 + f2 := w64 (by omega) (by omega)
        have v3 : (f0 + f1 + f2 == Y.conf.all) = true := by rw [beq_iff_eq]; exact L1
        have v4 : wrap64 (x - y) = x - y := w64 (by omega) (by omega)
        have v5 : decide (f1 ≤ x - y) = true := by simpa using L2
        have v6 : wrap64 (x - y - z) = x - y - z := w64 (by omega) (by omega)
        have v7 : decide (f1 ≥ x - y - z) = true := by simpa using L3
        clear hj hx hy hz bx by' bz hlj L1 L2 L3 HJ hEach DC RN hlt
        have K1 := K.out.drop
        clear K
        have K := Lib.hid K1
        clear K1
        go_wp2_with (first | (go_at_call 35; (with_reducible refine ((WC _ _ _ (show sat E _ _ from by iterate 6 (try (with_reducible first | exact K.out | apply sat.alloc_any | apply sat.drew | apply sat.drewN)))).out).mono ?_); rintro e w1 ⟨p2, k2, rfl, K1⟩; have K2 := Lib.hid K1; clear K1 K; (try clear a0); (try clear l0); (try clear a1); (try clear l1); (try clear a2); (try clear l2); have K := K2; clear K2) | (go_at_call 60; (with_reducible refine ((AC _ p2 k2 _ (show sat E _ _ from by iterate 6 (try (with_reducible first | exact K.out | apply sat.alloc_any | apply sat.drew | apply sat.drewN)))).out).mono ?_); rintro e w1 ⟨rfl, hb⟩; have K1 := sat.grown (by repeat (with_reducible first | exact K.out | apply sat.alloc_any | apply sat.drew | apply sat.drewN)) hb; clear hb; have K2 := Lib.hid K1; clear K1 K; (try clear a0); (try clear l0); (try clear a1); (try clear l1); (try clear a2); (try clear l2); have K := K2; clear K2) | (go_at_call 24; (with_reducible refine ((CC _ _ _ ((show sat E _ _ from by iterate 6 (try (with_reducible first | exact K.out | apply sat.alloc_any | apply sat.drew | apply sat.drewN))).pick 1 rfl)).out).mono ?_); rintro e w1 ⟨rfl, K1⟩; have K2 := Lib.hid K1; clear K1 K; (try clear a0); (try clear l0); (try clear a1); (try clear l1); (try clear a2); (try clear l2); have K := K2; clear K2) | (go_at_call 37; (with_reducible refine ((AL _).out).mono ?_); rintro e w1 ⟨rfl, hb⟩; have K1 := sat.grown (by repeat (with_reducible first | exact K.out | apply sat.alloc_any | apply sat.drew | apply sat.drewN)) hb; clear hb; have K2 := Lib.hid K1; clear K1 K; (try clear a0); (try clear l0); (try clear a1); (try clear l1); (try clear a2); (try clear l2); have K := K2; clear K2))
        go_ret
        exact ⟨rfl, K.out.below⟩
theorem auditCounts_calls (W : World) (t : Int) (_ : (Lit.int .i64 t).wf = true) (s : Int) (_ : (Lit.int .i64 s).wf = true) (r : Int) (_ : (Lit.int .i64 r).wf = true) (a : Option Addr) (len cap : Nat) (rows : List (List Value)) (h : RowsAt W [.int .i64, .int .i64, .bool, .bool, .int .u64, .int .i64, .int .i64] a len cap rows) :
    Calls Tryz.prog 13 #[.int .i64 t, .int .i64 s, .int .i64 r, .slice a len cap] W fun e W' => e = .returned (.bool true) ∧ Below W.heap.size W W' := by
  obtain ⟨l, rfl, hwf, ho⟩ := oldM_of h
  exact auditCounts_main t s r a l cap W hwf ho
end Go.Proofs.YtdjkblnocooldaaGreat
