/- Without what stands at an end the others stand as they did (PickLess answers true at every input). No condition beyond the row's own. -/
import Derived.Test.YtjnckolidgbckaaPickU
import Derived.Test.YtjnckolidgbckaaPickOrders
namespace Go.Proofs.Ytjnckolidgbckaa
open Go.RowKit Go.SepYtjnckolidgbckaa
set_option linter.unusedSimpArgs false
set_option linter.unusedVariables false
set_option maxRecDepth 100000
attribute [local go_sem] field_state field_end field_stamp
theorem row_some {E w : World} {L : List SA} {p : Option Addr} {n c e size m : Nat} {xs : List Value} (h : sat E w (rowA (.slice p n c) e size m xs :: L)) (hm : 0 < m) : ∃ g, p = some ⟨g, 0, none⟩ ∧ n = m := by
  obtain ⟨rfl, ⟨_, h0⟩ | ⟨g, rfl⟩⟩ := row_len h
  · omega
  · exact ⟨g, rfl, rfl⟩
theorem taken_right {w : WordM} (h : w.right = true) : w.taken.right = true := by
  have hr := wordR h
  unfold WordM.right at h ⊢
  simp only [WordM.taken]
  simp only [Bool.and_eq_true] at h ⊢
  obtain ⟨⟨⟨⟨⟨⟨⟨⟨h1, h2⟩, h3⟩, h4⟩, h5⟩, h6⟩, h7⟩, h8⟩, h9⟩ := h
  exact ⟨⟨⟨⟨⟨⟨⟨⟨rfl, rfl⟩, h3⟩, h4⟩, h5⟩, h6⟩, h7⟩, h8⟩, h9⟩
theorem less_none (words : List Int) (p : Option Addr) (cap : Nat) (b : Bool) (w : World) (hc : OldU w p words) (hwf : ∀ x ∈ words, 0 ≤ x ∧ x < 18446744073709551616) (h60 : ¬ words.length > 60) (hno : orderM words = []) :
    Tells 7 #[.slice p words.length cap, .bool b] w (.bool true) := by
  have HD := fun w => Lib.hid (head_calls w)
  have K := Lib.hid (sat.start w)
  have c0 : decide ((words.length : Int) > 60) = false := by simp; omega
  have A := fun e w' (b : Below w.heap.size w w') => Lib.hid (at_calls words p cap e w' (hc.grown b) hwf (by omega))
  have O := fun w' (b : Below w.heap.size w w') => Lib.hid (order_any words p cap w' (hc.grown b) hwf (by omega))
  simp only [atM_nil _ hno] at A
  simp only [hno, List.length_nil, List.map_nil] at O
  clear hc hno
  cases b
  all_goals
    go_enter Try.func7, Try.ntmps7
    go_wp2_with (first | (go_at_call 9; (with_reducible refine ((HD _).out).mono ?_); rintro e w1 ⟨rfl, hb⟩; have K1 := sat.grown (by repeat (first | exact K.out | apply sat.alloc_any | apply sat.drew | apply sat.drewN)) hb; clear hb; have K2 := Lib.hid K1; clear K1 K; (try clear a0); (try clear l0); (try clear a1); (try clear l1); (try clear a2); (try clear l2); have K := K2; clear K2) | (go_at_call 12; (with_reducible refine ((A _ _ (RowKit.Hid.out K).below).out).mono ?_); rintro e w1 ⟨rfl, hb⟩; have K1 := sat.grown (by repeat (first | exact K.out | apply sat.alloc_any | apply sat.drew | apply sat.drewN)) hb; clear hb; have K2 := Lib.hid K1; clear K1 K; (try clear a0); (try clear l0); (try clear a1); (try clear l1); (try clear a2); (try clear l2); have K := K2; clear K2) | (go_at_call 10; (with_reducible refine (O _ K.out.below).out.mono ?_); rintro e w1 ⟨v, rfl, K1⟩; obtain ⟨p1, c1, rfl⟩ := row_any K1; have K2 := Lib.hid (K.out.join K1); clear K1 K; have K := K2; clear K2))
    go_ret
    exact ⟨rfl, K.out.below⟩
def lessRel (w0 : World) (r : List Int) (v : Value) (X Y : SA) (gk : Nat) (i : Value) (w' : World) : Prop :=
  ∃ n : Nat, n + gk = r.length ∧ i = .int .i64 n ∧ sat w0 w' [rowA v 3 1 r.length (r.map (Value.int .i64)), X, Y]
theorem less_some (words : List Int) (p : Option Addr) (cap : Nat) (b : Bool) (w : World) (hc : OldU w p words) (hwf : ∀ x ∈ words, 0 ≤ x ∧ x < 18446744073709551616) (h60 : ¬ words.length > 60) (hsome : orderM words ≠ []) :
    Tells 7 #[.slice p words.length cap, .bool b] w (.bool true) := by
  obtain ⟨e, he⟩ : ∃ e : Int, e = if b then 1 else 0 := ⟨_, rfl⟩
  have HD := fun w => Lib.hid (head_calls w)
  have K := Lib.hid (sat.start w)
  have c0 : decide ((words.length : Int) > 60) = false := by simp; omega
  have A := fun w' (b : Below w.heap.size w w') => Lib.hid (at_calls words p cap e w' (hc.grown b) hwf (by omega))
  have O := fun w' (b : Below w.heap.size w w') => Lib.hid (order_any words p cap w' (hc.grown b) hwf (by omega))
  obtain ⟨ka, kb, ks⟩ := (mem_orderM words _).1 (atM_mem words e hsome)
  obtain ⟨k, ek⟩ : ∃ a : Nat, atM words e = (a : Int) := ⟨(atM words e).toNat, by omega⟩
  have hless := fun x hx => orderM_less words e x hsome hx
  rw [ek] at ka kb ks
  simp only [ek] at A hless
  have hk : k < words.length := by omega
  have gk : getI words k = words[k] := by simp [getI, hk]
  rw [gk] at ks
  have H := Lib.hid hc
  have q := orderM_len words
  have ql : 0 < (orderM words).length := List.length_pos_iff.2 hsome
  obtain ⟨bw, off, rfl, hb, hx0⟩ := H.out k hk
  have HK := Lib.hid (fun w' (h : Below w.heap.size w w') => (h.cell (p := ⟨bw, off + k, none⟩) hb).trans hx0)
  have hxw := hwf words[k] (List.getElem_mem hk)
  have U := fun w => Lib.hid (unpack_calls words[k] hxw.1 hxw.2 w)
  have TK := fun w => Lib.hid (taken_calls (unpack words[k]) w)
  have PK := fun w => Lib.hid (pack_calls (unpack words[k]).taken w)
  have hR := unpack_right words[k] (by omega)
  have hT := taken_right hR
  have hy := unpack_pack _ hT
  have hyb := pack_bd (unpack words[k]).taken
  have hlr := hless (unpack words[k]).taken.pack (by rw [hy]; simp [WordM.taken])
  have k1 : decide ((k : Int) < 0) = false := by simp
  have k2 : decide ((k : Int) ≥ (words.length : Int)) = false := by simp; omega
  generalize (unpack words[k]).taken.pack = y at *
  generalize unpack words[k] = x at *
  have hwf' : ∀ z ∈ setI words k y, 0 ≤ z ∧ z < 18446744073709551616 := fun z hz => by
    rcases List.mem_or_eq_of_mem_set hz with h | rfl
    · exact hwf z h
    · exact hyb
  have O2 := fun w' (p3 : Option Addr) (c3 n3 : Nat) (hn3 : n3 = words.length) (h : OldU w' p3 (setI words k y)) => Lib.hid (show Calls Try.prog 10 #[.slice p3 n3 c3] w' (fun e w'' => ∃ v, e = .returned v ∧ sat w' w'' [rowA v 3 1 (orderM (setI words k y)).length ((orderM (setI words k y)).map (Value.int .i64))]) from by
    have h2 := order_any (setI words k y) p3 c3 w' h hwf' (by simp [setI]; omega)
    rw [show (setI words k y).length = n3 by rw [hn3]; simp [setI]] at h2
    exact h2)
  rw [hlr] at O2
  unfold WordM.v at U TK
  simp only [WordM.taken] at TK PK
  generalize words[k] = xn at *
  clear hc ek hless gk hR hT hy hyb hlr hxw hwf' hx0 ks ka kb
  cases b
  · obtain rfl : e = 0 := by simpa using he
    rw [if_pos rfl] at O2
    have hrl : ((orderM words).drop 1).length = (orderM words).length - 1 := by simp
    have hget : ∀ n : Nat, n < ((orderM words).drop 1).length → ((orderM words).drop 1)[n]? = (orderM words)[n + 1]? := fun n _ => by rw [List.getElem?_drop, Nat.add_comm]
    generalize (orderM words).drop 1 = r at *
    generalize orderM words = l at *
    have e2 : ((r.length : Int) != (l.length : Int) - 1) = false := by simp; omega
    have GT := Lib.hid (And.intro hget hrl)
    clear hget hrl he
    go_enter Try.func7, Try.ntmps7
    go_wp2_with (first | (go_at_call 9; (with_reducible refine ((HD _).out).mono ?_); rintro e w1 ⟨rfl, hb⟩; have K1 := sat.grown (by repeat (first | exact K.out | apply sat.alloc_any | apply sat.drew | apply sat.drewN)) hb; clear hb; have K2 := Lib.hid K1; clear K1 K; (try clear a0); (try clear l0); (try clear a1); (try clear l1); (try clear a2); (try clear l2); have K := K2; clear K2) | (go_at_call 12; (with_reducible refine ((A _ (RowKit.Hid.out K).below).out).mono ?_); rintro e w1 ⟨rfl, hb⟩; have K1 := sat.grown (by repeat (first | exact K.out | apply sat.alloc_any | apply sat.drew | apply sat.drewN)) hb; clear hb; have K2 := Lib.hid K1; clear K1 K; (try clear a0); (try clear l0); (try clear a1); (try clear l1); (try clear a2); (try clear l2); have K := K2; clear K2) | (go_at_call 10; (with_reducible refine (O _ K.out.below).out.mono ?_); rintro e w1 ⟨v, rfl, K1⟩; obtain ⟨g1, c1, rfl⟩ := row_pos K1 ql; have K2 := Lib.hid (K.out.join K1); clear K1 K; have K := K2; clear K2) | ((with_reducible refine at_append ?_); refine st_append_part 0 29 1 8 Try.underlying22 u64Info (sat.row_empty (e := 29) (size := 1) K.out) rfl rfl (news := words.map (Value.int .u64)) rfl ?_ ?_ ?_ ?_ ?_ ?_; (· simp); (· exact OldU.news (H.out.grown (sat.row_empty (e := 29) (size := 1) K.out).below)); (· exact u64_one _); (· simp only [maxLen]; omega); (· omega); intro p1 n1 c2 w1 K1; simp only [List.set, List.nil_append, List.cons_append, Nat.zero_add] at K1; obtain ⟨g2, rfl, rfl⟩ := row_some K1 (by omega); have K2 := Lib.hid K1; clear K1 K; have K := K2; clear K2; have xk := HK.out _ K.out.below) | (go_at_call 13; (with_reducible refine ((U _).out).mono ?_); rintro e w1 ⟨rfl, hb⟩; have K1 := sat.grown (by repeat (first | exact K.out | apply sat.alloc_any | apply sat.drew | apply sat.drewN)) hb; clear hb; have K2 := Lib.hid K1; clear K1 K; (try clear a0); (try clear l0); (try clear a1); (try clear l1); (try clear a2); (try clear l2); have K := K2; clear K2) | (go_at_call 18; (with_reducible refine ((TK _).out).mono ?_); rintro e w1 ⟨rfl, hb⟩; have K1 := sat.grown (by repeat (first | exact K.out | apply sat.alloc_any | apply sat.drew | apply sat.drewN)) hb; clear hb; have K2 := Lib.hid K1; clear K1 K; (try clear a0); (try clear l0); (try clear a1); (try clear l1); (try clear a2); (try clear l2); have K := K2; clear K2) | (go_at_call 19; (with_reducible refine ((PK _).out).mono ?_); rintro e w1 ⟨rfl, hb⟩; have K1 := sat.grown (by repeat (first | exact K.out | apply sat.alloc_any | apply sat.drew | apply sat.drewN)) hb; clear hb; have K2 := Lib.hid K1; clear K1 K; (try clear a0); (try clear l0); (try clear a1); (try clear l1); (try clear a2); (try clear l2); have K := K2; clear K2) | ((with_reducible refine at_store ?_); refine st_store_row 0 (by repeat (first | exact K.out | apply sat.alloc_any | apply sat.drew | apply sat.drewN)) rfl rfl rfl rfl ?_ ?_ ?_ ?_; (· kernel_rfl); (· simp only [List.length_map, List.length_cons, List.length_nil]; omega); (· simp [Value.oneCell']); intro w1 K1; simp only [List.set, putL_one] at K1; have K2 := Lib.hid K1; clear K1 K; have K := K2; clear K2) | (go_at_call 10; (with_reducible refine (O2 _ _ _ _ (by omega) (oldU_row (RowKit.Hid.out K) (by simp [setI]))).out.mono ?_); rintro e w1 ⟨v, rfl, K1⟩; obtain ⟨p3, c3, rfl⟩ := row_any K1; have K2 := Lib.hid (K.out.join K1); clear K1 K; have K := K2; clear K2))
    clear O O2 A HD U TK PK
    go_loopg [56] r.length (fun gk i w' => lessRel w r (.slice p3 r.length c3) (rowA (.slice (some ⟨g2, 0, none⟩) words.length c2) 29 1 words.length ((List.map (Value.int .u64) words).set k (.int .u64 y))) (rowA (.slice (some ⟨g1, 0, none⟩) l.length c1) 3 1 l.length (l.map (Value.int .i64))) gk i w')
    case atStart => exact ⟨0, by simp, rfl, K.out⟩
    case round =>
      obtain ⟨n, hn, rfl, hs⟩ := hrel
      clear K
      have K := Lib.hid hs
      clear hs
      by_cases hlt : n < r.length
      · have d0 : decide (n < r.length) = true := by simpa using hlt
        obtain ⟨g3, rfl, -⟩ := row_some K.out (by omega)
        have hlt2 : n + 1 < l.length := by have := GT.out.2; omega
        have hx : r[n]? = some r[n] := List.getElem?_eq_getElem hlt
        have hy : l[n + 1]? = some r[n] := by rw [← GT.out.1 n hlt]; exact hx
        have F : ∀ w', sat w w' [rowA (.slice (some ⟨g3, 0, none⟩) r.length c3) 3 1 r.length (r.map (Value.int .i64)), rowA (.slice (some ⟨g2, 0, none⟩) words.length c2) 29 1 words.length ((List.map (Value.int .u64) words).set k (.int .u64 y)), rowA (.slice (some ⟨g1, 0, none⟩) l.length c1) 3 1 l.length (l.map (Value.int .i64))] → w'.cell? ⟨g3, n, none⟩ = some (.int .i64 r[n]) ∧ w'.cell? ⟨g1, n + 1, none⟩ = some (.int .i64 r[n]) := fun w' h => ⟨h.row_rd 0 rfl n _ (by rw [List.getElem?_map, hx]; rfl), h.row_rd 2 rfl (n + 1) _ (by rw [List.getElem?_map, hy]; rfl)⟩
        have FX := Lib.hid F
        clear F hx hy
        obtain ⟨gk', rfl⟩ : ∃ g', gk = g' + 1 := ⟨gk - 1, by omega⟩
        have HN := Lib.hid hn
        have hn60 : n < 1000 := by omega
        clear hn
        generalize r[n] = x at *
        have cx : (x != x) = false := by simp
        have ew : IntKind.i64.wrap ((n : Int) + 1) = (n : Int) + 1 := by rw [IntKind.wrap_i64]; omega
        have hi0 : (0 : Int) ≤ (n : Int) + 1 := by omega
        have hi1 : (n : Int) + 1 < (l.length : Int) := by omega
        have hi2 : ((n : Int) + 1).toNat = n + 1 := by omega
        go_wp2
        go_region_held3 (fun w' => w'.cell? ⟨g3, n, none⟩ = some (.int .i64 x) ∧ w'.cell? ⟨g1, n + 1, none⟩ = some (.int .i64 x)) (first | exact FX.out _ (by repeat (first | exact K.out | apply sat.alloc_any | apply sat.drew | apply sat.drewN)) | go_keep) (fail)
        all_goals go_wp2
        all_goals go_roundg gk'
        case measure => omega
        case rel => exact ⟨n + 1, by have := HN.out; omega, (by first | (simp; done) | (simp; exact w64 (by omega) (by omega))), (by repeat (first | exact K.out | apply sat.alloc_any | apply sat.drew | apply sat.drewN))⟩
      · have d0 : decide (n < r.length) = false := by simpa using hlt
        clear hn
        go_wp2
        go_ret
        exact ⟨rfl, K.out.below⟩
  · obtain rfl : e = 1 := by simpa using he
    rw [if_neg (by omega)] at O2
    have hrl : (orderM words).dropLast.length = (orderM words).length - 1 := by simp
    have hget : ∀ n : Nat, n < (orderM words).dropLast.length → (orderM words).dropLast[n]? = (orderM words)[n]? := fun n h => by rw [List.getElem?_dropLast, if_pos (by rw [← hrl]; exact h)]
    generalize (orderM words).dropLast = r at *
    generalize orderM words = l at *
    have e2 : ((r.length : Int) != (l.length : Int) - 1) = false := by simp; omega
    have GT := Lib.hid (And.intro hget hrl)
    clear hget hrl he
    go_enter Try.func7, Try.ntmps7
    go_wp2_with (first | (go_at_call 9; (with_reducible refine ((HD _).out).mono ?_); rintro e w1 ⟨rfl, hb⟩; have K1 := sat.grown (by repeat (first | exact K.out | apply sat.alloc_any | apply sat.drew | apply sat.drewN)) hb; clear hb; have K2 := Lib.hid K1; clear K1 K; (try clear a0); (try clear l0); (try clear a1); (try clear l1); (try clear a2); (try clear l2); have K := K2; clear K2) | (go_at_call 12; (with_reducible refine ((A _ (RowKit.Hid.out K).below).out).mono ?_); rintro e w1 ⟨rfl, hb⟩; have K1 := sat.grown (by repeat (first | exact K.out | apply sat.alloc_any | apply sat.drew | apply sat.drewN)) hb; clear hb; have K2 := Lib.hid K1; clear K1 K; (try clear a0); (try clear l0); (try clear a1); (try clear l1); (try clear a2); (try clear l2); have K := K2; clear K2) | (go_at_call 10; (with_reducible refine (O _ K.out.below).out.mono ?_); rintro e w1 ⟨v, rfl, K1⟩; obtain ⟨g1, c1, rfl⟩ := row_pos K1 ql; have K2 := Lib.hid (K.out.join K1); clear K1 K; have K := K2; clear K2) | ((with_reducible refine at_append ?_); refine st_append_part 0 29 1 8 Try.underlying22 u64Info (sat.row_empty (e := 29) (size := 1) K.out) rfl rfl (news := words.map (Value.int .u64)) rfl ?_ ?_ ?_ ?_ ?_ ?_; (· simp); (· exact OldU.news (H.out.grown (sat.row_empty (e := 29) (size := 1) K.out).below)); (· exact u64_one _); (· simp only [maxLen]; omega); (· omega); intro p1 n1 c2 w1 K1; simp only [List.set, List.nil_append, List.cons_append, Nat.zero_add] at K1; obtain ⟨g2, rfl, rfl⟩ := row_some K1 (by omega); have K2 := Lib.hid K1; clear K1 K; have K := K2; clear K2; have xk := HK.out _ K.out.below) | (go_at_call 13; (with_reducible refine ((U _).out).mono ?_); rintro e w1 ⟨rfl, hb⟩; have K1 := sat.grown (by repeat (first | exact K.out | apply sat.alloc_any | apply sat.drew | apply sat.drewN)) hb; clear hb; have K2 := Lib.hid K1; clear K1 K; (try clear a0); (try clear l0); (try clear a1); (try clear l1); (try clear a2); (try clear l2); have K := K2; clear K2) | (go_at_call 18; (with_reducible refine ((TK _).out).mono ?_); rintro e w1 ⟨rfl, hb⟩; have K1 := sat.grown (by repeat (first | exact K.out | apply sat.alloc_any | apply sat.drew | apply sat.drewN)) hb; clear hb; have K2 := Lib.hid K1; clear K1 K; (try clear a0); (try clear l0); (try clear a1); (try clear l1); (try clear a2); (try clear l2); have K := K2; clear K2) | (go_at_call 19; (with_reducible refine ((PK _).out).mono ?_); rintro e w1 ⟨rfl, hb⟩; have K1 := sat.grown (by repeat (first | exact K.out | apply sat.alloc_any | apply sat.drew | apply sat.drewN)) hb; clear hb; have K2 := Lib.hid K1; clear K1 K; (try clear a0); (try clear l0); (try clear a1); (try clear l1); (try clear a2); (try clear l2); have K := K2; clear K2) | ((with_reducible refine at_store ?_); refine st_store_row 0 (by repeat (first | exact K.out | apply sat.alloc_any | apply sat.drew | apply sat.drewN)) rfl rfl rfl rfl ?_ ?_ ?_ ?_; (· kernel_rfl); (· simp only [List.length_map, List.length_cons, List.length_nil]; omega); (· simp [Value.oneCell']); intro w1 K1; simp only [List.set, putL_one] at K1; have K2 := Lib.hid K1; clear K1 K; have K := K2; clear K2) | (go_at_call 10; (with_reducible refine (O2 _ _ _ _ (by omega) (oldU_row (RowKit.Hid.out K) (by simp [setI]))).out.mono ?_); rintro e w1 ⟨v, rfl, K1⟩; obtain ⟨p3, c3, rfl⟩ := row_any K1; have K2 := Lib.hid (K.out.join K1); clear K1 K; have K := K2; clear K2))
    clear O O2 A HD U TK PK
    go_loopg [56] r.length (fun gk i w' => lessRel w r (.slice p3 r.length c3) (rowA (.slice (some ⟨g2, 0, none⟩) words.length c2) 29 1 words.length ((List.map (Value.int .u64) words).set k (.int .u64 y))) (rowA (.slice (some ⟨g1, 0, none⟩) l.length c1) 3 1 l.length (l.map (Value.int .i64))) gk i w')
    case atStart => exact ⟨0, by simp, rfl, K.out⟩
    case round =>
      obtain ⟨n, hn, rfl, hs⟩ := hrel
      clear K
      have K := Lib.hid hs
      clear hs
      by_cases hlt : n < r.length
      · have d0 : decide (n < r.length) = true := by simpa using hlt
        obtain ⟨g3, rfl, -⟩ := row_some K.out (by omega)
        have hlt2 : n < l.length := by have := GT.out.2; omega
        have hx : r[n]? = some r[n] := List.getElem?_eq_getElem hlt
        have hy : l[n]? = some r[n] := by rw [← GT.out.1 n hlt]; exact hx
        have F : ∀ w', sat w w' [rowA (.slice (some ⟨g3, 0, none⟩) r.length c3) 3 1 r.length (r.map (Value.int .i64)), rowA (.slice (some ⟨g2, 0, none⟩) words.length c2) 29 1 words.length ((List.map (Value.int .u64) words).set k (.int .u64 y)), rowA (.slice (some ⟨g1, 0, none⟩) l.length c1) 3 1 l.length (l.map (Value.int .i64))] → w'.cell? ⟨g3, n, none⟩ = some (.int .i64 r[n]) ∧ w'.cell? ⟨g1, n, none⟩ = some (.int .i64 r[n]) := fun w' h => ⟨h.row_rd 0 rfl n _ (by rw [List.getElem?_map, hx]; rfl), h.row_rd 2 rfl (n) _ (by rw [List.getElem?_map, hy]; rfl)⟩
        have FX := Lib.hid F
        clear F hx hy
        obtain ⟨gk', rfl⟩ : ∃ g', gk = g' + 1 := ⟨gk - 1, by omega⟩
        have HN := Lib.hid hn
        have hn60 : n < 1000 := by omega
        clear hn
        generalize r[n] = x at *
        have cx : (x != x) = false := by simp
        have ew : IntKind.i64.wrap ((n : Int)) = (n : Int) := by rw [IntKind.wrap_i64]; omega
        have hi0 : (0 : Int) ≤ (n : Int) := by omega
        have hi1 : (n : Int) < (l.length : Int) := by omega
        have hi2 : ((n : Int)).toNat = n := by omega
        go_wp2
        go_region_held3 (fun w' => w'.cell? ⟨g3, n, none⟩ = some (.int .i64 x) ∧ w'.cell? ⟨g1, n, none⟩ = some (.int .i64 x)) (first | exact FX.out _ (by repeat (first | exact K.out | apply sat.alloc_any | apply sat.drew | apply sat.drewN)) | go_keep) (fail)
        all_goals go_wp2
        all_goals go_roundg gk'
        case measure => omega
        case rel => exact ⟨n + 1, by have := HN.out; omega, (by first | (simp; done) | (simp; exact w64 (by omega) (by omega))), (by repeat (first | exact K.out | apply sat.alloc_any | apply sat.drew | apply sat.drewN))⟩
      · have d0 : decide (n < r.length) = false := by simpa using hlt
        clear hn
        go_wp2
        go_ret
        exact ⟨rfl, K.out.below⟩
theorem pickLess_calls (W : World) (a : Option Addr) (len cap : Nat) (rows : List (List Value)) (h : RowsAt W [.int .u64] a len cap rows) (b : Bool) :
    Calls Try.prog 7 #[.slice a len cap, .bool b] W fun e W' => e = .returned (.bool true) ∧ Below W.heap.size W W' := by
  obtain ⟨words, rfl, hwf, hc⟩ := oldU_of h
  by_cases h60 : words.length > 60
  · have HD := fun w => Lib.hid (head_calls w)
    have K := Lib.hid (sat.start W)
    have c0 : decide ((words.length : Int) > 60) = true := by simp; omega
    clear hc h
    go_enter Try.func7, Try.ntmps7
    go_wp2_with (first | (go_at_call 9; (with_reducible refine ((HD _).out).mono ?_); rintro e w1 ⟨rfl, hb⟩; have K1 := sat.grown (by repeat (first | exact K.out | apply sat.alloc_any | apply sat.drew | apply sat.drewN)) hb; clear hb; have K2 := Lib.hid K1; clear K1 K; (try clear a0); (try clear l0); (try clear a1); (try clear l1); (try clear a2); (try clear l2); have K := K2; clear K2))
    go_ret
    exact ⟨rfl, K.out.below⟩
  · by_cases hno : orderM words = []
    · exact less_none words a cap b W hc hwf h60 hno
    · exact less_some words a cap b W hc hwf h60 hno
end Go.Proofs.Ytjnckolidgbckaa
