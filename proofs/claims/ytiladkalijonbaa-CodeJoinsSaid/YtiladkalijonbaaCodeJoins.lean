/- A script's bytes, and those of more moves behind them, are the bytes of both (CodeJoins answers true at every input). No condition beyond the row's own. -/
import Derived.Test.YtiladkalijonbaaCodeKit
import Derived.Test.YtiladkalijonbaaCodeEnc
import Derived.Test.YtiladkalijonbaaCodeMake
import Derived.Test.YtiladkalijonbaaRegion
import Derived.Test.YtiladkalijonbaaJoin
import Derived.Test.YtiladkalijonbaaRowKit
namespace Go.Proofs.Ytiladkalijonbaa
open Go.RowKit Go.SepYtiladkalijonbaa Go.Proofs.YtiladkalijonbaaW.PrintWords Go.Proofs.YtiladkalijonbaaW.PrintLast Go.Proofs.YtiladkalijonbaaW.PrintMore
open Go.Proofs.Ytiladkalijonbaa.PCodeCuts (S38 S40 S33 k38 k40 k33)
set_option linter.unusedSimpArgs false
set_option linter.unusedVariables false
set_option maxRecDepth 100000
set_option maxHeartbeats 8000000
def s33C (v : S33) : List Value := [.int .i64 v.f0, .int .i64 v.f1, .int .i64 v.f2, .int .i64 v.f3, .bool v.f4, .bool v.f5, .int .u64 v.f6, .int .i64 v.f7]
/-- The moves of an argument. -/
def OldV (w : World) (p : Option Addr) (l : List S33) : Prop := ∀ j, (hj : j < l.length) → ∃ b off, p = some ⟨b, off, none⟩ ∧ b < w.heap.size ∧ ∀ i u, (s33C l[j])[i]? = some u → w.cell? ⟨b, off + j * 8 + i, none⟩ = some u
theorem OldV.grown {w w' : World} {p : Option Addr} {l : List S33} (h : OldV w p l) (b : Below w.heap.size w w') : OldV w' p l := fun j hj => by
  obtain ⟨c, off, h1, h2, h3⟩ := h j hj
  exact ⟨c, off, h1, Nat.lt_of_lt_of_le h2 b.size, fun i u hi => (b.cell (p := ⟨c, off + j * 8 + i, none⟩) h2).trans (h3 i u hi)⟩
theorem moveInfo : ∃ q z, Try.prog.info? 40 = some q ∧ q.zero = some z ∧ q.size = 7 ∧ q.bytes = 56 ∧ z.cells.size = 7 := ⟨_, _, rfl, rfl, rfl, rfl, rfl⟩
theorem byteInfo : ∃ q z, Try.prog.info? 5 = some q ∧ q.zero = some z ∧ q.size = 1 ∧ q.bytes = 1 ∧ z.cells.size = 1 := ⟨_, _, rfl, rfl, rfl, rfl, rfl⟩
theorem take_flat (ms : List S40) (n : Nat) (h : n < ms.length) : (ms.take (n + 1)).flatMap moveC = (ms.take n).flatMap moveC ++ moveC ms[n] := by
  rw [List.take_succ_eq_append_getElem h, List.flatMap_append]
  simp
def scr (v : Value) : List Value := [.int .i64 3, .int .i64 2, .int .i64 0, .int .i64 3, v]
def joinRel (w0 : World) (ms mz : List S40) (z0 ga gz : Nat) (X : List SA) (m : Nat) (gk : Nat) (i : Value) (w' : World) : Prop :=
  ∃ n : Nat, n + gk = m ∧ i = .int .i64 n ∧ ∃ p1 n1 c1 p2 n2 c2, sat w0 w' (pt ga (.cells [.int .i64 3, .int .i64 2, .int .i64 0, .int .i64 3, .slice p1 n1 c1].toArray 30 (0, 0)) :: rowA (.slice p1 n1 c1) 40 7 n ((ms.take n).flatMap moveC) :: rowA (.slice p2 n2 c2) 40 7 (z0 + n) ((mz.take (z0 + n)).flatMap moveC) :: pt gz (.cells [.int .i64 3, .int .i64 2, .int .i64 0, .int .i64 3, .slice p2 n2 c2].toArray 30 (0, 0)) :: X)
theorem box1_at (w : World) (l : List Value) (t : TypeId) (j : Nat) (u : Value) (h : l[j]? = some u) : (w.alloc (.cells l.toArray t)).cell? ⟨w.heap.size, 0 + j, none⟩ = some u := by
  rw [Nat.zero_add, World.cell?_alloc_at _ _ _ _ rfl]
  simpa using h
theorem enc_f2 (ms : List S40) (h : ms.length ≤ 80) : PCodeCuts.code_Encode.f (ms.length + 20) 3 2 0 3 ms = some ((encM 3 2 0 3 ms).1, (encM 3 2 0 3 ms).2) := enc_f 3 2 0 3 ms (by omega) (Nat.le_refl _)
theorem enc_ok (ms : List S40) (h : ms.length ≤ 80) : encM 3 2 0 3 ms = if allR ms then ([3, 2, 0, 3] ++ movesB ms, 0) else ([], 1) := by
  unfold encM
  rw [if_pos (show confR 3 2 0 3 = true by decide), if_neg (by omega)]
  rfl
theorem fb (l : List Int) : l.flatMap byteC = l.map (Value.int .u8) := by
  induction l with
  | nil => rfl
  | cons a l ih => rw [List.flatMap_cons, ih]; rfl
theorem byte_one (l : List Int) : ∀ u ∈ l.flatMap byteC, u.oneCell' = true := by
  intro u hu
  rw [fb] at hu
  obtain ⟨x, _, rfl⟩ := List.mem_map.1 hu
  rfl
theorem drop_byte {l : List Int} {m j : Nat} {u : Value} (h : ((l.drop m).flatMap byteC)[j]? = some u) : (l.flatMap byteC)[m + j]? = some u := by
  rw [fb, List.map_drop, List.getElem?_drop] at h
  rw [fb]
  exact h
def rT : Bool × List (List Nat × List Nat) := (true, [([], []), ([0], [0]), ([], []), ([2], [2]), ([3], [3]), ([1, 4, 3], [1, 4]), ([0, 1, 2, 3, 4, 5], []), ([6, 5, 5, 0, 1, 2, 3, 4, 5], [5, 6])])
def rB : List Nat := [0, 1, 0, 4, 12, 31, 63, 127]
theorem rtab12 : rtab .any (opsOf Try.f3 12) = rT := by kernel_rfl
theorem rbits12 : waitsOk rT.2 rB = true := by kernel_rfl
theorem rtab13 : rtab .any (opsOf Try.f3 13) = rT := by kernel_rfl
theorem rbits13 : waitsOk rT.2 rB = true := by kernel_rfl
theorem rtab18 : rtab .any (opsOf Try.f3 18) = rT := by kernel_rfl
theorem rbits18 : waitsOk rT.2 rB = true := by kernel_rfl
theorem rtab19 : rtab .any (opsOf Try.f3 19) = rT := by kernel_rfl
theorem rbits19 : waitsOk rT.2 rB = true := by kernel_rfl
theorem asize (w : World) (o : Obj) : (w.alloc o).heap.size = w.heap.size + 1 := by simp
theorem joins_calls (W : World) (p q : Option Addr) (l1 l2 : List S33) (c d : Nat) (h1 : OldV W p l1) (h2 : OldV W q l2) (n1 : l1.length ≤ 40) (n2 : l2.length ≤ 40) :
    Tells 3 #[.slice p l1.length c, .slice q l2.length d] W (.bool true) := by
  have HD : ∀ w, Tells 10 #[] w (.bool true) := fun w => PCodeCuts.stackyardlaw18_head.calls 40 true w (by kernel_rfl)
  have CF : ∀ w, Tells 11 #[.int .i64 2, .int .i64 1, .int .i64 0, .int .i64 3] w (.agg #[.int .i64 3, .int .i64 2, .int .i64 0, .int .i64 3]) := fun w => PCodeCuts.stackyardlaw04_Conf.calls 2 1 0 3 3 2 0 3 w (by kernel_rfl)
  have T1 := fun w => Lib.hid (HD w)
  have T2 := fun w => Lib.hid (CF w)
  have K := Lib.hid (sat.start W)
  have t1 : decide ((l1.length : Int) > 40) = false := by simp; omega
  have t2 : decide ((l2.length : Int) > 40) = false := by simp; omega
  have H1 := Lib.hid h1
  have H2 := Lib.hid h2
  clear HD CF h1 h2
  go_enter Try.func3, Try.ntmps3
  go_wp2_with (first | (go_at_call 10; (with_reducible refine ((T1 _).out).mono ?_); rintro e w1 ⟨rfl, hb⟩; have K1 := sat.grown (by repeat (first | exact K.out | apply sat.alloc_any | apply sat.drew | apply sat.drewN)) hb; clear hb; have K2 := Lib.hid K1; clear K1 K; (try clear a0); (try clear l0); (try clear a1); (try clear l1); (try clear a2); (try clear l2); have K := K2; clear K2) | (go_at_call 11; (with_reducible refine ((T2 _).out).mono ?_); rintro e w1 ⟨rfl, hb⟩; have K1 := sat.grown (by repeat (first | exact K.out | apply sat.alloc_any | apply sat.drew | apply sat.drewN)) hb; clear hb; have K2 := Lib.hid K1; clear K1 K; (try clear a0); (try clear l0); (try clear a1); (try clear l1); (try clear a2); (try clear l2); have K := K2; clear K2))
  have K1 := ((((K.out.alloc (Obj.cells [.int .i64 3, .int .i64 2, .int .i64 0, .int .i64 3].toArray 26)).alloc (Obj.cells [.int .i64 3, .int .i64 2, .int .i64 0, .int .i64 3, .slice none 0 0].toArray 30)).alloc (Obj.cells [.int .i64 3, .int .i64 2, .int .i64 0, .int .i64 3, .slice none 0 0].toArray 30)).alloc (Obj.cells [.int .i64 3, .int .i64 2, .int .i64 0, .int .i64 3, .slice none 0 0].toArray 30))
  simp only [asize] at K1
  have K2 := (((K1.row_nil 40 7).row_nil 40 7).pick 5 rfl).drop.pick 4 rfl
  clear K1 K
  have K := Lib.hid K2
  clear K2
  obtain ⟨ga, ega⟩ : ∃ x, x = w1.heap.size + 1 := ⟨_, rfl⟩
  obtain ⟨gb, egb⟩ : ∃ x, x = w1.heap.size + 1 + 1 := ⟨_, rfl⟩
  obtain ⟨gz, egz⟩ : ∃ x, x = w1.heap.size + 1 + 1 + 1 := ⟨_, rfl⟩
  rw [← egz, ← egb, ← ega] at K ⊢
  clear ega egb egz
  go_loopg [38] l1.length (fun gk i w' => joinRel W (l1.map makeM) ((l1 ++ l2).map makeM) 0 ga gz [pt gb (.cells [.int .i64 3, .int .i64 2, .int .i64 0, .int .i64 3, .slice none 0 0].toArray 30 (0, 0))] l1.length gk i w')
  case atStart => exact ⟨0, by simp, rfl, _, _, _, _, _, _, K.out⟩
  case round =>
    obtain ⟨n, hn, rfl, p1, n1', c1, p2, n2', c2, hs⟩ := hrel
    clear K
    have K := Lib.hid hs
    clear hs
    have a0 := K.out.rd 0 rfl
    have l0 := K.out.ltp 0 rfl
    have a3 := K.out.rd 3 rfl
    have l3 := K.out.ltp 3 rfl
    by_cases hlt : n < l1.length
    · have d0 : decide (n < l1.length) = true := by simpa using hlt
      obtain ⟨bw, off, rfl, hb, hx0⟩ := H1.out n hlt
      have hx : ∀ i u, (s33C l1[n])[i]? = some u → wr.cell? ⟨bw, off + n * 8 + i, none⟩ = some u := fun i u hi => (K.out.below.cell (p := ⟨bw, off + n * 8 + i, none⟩) hb).trans (hx0 i u hi)
      have y0 : wr.cell? ⟨bw, off + n * 8, none⟩ = _ := hx 0 _ rfl
      have y1 := hx 1 _ rfl
      have y2 := hx 2 _ rfl
      have y3 := hx 3 _ rfl
      have y4 := hx 4 _ rfl
      have y5 := hx 5 _ rfl
      have y6 := hx 6 _ rfl
      have y7 := hx 7 _ rfl
      have M := fun w => Lib.hid (make_calls l1[n] w)
      have E1 := Lib.hid (take_flat (l1.map makeM) n (by simpa using hlt))
      have E2 := Lib.hid (take_flat ((l1 ++ l2).map makeM) (0 + n) (by simp; omega))
      have E3 : ((l1 ++ l2).map makeM)[0 + n]'(by simp; omega) = makeM l1[n] := by rw [List.getElem_map]; congr 1; simp only [Nat.zero_add]; rw [List.getElem_append_left hlt]
      rw [List.getElem_map] at E1
      rw [E3] at E2
      clear hx hx0 E3
      generalize l1[n] = v at *
      generalize makeM v = mv at *
      obtain ⟨v0, v1, v2, v3, v4, v5, v6, v7⟩ := v
      obtain ⟨m0, m1, ⟨m2, m3, m4, m5⟩, m6⟩ := mv
      unfold moveC at M
      dsimp only at M y0 y1 y2 y3 y4 y5 y6 y7
      have HN := Lib.hid hn
      clear hn
      obtain ⟨gk', rfl⟩ : ∃ g', gk = g' + 1 := ⟨gk - 1, by have := HN.out; omega⟩
      go_wp2_with (first | ((with_reducible refine at_alloc ?_); refine st_alloc K.out (fun _ => rfl) ?_; intro gv w1 K1; simp only [List.cons_append, List.nil_append] at K1; have K2 := Lib.hid K1; clear K1 K; (try clear a0); (try clear l0); (try clear a1); (try clear l1); (try clear a2); (try clear l2); have K := K2; clear K2; have a0 := K.out.rd 0 rfl; have l0 := K.out.ltp 0 rfl; have a3 := K.out.rd 3 rfl; have l3 := K.out.ltp 3 rfl) | ((with_reducible refine at_store ?_); refine st_store 5 K.out rfl rfl rfl rfl ?_ ?_ ?_ ?_; (· kernel_rfl); (· simp); (· simp [Value.oneCell']); intro w1 K1; simp only [List.set, putL] at K1; have K2 := Lib.hid K1; clear K1 K; (try clear a0); (try clear l0); (try clear a1); (try clear l1); (try clear a2); (try clear l2); have K := K2; clear K2; have a0 := K.out.rd 0 rfl; have l0 := K.out.ltp 0 rfl; have a3 := K.out.rd 3 rfl; have l3 := K.out.ltp 3 rfl; have a5 := K.out.rd 5 rfl; have l5 := K.out.ltp 5 rfl))
      (try clear a5 l5)
      have a5 := K.out.rd 5 rfl
      have l5 := K.out.ltp 5 rfl
      simp only [Act.put, List.setIfInBounds_toArray, List.set_cons_zero, List.set_cons_succ]
      have KD := Lib.hid K.out.drew
      (try clear a0 l0); (try clear f0); (try clear a3 l3); (try clear f3); (try clear a5 l5)
      refine start_ (n := 8) (S := fun w' => (∀ j, w'.cell? ⟨ga, j, none⟩ = [Value.int .i64 3, Value.int .i64 2, Value.int .i64 0, Value.int .i64 3, Value.slice p1 n1' c1][j]?) ∧ ∀ j, w'.cell? ⟨gv, j, none⟩ = [Value.int .i64 v0, Value.int .i64 v1, Value.int .i64 v2, Value.int .i64 v3, Value.bool v4, Value.bool v5, Value.int .u64 v6, Value.int .i64 v7][j]?) (ds := [7]) #[false, false, false, false, false, false, false, false] (by kernel_rfl) rfl rfl ⟨KD.out.rd 0 rfl, KD.out.rd 5 rfl⟩ (fun hHeld => ?_)
      refine with_tabW rtab12 rbits12 (fun HT_ HW_ => ?_)
      clear K
      have K := KD
      clear KD
      refine pure_ (i := 0) (N := some 42) (v := ?_) (a' := ?_) #[true, false, false, false, false, false, false, false] rfl rfl (any_of HT_.out (by kernel_rfl)) (fun _ _ _ h => h) (Or.inl ⟨by rfl, ?_⟩) ?_ ?_
      rotate_left
      · intro w'
        go_simp
        with_reducible rfl
      rotate_left
      · simp only [Act.put, List.setIfInBounds_toArray, List.set_cons_zero, List.set_cons_succ, i64_w, i32_w]
        rfl
      refine take_ (i := 1) (N := some 43) (v := ?_) (a' := ?_) #[true, true, false, false, false, false, false, false] rfl rfl (take_ofW HT_.out HW_.out (by kernel_rfl)) (fun _ _ _ h => h) (Or.inl ⟨by rfl, ?_⟩) hHeld ?_ ?_
      rotate_left
      · rintro w' ⟨s0, s1⟩
        go_simp
        with_reducible rfl
      rotate_left
      · simp only [Act.put, List.setIfInBounds_toArray, List.set_cons_zero, List.set_cons_succ, i64_w, i32_w]
        rfl
      refine take_ (i := 2) (N := some 44) (v := ?_) (a' := ?_) #[true, true, true, false, false, false, false, false] rfl rfl (take_ofW HT_.out HW_.out (by kernel_rfl)) (fun _ _ _ h => h) (Or.inl ⟨by rfl, ?_⟩) hHeld ?_ ?_
      rotate_left
      · rintro w' ⟨s0, s1⟩
        go_simp
        with_reducible rfl
      rotate_left
      · simp only [Act.put, List.setIfInBounds_toArray, List.set_cons_zero, List.set_cons_succ, i64_w, i32_w]
        rfl
      refine one_ (i := 3) (N := some 45) #[true, true, true, true, false, false, false, false] rfl rfl (one_of HT_.out (by kernel_rfl)) (by decide) (fun Kc hK => ?_)
      refine goes_ Try.func12 (by kernel_rfl) rfl #[.agg #[Value.int .i64 v0, Value.int .i64 v1, Value.int .i64 v2, Value.int .i64 v3, Value.bool v4, Value.bool v5, Value.int .u64 v6, Value.int .i64 v7]] (by rfl) rfl rfl (by (try simp only [List.map_toArray, List.map_cons, List.map_nil]); first | done | rfl) ?_
      with_reducible refine (M _).out.mono ?_
      rintro e w1 ⟨rfl, hb'⟩
      refine ⟨_, rfl, ?_⟩
      have K1 := Lib.hid (sat.grown K.out hb')
      clear K hb' hHeld
      have K := K1
      clear K1
      refine hK.out _ _ ⟨K.out.rd 0 rfl, K.out.rd 5 rfl⟩ (fun hHeld => ?_)
      clear hK Kc
      refine norm_ (a' := ?_) ?_ ?_
      rotate_left
      · show Act.put _ (some 45) _ = _
        simp only [Act.put, List.setIfInBounds_toArray, List.set_cons_zero, List.set_cons_succ, i64_w, i32_w]
        rfl
      refine one_ (i := 4) (N := some 46) #[true, true, true, true, true, false, false, false] rfl rfl (one_of HT_.out (by kernel_rfl)) (by decide) (fun Kc hK => ?_)
      refine value_ (w1 := ?_) (v := ?_) (by rfl) rfl ?_ ?_
      rotate_left 2
      · go_simp
        constructor
        · rfl
        · rfl
      clear hHeld
      refine hK.out _ _ ⟨(K.out.alloc_any _).rd 0 rfl, (K.out.alloc_any _).rd 5 rfl⟩ (fun hHeld => ?_)
      clear hK Kc
      refine norm_ (a' := ?_) ?_ ?_
      rotate_left
      · show Act.put _ (some 46) _ = _
        simp only [Act.put, List.setIfInBounds_toArray, List.set_cons_zero, List.set_cons_succ, i64_w, i32_w]
        rfl
      refine one_ (i := 5) (N := some 47) #[true, true, true, true, true, true, false, false] rfl rfl (one_of HT_.out (by kernel_rfl)) (by decide) (fun Kc hK => ?_)
      refine rg_append 1 (by rfl) rfl 40 7 56 Try.underlying28 moveInfo (K.out.alloc_any _) rfl rfl rfl rfl (box1_at _ [Value.int .i64 m0, Value.int .i64 m1, Value.int .i64 m2, Value.int .i64 m3, Value.int .u64 m4, Value.int .i64 m5, Value.int .i64 m6] _) ?_ Nat.one_pos ?_ ?_ ?_
      · simp [Value.oneCell']
      · simp only [maxLen]; omega
      · omega
      intro e1 e2 e3 w1 K1
      simp only [List.set] at K1
      have K2 := Lib.hid K1
      clear K1 K hHeld
      have K := K2
      clear K2
      refine hK.out _ _ ⟨K.out.rd 0 rfl, K.out.rd 5 rfl⟩ (fun hHeld => ?_)
      clear hK Kc
      refine norm_ (a' := ?_) ?_ ?_
      rotate_left
      · show Act.put _ (some 47) _ = _
        simp only [Act.put, List.setIfInBounds_toArray, List.set_cons_zero, List.set_cons_succ, i64_w, i32_w]
        rfl
      refine pure_ (i := 6) (N := some 48) (v := ?_) (a' := ?_) #[true, true, true, true, true, true, true, false] rfl rfl (any_of HT_.out (by kernel_rfl)) (fun _ _ _ h => h) (Or.inl ⟨by rfl, ?_⟩) ?_ ?_
      rotate_left
      · intro w'
        go_simp
        with_reducible rfl
      rotate_left
      · simp only [Act.put, List.setIfInBounds_toArray, List.set_cons_zero, List.set_cons_succ, i64_w, i32_w]
        rfl
      refine last_ (i := 7) (N := none) #[true, true, true, true, true, true, true, true] rfl rfl (one_of HT_.out (by kernel_rfl)) (by decide) (fun Kc hK => ?_)
      have a0 := K.out.rd 0 rfl
      have f0 := K.out.fr 0 rfl
      refine skip_ (w1 := ?_) (by rfl) rfl ?_ ?_
      rotate_left
      · go_simp
        rfl
      refine hK.out _ _ ?_
      clear hK Kc
      refine done_ (done_of HT_.out (by kernel_rfl)) ?_
      have K1 := sat.setp 0 K.out (j := 4) (v := .slice e1 e2 e3) rfl
      simp only [List.set] at K1
      clear a0 f0 K hHeld HT_ HW_
      revert K1
      generalize World.setCell w1 _ _ = w9
      intro K1
      have K := Lib.hid K1
      clear K1
      go_wp2
      have KD := Lib.hid K.out.drew
      (try clear a0 l0); (try clear f0); (try clear a3 l3); (try clear f3); (try clear a5 l5)
      refine start_ (n := 8) (S := fun w' => (∀ j, w'.cell? ⟨gz, j, none⟩ = [Value.int .i64 3, Value.int .i64 2, Value.int .i64 0, Value.int .i64 3, Value.slice p2 n2' c2][j]?) ∧ ∀ j, w'.cell? ⟨gv, j, none⟩ = [Value.int .i64 v0, Value.int .i64 v1, Value.int .i64 v2, Value.int .i64 v3, Value.bool v4, Value.bool v5, Value.int .u64 v6, Value.int .i64 v7][j]?) (ds := [7]) #[false, false, false, false, false, false, false, false] (by kernel_rfl) rfl rfl ⟨KD.out.rd 3 rfl, KD.out.rd 5 rfl⟩ (fun hHeld => ?_)
      refine with_tabW rtab13 rbits13 (fun HT_ HW_ => ?_)
      clear K
      have K := KD
      clear KD
      refine pure_ (i := 0) (N := some 49) (v := ?_) (a' := ?_) #[true, false, false, false, false, false, false, false] rfl rfl (any_of HT_.out (by kernel_rfl)) (fun _ _ _ h => h) (Or.inl ⟨by rfl, ?_⟩) ?_ ?_
      rotate_left
      · intro w'
        go_simp
        with_reducible rfl
      rotate_left
      · simp only [Act.put, List.setIfInBounds_toArray, List.set_cons_zero, List.set_cons_succ, i64_w, i32_w]
        rfl
      refine take_ (i := 1) (N := some 50) (v := ?_) (a' := ?_) #[true, true, false, false, false, false, false, false] rfl rfl (take_ofW HT_.out HW_.out (by kernel_rfl)) (fun _ _ _ h => h) (Or.inl ⟨by rfl, ?_⟩) hHeld ?_ ?_
      rotate_left
      · rintro w' ⟨s0, s1⟩
        go_simp
        with_reducible rfl
      rotate_left
      · simp only [Act.put, List.setIfInBounds_toArray, List.set_cons_zero, List.set_cons_succ, i64_w, i32_w]
        rfl
      refine take_ (i := 2) (N := some 51) (v := ?_) (a' := ?_) #[true, true, true, false, false, false, false, false] rfl rfl (take_ofW HT_.out HW_.out (by kernel_rfl)) (fun _ _ _ h => h) (Or.inl ⟨by rfl, ?_⟩) hHeld ?_ ?_
      rotate_left
      · rintro w' ⟨s0, s1⟩
        go_simp
        with_reducible rfl
      rotate_left
      · simp only [Act.put, List.setIfInBounds_toArray, List.set_cons_zero, List.set_cons_succ, i64_w, i32_w]
        rfl
      refine one_ (i := 3) (N := some 52) #[true, true, true, true, false, false, false, false] rfl rfl (one_of HT_.out (by kernel_rfl)) (by decide) (fun Kc hK => ?_)
      refine goes_ Try.func12 (by kernel_rfl) rfl #[.agg #[Value.int .i64 v0, Value.int .i64 v1, Value.int .i64 v2, Value.int .i64 v3, Value.bool v4, Value.bool v5, Value.int .u64 v6, Value.int .i64 v7]] (by rfl) rfl rfl (by (try simp only [List.map_toArray, List.map_cons, List.map_nil]); first | done | rfl) ?_
      with_reducible refine (M _).out.mono ?_
      rintro e w1 ⟨rfl, hb'⟩
      refine ⟨_, rfl, ?_⟩
      have K1 := Lib.hid (sat.grown K.out hb')
      clear K hb' hHeld
      have K := K1
      clear K1
      refine hK.out _ _ ⟨K.out.rd 3 rfl, K.out.rd 5 rfl⟩ (fun hHeld => ?_)
      clear hK Kc
      refine norm_ (a' := ?_) ?_ ?_
      rotate_left
      · show Act.put _ (some 52) _ = _
        simp only [Act.put, List.setIfInBounds_toArray, List.set_cons_zero, List.set_cons_succ, i64_w, i32_w]
        rfl
      refine one_ (i := 4) (N := some 53) #[true, true, true, true, true, false, false, false] rfl rfl (one_of HT_.out (by kernel_rfl)) (by decide) (fun Kc hK => ?_)
      refine value_ (w1 := ?_) (v := ?_) (by rfl) rfl ?_ ?_
      rotate_left 2
      · go_simp
        constructor
        · rfl
        · rfl
      clear hHeld
      refine hK.out _ _ ⟨(K.out.alloc_any _).rd 3 rfl, (K.out.alloc_any _).rd 5 rfl⟩ (fun hHeld => ?_)
      clear hK Kc
      refine norm_ (a' := ?_) ?_ ?_
      rotate_left
      · show Act.put _ (some 53) _ = _
        simp only [Act.put, List.setIfInBounds_toArray, List.set_cons_zero, List.set_cons_succ, i64_w, i32_w]
        rfl
      refine one_ (i := 5) (N := some 54) #[true, true, true, true, true, true, false, false] rfl rfl (one_of HT_.out (by kernel_rfl)) (by decide) (fun Kc hK => ?_)
      refine rg_append 2 (by rfl) rfl 40 7 56 Try.underlying28 moveInfo (K.out.alloc_any _) rfl rfl rfl rfl (box1_at _ [Value.int .i64 m0, Value.int .i64 m1, Value.int .i64 m2, Value.int .i64 m3, Value.int .u64 m4, Value.int .i64 m5, Value.int .i64 m6] _) ?_ Nat.one_pos ?_ ?_ ?_
      · simp [Value.oneCell']
      · simp only [maxLen]; omega
      · omega
      intro h1 h2 h3 w1 K1
      simp only [List.set] at K1
      have K2 := Lib.hid K1
      clear K1 K hHeld
      have K := K2
      clear K2
      refine hK.out _ _ ⟨K.out.rd 3 rfl, K.out.rd 5 rfl⟩ (fun hHeld => ?_)
      clear hK Kc
      refine norm_ (a' := ?_) ?_ ?_
      rotate_left
      · show Act.put _ (some 54) _ = _
        simp only [Act.put, List.setIfInBounds_toArray, List.set_cons_zero, List.set_cons_succ, i64_w, i32_w]
        rfl
      refine pure_ (i := 6) (N := some 55) (v := ?_) (a' := ?_) #[true, true, true, true, true, true, true, false] rfl rfl (any_of HT_.out (by kernel_rfl)) (fun _ _ _ h => h) (Or.inl ⟨by rfl, ?_⟩) ?_ ?_
      rotate_left
      · intro w'
        go_simp
        with_reducible rfl
      rotate_left
      · simp only [Act.put, List.setIfInBounds_toArray, List.set_cons_zero, List.set_cons_succ, i64_w, i32_w]
        rfl
      refine last_ (i := 7) (N := none) #[true, true, true, true, true, true, true, true] rfl rfl (one_of HT_.out (by kernel_rfl)) (by decide) (fun Kc hK => ?_)
      have a0 := K.out.rd 3 rfl
      have f0 := K.out.fr 3 rfl
      refine skip_ (w1 := ?_) (by rfl) rfl ?_ ?_
      rotate_left
      · go_simp
        rfl
      refine hK.out _ _ ?_
      clear hK Kc
      refine done_ (done_of HT_.out (by kernel_rfl)) ?_
      have K1 := sat.setp 3 K.out (j := 4) (v := .slice h1 h2 h3) rfl
      simp only [List.set] at K1
      clear a0 f0 K hHeld HT_ HW_
      revert K1
      generalize World.setCell w1 _ _ = w9
      intro K1
      have K := Lib.hid K1
      clear K1
      go_wp2
      all_goals
        go_roundg gk'
        case measure => omega
        case rel =>
          have K1 := (K.out.pick 5 rfl).drop
          refine ⟨n + 1, by have := HN.out; omega, by simp, e1, e2, e3, h1, h2, h3, ?_⟩
          rw [← Nat.add_assoc, E1.out, E2.out]
          exact K1
    · have hnl : n = l1.length := by omega
      subst hnl
      have d0 : decide (l1.length < l1.length) = false := by simp
      clear hlt hn
      go_wp2
      have K1 := (((((((K.out.row_nil 40 7).pick 2 rfl).pick 2 rfl).pick 4 rfl).pick 4 rfl).pick 4 rfl).pick 5 rfl)
      rw [Nat.zero_add] at K1
      clear K a0 l0 a3 l3 H1
      have K := Lib.hid K1
      clear K1
      go_loopg [59] l2.length (fun gk i w' => joinRel W (l2.map makeM) ((l1 ++ l2).map makeM) l1.length gb gz [pt ga (.cells [.int .i64 3, .int .i64 2, .int .i64 0, .int .i64 3, .slice p1 n1' c1].toArray 30 (0, 0)), rowA (.slice p1 n1' c1) 40 7 l1.length (((l1.map makeM).take l1.length).flatMap moveC)] l2.length gk i w')
      case atStart => exact ⟨0, by simp, rfl, _, _, _, _, _, _, K.out⟩
      case round =>
        obtain ⟨n, hn, rfl, p1, n1', c1, p2, n2', c2, hs⟩ := hrel
        clear K
        have K := Lib.hid hs
        clear hs
        have a0 := K.out.rd 0 rfl
        have l0 := K.out.ltp 0 rfl
        have a3 := K.out.rd 3 rfl
        have l3 := K.out.ltp 3 rfl
        by_cases hlt : n < l2.length
        · have d0 : decide (n < l2.length) = true := by simpa using hlt
          obtain ⟨bw, off, rfl, hb, hx0⟩ := H2.out n hlt
          have hx : ∀ i u, (s33C l2[n])[i]? = some u → wr.cell? ⟨bw, off + n * 8 + i, none⟩ = some u := fun i u hi => (K.out.below.cell (p := ⟨bw, off + n * 8 + i, none⟩) hb).trans (hx0 i u hi)
          have y0 : wr.cell? ⟨bw, off + n * 8, none⟩ = _ := hx 0 _ rfl
          have y1 := hx 1 _ rfl
          have y2 := hx 2 _ rfl
          have y3 := hx 3 _ rfl
          have y4 := hx 4 _ rfl
          have y5 := hx 5 _ rfl
          have y6 := hx 6 _ rfl
          have y7 := hx 7 _ rfl
          have M := fun w => Lib.hid (make_calls l2[n] w)
          have E1 := Lib.hid (take_flat (l2.map makeM) n (by simpa using hlt))
          have E2 := Lib.hid (take_flat ((l1 ++ l2).map makeM) (l1.length + n) (by simp; omega))
          have E3 : ((l1 ++ l2).map makeM)[l1.length + n]'(by simp; omega) = makeM l2[n] := by rw [List.getElem_map]; congr 1; rw [List.getElem_append_right (by omega)]; congr 1; omega
          rw [List.getElem_map] at E1
          rw [E3] at E2
          clear hx hx0 E3
          generalize l2[n] = v at *
          generalize makeM v = mv at *
          obtain ⟨v0, v1, v2, v3, v4, v5, v6, v7⟩ := v
          obtain ⟨m0, m1, ⟨m2, m3, m4, m5⟩, m6⟩ := mv
          unfold moveC at M
          dsimp only at M y0 y1 y2 y3 y4 y5 y6 y7
          have HN := Lib.hid hn
          clear hn
          obtain ⟨gk', rfl⟩ : ∃ g', gk = g' + 1 := ⟨gk - 1, by have := HN.out; omega⟩
          go_wp2_with (first | ((with_reducible refine at_alloc ?_); refine st_alloc K.out (fun _ => rfl) ?_; intro gv w1 K1; simp only [List.cons_append, List.nil_append] at K1; have K2 := Lib.hid K1; clear K1 K; (try clear a0); (try clear l0); (try clear a1); (try clear l1); (try clear a2); (try clear l2); have K := K2; clear K2; have a0 := K.out.rd 0 rfl; have l0 := K.out.ltp 0 rfl; have a3 := K.out.rd 3 rfl; have l3 := K.out.ltp 3 rfl) | ((with_reducible refine at_store ?_); refine st_store 6 K.out rfl rfl rfl rfl ?_ ?_ ?_ ?_; (· kernel_rfl); (· simp); (· simp [Value.oneCell']); intro w1 K1; simp only [List.set, putL] at K1; have K2 := Lib.hid K1; clear K1 K; (try clear a0); (try clear l0); (try clear a1); (try clear l1); (try clear a2); (try clear l2); have K := K2; clear K2; have a0 := K.out.rd 0 rfl; have l0 := K.out.ltp 0 rfl; have a3 := K.out.rd 3 rfl; have l3 := K.out.ltp 3 rfl; have a6 := K.out.rd 6 rfl; have l6 := K.out.ltp 6 rfl))
          (try clear a6 l6)
          have a5 := K.out.rd 6 rfl
          have l5 := K.out.ltp 6 rfl
          simp only [Act.put, List.setIfInBounds_toArray, List.set_cons_zero, List.set_cons_succ]
          have KD := Lib.hid K.out.drew
          (try clear a0 l0); (try clear f0); (try clear a3 l3); (try clear f3); (try clear a5 l5)
          refine start_ (n := 8) (S := fun w' => (∀ j, w'.cell? ⟨gb, j, none⟩ = [Value.int .i64 3, Value.int .i64 2, Value.int .i64 0, Value.int .i64 3, Value.slice p1 n1' c1][j]?) ∧ ∀ j, w'.cell? ⟨gv, j, none⟩ = [Value.int .i64 v0, Value.int .i64 v1, Value.int .i64 v2, Value.int .i64 v3, Value.bool v4, Value.bool v5, Value.int .u64 v6, Value.int .i64 v7][j]?) (ds := [7]) #[false, false, false, false, false, false, false, false] (by kernel_rfl) rfl rfl ⟨KD.out.rd 0 rfl, KD.out.rd 6 rfl⟩ (fun hHeld => ?_)
          refine with_tabW rtab18 rbits18 (fun HT_ HW_ => ?_)
          clear K
          have K := KD
          clear KD
          refine pure_ (i := 0) (N := some 63) (v := ?_) (a' := ?_) #[true, false, false, false, false, false, false, false] rfl rfl (any_of HT_.out (by kernel_rfl)) (fun _ _ _ h => h) (Or.inl ⟨by rfl, ?_⟩) ?_ ?_
          rotate_left
          · intro w'
            go_simp
            with_reducible rfl
          rotate_left
          · simp only [Act.put, List.setIfInBounds_toArray, List.set_cons_zero, List.set_cons_succ, i64_w, i32_w]
            rfl
          refine take_ (i := 1) (N := some 64) (v := ?_) (a' := ?_) #[true, true, false, false, false, false, false, false] rfl rfl (take_ofW HT_.out HW_.out (by kernel_rfl)) (fun _ _ _ h => h) (Or.inl ⟨by rfl, ?_⟩) hHeld ?_ ?_
          rotate_left
          · rintro w' ⟨s0, s1⟩
            go_simp
            with_reducible rfl
          rotate_left
          · simp only [Act.put, List.setIfInBounds_toArray, List.set_cons_zero, List.set_cons_succ, i64_w, i32_w]
            rfl
          refine take_ (i := 2) (N := some 65) (v := ?_) (a' := ?_) #[true, true, true, false, false, false, false, false] rfl rfl (take_ofW HT_.out HW_.out (by kernel_rfl)) (fun _ _ _ h => h) (Or.inl ⟨by rfl, ?_⟩) hHeld ?_ ?_
          rotate_left
          · rintro w' ⟨s0, s1⟩
            go_simp
            with_reducible rfl
          rotate_left
          · simp only [Act.put, List.setIfInBounds_toArray, List.set_cons_zero, List.set_cons_succ, i64_w, i32_w]
            rfl
          refine one_ (i := 3) (N := some 66) #[true, true, true, true, false, false, false, false] rfl rfl (one_of HT_.out (by kernel_rfl)) (by decide) (fun Kc hK => ?_)
          refine goes_ Try.func12 (by kernel_rfl) rfl #[.agg #[Value.int .i64 v0, Value.int .i64 v1, Value.int .i64 v2, Value.int .i64 v3, Value.bool v4, Value.bool v5, Value.int .u64 v6, Value.int .i64 v7]] (by rfl) rfl rfl (by (try simp only [List.map_toArray, List.map_cons, List.map_nil]); first | done | rfl) ?_
          with_reducible refine (M _).out.mono ?_
          rintro e w1 ⟨rfl, hb'⟩
          refine ⟨_, rfl, ?_⟩
          have K1 := Lib.hid (sat.grown K.out hb')
          clear K hb' hHeld
          have K := K1
          clear K1
          refine hK.out _ _ ⟨K.out.rd 0 rfl, K.out.rd 6 rfl⟩ (fun hHeld => ?_)
          clear hK Kc
          refine norm_ (a' := ?_) ?_ ?_
          rotate_left
          · show Act.put _ (some 66) _ = _
            simp only [Act.put, List.setIfInBounds_toArray, List.set_cons_zero, List.set_cons_succ, i64_w, i32_w]
            rfl
          refine one_ (i := 4) (N := some 67) #[true, true, true, true, true, false, false, false] rfl rfl (one_of HT_.out (by kernel_rfl)) (by decide) (fun Kc hK => ?_)
          refine value_ (w1 := ?_) (v := ?_) (by rfl) rfl ?_ ?_
          rotate_left 2
          · go_simp
            constructor
            · rfl
            · rfl
          clear hHeld
          refine hK.out _ _ ⟨(K.out.alloc_any _).rd 0 rfl, (K.out.alloc_any _).rd 6 rfl⟩ (fun hHeld => ?_)
          clear hK Kc
          refine norm_ (a' := ?_) ?_ ?_
          rotate_left
          · show Act.put _ (some 67) _ = _
            simp only [Act.put, List.setIfInBounds_toArray, List.set_cons_zero, List.set_cons_succ, i64_w, i32_w]
            rfl
          refine one_ (i := 5) (N := some 68) #[true, true, true, true, true, true, false, false] rfl rfl (one_of HT_.out (by kernel_rfl)) (by decide) (fun Kc hK => ?_)
          refine rg_append 1 (by rfl) rfl 40 7 56 Try.underlying28 moveInfo (K.out.alloc_any _) rfl rfl rfl rfl (box1_at _ [Value.int .i64 m0, Value.int .i64 m1, Value.int .i64 m2, Value.int .i64 m3, Value.int .u64 m4, Value.int .i64 m5, Value.int .i64 m6] _) ?_ Nat.one_pos ?_ ?_ ?_
          · simp [Value.oneCell']
          · simp only [maxLen]; omega
          · omega
          intro e1 e2 e3 w1 K1
          simp only [List.set] at K1
          have K2 := Lib.hid K1
          clear K1 K hHeld
          have K := K2
          clear K2
          refine hK.out _ _ ⟨K.out.rd 0 rfl, K.out.rd 6 rfl⟩ (fun hHeld => ?_)
          clear hK Kc
          refine norm_ (a' := ?_) ?_ ?_
          rotate_left
          · show Act.put _ (some 68) _ = _
            simp only [Act.put, List.setIfInBounds_toArray, List.set_cons_zero, List.set_cons_succ, i64_w, i32_w]
            rfl
          refine pure_ (i := 6) (N := some 69) (v := ?_) (a' := ?_) #[true, true, true, true, true, true, true, false] rfl rfl (any_of HT_.out (by kernel_rfl)) (fun _ _ _ h => h) (Or.inl ⟨by rfl, ?_⟩) ?_ ?_
          rotate_left
          · intro w'
            go_simp
            with_reducible rfl
          rotate_left
          · simp only [Act.put, List.setIfInBounds_toArray, List.set_cons_zero, List.set_cons_succ, i64_w, i32_w]
            rfl
          refine last_ (i := 7) (N := none) #[true, true, true, true, true, true, true, true] rfl rfl (one_of HT_.out (by kernel_rfl)) (by decide) (fun Kc hK => ?_)
          have a0 := K.out.rd 0 rfl
          have f0 := K.out.fr 0 rfl
          refine skip_ (w1 := ?_) (by rfl) rfl ?_ ?_
          rotate_left
          · go_simp
            rfl
          refine hK.out _ _ ?_
          clear hK Kc
          refine done_ (done_of HT_.out (by kernel_rfl)) ?_
          have K1 := sat.setp 0 K.out (j := 4) (v := .slice e1 e2 e3) rfl
          simp only [List.set] at K1
          clear a0 f0 K hHeld HT_ HW_
          revert K1
          generalize World.setCell w1 _ _ = w9
          intro K1
          have K := Lib.hid K1
          clear K1
          go_wp2
          have KD := Lib.hid K.out.drew
          (try clear a0 l0); (try clear f0); (try clear a3 l3); (try clear f3); (try clear a5 l5)
          refine start_ (n := 8) (S := fun w' => (∀ j, w'.cell? ⟨gz, j, none⟩ = [Value.int .i64 3, Value.int .i64 2, Value.int .i64 0, Value.int .i64 3, Value.slice p2 n2' c2][j]?) ∧ ∀ j, w'.cell? ⟨gv, j, none⟩ = [Value.int .i64 v0, Value.int .i64 v1, Value.int .i64 v2, Value.int .i64 v3, Value.bool v4, Value.bool v5, Value.int .u64 v6, Value.int .i64 v7][j]?) (ds := [7]) #[false, false, false, false, false, false, false, false] (by kernel_rfl) rfl rfl ⟨KD.out.rd 3 rfl, KD.out.rd 6 rfl⟩ (fun hHeld => ?_)
          refine with_tabW rtab19 rbits19 (fun HT_ HW_ => ?_)
          clear K
          have K := KD
          clear KD
          refine pure_ (i := 0) (N := some 70) (v := ?_) (a' := ?_) #[true, false, false, false, false, false, false, false] rfl rfl (any_of HT_.out (by kernel_rfl)) (fun _ _ _ h => h) (Or.inl ⟨by rfl, ?_⟩) ?_ ?_
          rotate_left
          · intro w'
            go_simp
            with_reducible rfl
          rotate_left
          · simp only [Act.put, List.setIfInBounds_toArray, List.set_cons_zero, List.set_cons_succ, i64_w, i32_w]
            rfl
          refine take_ (i := 1) (N := some 71) (v := ?_) (a' := ?_) #[true, true, false, false, false, false, false, false] rfl rfl (take_ofW HT_.out HW_.out (by kernel_rfl)) (fun _ _ _ h => h) (Or.inl ⟨by rfl, ?_⟩) hHeld ?_ ?_
          rotate_left
          · rintro w' ⟨s0, s1⟩
            go_simp
            with_reducible rfl
          rotate_left
          · simp only [Act.put, List.setIfInBounds_toArray, List.set_cons_zero, List.set_cons_succ, i64_w, i32_w]
            rfl
          refine take_ (i := 2) (N := some 72) (v := ?_) (a' := ?_) #[true, true, true, false, false, false, false, false] rfl rfl (take_ofW HT_.out HW_.out (by kernel_rfl)) (fun _ _ _ h => h) (Or.inl ⟨by rfl, ?_⟩) hHeld ?_ ?_
          rotate_left
          · rintro w' ⟨s0, s1⟩
            go_simp
            with_reducible rfl
          rotate_left
          · simp only [Act.put, List.setIfInBounds_toArray, List.set_cons_zero, List.set_cons_succ, i64_w, i32_w]
            rfl
          refine one_ (i := 3) (N := some 73) #[true, true, true, true, false, false, false, false] rfl rfl (one_of HT_.out (by kernel_rfl)) (by decide) (fun Kc hK => ?_)
          refine goes_ Try.func12 (by kernel_rfl) rfl #[.agg #[Value.int .i64 v0, Value.int .i64 v1, Value.int .i64 v2, Value.int .i64 v3, Value.bool v4, Value.bool v5, Value.int .u64 v6, Value.int .i64 v7]] (by rfl) rfl rfl (by (try simp only [List.map_toArray, List.map_cons, List.map_nil]); first | done | rfl) ?_
          with_reducible refine (M _).out.mono ?_
          rintro e w1 ⟨rfl, hb'⟩
          refine ⟨_, rfl, ?_⟩
          have K1 := Lib.hid (sat.grown K.out hb')
          clear K hb' hHeld
          have K := K1
          clear K1
          refine hK.out _ _ ⟨K.out.rd 3 rfl, K.out.rd 6 rfl⟩ (fun hHeld => ?_)
          clear hK Kc
          refine norm_ (a' := ?_) ?_ ?_
          rotate_left
          · show Act.put _ (some 73) _ = _
            simp only [Act.put, List.setIfInBounds_toArray, List.set_cons_zero, List.set_cons_succ, i64_w, i32_w]
            rfl
          refine one_ (i := 4) (N := some 74) #[true, true, true, true, true, false, false, false] rfl rfl (one_of HT_.out (by kernel_rfl)) (by decide) (fun Kc hK => ?_)
          refine value_ (w1 := ?_) (v := ?_) (by rfl) rfl ?_ ?_
          rotate_left 2
          · go_simp
            constructor
            · rfl
            · rfl
          clear hHeld
          refine hK.out _ _ ⟨(K.out.alloc_any _).rd 3 rfl, (K.out.alloc_any _).rd 6 rfl⟩ (fun hHeld => ?_)
          clear hK Kc
          refine norm_ (a' := ?_) ?_ ?_
          rotate_left
          · show Act.put _ (some 74) _ = _
            simp only [Act.put, List.setIfInBounds_toArray, List.set_cons_zero, List.set_cons_succ, i64_w, i32_w]
            rfl
          refine one_ (i := 5) (N := some 75) #[true, true, true, true, true, true, false, false] rfl rfl (one_of HT_.out (by kernel_rfl)) (by decide) (fun Kc hK => ?_)
          refine rg_append 2 (by rfl) rfl 40 7 56 Try.underlying28 moveInfo (K.out.alloc_any _) rfl rfl rfl rfl (box1_at _ [Value.int .i64 m0, Value.int .i64 m1, Value.int .i64 m2, Value.int .i64 m3, Value.int .u64 m4, Value.int .i64 m5, Value.int .i64 m6] _) ?_ Nat.one_pos ?_ ?_ ?_
          · simp [Value.oneCell']
          · simp only [maxLen]; omega
          · omega
          intro h1 h2 h3 w1 K1
          simp only [List.set] at K1
          have K2 := Lib.hid K1
          clear K1 K hHeld
          have K := K2
          clear K2
          refine hK.out _ _ ⟨K.out.rd 3 rfl, K.out.rd 6 rfl⟩ (fun hHeld => ?_)
          clear hK Kc
          refine norm_ (a' := ?_) ?_ ?_
          rotate_left
          · show Act.put _ (some 75) _ = _
            simp only [Act.put, List.setIfInBounds_toArray, List.set_cons_zero, List.set_cons_succ, i64_w, i32_w]
            rfl
          refine pure_ (i := 6) (N := some 76) (v := ?_) (a' := ?_) #[true, true, true, true, true, true, true, false] rfl rfl (any_of HT_.out (by kernel_rfl)) (fun _ _ _ h => h) (Or.inl ⟨by rfl, ?_⟩) ?_ ?_
          rotate_left
          · intro w'
            go_simp
            with_reducible rfl
          rotate_left
          · simp only [Act.put, List.setIfInBounds_toArray, List.set_cons_zero, List.set_cons_succ, i64_w, i32_w]
            rfl
          refine last_ (i := 7) (N := none) #[true, true, true, true, true, true, true, true] rfl rfl (one_of HT_.out (by kernel_rfl)) (by decide) (fun Kc hK => ?_)
          have a0 := K.out.rd 3 rfl
          have f0 := K.out.fr 3 rfl
          refine skip_ (w1 := ?_) (by rfl) rfl ?_ ?_
          rotate_left
          · go_simp
            rfl
          refine hK.out _ _ ?_
          clear hK Kc
          refine done_ (done_of HT_.out (by kernel_rfl)) ?_
          have K1 := sat.setp 3 K.out (j := 4) (v := .slice h1 h2 h3) rfl
          simp only [List.set] at K1
          clear a0 f0 K hHeld HT_ HW_
          revert K1
          generalize World.setCell w1 _ _ = w9
          intro K1
          have K := Lib.hid K1
          clear K1
          go_wp2
          all_goals
            go_roundg gk'
            case measure => omega
            case rel =>
              have K1 := (K.out.pick 6 rfl).drop
              refine ⟨n + 1, by have := HN.out; omega, by simp, e1, e2, e3, h1, h2, h3, ?_⟩
              rw [← Nat.add_assoc, E1.out, E2.out]
              exact K1
        · have hnl : n = l2.length := by omega
          subst hnl
          have d0 : decide (l2.length < l2.length) = false := by simp
          clear hlt hn
          have K1 := K.out
          rw [List.take_of_length_le (l := l2.map makeM) (by simp), List.take_of_length_le (l := (l1 ++ l2).map makeM) (by simp), List.take_of_length_le (l := l1.map makeM) (by simp)] at K1
          have z1 : l1.length = (l1.map makeM).length := by simp
          have z2 : l2.length = (l2.map makeM).length := by simp
          have z3 : l1.length + l2.length = ((l1 ++ l2).map makeM).length := by simp
          rw [z3] at K1
          rw [z2] at K1
          rw [z1] at K1
          clear K
          have K := Lib.hid K1
          clear K1
          have a0 := K.out.rd 0 rfl
          have l0 := K.out.ltp 0 rfl
          have a3 := K.out.rd 3 rfl
          have l3 := K.out.ltp 3 rfl
          have a4 := K.out.rd 4 rfl
          have l4 := K.out.ltp 4 rfl
          have EA := fun w' (A : Option Addr) (cc : Nat) hr hc => Lib.hid (PCodeCuts.code_Encode.calls ((l1.map makeM).length + 20) 3 2 0 3 A cc (l1.map makeM) (encM 3 2 0 3 (l1.map makeM)).1 (encM 3 2 0 3 (l1.map makeM)).2 w' hr hc (enc_f2 (l1.map makeM) (by simp; omega)))
          have EB := fun w' (A : Option Addr) (cc : Nat) hr hc => Lib.hid (PCodeCuts.code_Encode.calls ((l2.map makeM).length + 20) 3 2 0 3 A cc (l2.map makeM) (encM 3 2 0 3 (l2.map makeM)).1 (encM 3 2 0 3 (l2.map makeM)).2 w' hr hc (enc_f2 (l2.map makeM) (by simp; omega)))
          have EZ := fun w' (A : Option Addr) (cc : Nat) hr hc => Lib.hid (PCodeCuts.code_Encode.calls (((l1 ++ l2).map makeM).length + 20) 3 2 0 3 A cc ((l1 ++ l2).map makeM) (encM 3 2 0 3 ((l1 ++ l2).map makeM)).1 (encM 3 2 0 3 ((l1 ++ l2).map makeM)).2 w' hr hc (enc_f2 ((l1 ++ l2).map makeM) (by simp; omega)))
          have hX := enc_ok (l1.map makeM) (by simp; omega)
          have hY := enc_ok (l2.map makeM) (by simp; omega)
          have hZ := enc_ok ((l1 ++ l2).map makeM) (by simp; omega)
          have mz : (l1 ++ l2).map makeM = l1.map makeM ++ l2.map makeM := by simp
          have hap : allR ((l1 ++ l2).map makeM) = (allR (l1.map makeM) && allR (l2.map makeM)) := by rw [mz]; simp [allR]
          have hmp : movesB ((l1 ++ l2).map makeM) = movesB (l1.map makeM) ++ movesB (l2.map makeM) := by rw [mz]; simp [movesB]
          rw [hap, hmp] at hZ
          have g1' : (l1.map makeM).length ≤ 40 := by simp; omega
          have g2' : (l2.map makeM).length ≤ 40 := by simp; omega
          have g3' : ((l1 ++ l2).map makeM).length ≤ 80 := by simp; omega
          have b1 := movesB_len (l1.map makeM)
          have b2 := movesB_len (l2.map makeM)
          obtain ⟨n1e, -⟩ := row_len (sat.pick 5 K.out rfl)
          obtain ⟨n2e, -⟩ := row_len (sat.pick 1 K.out rfl)
          obtain ⟨n3e, -⟩ := row_len (sat.pick 2 K.out rfl)
          subst n1e n2e n3e
          clear z1 z2 z3 hap hmp mz
          generalize (l1 ++ l2).map makeM = mz at *
          generalize l1.map makeM = mx at *
          generalize l2.map makeM = my at *
          generalize movesB mx = bx at *
          generalize movesB my = bY at *
          cases ha : allR mx <;> cases hb : allR my
          · rw [ha] at hX
            rw [hb] at hY
            rw [ha, hb] at hZ
            simp only [Bool.and_self, Bool.and_true, Bool.and_false, Bool.true_and, Bool.false_and, if_true, Bool.false_eq_true, if_false] at hX hY hZ
            simp only [hX] at EA
            simp only [hY] at EB
            simp only [hZ] at EZ
            clear hX hY hZ b1 b2 ha hb
            go_wp2_with (first | (go_at_call 13; (with_reducible refine (EA _ _ _ (moves_reads (sat.pick 5 K.out rfl) (by omega)).2.2 (moves_reads (sat.pick 5 K.out rfl) (by omega)).2.1).out.mono ?_); rintro e w1 ⟨v0, rfl, hr, hb⟩; have K1 := take_bytes K.out hb hr; clear hr hb; obtain ⟨gx, kx, rfl⟩ := row_any K1; have K2 := Lib.hid K1; clear K1 K a0 l0 a3 l3 a4 l4; have K := K2; clear K2; have a0 := K.out.rd 1 rfl; have l0 := K.out.ltp 1 rfl; have a3 := K.out.rd 4 rfl; have l3 := K.out.ltp 4 rfl; have a4 := K.out.rd 5 rfl; have l4 := K.out.ltp 5 rfl) | (go_at_call 13; (with_reducible refine (EB _ _ _ (moves_reads (sat.pick 2 K.out rfl) (by omega)).2.2 (moves_reads (sat.pick 2 K.out rfl) (by omega)).2.1).out.mono ?_); rintro e w1 ⟨v0, rfl, hr, hb⟩; have K1 := take_bytes K.out hb hr; clear hr hb; obtain ⟨gy, ky, rfl⟩ := row_any K1; have K2 := Lib.hid K1; clear K1 K a0 l0 a3 l3 a4 l4; have K := K2; clear K2; have a0 := K.out.rd 2 rfl; have l0 := K.out.ltp 2 rfl; have a3 := K.out.rd 5 rfl; have l3 := K.out.ltp 5 rfl; have a4 := K.out.rd 6 rfl; have l4 := K.out.ltp 6 rfl) | (go_at_call 13; (with_reducible refine (EZ _ _ _ (moves_reads (sat.pick 4 K.out rfl) (by omega)).2.2 (moves_reads (sat.pick 4 K.out rfl) (by omega)).2.1).out.mono ?_); rintro e w1 ⟨v0, rfl, hr, hb⟩; have K1 := take_bytes K.out hb hr; clear hr hb; obtain ⟨gz, kz, rfl⟩ := row_any K1; have K2 := Lib.hid K1; clear K1 K a0 l0 a3 l3 a4 l4; have K := K2; clear K2; have a0 := K.out.rd 3 rfl; have l0 := K.out.ltp 3 rfl; have a3 := K.out.rd 6 rfl; have l3 := K.out.ltp 6 rfl; have a4 := K.out.rd 7 rfl; have l4 := K.out.ltp 7 rfl))
            go_ret
            exact ⟨rfl, K.out.below⟩
          · rw [ha] at hX
            rw [hb] at hY
            rw [ha, hb] at hZ
            simp only [Bool.and_self, Bool.and_true, Bool.and_false, Bool.true_and, Bool.false_and, if_true, Bool.false_eq_true, if_false] at hX hY hZ
            simp only [hX] at EA
            simp only [hY] at EB
            simp only [hZ] at EZ
            generalize hYe : ([3, 2, 0, 3] : List Int) ++ bY = Y at *
            have yl : 4 ≤ Y.length ∧ Y.length ≤ 100000 := by rw [← hYe]; simp; omega
            clear hX hY hZ b1 b2 ha hb
            go_wp2_with (first | (go_at_call 13; (with_reducible refine (EA _ _ _ (moves_reads (sat.pick 5 K.out rfl) (by omega)).2.2 (moves_reads (sat.pick 5 K.out rfl) (by omega)).2.1).out.mono ?_); rintro e w1 ⟨v0, rfl, hr, hb⟩; have K1 := take_bytes K.out hb hr; clear hr hb; obtain ⟨gx, kx, rfl⟩ := row_any K1; have K2 := Lib.hid K1; clear K1 K a0 l0 a3 l3 a4 l4; have K := K2; clear K2; have a0 := K.out.rd 1 rfl; have l0 := K.out.ltp 1 rfl; have a3 := K.out.rd 4 rfl; have l3 := K.out.ltp 4 rfl; have a4 := K.out.rd 5 rfl; have l4 := K.out.ltp 5 rfl) | (go_at_call 13; (with_reducible refine (EB _ _ _ (moves_reads (sat.pick 2 K.out rfl) (by omega)).2.2 (moves_reads (sat.pick 2 K.out rfl) (by omega)).2.1).out.mono ?_); rintro e w1 ⟨v0, rfl, hr, hb⟩; have K1 := take_bytes K.out hb hr; clear hr hb; obtain ⟨gy, ky, rfl⟩ := row_pos K1 (by omega); have K2 := Lib.hid K1; clear K1 K a0 l0 a3 l3 a4 l4; have K := K2; clear K2; have a0 := K.out.rd 2 rfl; have l0 := K.out.ltp 2 rfl; have a3 := K.out.rd 5 rfl; have l3 := K.out.ltp 5 rfl; have a4 := K.out.rd 6 rfl; have l4 := K.out.ltp 6 rfl) | (go_at_call 13; (with_reducible refine (EZ _ _ _ (moves_reads (sat.pick 4 K.out rfl) (by omega)).2.2 (moves_reads (sat.pick 4 K.out rfl) (by omega)).2.1).out.mono ?_); rintro e w1 ⟨v0, rfl, hr, hb⟩; have K1 := take_bytes K.out hb hr; clear hr hb; obtain ⟨gz, kz, rfl⟩ := row_any K1; have K2 := Lib.hid K1; clear K1 K a0 l0 a3 l3 a4 l4; have K := K2; clear K2; have a0 := K.out.rd 3 rfl; have l0 := K.out.ltp 3 rfl; have a3 := K.out.rd 6 rfl; have l3 := K.out.ltp 6 rfl; have a4 := K.out.rd 7 rfl; have l4 := K.out.ltp 7 rfl))
            go_ret
            exact ⟨rfl, K.out.below⟩
          · rw [ha] at hX
            rw [hb] at hY
            rw [ha, hb] at hZ
            simp only [Bool.and_self, Bool.and_true, Bool.and_false, Bool.true_and, Bool.false_and, if_true, Bool.false_eq_true, if_false] at hX hY hZ
            simp only [hX] at EA
            simp only [hY] at EB
            simp only [hZ] at EZ
            generalize hXe : ([3, 2, 0, 3] : List Int) ++ bx = X at *
            have xl : 4 ≤ X.length ∧ X.length ≤ 100000 := by rw [← hXe]; simp; omega
            clear hX hY hZ b1 b2 ha hb
            go_wp2_with (first | (go_at_call 13; (with_reducible refine (EA _ _ _ (moves_reads (sat.pick 5 K.out rfl) (by omega)).2.2 (moves_reads (sat.pick 5 K.out rfl) (by omega)).2.1).out.mono ?_); rintro e w1 ⟨v0, rfl, hr, hb⟩; have K1 := take_bytes K.out hb hr; clear hr hb; obtain ⟨gx, kx, rfl⟩ := row_pos K1 (by omega); have K2 := Lib.hid K1; clear K1 K a0 l0 a3 l3 a4 l4; have K := K2; clear K2; have a0 := K.out.rd 1 rfl; have l0 := K.out.ltp 1 rfl; have a3 := K.out.rd 4 rfl; have l3 := K.out.ltp 4 rfl; have a4 := K.out.rd 5 rfl; have l4 := K.out.ltp 5 rfl) | (go_at_call 13; (with_reducible refine (EB _ _ _ (moves_reads (sat.pick 2 K.out rfl) (by omega)).2.2 (moves_reads (sat.pick 2 K.out rfl) (by omega)).2.1).out.mono ?_); rintro e w1 ⟨v0, rfl, hr, hb⟩; have K1 := take_bytes K.out hb hr; clear hr hb; obtain ⟨gy, ky, rfl⟩ := row_any K1; have K2 := Lib.hid K1; clear K1 K a0 l0 a3 l3 a4 l4; have K := K2; clear K2; have a0 := K.out.rd 2 rfl; have l0 := K.out.ltp 2 rfl; have a3 := K.out.rd 5 rfl; have l3 := K.out.ltp 5 rfl; have a4 := K.out.rd 6 rfl; have l4 := K.out.ltp 6 rfl) | (go_at_call 13; (with_reducible refine (EZ _ _ _ (moves_reads (sat.pick 4 K.out rfl) (by omega)).2.2 (moves_reads (sat.pick 4 K.out rfl) (by omega)).2.1).out.mono ?_); rintro e w1 ⟨v0, rfl, hr, hb⟩; have K1 := take_bytes K.out hb hr; clear hr hb; obtain ⟨gz, kz, rfl⟩ := row_any K1; have K2 := Lib.hid K1; clear K1 K a0 l0 a3 l3 a4 l4; have K := K2; clear K2; have a0 := K.out.rd 3 rfl; have l0 := K.out.ltp 3 rfl; have a3 := K.out.rd 6 rfl; have l3 := K.out.ltp 6 rfl; have a4 := K.out.rd 7 rfl; have l4 := K.out.ltp 7 rfl))
            go_ret
            exact ⟨rfl, K.out.below⟩
          · rw [ha] at hX
            rw [hb] at hY
            rw [ha, hb] at hZ
            simp only [Bool.and_self, Bool.and_true, Bool.and_false, Bool.true_and, Bool.false_and, if_true, Bool.false_eq_true, if_false] at hX hY hZ
            simp only [hX] at EA
            simp only [hY] at EB
            simp only [hZ] at EZ
            generalize hXe : ([3, 2, 0, 3] : List Int) ++ bx = X at *
            have xl : 4 ≤ X.length ∧ X.length ≤ 100000 := by rw [← hXe]; simp; omega
            generalize hYe : ([3, 2, 0, 3] : List Int) ++ bY = Y at *
            have yl : 4 ≤ Y.length ∧ Y.length ≤ 100000 := by rw [← hYe]; simp; omega
            generalize hZe : ([3, 2, 0, 3] : List Int) ++ (bx ++ bY) = Z at *
            have zl : 4 ≤ Z.length ∧ Z.length ≤ 200000 := by rw [← hZe]; simp; omega
            have hzz : Z = X ++ Y.drop 4 := by rw [← hZe, ← hXe, ← hYe]; simp
            have SM := fun w' (A : Option Addr) (c' : Nat) (A' : Option Addr) (c'' n' : Nat) (hn' : n' = (X ++ Y.drop 4).length) hr hc hr' hc' => Lib.hid (show Calls Try.prog 14 #[.slice A Z.length c', .slice A' n' c''] w' (fun e w'' => e = .returned (.bool true) ∧ Drawn0 w' w'') from by
              have h2 := PCodeCuts.stackyardlaw18_same.calls A c' Z A' c'' (X ++ Y.drop 4) true w' hr hc hr' hc' (by unfold PCodeCuts.stackyardlaw18_same.f; rw [← hzz]; simp)
              rw [← hn'] at h2
              exact h2)
            have y4 : decide ((Y.length : Int) ≥ 4) = true := by simp; omega
            have y5 : decide ((4 : Int) ≤ (Y.length : Int)) = true := by simp; omega
            have y6 : decide (4 ≤ Y.length) = true := by simp; omega
            have y7 : 4 ≤ Y.length := yl.1
            have y8 : (4 : Int) ≤ (Y.length : Int) := by omega
            clear hXe hYe hZe hzz
            clear hX hY hZ b1 b2 ha hb
            go_wp2_with (first | (go_at_call 13; (with_reducible refine (EA _ _ _ (moves_reads (sat.pick 5 K.out rfl) (by omega)).2.2 (moves_reads (sat.pick 5 K.out rfl) (by omega)).2.1).out.mono ?_); rintro e w1 ⟨v0, rfl, hr, hb⟩; have K1 := take_bytes K.out hb hr; clear hr hb; obtain ⟨gx, kx, rfl⟩ := row_pos K1 (by omega); have K2 := Lib.hid K1; clear K1 K a0 l0 a3 l3 a4 l4; have K := K2; clear K2; have a0 := K.out.rd 1 rfl; have l0 := K.out.ltp 1 rfl; have a3 := K.out.rd 4 rfl; have l3 := K.out.ltp 4 rfl; have a4 := K.out.rd 5 rfl; have l4 := K.out.ltp 5 rfl) | (go_at_call 13; (with_reducible refine (EB _ _ _ (moves_reads (sat.pick 2 K.out rfl) (by omega)).2.2 (moves_reads (sat.pick 2 K.out rfl) (by omega)).2.1).out.mono ?_); rintro e w1 ⟨v0, rfl, hr, hb⟩; have K1 := take_bytes K.out hb hr; clear hr hb; obtain ⟨gy, ky, rfl⟩ := row_pos K1 (by omega); have K2 := Lib.hid K1; clear K1 K a0 l0 a3 l3 a4 l4; have K := K2; clear K2; have a0 := K.out.rd 2 rfl; have l0 := K.out.ltp 2 rfl; have a3 := K.out.rd 5 rfl; have l3 := K.out.ltp 5 rfl; have a4 := K.out.rd 6 rfl; have l4 := K.out.ltp 6 rfl) | (go_at_call 13; (with_reducible refine (EZ _ _ _ (moves_reads (sat.pick 4 K.out rfl) (by omega)).2.2 (moves_reads (sat.pick 4 K.out rfl) (by omega)).2.1).out.mono ?_); rintro e w1 ⟨v0, rfl, hr, hb⟩; have K1 := take_bytes K.out hb hr; clear hr hb; obtain ⟨gz, kz, rfl⟩ := row_pos K1 (by omega); have K2 := Lib.hid K1; clear K1 K a0 l0 a3 l3 a4 l4; have K := K2; clear K2; have a0 := K.out.rd 3 rfl; have l0 := K.out.ltp 3 rfl; have a3 := K.out.rd 6 rfl; have l3 := K.out.ltp 6 rfl; have a4 := K.out.rd 7 rfl; have l4 := K.out.ltp 7 rfl))
            go_region_held3 (fun w' => True) (trivial) (first | ((fail_if_success (have _hp := p6)); have KE := (sat.row_empty (e := 5) (size := 1) K.out).drew; refine rg_append_part 0 (by rfl) rfl 5 1 1 Try.underlying42 byteInfo KE rfl rfl (news := X.flatMap byteC) rfl ?_ ?_ ?_ ?_ ?_ ?_; (· rw [fb]; simp); (· intro _; refine ⟨gx, 0, rfl, fun j u hj => ?_⟩; rw [Nat.zero_add]; exact KE.row_rd 3 rfl j u hj); (· exact byte_one _); (· simp only [maxLen]; omega); (· omega); intro p6 n6 c6 w1 K1; simp only [List.set] at K1; have K2 := Lib.hid K1; clear K1 K KE; have K := K2; clear K2) | (have _hp := p6; refine rg_append_part 0 (by rfl) rfl 5 1 1 Try.underlying42 byteInfo K.out rfl rfl (news := (Y.drop 4).flatMap byteC) rfl ?_ ?_ ?_ ?_ ?_ ?_; (· rw [fb]; simp); (· intro h0; have hq := (row_cap (sat.pick 2 K.out rfl)).1; refine ⟨gy, 4, if_neg (by omega), fun j u hj => ?_⟩; exact K.out.row_rd 2 rfl (4 + j) u (drop_byte hj)); (· exact byte_one _); (· simp only [maxLen]; omega); (· omega); intro p7 n7 c7 w1 K1; simp only [List.set] at K1; rw [List.nil_append, ← List.flatMap_append, show 0 + X.length + (Y.length - 4) = (X ++ Y.drop 4).length by simp] at K1; have K2 := Lib.hid K1; clear K1 K _hp; have K := K2; clear K2) | (have _hp := p6; refine rg_append_part 0 (by rfl) rfl 5 1 1 Try.underlying42 byteInfo K.out.drew rfl rfl (news := (Y.drop 4).flatMap byteC) rfl ?_ ?_ ?_ ?_ ?_ ?_; (· rw [fb]; simp); (· intro h0; have hq := (row_cap (sat.pick 2 K.out rfl)).1; refine ⟨gy, 4, if_neg (by omega), fun j u hj => ?_⟩; exact K.out.drew.row_rd 2 rfl (4 + j) u (drop_byte hj)); (· exact byte_one _); (· simp only [maxLen]; omega); (· omega); intro p7 n7 c7 w1 K1; simp only [List.set] at K1; rw [List.nil_append, ← List.flatMap_append, show 0 + X.length + (Y.length - 4) = (X ++ Y.drop 4).length by simp] at K1; have K2 := Lib.hid K1; clear K1 K _hp; have K := K2; clear K2) | (go_at_call 14; (with_reducible refine (SM _ _ _ _ _ _ (by first | exact (row_len K.out).1 | (have := (row_len K.out).1; simp at *; omega)) (bytes_reads (sat.pick 1 K.out rfl) (by omega)).2.2 (bytes_reads (sat.pick 1 K.out rfl) (by omega)).2.1 (bytes_reads K.out (by simp; omega)).2.2 (bytes_reads K.out (by simp; omega)).2.1).out.mono ?_); rintro e w1 ⟨rfl, hdr⟩; have hdb := Lib.hid hdr.below; clear hdr; dsimp only) | (go_at_call 14; (with_reducible refine (SM _ _ _ _ _ _ (by first | exact (row_len K.out).1 | (have := (row_len K.out).1; simp at *; omega)) (bytes_reads (sat.pick 1 K.out.drew rfl) (by omega)).2.2 (bytes_reads (sat.pick 1 K.out.drew rfl) (by omega)).2.1 (bytes_reads K.out.drew (by simp; omega)).2.2 (bytes_reads K.out.drew (by simp; omega)).2.1).out.mono ?_); rintro e w1 ⟨rfl, hdr⟩; have hdb := Lib.hid hdr.below; clear hdr; dsimp only))
            all_goals go_wp2
            all_goals go_ret
            all_goals exact ⟨rfl, K.out.below.trans (hdb.out.mono K.out.size)⟩
theorem oldV_of {W : World} {a : Option Addr} {len cap : Nat} {rows : List (List Value)} (h : RowsAt W [.int .i64, .int .i64, .int .i64, .int .i64, .bool, .bool, .int .u64, .int .i64] a len cap rows) :
    ∃ l : List S33, l.length = len ∧ (∀ v ∈ l, 0 ≤ v.f6 ∧ v.f6 < 18446744073709551616) ∧ OldV W a l := by
  have hk : ∀ r ∈ rows, ∃ v : S33, r = s33C v ∧ 0 ≤ v.f6 ∧ v.f6 < 18446744073709551616 := fun r hr => by
    obtain ⟨n0, w0, rfl, _, k0⟩ := okAll_int (h.ok r hr)
    obtain ⟨n1, w1, rfl, _, k1⟩ := okAll_int k0
    obtain ⟨n2, w2, rfl, _, k2⟩ := okAll_int k1
    obtain ⟨n3, w3, rfl, _, k3⟩ := okAll_int k2
    obtain ⟨n4, w4, rfl, k4⟩ := okAll_bool k3
    obtain ⟨n5, w5, rfl, k5⟩ := okAll_bool k4
    obtain ⟨n6, w6, rfl, hw, k6⟩ := okAll_int k5
    obtain ⟨n7, w7, rfl, _, k7⟩ := okAll_int k6
    obtain rfl := okAll_nil k7
    refine ⟨⟨n0, n1, n2, n3, n4, n5, n6, n7⟩, rfl, ?_⟩
    simp only [Lit.wf, Bool.and_eq_true, decide_eq_true_eq] at hw
    have e1 : IntKind.u64.min = 0 := by decide
    have e2 : IntKind.u64.max = 18446744073709551615 := by decide
    dsimp only
    omega
  have hw : ∃ l : List S33, rows = l.map s33C ∧ ∀ v ∈ l, 0 ≤ v.f6 ∧ v.f6 < 18446744073709551616 := by
    have key : ∀ rs : List (List Value), (∀ r ∈ rs, ∃ v : S33, r = s33C v ∧ 0 ≤ v.f6 ∧ v.f6 < 18446744073709551616) → ∃ l : List S33, rs = l.map s33C ∧ ∀ v ∈ l, 0 ≤ v.f6 ∧ v.f6 < 18446744073709551616 := by
      intro rs
      induction rs with
      | nil => exact fun _ => ⟨[], rfl, by simp⟩
      | cons r rs ih =>
        intro hr
        obtain ⟨v, rfl, hn⟩ := hr r List.mem_cons_self
        obtain ⟨ws, rfl, hws⟩ := ih (fun r h => hr r (List.mem_cons_of_mem _ h))
        refine ⟨v :: ws, rfl, fun x hx => ?_⟩
        rcases List.mem_cons.1 hx with rfl | hx
        · exact hn
        · exact hws x hx
    exact key rows hk
  obtain ⟨l, rfl, hwf⟩ := hw
  have hlen : l.length = len := by simpa using h.length
  refine ⟨l, hlen, hwf, fun j hj => ?_⟩
  cases a with
  | none => have := h.nil rfl; omega
  | some x =>
    have hc : ∀ i, (hi : i < l.length) → ∀ k u, (s33C l[i])[k]? = some u → W.cell? (x.add (i * 8 + k)) = some u := fun i hi k u hu =>
      h.cell x rfl i k u (s33C l[i]) (by rw [List.getElem?_map, List.getElem?_eq_getElem hi]; rfl) hu
    have h0 := hc 0 (by omega) 0 _ rfl
    have hs : x.spot = none := World.cell?_spot (by simpa [Addr.add] using h0)
    obtain ⟨b, o, sp⟩ := x
    simp only at hs
    subst hs
    have hj' := hc j hj
    refine ⟨b, o, rfl, ?_, fun i u hi => ?_⟩
    · have hj0 := hj' 0 _ rfl
      rw [Addr.add_lit] at hj0
      rcases Nat.lt_or_ge b W.heap.size with h | h
      · exact h
      · simp [World.cell?, Array.getElem?_eq_none h] at hj0
    · have := hj' i u hi
      rw [Addr.add_lit] at this
      rw [Nat.add_assoc]
      exact this
theorem codeJoins_calls (W : World) (a : Option Addr) (len cap : Nat) (rows : List (List Value)) (h : RowsAt W [.int .i64, .int .i64, .int .i64, .int .i64, .bool, .bool, .int .u64, .int .i64] a len cap rows)
    (b : Option Addr) (len2 cap2 : Nat) (rows2 : List (List Value)) (h2 : RowsAt W [.int .i64, .int .i64, .int .i64, .int .i64, .bool, .bool, .int .u64, .int .i64] b len2 cap2 rows2) :
    Calls Try.prog 3 #[.slice a len cap, .slice b len2 cap2] W fun e W' => e = .returned (.bool true) ∧ Below W.heap.size W W' := by
  obtain ⟨l1, rfl, -, hc⟩ := oldV_of h
  obtain ⟨l2, rfl, -, hd⟩ := oldV_of h2
  have HD : ∀ w, Tells 10 #[] w (.bool true) := fun w => PCodeCuts.stackyardlaw18_head.calls 40 true w (by kernel_rfl)
  have T1 := fun w => Lib.hid (HD w)
  have K := Lib.hid (sat.start W)
  by_cases n1 : l1.length ≤ 40
  · by_cases n2 : l2.length ≤ 40
    · exact joins_calls W a b l1 l2 cap cap2 hc hd n1 n2
    · have t1 : decide ((l1.length : Int) > 40) = false := by simp; omega
      have t2 : decide ((l2.length : Int) > 40) = true := by simp; omega
      clear HD hc hd h h2
      go_enter Try.func3, Try.ntmps3
      go_wp2_with (first | (go_at_call 10; (with_reducible refine ((T1 _).out).mono ?_); rintro e w1 ⟨rfl, hb⟩; have K1 := sat.grown (by repeat (first | exact K.out | apply sat.alloc_any | apply sat.drew | apply sat.drewN)) hb; clear hb; have K2 := Lib.hid K1; clear K1 K; (try clear a0); (try clear l0); (try clear a1); (try clear l1); (try clear a2); (try clear l2); have K := K2; clear K2))
      go_ret
      exact ⟨rfl, K.out.below⟩
  · have t1 : decide ((l1.length : Int) > 40) = true := by simp; omega
    clear HD hc hd h h2
    go_enter Try.func3, Try.ntmps3
    go_wp2_with (first | (go_at_call 10; (with_reducible refine ((T1 _).out).mono ?_); rintro e w1 ⟨rfl, hb⟩; have K1 := sat.grown (by repeat (first | exact K.out | apply sat.alloc_any | apply sat.drew | apply sat.drewN)) hb; clear hb; have K2 := Lib.hid K1; clear K1 K; (try clear a0); (try clear l0); (try clear a1); (try clear l1); (try clear a2); (try clear l2); have K := K2; clear K2))
    go_ret
    exact ⟨rfl, K.out.below⟩
end Go.Proofs.Ytiladkalijonbaa
