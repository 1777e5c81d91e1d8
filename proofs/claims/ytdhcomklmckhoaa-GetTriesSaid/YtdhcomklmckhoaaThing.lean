/- Things in places, as the statements of get make them (Thing.Word, Cells, words, end). Conditions: a Right layout; the things lie in memory as told. -/
import Derived.Test.YtdhcomklmckhoaaGetS
import Derived.Test.YtdhcomklmckhoaaMemN
namespace Go.Proofs.Ytdhcomklmckhoaa
open Go.RowKit Go.SepYtdhcomklmckhoaa
set_option linter.unusedSimpArgs false
set_option linter.unusedVariables false
set_option maxRecDepth 100000
set_option maxHeartbeats 1000000
structure ThingM where
  state : Int
  gen : Int
  at_ : Int
  wide : Int
  right : Bool
  value : Int
  deriving DecidableEq
def endM (b : Bool) : Int := if b = true then 1 else 0
def ThingM.word (t : ThingM) : WordM := ⟨t.state % 18446744073709551616 % 3, endM t.right, 1 + t.gen % 8, ⟨t.at_ % 16, t.at_ % 16 + t.wide % 4⟩⟩
abbrev ThingM.v (t : ThingM) : List Value := [.int .i64 t.state, .int .i64 t.gen, .int .i64 t.at_, .int .i64 t.wide, .bool t.right, .int .u64 t.value]
def ThingM.wf (t : ThingM) : Prop := 0 ≤ t.value ∧ t.value < 18446744073709551616
def thing0 : ThingM := ⟨0, 0, 0, 0, false, 0⟩
/-- Cells with the first n things in their places. -/
def cellsN (c : ConfM) (l : List ThingM) : Nat → MemM
  | 0 => MemM.new c.cells.toNat
  | n + 1 => ((cellsN c l n).touch (-1) 1 n 0 (l.getD n thing0).word.pack).touch (-1) 1 (c.value n) 0 (l.getD n thing0).value
def cellsM (c : ConfM) (l : List ThingM) : MemM := cellsN c l (min c.all.toNat l.length)
def wordsM (c : ConfM) (m : MemM) : List Int := (List.range c.all.toNat).map (fun (i : Nat) => m.peek (i : Int))
theorem cellsN_log (c : ConfM) (l : List ThingM) : ∀ n, (cellsN c l n).log.length ≤ 2 * n
  | 0 => by simp [cellsN, MemM.new]
  | n + 1 => by
    have h1 := cellsN_log c l n
    have h2 := MemM.touch_log (cellsN c l n) (-1) 1 n 0 (l.getD n thing0).word.pack
    have h3 := MemM.touch_log ((cellsN c l n).touch (-1) 1 n 0 (l.getD n thing0).word.pack) (-1) 1 (c.value n) 0 (l.getD n thing0).value
    unfold cellsN
    omega
theorem ThingM.word_gen (t : ThingM) : 1 ≤ t.word.gen ∧ t.word.gen ≤ 8 := by
  show 1 ≤ 1 + t.gen % 8 ∧ 1 + t.gen % 8 ≤ 8
  omega
theorem ThingM.word_right (t : ThingM) : t.word.right = true := by
  have h : t.word.fin = 0 ∨ t.word.fin = 1 := by show endM t.right = 0 ∨ endM t.right = 1; cases t.right <;> simp [endM]
  have a : 0 ≤ t.word.state ∧ t.word.state ≤ 2 := by show 0 ≤ t.state % 18446744073709551616 % 3 ∧ t.state % 18446744073709551616 % 3 ≤ 2; omega
  have b := t.word_gen
  have d : 0 ≤ t.word.stamp.lo ∧ t.word.stamp.lo ≤ 15 := by show 0 ≤ t.at_ % 16 ∧ t.at_ % 16 ≤ 15; omega
  have e : 0 ≤ t.word.stamp.hi ∧ t.word.stamp.hi ≤ 18 := by show 0 ≤ t.at_ % 16 + t.wide % 4 ∧ t.at_ % 16 + t.wide % 4 ≤ 18; omega
  unfold WordM.right
  simp only [Bool.and_eq_true, Bool.or_eq_true, decide_eq_true_eq, Top]
  refine ⟨⟨⟨⟨⟨⟨⟨⟨?_, ?_⟩, ?_⟩, ?_⟩, ?_⟩, ?_⟩, ?_⟩, ?_⟩, ?_⟩ <;> (first | exact h | omega)
theorem end_calls (b : Bool) (w : World) : Tells 17 #[.bool b] w (.int .i64 (endM b)) := by
  cases b
  · go_enter Try.func17, Try.ntmps17
    go_wp2
    go_ret
    exact ⟨rfl, Below.refl _ _⟩
  · go_enter Try.func17, Try.ntmps17
    go_wp2
    go_ret
    exact ⟨rfl, Below.refl _ _⟩
theorem alone_calls (c : ConfM) (w : World) (hc : c.ok) : Tells 45 #[.agg #[.int .i64 c.th, .int .i64 c.sl, .int .i64 c.src, .int .i64 c.dl]] w (.int .i64 (2 * c.all + 5)) := by
  have K := Lib.hid (sat.start w)
  have AL := fun w => Lib.hid (all_calls c w hc)
  obtain ⟨al0, al1⟩ := hc.all_bd
  have v1 : wrap64 (2 * c.all) = 2 * c.all := w64 (by omega) (by omega)
  have v2 : wrap64 (2 * c.all + 5) = 2 * c.all + 5 := w64 (by omega) (by omega)
  go_enter Try.func45, Try.ntmps45
  go_wp2_with (first | ((with_reducible refine at_box ?_); refine st_boxf K.out rfl rfl (fun _ => rfl) ?_; intro g1 w1 K1; have K2 := Lib.hid K1; clear K1 K; (try clear a0); (try clear l0); (try clear a1); (try clear l1); (try clear a2); (try clear l2); have K := K2; clear K2; have a0 := K.out.rd 0 rfl; have l0 := K.out.ltp 0 rfl) | (go_at_call 9; (with_reducible refine ((AL _).out).mono ?_); rintro e w1 ⟨rfl, hb⟩; have K1 := sat.grown (by repeat (with_reducible first | exact K.out | apply sat.alloc_any | apply sat.drew | apply sat.drewN)) hb; clear hb; have K2 := Lib.hid K1; clear K1 K; (try clear a0); (try clear l0); (try clear a1); (try clear l1); (try clear a2); (try clear l2); have K := K2; clear K2; have a0 := K.out.rd 0 rfl; have l0 := K.out.ltp 0 rfl))
  go_ret
  exact ⟨rfl, K.out.below⟩
theorem tword_calls (t : ThingM) (w : World) : Tells 29 #[.agg #[.int .i64 t.state, .int .i64 t.gen, .int .i64 t.at_, .int .i64 t.wide, .bool t.right, .int .u64 t.value]] w (.agg #[.int .i64 t.word.state, .int .i64 t.word.fin, .int .i64 t.word.gen, .int .i64 t.word.stamp.lo, .int .i64 t.word.stamp.hi]) := by
  have e1 := and15 t.at_
  have e2 := and7 t.gen
  have e3 := and3 t.wide
  have g1 : IntKind.u64.wrap t.state = t.state % 18446744073709551616 := by rw [IntKind.wrap_u64]
  have g0 : (t.state % 18446744073709551616).tmod 3 = t.state % 18446744073709551616 % 3 := Int.tmod_eq_emod_of_nonneg (by omega)
  have g2 : wrap64 (t.state % 18446744073709551616 % 3) = t.state % 18446744073709551616 % 3 := w64 (by omega) (by omega)
  have g3 : wrap64 (1 + t.gen % 8) = 1 + t.gen % 8 := w64 (by omega) (by omega)
  have g4 : wrap64 (t.at_ % 16 + t.wide % 4) = t.at_ % 16 + t.wide % 4 := w64 (by omega) (by omega)
  have K := Lib.hid (sat.start w)
  have H := Lib.hid (And.intro e1 (And.intro e2 (And.intro e3 (And.intro g1 (And.intro g0 (And.intro g2 (And.intro g3 g4)))))))
  cases hr : t.right with
  | true =>
    have HR := Lib.hid hr
    go_enter Try.func29, Try.ntmps29
    go_wp2_with (first | ((with_reducible refine at_box ?_); refine st_boxf K.out rfl rfl (fun _ => rfl) ?_; intro g1 w1 K1; have K2 := Lib.hid K1; clear K1 K; (try clear a0); (try clear l0); (try clear a1); (try clear l1); (try clear a2); (try clear l2); have K := K2; clear K2; have a0 := K.out.rd 0 rfl; have l0 := K.out.ltp 0 rfl) | ((with_reducible refine at_alloc ?_); refine st_allocf K.out (fun _ => rfl) ?_; intro g2 w1 K1; have K2 := Lib.hid K1; clear K1 K; (try clear a0); (try clear l0); (try clear a1); (try clear l1); (try clear a2); (try clear l2); have K := K2; clear K2; have a0 := K.out.rd 0 rfl; have l0 := K.out.ltp 0 rfl; have a1 := K.out.rd 1 rfl; have l1 := K.out.ltp 1 rfl; have a2 := K.out.rd 2 rfl; have l2 := K.out.ltp 2 rfl) | ((with_reducible refine at_store ?_); refine st_store 0 K.out rfl rfl rfl rfl ?_ ?_ ?_ ?_; (· kernel_rfl); (· simp); (· simp [Value.oneCell']); intro w1 K1; simp only [List.set, putL] at K1; have K2 := Lib.hid K1; clear K1 K; (try clear a0); (try clear l0); (try clear a1); (try clear l1); (try clear a2); (try clear l2); have K := K2; clear K2; have a0 := K.out.rd 0 rfl; have l0 := K.out.ltp 0 rfl; have a1 := K.out.rd 1 rfl; have l1 := K.out.ltp 1 rfl; have a2 := K.out.rd 2 rfl; have l2 := K.out.ltp 2 rfl) | ((with_reducible refine at_store ?_); refine st_store 1 K.out rfl rfl rfl rfl ?_ ?_ ?_ ?_; (· kernel_rfl); (· simp); (· simp [Value.oneCell']); intro w1 K1; simp only [List.set, putL] at K1; have K2 := Lib.hid K1; clear K1 K; (try clear a0); (try clear l0); (try clear a1); (try clear l1); (try clear a2); (try clear l2); have K := K2; clear K2; have a0 := K.out.rd 0 rfl; have l0 := K.out.ltp 0 rfl; have a1 := K.out.rd 1 rfl; have l1 := K.out.ltp 1 rfl; have a2 := K.out.rd 2 rfl; have l2 := K.out.ltp 2 rfl))
    exact bodyPost_ret (v := .agg #[.int .i64 t.word.state, .int .i64 t.word.fin, .int .i64 t.word.gen, .int .i64 t.word.stamp.lo, .int .i64 t.word.stamp.hi]) (by simp [results, Try.results29, go_sem, ThingM.word, endM, HR.out, a0]) rfl ⟨rfl, ((K.out.alloc_any _).alloc_any _).below⟩
  | false =>
    have HR := Lib.hid hr
    go_enter Try.func29, Try.ntmps29
    go_wp2_with (first | ((with_reducible refine at_box ?_); refine st_boxf K.out rfl rfl (fun _ => rfl) ?_; intro g1 w1 K1; have K2 := Lib.hid K1; clear K1 K; (try clear a0); (try clear l0); (try clear a1); (try clear l1); (try clear a2); (try clear l2); have K := K2; clear K2; have a0 := K.out.rd 0 rfl; have l0 := K.out.ltp 0 rfl) | ((with_reducible refine at_alloc ?_); refine st_allocf K.out (fun _ => rfl) ?_; intro g2 w1 K1; have K2 := Lib.hid K1; clear K1 K; (try clear a0); (try clear l0); (try clear a1); (try clear l1); (try clear a2); (try clear l2); have K := K2; clear K2; have a0 := K.out.rd 0 rfl; have l0 := K.out.ltp 0 rfl; have a1 := K.out.rd 1 rfl; have l1 := K.out.ltp 1 rfl; have a2 := K.out.rd 2 rfl; have l2 := K.out.ltp 2 rfl) | ((with_reducible refine at_store ?_); refine st_store 0 K.out rfl rfl rfl rfl ?_ ?_ ?_ ?_; (· kernel_rfl); (· simp); (· simp [Value.oneCell']); intro w1 K1; simp only [List.set, putL] at K1; have K2 := Lib.hid K1; clear K1 K; (try clear a0); (try clear l0); (try clear a1); (try clear l1); (try clear a2); (try clear l2); have K := K2; clear K2; have a0 := K.out.rd 0 rfl; have l0 := K.out.ltp 0 rfl; have a1 := K.out.rd 1 rfl; have l1 := K.out.ltp 1 rfl; have a2 := K.out.rd 2 rfl; have l2 := K.out.ltp 2 rfl) | ((with_reducible refine at_store ?_); refine st_store 1 K.out rfl rfl rfl rfl ?_ ?_ ?_ ?_; (· kernel_rfl); (· simp); (· simp [Value.oneCell']); intro w1 K1; simp only [List.set, putL] at K1; have K2 := Lib.hid K1; clear K1 K; (try clear a0); (try clear l0); (try clear a1); (try clear l1); (try clear a2); (try clear l2); have K := K2; clear K2; have a0 := K.out.rd 0 rfl; have l0 := K.out.ltp 0 rfl; have a1 := K.out.rd 1 rfl; have l1 := K.out.ltp 1 rfl; have a2 := K.out.rd 2 rfl; have l2 := K.out.ltp 2 rfl))
    exact bodyPost_ret (v := .agg #[.int .i64 t.word.state, .int .i64 t.word.fin, .int .i64 t.word.gen, .int .i64 t.word.stamp.lo, .int .i64 t.word.stamp.hi]) (by simp [results, Try.results29, go_sem, ThingM.word, endM, HR.out, a0]) rfl ⟨rfl, ((K.out.alloc_any _).alloc_any _).below⟩
theorem cellsM_len (c : ConfM) (l : List ThingM) : ∀ n, (cellsN c l n).cells.length = c.cells.toNat
  | 0 => by simp [cellsN, MemM.new]
  | n + 1 => by unfold cellsN; rw [MemM.touch_length, MemM.touch_length, cellsM_len c l n]
theorem cells_bd {c : ConfM} (hc : c.ok) : 0 ≤ c.cells ∧ c.cells ≤ 8320 := by
  have := hc.all_bd
  have := hc.th1
  have := hc.th2
  unfold ConfM.cells
  omega
section
variable {E w : World} {L : List SA}
theorem ctS {b gc off n : Nat} {c : ConfM} {t : ThingM} {M : List SA} (hx : ∀ w, Below E.heap.size E w → ∀ i u, (ThingM.v t)[i]? = some u → w.cell? ⟨b, off + n * 6 + i, none⟩ = some u) (h : sat E w (pt gc (.cells #[.int .i64 c.th, .int .i64 c.sl, .int .i64 c.src, .int .i64 c.dl] 28 (0, 0)) :: M)) :
    (∀ j, w.cell? ⟨gc, j, none⟩ = ([.int .i64 c.th, .int .i64 c.sl, .int .i64 c.src, .int .i64 c.dl] : List Value)[j]?) ∧ w.cell? ⟨b, off + n * 6, none⟩ = some (.int .i64 t.state) ∧ w.cell? ⟨b, off + n * 6 + 1, none⟩ = some (.int .i64 t.gen) ∧ w.cell? ⟨b, off + n * 6 + 2, none⟩ = some (.int .i64 t.at_) ∧ w.cell? ⟨b, off + n * 6 + 3, none⟩ = some (.int .i64 t.wide) ∧ w.cell? ⟨b, off + n * 6 + 4, none⟩ = some (.bool t.right) ∧ w.cell? ⟨b, off + n * 6 + 5, none⟩ = some (.int .u64 t.value) :=
  ⟨h.rd 0 rfl, hx w h.below 0 _ rfl, hx w h.below 1 _ rfl, hx w h.below 2 _ rfl, hx w h.below 3 _ rfl, hx w h.below 4 _ rfl, hx w h.below 5 _ rfl⟩
theorem cells_calls (c : ConfM) (hc : c.ok) (p : Option Addr) (l : List ThingM) (cap : Nat) (hl : l.length ≤ 1000) (hwf : ∀ t ∈ l, t.wf) (ho : OldS ThingM.v 6 E p l) (h : sat E w L) :
    Calls Try.prog 10 #[.agg #[.int .i64 c.th, .int .i64 c.sl, .int .i64 c.src, .int .i64 c.dl], .slice p l.length cap] w (NewA E L (fun g => memA g (cellsM c l))) := by
  have K := Lib.hid h
  have H := Lib.hid ho
  clear h ho
  have AL := fun w => Lib.hid (all_calls c w hc)
  have CN := fun w => Lib.hid (cellsn_calls c w hc)
  have MN := fun w (L : List SA) (h : sat E w L) => Lib.hid (memnew_calls c.cells.toNat (by have := cells_bd hc; omega) h)
  rw [show ((c.cells.toNat : Nat) : Int) = c.cells by have := cells_bd hc; omega] at MN
  have WC := fun i w => Lib.hid (word_calls c w i)
  have VC := fun i h0 h1 w => Lib.hid (value_calls c w hc i h0 h1)
  obtain ⟨al0, al1⟩ := hc.all_bd
  go_enter Try.func10, Try.ntmps10
  go_wp2_with (first | ((with_reducible refine at_box ?_); refine st_boxf K.out rfl rfl (fun _ => rfl) ?_; intro gc w1 K1; have K2 := Lib.hid K1; clear K1 K; (try clear a0); (try clear l0); (try clear a1); (try clear l1); (try clear a2); (try clear l2); have K := K2; clear K2; have a0 := K.out.rd 0 rfl; have l0 := K.out.ltp 0 rfl) | (go_at_call 44; (with_reducible refine ((CN _).out).mono ?_); rintro e w1 ⟨rfl, hb⟩; have K1 := sat.grown (by repeat (with_reducible first | exact K.out | apply sat.alloc_any | apply sat.drew | apply sat.drewN)) hb; clear hb; have K2 := Lib.hid K1; clear K1 K; (try clear a0); (try clear l0); (try clear a1); (try clear l1); (try clear a2); (try clear l2); have K := K2; clear K2; have a0 := K.out.rd 0 rfl; have l0 := K.out.ltp 0 rfl) | (go_at_call 43; (with_reducible refine ((MN _ _ (show sat E _ _ from by iterate 6 (try (with_reducible first | exact K.out | apply sat.alloc_any | apply sat.drew | apply sat.drewN)))).out).mono ?_); rintro e w1 ⟨gm, rfl, K1⟩; replace K1 := K1.swap; have K2 := Lib.hid K1; clear K1 K; (try clear a0); (try clear l0); (try clear a1); (try clear l1); (try clear a2); (try clear l2); have K := K2; clear K2; have a0 := K.out.rd 0 rfl; have l0 := K.out.ltp 0 rfl))
  go_loopg [6] c.all.toNat (fun gk i w' => ∃ n : Nat, n + gk = c.all.toNat ∧ i = .int .i64 n ∧ n ≤ min c.all.toNat l.length ∧ sat E w' (pt gc (.cells #[.int .i64 c.th, .int .i64 c.sl, .int .i64 c.src, .int .i64 c.dl] 28 (0, 0)) :: memA gm (cellsN c l n) :: L))
  case atStart => exact ⟨0, by simp, rfl, by omega, K.out⟩
  case round =>
    obtain ⟨n, hn, rfl, hn2, hs⟩ := hrel
    clear K
    have K := Lib.hid hs
    clear hs
    have a0 := K.out.rd 0 rfl
    have l0 := K.out.ltp 0 rfl
    by_cases h1 : (n : Int) < c.all
    · have c1 : decide ((n : Int) < c.all) = true := by simpa using h1
      by_cases h2 : n < l.length
      · have c2 : decide (n < l.length) = true := by simpa using h2
        obtain ⟨b, off, rfl, hb0, hx0⟩ := H.out n h2
        have HX := Lib.hid (show ∀ w', Below E.heap.size E w' → ∀ i u, (ThingM.v l[n])[i]? = some u → w'.cell? ⟨b, off + n * 6 + i, none⟩ = some u from fun w' hb i u hi => (hb.cell (p := ⟨b, off + n * 6 + i, none⟩) hb0).trans (hx0 i u hi))
        have hv := hwf l[n] (List.getElem_mem h2)
        have hd : l.getD n thing0 = l[n] := by simp [List.getD_eq_getElem?_getD, h2]
        have hlog := cellsN_log c l n
        have TW := fun w => Lib.hid (tword_calls l[n] w)
        have PK := fun w => Lib.hid (pack_calls l[n].word w)
        have hpk := pack_bd l[n].word
        have S1 := fun w (h : sat E w (memA gm (cellsN c l n) :: pt gc (.cells #[.int .i64 c.th, .int .i64 c.sl, .int .i64 c.src, .int .i64 c.dl] 28 (0, 0)) :: L)) => Lib.hid (store_calls gm (cellsN c l n) (-1) n l[n].word.pack hpk (by omega) h)
        have hlog2 := MemM.touch_log (cellsN c l n) (-1) 1 n 0 l[n].word.pack
        have S2 := fun w (h : sat E w (memA gm ((cellsN c l n).touch (-1) 1 n 0 l[n].word.pack) :: pt gc (.cells #[.int .i64 c.th, .int .i64 c.sl, .int .i64 c.src, .int .i64 c.dl] 28 (0, 0)) :: L)) => Lib.hid (store_calls gm _ (-1) (c.value n) l[n].value hv (by omega) h)
        have EN := Lib.hid (show cellsN c l (n + 1) = ((cellsN c l n).touch (-1) 1 n 0 l[n].word.pack).touch (-1) 1 (c.value n) 0 l[n].value by rw [cellsN, hd])
        have VN := fun w => VC n (by omega) h1 w
        have WN := fun w => WC n w
        have HN := Lib.hid hn
        have H2 := Lib.hid h2
        have H1 := Lib.hid h1
        clear hx0 hv hd hlog hlog2 hn hpk VC WC
        generalize l[n].word.pack = pk at *
        generalize l[n] = t at *
        generalize cellsN c l n = m0 at *
        have i0 : (n : Int) < (l.length : Int) := by omega
        have hcap : l.length ≤ 1000 := hl
        clear h1 h2
        obtain ⟨gk', rfl⟩ : ∃ g', gk = g' + 1 := ⟨gk - 1, by have := HN.out; have := H1.out; omega⟩
        go_wp2_with (first | (go_at_call 9; (with_reducible refine ((AL _).out).mono ?_); rintro e w1 ⟨rfl, hb⟩; have K1 := sat.grown (by repeat (with_reducible first | exact K.out | apply sat.alloc_any | apply sat.drew | apply sat.drewN)) hb; clear hb; have K2 := Lib.hid K1; clear K1 K; (try clear a0); (try clear l0); (try clear a1); (try clear l1); (try clear a2); (try clear l2); have K := K2; clear K2; have a0 := K.out.rd 0 rfl; have l0 := K.out.ltp 0 rfl))
        refine wp_region_noPanic ?_
        refine wp_region_held_drew (S := (fun w' => (∀ j, w'.cell? ⟨gc, j, none⟩ = ([.int .i64 c.th, .int .i64 c.sl, .int .i64 c.src, .int .i64 c.dl] : List Value)[j]?) ∧ w'.cell? ⟨b, off + n * 6, none⟩ = some (.int .i64 t.state) ∧ w'.cell? ⟨b, off + n * 6 + 1, none⟩ = some (.int .i64 t.gen) ∧ w'.cell? ⟨b, off + n * 6 + 2, none⟩ = some (.int .i64 t.at_) ∧ w'.cell? ⟨b, off + n * 6 + 3, none⟩ = some (.int .i64 t.wide) ∧ w'.cell? ⟨b, off + n * 6 + 4, none⟩ = some (.bool t.right) ∧ w'.cell? ⟨b, off + n * 6 + 5, none⟩ = some (.int .u64 t.value))) (by kernel_rfl) ?_ (fun hHeld => ?_)
        · ((try dsimp only); (first | exact ctS (E := E) (gc := gc) (c := c) (t := t) (b := b) (off := off) (n := n) HX.out K.out | exact ctS (E := E) (gc := gc) (c := c) (t := t) (b := b) (off := off) (n := n) HX.out K.out.drew))
        refine tk 0 (some 22) ?_
        (try simp only [Act.put, p0, p1, p2])
        refine tk 1 (some 23) ?_
        (try simp only [Act.put, p0, p1, p2])
        refine tk 2 (some 24) ?_
        (try simp only [Act.put, p0, p1, p2])
        refine tk 4 (some 26) ?_
        (try simp only [Act.put, p0, p1, p2])
        refine tk 5 (some 27) ?_
        (try simp only [Act.put, p0, p1, p2])
        refine tk 6 (some 28) ?_
        (try simp only [Act.put, p0, p1, p2])
        refine tk 7 (some 29) ?_
        (try simp only [Act.put, p0, p1, p2])
        refine wpAnyH_ready (rs := [3]) (by kernel_rfl) (by simp) ?_
        refine AllReadyH.cons (o := _) rfl (fun kC hkC => ?_) AllReadyH.nil
        go_simp
        (first | (go_at_call 23; (with_reducible refine ((WN _).out).mono ?_); rintro e w1 ⟨rfl, hb⟩; have K1 := sat.grown (show sat _ _ _ from by first | exact K.out | exact K.out.drew) hb; clear hb; have K2 := Lib.hid K1; clear K1 K; (try clear a0); (try clear l0); (try clear f0); (try clear a1); (try clear l1); (try clear f1); (try clear a2); (try clear l2); (try clear f2); (try clear a3); (try clear l3); (try clear f3); (try clear a4); (try clear l4); (try clear f4); (try clear a5); (try clear l5); (try clear f5); have K := K2; clear K2; (try have a0 := K.out.rd 0 rfl); (try have l0 := K.out.ltp 0 rfl); (try have f0 := K.out.fr 0 rfl); (try have a1 := K.out.rd 1 rfl); (try have l1 := K.out.ltp 1 rfl); (try have f1 := K.out.fr 1 rfl); (try have a2 := K.out.rd 2 rfl); (try have l2 := K.out.ltp 2 rfl); (try have f2 := K.out.fr 2 rfl); (try have a3 := K.out.rd 3 rfl); (try have l3 := K.out.ltp 3 rfl); (try have f3 := K.out.fr 3 rfl)) | (go_at_call 29; (with_reducible refine ((TW _).out).mono ?_); rintro e w1 ⟨rfl, hb⟩; have K1 := sat.grown (show sat _ _ _ from by first | exact K.out | exact K.out.drew) hb; clear hb; have K2 := Lib.hid K1; clear K1 K; (try clear a0); (try clear l0); (try clear f0); (try clear a1); (try clear l1); (try clear f1); (try clear a2); (try clear l2); (try clear f2); (try clear a3); (try clear l3); (try clear f3); (try clear a4); (try clear l4); (try clear f4); (try clear a5); (try clear l5); (try clear f5); have K := K2; clear K2; (try have a0 := K.out.rd 0 rfl); (try have l0 := K.out.ltp 0 rfl); (try have f0 := K.out.fr 0 rfl); (try have a1 := K.out.rd 1 rfl); (try have l1 := K.out.ltp 1 rfl); (try have f1 := K.out.fr 1 rfl); (try have a2 := K.out.rd 2 rfl); (try have l2 := K.out.ltp 2 rfl); (try have f2 := K.out.fr 2 rfl); (try have a3 := K.out.rd 3 rfl); (try have l3 := K.out.ltp 3 rfl); (try have f3 := K.out.fr 3 rfl)) | (go_at_call 26; (with_reducible refine ((PK _).out).mono ?_); rintro e w1 ⟨rfl, hb⟩; have K1 := sat.grown (show sat _ _ _ from by first | exact K.out | exact K.out.drew) hb; clear hb; have K2 := Lib.hid K1; clear K1 K; (try clear a0); (try clear l0); (try clear f0); (try clear a1); (try clear l1); (try clear f1); (try clear a2); (try clear l2); (try clear f2); (try clear a3); (try clear l3); (try clear f3); (try clear a4); (try clear l4); (try clear f4); (try clear a5); (try clear l5); (try clear f5); have K := K2; clear K2; (try have a0 := K.out.rd 0 rfl); (try have l0 := K.out.ltp 0 rfl); (try have f0 := K.out.fr 0 rfl); (try have a1 := K.out.rd 1 rfl); (try have l1 := K.out.ltp 1 rfl); (try have f1 := K.out.fr 1 rfl); (try have a2 := K.out.rd 2 rfl); (try have l2 := K.out.ltp 2 rfl); (try have f2 := K.out.fr 2 rfl); (try have a3 := K.out.rd 3 rfl); (try have l3 := K.out.ltp 3 rfl); (try have f3 := K.out.fr 3 rfl)) | (go_at_call 24; (with_reducible refine ((S1 _ (show sat E _ _ from by first | exact K.out | exact K.out.drew).swap).out).mono ?_); rintro e w1 ⟨rfl, K1⟩; replace K1 := K1.swap; have K2 := Lib.hid K1; clear K1 K; (try clear a0); (try clear l0); (try clear f0); (try clear a1); (try clear l1); (try clear f1); (try clear a2); (try clear l2); (try clear f2); (try clear a3); (try clear l3); (try clear f3); (try clear a4); (try clear l4); (try clear f4); (try clear a5); (try clear l5); (try clear f5); have K := K2; clear K2; (try have a0 := K.out.rd 0 rfl); (try have l0 := K.out.ltp 0 rfl); (try have f0 := K.out.fr 0 rfl); (try have a1 := K.out.rd 1 rfl); (try have l1 := K.out.ltp 1 rfl); (try have f1 := K.out.fr 1 rfl); (try have a2 := K.out.rd 2 rfl); (try have l2 := K.out.ltp 2 rfl); (try have f2 := K.out.fr 2 rfl); (try have a3 := K.out.rd 3 rfl); (try have l3 := K.out.ltp 3 rfl); (try have f3 := K.out.fr 3 rfl)))
        refine shown hkC _ _ (by (try dsimp only); (first | exact ctS (E := E) (gc := gc) (c := c) (t := t) (b := b) (off := off) (n := n) HX.out K.out | exact ctS (E := E) (gc := gc) (c := c) (t := t) (b := b) (off := off) (n := n) HX.out K.out.drew)) ?_; clear hkC kC hHeld; intro hHeld
        (try simp only [Act.put, p0, p1, p2])
        refine wpAnyH_ready (rs := [8]) (by kernel_rfl) (by simp) ?_
        refine AllReadyH.cons (o := _) rfl (fun kC hkC => ?_) AllReadyH.nil
        go_simp
        (first | (go_at_call 23; (with_reducible refine ((WN _).out).mono ?_); rintro e w1 ⟨rfl, hb⟩; have K1 := sat.grown (show sat _ _ _ from by first | exact K.out | exact K.out.drew) hb; clear hb; have K2 := Lib.hid K1; clear K1 K; (try clear a0); (try clear l0); (try clear f0); (try clear a1); (try clear l1); (try clear f1); (try clear a2); (try clear l2); (try clear f2); (try clear a3); (try clear l3); (try clear f3); (try clear a4); (try clear l4); (try clear f4); (try clear a5); (try clear l5); (try clear f5); have K := K2; clear K2; (try have a0 := K.out.rd 0 rfl); (try have l0 := K.out.ltp 0 rfl); (try have f0 := K.out.fr 0 rfl); (try have a1 := K.out.rd 1 rfl); (try have l1 := K.out.ltp 1 rfl); (try have f1 := K.out.fr 1 rfl); (try have a2 := K.out.rd 2 rfl); (try have l2 := K.out.ltp 2 rfl); (try have f2 := K.out.fr 2 rfl); (try have a3 := K.out.rd 3 rfl); (try have l3 := K.out.ltp 3 rfl); (try have f3 := K.out.fr 3 rfl)) | (go_at_call 29; (with_reducible refine ((TW _).out).mono ?_); rintro e w1 ⟨rfl, hb⟩; have K1 := sat.grown (show sat _ _ _ from by first | exact K.out | exact K.out.drew) hb; clear hb; have K2 := Lib.hid K1; clear K1 K; (try clear a0); (try clear l0); (try clear f0); (try clear a1); (try clear l1); (try clear f1); (try clear a2); (try clear l2); (try clear f2); (try clear a3); (try clear l3); (try clear f3); (try clear a4); (try clear l4); (try clear f4); (try clear a5); (try clear l5); (try clear f5); have K := K2; clear K2; (try have a0 := K.out.rd 0 rfl); (try have l0 := K.out.ltp 0 rfl); (try have f0 := K.out.fr 0 rfl); (try have a1 := K.out.rd 1 rfl); (try have l1 := K.out.ltp 1 rfl); (try have f1 := K.out.fr 1 rfl); (try have a2 := K.out.rd 2 rfl); (try have l2 := K.out.ltp 2 rfl); (try have f2 := K.out.fr 2 rfl); (try have a3 := K.out.rd 3 rfl); (try have l3 := K.out.ltp 3 rfl); (try have f3 := K.out.fr 3 rfl)) | (go_at_call 26; (with_reducible refine ((PK _).out).mono ?_); rintro e w1 ⟨rfl, hb⟩; have K1 := sat.grown (show sat _ _ _ from by first | exact K.out | exact K.out.drew) hb; clear hb; have K2 := Lib.hid K1; clear K1 K; (try clear a0); (try clear l0); (try clear f0); (try clear a1); (try clear l1); (try clear f1); (try clear a2); (try clear l2); (try clear f2); (try clear a3); (try clear l3); (try clear f3); (try clear a4); (try clear l4); (try clear f4); (try clear a5); (try clear l5); (try clear f5); have K := K2; clear K2; (try have a0 := K.out.rd 0 rfl); (try have l0 := K.out.ltp 0 rfl); (try have f0 := K.out.fr 0 rfl); (try have a1 := K.out.rd 1 rfl); (try have l1 := K.out.ltp 1 rfl); (try have f1 := K.out.fr 1 rfl); (try have a2 := K.out.rd 2 rfl); (try have l2 := K.out.ltp 2 rfl); (try have f2 := K.out.fr 2 rfl); (try have a3 := K.out.rd 3 rfl); (try have l3 := K.out.ltp 3 rfl); (try have f3 := K.out.fr 3 rfl)) | (go_at_call 24; (with_reducible refine ((S1 _ (show sat E _ _ from by first | exact K.out | exact K.out.drew).swap).out).mono ?_); rintro e w1 ⟨rfl, K1⟩; replace K1 := K1.swap; have K2 := Lib.hid K1; clear K1 K; (try clear a0); (try clear l0); (try clear f0); (try clear a1); (try clear l1); (try clear f1); (try clear a2); (try clear l2); (try clear f2); (try clear a3); (try clear l3); (try clear f3); (try clear a4); (try clear l4); (try clear f4); (try clear a5); (try clear l5); (try clear f5); have K := K2; clear K2; (try have a0 := K.out.rd 0 rfl); (try have l0 := K.out.ltp 0 rfl); (try have f0 := K.out.fr 0 rfl); (try have a1 := K.out.rd 1 rfl); (try have l1 := K.out.ltp 1 rfl); (try have f1 := K.out.fr 1 rfl); (try have a2 := K.out.rd 2 rfl); (try have l2 := K.out.ltp 2 rfl); (try have f2 := K.out.fr 2 rfl); (try have a3 := K.out.rd 3 rfl); (try have l3 := K.out.ltp 3 rfl); (try have f3 := K.out.fr 3 rfl)))
        refine shown hkC _ _ (by (try dsimp only); (first | exact ctS (E := E) (gc := gc) (c := c) (t := t) (b := b) (off := off) (n := n) HX.out K.out | exact ctS (E := E) (gc := gc) (c := c) (t := t) (b := b) (off := off) (n := n) HX.out K.out.drew)) ?_; clear hkC kC hHeld; intro hHeld
        (try simp only [Act.put, p0, p1, p2])
        refine wpAnyH_ready (rs := [9]) (by kernel_rfl) (by simp) ?_
        refine AllReadyH.cons (o := _) rfl (fun kC hkC => ?_) AllReadyH.nil
        go_simp
        (first | (go_at_call 23; (with_reducible refine ((WN _).out).mono ?_); rintro e w1 ⟨rfl, hb⟩; have K1 := sat.grown (show sat _ _ _ from by first | exact K.out | exact K.out.drew) hb; clear hb; have K2 := Lib.hid K1; clear K1 K; (try clear a0); (try clear l0); (try clear f0); (try clear a1); (try clear l1); (try clear f1); (try clear a2); (try clear l2); (try clear f2); (try clear a3); (try clear l3); (try clear f3); (try clear a4); (try clear l4); (try clear f4); (try clear a5); (try clear l5); (try clear f5); have K := K2; clear K2; (try have a0 := K.out.rd 0 rfl); (try have l0 := K.out.ltp 0 rfl); (try have f0 := K.out.fr 0 rfl); (try have a1 := K.out.rd 1 rfl); (try have l1 := K.out.ltp 1 rfl); (try have f1 := K.out.fr 1 rfl); (try have a2 := K.out.rd 2 rfl); (try have l2 := K.out.ltp 2 rfl); (try have f2 := K.out.fr 2 rfl); (try have a3 := K.out.rd 3 rfl); (try have l3 := K.out.ltp 3 rfl); (try have f3 := K.out.fr 3 rfl)) | (go_at_call 29; (with_reducible refine ((TW _).out).mono ?_); rintro e w1 ⟨rfl, hb⟩; have K1 := sat.grown (show sat _ _ _ from by first | exact K.out | exact K.out.drew) hb; clear hb; have K2 := Lib.hid K1; clear K1 K; (try clear a0); (try clear l0); (try clear f0); (try clear a1); (try clear l1); (try clear f1); (try clear a2); (try clear l2); (try clear f2); (try clear a3); (try clear l3); (try clear f3); (try clear a4); (try clear l4); (try clear f4); (try clear a5); (try clear l5); (try clear f5); have K := K2; clear K2; (try have a0 := K.out.rd 0 rfl); (try have l0 := K.out.ltp 0 rfl); (try have f0 := K.out.fr 0 rfl); (try have a1 := K.out.rd 1 rfl); (try have l1 := K.out.ltp 1 rfl); (try have f1 := K.out.fr 1 rfl); (try have a2 := K.out.rd 2 rfl); (try have l2 := K.out.ltp 2 rfl); (try have f2 := K.out.fr 2 rfl); (try have a3 := K.out.rd 3 rfl); (try have l3 := K.out.ltp 3 rfl); (try have f3 := K.out.fr 3 rfl)) | (go_at_call 26; (with_reducible refine ((PK _).out).mono ?_); rintro e w1 ⟨rfl, hb⟩; have K1 := sat.grown (show sat _ _ _ from by first | exact K.out | exact K.out.drew) hb; clear hb; have K2 := Lib.hid K1; clear K1 K; (try clear a0); (try clear l0); (try clear f0); (try clear a1); (try clear l1); (try clear f1); (try clear a2); (try clear l2); (try clear f2); (try clear a3); (try clear l3); (try clear f3); (try clear a4); (try clear l4); (try clear f4); (try clear a5); (try clear l5); (try clear f5); have K := K2; clear K2; (try have a0 := K.out.rd 0 rfl); (try have l0 := K.out.ltp 0 rfl); (try have f0 := K.out.fr 0 rfl); (try have a1 := K.out.rd 1 rfl); (try have l1 := K.out.ltp 1 rfl); (try have f1 := K.out.fr 1 rfl); (try have a2 := K.out.rd 2 rfl); (try have l2 := K.out.ltp 2 rfl); (try have f2 := K.out.fr 2 rfl); (try have a3 := K.out.rd 3 rfl); (try have l3 := K.out.ltp 3 rfl); (try have f3 := K.out.fr 3 rfl)) | (go_at_call 24; (with_reducible refine ((S1 _ (show sat E _ _ from by first | exact K.out | exact K.out.drew).swap).out).mono ?_); rintro e w1 ⟨rfl, K1⟩; replace K1 := K1.swap; have K2 := Lib.hid K1; clear K1 K; (try clear a0); (try clear l0); (try clear f0); (try clear a1); (try clear l1); (try clear f1); (try clear a2); (try clear l2); (try clear f2); (try clear a3); (try clear l3); (try clear f3); (try clear a4); (try clear l4); (try clear f4); (try clear a5); (try clear l5); (try clear f5); have K := K2; clear K2; (try have a0 := K.out.rd 0 rfl); (try have l0 := K.out.ltp 0 rfl); (try have f0 := K.out.fr 0 rfl); (try have a1 := K.out.rd 1 rfl); (try have l1 := K.out.ltp 1 rfl); (try have f1 := K.out.fr 1 rfl); (try have a2 := K.out.rd 2 rfl); (try have l2 := K.out.ltp 2 rfl); (try have f2 := K.out.fr 2 rfl); (try have a3 := K.out.rd 3 rfl); (try have l3 := K.out.ltp 3 rfl); (try have f3 := K.out.fr 3 rfl)))
        refine shown hkC _ _ (by (try dsimp only); (first | exact ctS (E := E) (gc := gc) (c := c) (t := t) (b := b) (off := off) (n := n) HX.out K.out | exact ctS (E := E) (gc := gc) (c := c) (t := t) (b := b) (off := off) (n := n) HX.out K.out.drew)) ?_; clear hkC kC hHeld; intro hHeld
        (try simp only [Act.put, p0, p1, p2])
        refine wpAnyH_ready (rs := [10]) (by kernel_rfl) (by simp) ?_
        refine AllReadyH.cons (o := _) rfl (fun kC hkC => ?_) AllReadyH.nil
        go_simp
        (first | (go_at_call 23; (with_reducible refine ((WN _).out).mono ?_); rintro e w1 ⟨rfl, hb⟩; have K1 := sat.grown (show sat _ _ _ from by first | exact K.out | exact K.out.drew) hb; clear hb; have K2 := Lib.hid K1; clear K1 K; (try clear a0); (try clear l0); (try clear f0); (try clear a1); (try clear l1); (try clear f1); (try clear a2); (try clear l2); (try clear f2); (try clear a3); (try clear l3); (try clear f3); (try clear a4); (try clear l4); (try clear f4); (try clear a5); (try clear l5); (try clear f5); have K := K2; clear K2; (try have a0 := K.out.rd 0 rfl); (try have l0 := K.out.ltp 0 rfl); (try have f0 := K.out.fr 0 rfl); (try have a1 := K.out.rd 1 rfl); (try have l1 := K.out.ltp 1 rfl); (try have f1 := K.out.fr 1 rfl); (try have a2 := K.out.rd 2 rfl); (try have l2 := K.out.ltp 2 rfl); (try have f2 := K.out.fr 2 rfl); (try have a3 := K.out.rd 3 rfl); (try have l3 := K.out.ltp 3 rfl); (try have f3 := K.out.fr 3 rfl)) | (go_at_call 29; (with_reducible refine ((TW _).out).mono ?_); rintro e w1 ⟨rfl, hb⟩; have K1 := sat.grown (show sat _ _ _ from by first | exact K.out | exact K.out.drew) hb; clear hb; have K2 := Lib.hid K1; clear K1 K; (try clear a0); (try clear l0); (try clear f0); (try clear a1); (try clear l1); (try clear f1); (try clear a2); (try clear l2); (try clear f2); (try clear a3); (try clear l3); (try clear f3); (try clear a4); (try clear l4); (try clear f4); (try clear a5); (try clear l5); (try clear f5); have K := K2; clear K2; (try have a0 := K.out.rd 0 rfl); (try have l0 := K.out.ltp 0 rfl); (try have f0 := K.out.fr 0 rfl); (try have a1 := K.out.rd 1 rfl); (try have l1 := K.out.ltp 1 rfl); (try have f1 := K.out.fr 1 rfl); (try have a2 := K.out.rd 2 rfl); (try have l2 := K.out.ltp 2 rfl); (try have f2 := K.out.fr 2 rfl); (try have a3 := K.out.rd 3 rfl); (try have l3 := K.out.ltp 3 rfl); (try have f3 := K.out.fr 3 rfl)) | (go_at_call 26; (with_reducible refine ((PK _).out).mono ?_); rintro e w1 ⟨rfl, hb⟩; have K1 := sat.grown (show sat _ _ _ from by first | exact K.out | exact K.out.drew) hb; clear hb; have K2 := Lib.hid K1; clear K1 K; (try clear a0); (try clear l0); (try clear f0); (try clear a1); (try clear l1); (try clear f1); (try clear a2); (try clear l2); (try clear f2); (try clear a3); (try clear l3); (try clear f3); (try clear a4); (try clear l4); (try clear f4); (try clear a5); (try clear l5); (try clear f5); have K := K2; clear K2; (try have a0 := K.out.rd 0 rfl); (try have l0 := K.out.ltp 0 rfl); (try have f0 := K.out.fr 0 rfl); (try have a1 := K.out.rd 1 rfl); (try have l1 := K.out.ltp 1 rfl); (try have f1 := K.out.fr 1 rfl); (try have a2 := K.out.rd 2 rfl); (try have l2 := K.out.ltp 2 rfl); (try have f2 := K.out.fr 2 rfl); (try have a3 := K.out.rd 3 rfl); (try have l3 := K.out.ltp 3 rfl); (try have f3 := K.out.fr 3 rfl)) | (go_at_call 24; (with_reducible refine ((S1 _ (show sat E _ _ from by first | exact K.out | exact K.out.drew).swap).out).mono ?_); rintro e w1 ⟨rfl, K1⟩; replace K1 := K1.swap; have K2 := Lib.hid K1; clear K1 K; (try clear a0); (try clear l0); (try clear f0); (try clear a1); (try clear l1); (try clear f1); (try clear a2); (try clear l2); (try clear f2); (try clear a3); (try clear l3); (try clear f3); (try clear a4); (try clear l4); (try clear f4); (try clear a5); (try clear l5); (try clear f5); have K := K2; clear K2; (try have a0 := K.out.rd 0 rfl); (try have l0 := K.out.ltp 0 rfl); (try have f0 := K.out.fr 0 rfl); (try have a1 := K.out.rd 1 rfl); (try have l1 := K.out.ltp 1 rfl); (try have f1 := K.out.fr 1 rfl); (try have a2 := K.out.rd 2 rfl); (try have l2 := K.out.ltp 2 rfl); (try have f2 := K.out.fr 2 rfl); (try have a3 := K.out.rd 3 rfl); (try have l3 := K.out.ltp 3 rfl); (try have f3 := K.out.fr 3 rfl)))
        refine shown hkC _ _ (by (try dsimp only); (first | exact ctS (E := E) (gc := gc) (c := c) (t := t) (b := b) (off := off) (n := n) HX.out K.out | exact ctS (E := E) (gc := gc) (c := c) (t := t) (b := b) (off := off) (n := n) HX.out K.out.drew)) ?_; clear hkC kC hHeld; intro hHeld
        (try simp only [Act.put, p0, p1, p2])
        refine wpAnyH_done (by kernel_rfl) (NoPanic.normal ?_) _
        go_wp2_with fail
        refine wp_region_noPanic ?_
        refine wp_region_held_drew (S := (fun w' => (∀ j, w'.cell? ⟨gc, j, none⟩ = ([.int .i64 c.th, .int .i64 c.sl, .int .i64 c.src, .int .i64 c.dl] : List Value)[j]?) ∧ w'.cell? ⟨b, off + n * 6, none⟩ = some (.int .i64 t.state) ∧ w'.cell? ⟨b, off + n * 6 + 1, none⟩ = some (.int .i64 t.gen) ∧ w'.cell? ⟨b, off + n * 6 + 2, none⟩ = some (.int .i64 t.at_) ∧ w'.cell? ⟨b, off + n * 6 + 3, none⟩ = some (.int .i64 t.wide) ∧ w'.cell? ⟨b, off + n * 6 + 4, none⟩ = some (.bool t.right) ∧ w'.cell? ⟨b, off + n * 6 + 5, none⟩ = some (.int .u64 t.value))) (by kernel_rfl) ?_ (fun hHeld => ?_)
        · ((try dsimp only); (first | exact ctS (E := E) (gc := gc) (c := c) (t := t) (b := b) (off := off) (n := n) HX.out K.out | exact ctS (E := E) (gc := gc) (c := c) (t := t) (b := b) (off := off) (n := n) HX.out K.out.drew))
        refine tk 0 (some 33) ?_
        (try simp only [Act.put, p0, p1, p2])
        refine tk 1 (some 34) ?_
        (try simp only [Act.put, p0, p1, p2])
        refine tk 2 (some 35) ?_
        (try simp only [Act.put, p0, p1, p2])
        refine tk 4 (some 37) ?_
        (try simp only [Act.put, p0, p1, p2])
        refine tk 5 (some 38) ?_
        (try simp only [Act.put, p0, p1, p2])
        refine tk 6 (some 39) ?_
        (try simp only [Act.put, p0, p1, p2])
        refine tk 7 (some 40) ?_
        (try simp only [Act.put, p0, p1, p2])
        refine tk 8 (some 41) ?_
        (try simp only [Act.put, p0, p1, p2])
        refine wpAnyH_ready (rs := [3]) (by kernel_rfl) (by simp) ?_
        refine AllReadyH.cons (o := _) rfl (fun kC hkC => ?_) AllReadyH.nil
        go_simp
        (first | (go_at_call 14; (with_reducible refine ((VN _).out).mono ?_); rintro e w1 ⟨rfl, hb⟩; have K1 := sat.grown (show sat _ _ _ from by first | exact K.out | exact K.out.drew) hb; clear hb; have K2 := Lib.hid K1; clear K1 K; (try clear a0); (try clear l0); (try clear f0); (try clear a1); (try clear l1); (try clear f1); (try clear a2); (try clear l2); (try clear f2); (try clear a3); (try clear l3); (try clear f3); (try clear a4); (try clear l4); (try clear f4); (try clear a5); (try clear l5); (try clear f5); have K := K2; clear K2; (try have a0 := K.out.rd 0 rfl); (try have l0 := K.out.ltp 0 rfl); (try have f0 := K.out.fr 0 rfl); (try have a1 := K.out.rd 1 rfl); (try have l1 := K.out.ltp 1 rfl); (try have f1 := K.out.fr 1 rfl); (try have a2 := K.out.rd 2 rfl); (try have l2 := K.out.ltp 2 rfl); (try have f2 := K.out.fr 2 rfl); (try have a3 := K.out.rd 3 rfl); (try have l3 := K.out.ltp 3 rfl); (try have f3 := K.out.fr 3 rfl)) | (go_at_call 24; (with_reducible refine ((S2 _ (show sat E _ _ from by first | exact K.out | exact K.out.drew).swap).out).mono ?_); rintro e w1 ⟨rfl, K1⟩; replace K1 := K1.swap; have K2 := Lib.hid K1; clear K1 K; (try clear a0); (try clear l0); (try clear f0); (try clear a1); (try clear l1); (try clear f1); (try clear a2); (try clear l2); (try clear f2); (try clear a3); (try clear l3); (try clear f3); (try clear a4); (try clear l4); (try clear f4); (try clear a5); (try clear l5); (try clear f5); have K := K2; clear K2; (try have a0 := K.out.rd 0 rfl); (try have l0 := K.out.ltp 0 rfl); (try have f0 := K.out.fr 0 rfl); (try have a1 := K.out.rd 1 rfl); (try have l1 := K.out.ltp 1 rfl); (try have f1 := K.out.fr 1 rfl); (try have a2 := K.out.rd 2 rfl); (try have l2 := K.out.ltp 2 rfl); (try have f2 := K.out.fr 2 rfl); (try have a3 := K.out.rd 3 rfl); (try have l3 := K.out.ltp 3 rfl); (try have f3 := K.out.fr 3 rfl)))
        refine shown hkC _ _ (by (try dsimp only); (first | exact ctS (E := E) (gc := gc) (c := c) (t := t) (b := b) (off := off) (n := n) HX.out K.out | exact ctS (E := E) (gc := gc) (c := c) (t := t) (b := b) (off := off) (n := n) HX.out K.out.drew)) ?_; clear hkC kC hHeld; intro hHeld
        (try simp only [Act.put, p0, p1, p2])
        refine wpAnyH_ready (rs := [9]) (by kernel_rfl) (by simp) ?_
        refine AllReadyH.cons (o := _) rfl (fun kC hkC => ?_) AllReadyH.nil
        go_simp
        (first | (go_at_call 14; (with_reducible refine ((VN _).out).mono ?_); rintro e w1 ⟨rfl, hb⟩; have K1 := sat.grown (show sat _ _ _ from by first | exact K.out | exact K.out.drew) hb; clear hb; have K2 := Lib.hid K1; clear K1 K; (try clear a0); (try clear l0); (try clear f0); (try clear a1); (try clear l1); (try clear f1); (try clear a2); (try clear l2); (try clear f2); (try clear a3); (try clear l3); (try clear f3); (try clear a4); (try clear l4); (try clear f4); (try clear a5); (try clear l5); (try clear f5); have K := K2; clear K2; (try have a0 := K.out.rd 0 rfl); (try have l0 := K.out.ltp 0 rfl); (try have f0 := K.out.fr 0 rfl); (try have a1 := K.out.rd 1 rfl); (try have l1 := K.out.ltp 1 rfl); (try have f1 := K.out.fr 1 rfl); (try have a2 := K.out.rd 2 rfl); (try have l2 := K.out.ltp 2 rfl); (try have f2 := K.out.fr 2 rfl); (try have a3 := K.out.rd 3 rfl); (try have l3 := K.out.ltp 3 rfl); (try have f3 := K.out.fr 3 rfl)) | (go_at_call 24; (with_reducible refine ((S2 _ (show sat E _ _ from by first | exact K.out | exact K.out.drew).swap).out).mono ?_); rintro e w1 ⟨rfl, K1⟩; replace K1 := K1.swap; have K2 := Lib.hid K1; clear K1 K; (try clear a0); (try clear l0); (try clear f0); (try clear a1); (try clear l1); (try clear f1); (try clear a2); (try clear l2); (try clear f2); (try clear a3); (try clear l3); (try clear f3); (try clear a4); (try clear l4); (try clear f4); (try clear a5); (try clear l5); (try clear f5); have K := K2; clear K2; (try have a0 := K.out.rd 0 rfl); (try have l0 := K.out.ltp 0 rfl); (try have f0 := K.out.fr 0 rfl); (try have a1 := K.out.rd 1 rfl); (try have l1 := K.out.ltp 1 rfl); (try have f1 := K.out.fr 1 rfl); (try have a2 := K.out.rd 2 rfl); (try have l2 := K.out.ltp 2 rfl); (try have f2 := K.out.fr 2 rfl); (try have a3 := K.out.rd 3 rfl); (try have l3 := K.out.ltp 3 rfl); (try have f3 := K.out.fr 3 rfl)))
        refine shown hkC _ _ (by (try dsimp only); (first | exact ctS (E := E) (gc := gc) (c := c) (t := t) (b := b) (off := off) (n := n) HX.out K.out | exact ctS (E := E) (gc := gc) (c := c) (t := t) (b := b) (off := off) (n := n) HX.out K.out.drew)) ?_; clear hkC kC hHeld; intro hHeld
        (try simp only [Act.put, p0, p1, p2])
        refine wpAnyH_done (by kernel_rfl) (NoPanic.normal ?_) _
        go_wp2_with fail
        go_roundg gk'
        case measure => omega
        case rel => exact ⟨n + 1, by have := HN.out; omega, by simp, by have := H2.out; have := H1.out; omega, by rw [EN.out]; first | exact K.out | exact K.out.drew⟩
      · have c2 : decide (n < l.length) = false := by simpa using h2
        have E2 := Lib.hid (show cellsN c l n = cellsM c l by unfold cellsM; rw [show min c.all.toNat l.length = n by omega])
        clear hn hn2 h2
        go_wp2_with (first | (go_at_call 9; (with_reducible refine ((AL _).out).mono ?_); rintro e w1 ⟨rfl, hb⟩; have K1 := sat.grown (by repeat (with_reducible first | exact K.out | apply sat.alloc_any | apply sat.drew | apply sat.drewN)) hb; clear hb; have K2 := Lib.hid K1; clear K1 K; (try clear a0); (try clear l0); (try clear a1); (try clear l1); (try clear a2); (try clear l2); have K := K2; clear K2; have a0 := K.out.rd 0 rfl; have l0 := K.out.ltp 0 rfl))
        go_ret
        exact ⟨gm, rfl, by rw [← E2.out]; exact K.out.drop⟩
    · have c1 : decide ((n : Int) < c.all) = false := by simpa using h1
      have E2 := Lib.hid (show cellsN c l n = cellsM c l by unfold cellsM; rw [show min c.all.toNat l.length = n by omega])
      clear hn hn2 h1
      go_wp2_with (first | (go_at_call 9; (with_reducible refine ((AL _).out).mono ?_); rintro e w1 ⟨rfl, hb⟩; have K1 := sat.grown (by repeat (with_reducible first | exact K.out | apply sat.alloc_any | apply sat.drew | apply sat.drewN)) hb; clear hb; have K2 := Lib.hid K1; clear K1 K; (try clear a0); (try clear l0); (try clear a1); (try clear l1); (try clear a2); (try clear l2); have K := K2; clear K2; have a0 := K.out.rd 0 rfl; have l0 := K.out.ltp 0 rfl))
      go_ret
      exact ⟨gm, rfl, by rw [← E2.out]; exact K.out.drop⟩
end
end Go.Proofs.Ytdhcomklmckhoaa
