/- Stamps and words as the program reckons them. Conditions: numbers within their kinds. -/
import Derived.Test.YtdhcomklmckhoaaLay
import Derived.Laws.BitsLemmas
import Derived.Laws.ResultCell
namespace Go.Proofs.Ytdhcomklmckhoaa
open Go.RowKit Go.SepYtdhcomklmckhoaa
set_option linter.unusedSimpArgs false
set_option linter.unusedVariables false
set_option maxRecDepth 100000
theorem and_mask (i : Nat) (hi : i ≤ 64) (x : Int) (h0 : 0 ≤ x) (h1 : x < 18446744073709551616) : bits .and .u64 x (2 ^ i - 1) = x % 2 ^ i :=
  bits_mask .u64 64 (by decide) (fun n h h' => by rw [IntKind.wrap_u64]; omega) i hi x h0 (by simpa using h1)
theorem unpack_calls (x : Int) (h0 : 0 ≤ x) (h1 : x < 18446744073709551616) (w : World) : Tells 22 #[.int .u64 x] w (.agg (unpack x).v.toArray) := by
  have e1 : wrap64 (bits .and .u64 x 3) = x % 4 := by rw [show (3 : Int) = 2 ^ 2 - 1 from rfl, and_mask 2 (by omega) x h0 h1]; exact w64 (by omega) (by omega)
  have e2 : wrap64 (bits .and .u64 (x / 4) 1) = x / 4 % 2 := by rw [show (1 : Int) = 2 ^ 1 - 1 from rfl, and_mask 1 (by omega) _ (by omega) (by omega)]; exact w64 (by omega) (by omega)
  have e3 : wrap64 (bits .and .u64 (x / 8) 8191) = x / 8 % 8192 := by rw [show (8191 : Int) = 2 ^ 13 - 1 from rfl, and_mask 13 (by omega) _ (by omega) (by omega)]; exact w64 (by omega) (by omega)
  have e4 : wrap64 (bits .and .u64 (x / 65536) 16777215) = x / 65536 % 16777216 := by rw [show (16777215 : Int) = 2 ^ 24 - 1 from rfl, and_mask 24 (by omega) _ (by omega) (by omega)]; exact w64 (by omega) (by omega)
  have e5 : wrap64 (bits .and .u64 (x / 1099511627776) 16777215) = x / 1099511627776 % 16777216 := by rw [show (16777215 : Int) = 2 ^ 24 - 1 from rfl, and_mask 24 (by omega) _ (by omega) (by omega)]; exact w64 (by omega) (by omega)
  have H := Lib.hid (And.intro e1 (And.intro e2 (And.intro e3 (And.intro e4 e5))))
  clear e1 e2 e3 e4 e5
  go_enter Try.func22, Try.ntmps22
  go_wp2
  obtain ⟨e1, e2, e3, e4, e5⟩ := H.out
  exact bodyPost_ret (v := .agg (unpack x).v.toArray) (by simp [results, Try.results22, go_sem, e1, e2, e3, e4, e5, unpack, WordM.v]) rfl ⟨rfl, (Below.refl _ _).alloc (Nat.le_refl _) _⟩
theorem wright_calls (x : WordM) (w : World) : Tells 50 #[.agg #[.int .i64 x.state, .int .i64 x.fin, .int .i64 x.gen, .int .i64 x.stamp.lo, .int .i64 x.stamp.hi]] w (.bool x.right) := by
  unfold WordM.right
  go_enter Try.func50, Try.ntmps50
  go_wp2
  all_goals
    go_ret
    exact ⟨ret_b (by simp_all [Top] <;> omega), (Below.refl _ _).alloc (Nat.le_refl _) _⟩
theorem or_add (i : Nat) (hi : i ≤ 64) (x y : Int) (hx : 0 ≤ x ∧ x < 2 ^ i) (hy : 0 ≤ y) (hd : y % 2 ^ i = 0) (h : x < 18446744073709551616 ∧ y < 18446744073709551616) : bits .or .u64 x y = x + y := by
  have hc : bits .or .u64 x y = bits .or .u64 y x := by simp only [bits, BitVec.or_comm]
  rw [hc, bits_join .u64 64 (by decide) (fun n h h' => by rw [IntKind.wrap_u64]; omega) i y x hy hd (by simpa using h.2) hx.1 hx.2 (by simpa using h.1), Int.add_comm]
theorem wordR {x : WordM} (h : x.right = true) : 0 ≤ x.state ∧ x.state ≤ 2 ∧ 0 ≤ x.fin ∧ x.fin ≤ 1 ∧ 0 ≤ x.gen ∧ x.gen ≤ 8191 ∧ 0 ≤ x.stamp.lo ∧ x.stamp.lo ≤ 16777215 ∧ 0 ≤ x.stamp.hi ∧ x.stamp.hi ≤ 16777215 := by
  simp only [WordM.right, Top, Bool.and_eq_true, Bool.or_eq_true, decide_eq_true_eq] at h
  omega
theorem pack_sum (x : WordM) (h : x.right = true) : bits .or .u64 (bits .or .u64 (bits .or .u64 (bits .or .u64 (IntKind.u64.wrap x.state) (IntKind.u64.wrap (IntKind.u64.wrap x.fin * 4))) (IntKind.u64.wrap (IntKind.u64.wrap x.gen * 8)))
    (IntKind.u64.wrap (IntKind.u64.wrap x.stamp.lo * 65536))) (IntKind.u64.wrap (IntKind.u64.wrap x.stamp.hi * 1099511627776)) = x.pack := by
  have hr := wordR h
  simp only [WordM.pack, h, if_true, IntKind.wrap_u64]
  rw [Int.emod_eq_of_lt (a := x.state) (by omega) (by omega), Int.emod_eq_of_lt (a := x.fin) (by omega) (by omega), Int.emod_eq_of_lt (a := x.gen) (by omega) (by omega), Int.emod_eq_of_lt (a := x.stamp.lo) (by omega) (by omega), Int.emod_eq_of_lt (a := x.stamp.hi) (by omega) (by omega)]
  rw [Int.emod_eq_of_lt (a := x.fin * 4) (by omega) (by omega), Int.emod_eq_of_lt (a := x.gen * 8) (by omega) (by omega), Int.emod_eq_of_lt (a := x.stamp.lo * 65536) (by omega) (by omega), Int.emod_eq_of_lt (a := x.stamp.hi * 1099511627776) (by omega) (by omega)]
  rw [or_add 2 (by omega) x.state (x.fin * 4) (by omega) (by omega) (by omega) (by omega), or_add 3 (by omega) (x.state + x.fin * 4) (x.gen * 8) (by omega) (by omega) (by omega) (by omega),
    or_add 16 (by omega) (x.state + x.fin * 4 + x.gen * 8) (x.stamp.lo * 65536) (by omega) (by omega) (by omega) (by omega), or_add 40 (by omega) _ (x.stamp.hi * 1099511627776) (by omega) (by omega) (by omega) (by omega)]
theorem pack_calls (x : WordM) (w : World) : Tells 26 #[.agg #[.int .i64 x.state, .int .i64 x.fin, .int .i64 x.gen, .int .i64 x.stamp.lo, .int .i64 x.stamp.hi]] w (.int .u64 x.pack) := by
  have C := fun w => Lib.hid (wright_calls x w)
  cases hr : x.right with
  | false =>
    rw [hr] at C
    have e : x.pack = 0 := by simp [WordM.pack, hr]
    rw [e]
    clear e hr
    go_enter Try.func26, Try.ntmps26
    go_wp2_with (go_at_call 50; refine (C _).out.mono ?_; rintro e w1 ⟨rfl, hb⟩)
    go_ret
    exact ⟨rfl, ((Below.refl _ _).alloc (Nat.le_refl _) _).trans (hb.mono (by simp))⟩
  | true =>
    rw [hr] at C
    go_enter Try.func26, Try.ntmps26
    go_wp2_with (go_at_call 50; refine (C _).out.mono ?_; rintro e w1 ⟨rfl, hb⟩; have hc := (fun o => hb.cell (p := ⟨w.heap.size, o, none⟩) (by simp) : ∀ o, w1.cell? ⟨w.heap.size, o, none⟩ = _))
    go_ret
    exact ⟨ret_i (pack_sum x hr), ((Below.refl _ _).alloc (Nat.le_refl _) _).trans (hb.mono (by simp))⟩
theorem sright_calls (x : StampM) (w : World) : Tells 85 #[.agg #[.int .i64 x.lo, .int .i64 x.hi]] w (.bool x.right) := by
  unfold StampM.right
  go_enter Try.func85, Try.ntmps85
  go_wp2
  all_goals
    go_ret
    exact ⟨ret_b (by simp_all [Top] <;> omega), (Below.refl _ _).alloc (Nat.le_refl _) _⟩
theorem taken_calls (x : WordM) (w : World) : Tells 25 #[.agg #[.int .i64 x.state, .int .i64 x.fin, .int .i64 x.gen, .int .i64 x.stamp.lo, .int .i64 x.stamp.hi]] w (.agg x.taken.v.toArray) := by
  go_enter Try.func25, Try.ntmps25
  go_wp2
  refine bodyPost_ret (v := .agg x.taken.v.toArray) (by simp [results, Try.results25, go_sem, WordM.taken, WordM.v]) rfl ⟨rfl, ?_⟩
  exact ((Below.refl _ _).alloc (Nat.le_refl _) _).alloc (by simp) _
theorem next_calls (x : WordM) (e : Int) (s : StampM) (hg : 0 ≤ x.gen ∧ x.gen ≤ 100000) (w : World) : Tells 69 #[.agg #[.int .i64 x.state, .int .i64 x.fin, .int .i64 x.gen, .int .i64 x.stamp.lo, .int .i64 x.stamp.hi], .int .i64 e, .agg #[.int .i64 s.lo, .int .i64 s.hi]] w (.agg (x.next e s).v.toArray) := by
  obtain ⟨hg0, hg1⟩ := hg
  go_enter Try.func69, Try.ntmps69
  go_wp2
  refine bodyPost_ret (v := .agg (x.next e s).v.toArray) (by simp [results, Try.results69, go_sem, WordM.next, WordM.v]) rfl ⟨rfl, ?_⟩
  exact (((Below.refl _ _).alloc (Nat.le_refl _) _).alloc (by simp) _).alloc (by simp; omega) _
end Go.Proofs.Ytdhcomklmckhoaa
