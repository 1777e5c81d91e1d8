/- HistMost's calls: whatever deeds there are (60 at most are looked at), how many are under way at one time. -/
import Derived.Test.YthlipcejeeoacaaPHistMostx1
import Derived.Test.YthlipcejeeoacaaFlat
namespace Go.Proofs.Ythlipcejeeoacaa.HM
open Go.RowKit Go.SepYthlipcejeeoacaa Go.Proofs.Ythlipcejeeoacaa.PHistMost Go.Proofs.YthlipcejeeoacaaW.PrintWords Go.Proofs.YthlipcejeeoacaaW.PrintLast Go.Proofs.YthlipcejeeoacaaW.PrintMore

abbrev DeedK : List FK := [FK.int .i64, FK.int .i64, FK.int .i64, FK.int .u64, FK.int .i64, FK.int .i64, FK.int .i64, FK.bool, FK.int .u64, FK.int .i64, FK.int .i64]
theorem deed_open {cs : List Value} (h : okAll DeedK cs) : ∃ a0 a1 a2 a3 a4 a5 a6 a8 a9 a10 : Int, ∃ a7 : Bool,
    cs = [.int .i64 a0, .int .i64 a1, .int .i64 a2, .int .u64 a3, .int .i64 a4, .int .i64 a5, .int .i64 a6, .bool a7, .int .u64 a8, .int .i64 a9, .int .i64 a10] := by
  obtain ⟨a0, v0, rfl, _, h0⟩ := okAll_int h
  obtain ⟨a1, v1, rfl, _, h1⟩ := okAll_int h0
  obtain ⟨a2, v2, rfl, _, h2⟩ := okAll_int h1
  obtain ⟨a3, v3, rfl, _, h3⟩ := okAll_int h2
  obtain ⟨a4, v4, rfl, _, h4⟩ := okAll_int h3
  obtain ⟨a5, v5, rfl, _, h5⟩ := okAll_int h4
  obtain ⟨a6, v6, rfl, _, h6⟩ := okAll_int h5
  obtain ⟨a7, v7, rfl, h7⟩ := okAll_bool h6
  obtain ⟨a8, v8, rfl, _, h8⟩ := okAll_int h7
  obtain ⟨a9, v9, rfl, _, h9⟩ := okAll_int h8
  obtain ⟨a10, v10, rfl, _, h10⟩ := okAll_int h9
  obtain rfl := okAll_nil h10
  exact ⟨a0, a1, a2, a3, a4, a5, a6, a8, a9, a10, a7, rfl⟩
theorem deeds_read : ∀ (rows : List (List Value)), (∀ r ∈ rows, okAll DeedK r) → ∃ ps : List S32, ps.length = rows.length ∧ ∀ (w : World) (j : Nat) (p : S32), ps[j]? = some p → ∃ r, rows[j]? = some r ∧ k32.K w p r
  | [], _ => ⟨[], rfl, fun _ j p h => by simp at h⟩
  | r :: rows, h => by
    obtain ⟨ps, h1, h2⟩ := deeds_read rows (fun q hq => h q (by simp [hq]))
    obtain ⟨a0, a1, a2, a3, a4, a5, a6, a8, a9, a10, a7, rfl⟩ := deed_open (h r (by simp))
    refine ⟨⟨a0, ⟨a1, a2, a3, a4⟩, a5, a6, ⟨a7, a8, ⟨a9, a10⟩⟩⟩ :: ps, by simp [h1], fun w j p hj => ?_⟩
    cases j with
    | zero => simp at hj; subst hj; exact ⟨_, rfl, k32_mk w _⟩
    | succ j => simp at hj; simpa using h2 w j p hj
theorem kd_of {w : World} {a : Option Addr} {len cap : Nat} {rows : List (List Value)} (h : RowsAt w DeedK a len cap rows) : ∃ ps : List S32, ps.length = len ∧ Kd.C k32 w a len ps := by
  obtain ⟨ps, h1, h2⟩ := deeds_read rows h.ok
  refine ⟨ps, by rw [h1, h.length], by rw [h1, h.length], ?_, fun hn => ?_⟩
  · have := h.le; have := h.max; simp [maxLen] at *; omega
  · cases ha : a with
    | none => have := h.nil ha; omega
    | some x =>
      refine ⟨x, rfl, fun j p hj => ?_⟩
      obtain ⟨r, hr, hk⟩ := h2 w j p hj
      exact ⟨r, k32.K_len hk, hk, fun i u hu => h.cell x ha j i u r hr hu⟩

def hit (d o : S32) : Bool := decide (o.f2 ≤ d.f2) && !(decide (o.f3 ≥ 0) && decide (o.f3 < d.f2))
def cnt (d : S32) : List S32 → Int
  | [] => 0
  | o :: l => (if hit d o then 1 else 0) + cnt d l
def best (xs : List S32) : Int → List S32 → Int
  | m, [] => m
  | m, d :: l => best xs (mx m (cnt d xs)) l
theorem cnt_bd (d : S32) (l : List S32) : 0 ≤ cnt d l ∧ cnt d l ≤ l.length := by
  induction l with
  | nil => simp [cnt]
  | cons o l ih => simp only [cnt, List.length_cons]; split <;> omega
theorem rd_mid (pre suf : List S32) (x : S32) : rd_T32 (pre ++ x :: suf) (pre.length : Int) = x := by
  simp [rd_T32]
theorem w64 {x : Int} (h : -9223372036854775808 ≤ x) (h' : x < 9223372036854775808) : wrap64 x = x := by unfold wrap64; omega

theorem inner (x0 x9 : List S32) (x3 x10 x11 : Int) (d : S32) : ∀ (suf pre : List S32) (n : Int) (k : Nat), (pre ++ suf).length ≤ 60 → 0 ≤ n → n + suf.length ≤ 100 →
    hist_Most.l1 (k + suf.length + 1) x0 x3 n x9 x10 x11 (pre ++ suf) ((pre ++ suf).length : Int) (pre.length : Int) d.f0 d.f1.f0 d.f1.f1 d.f1.f2 d.f1.f3 d.f2 d.f3 d.f4.f0 d.f4.f1 d.f4.f2.f0 d.f4.f2.f1 =
      hist_Most.l0 k x0 (mx x3 (n + cnt d suf)) x9 x10 (wrap64 (x11 + 1)) := by
  intro suf
  induction suf with
  | nil =>
    intro pre n k hl h0 hn
    simp only [List.length_nil, Nat.add_zero, hist_Most.l1, List.append_nil, cnt, Int.add_zero]
    rw [if_neg (by omega)]
  | cons o suf ih =>
    intro pre n k hl h0 hn
    simp only [List.length_append, List.length_cons] at hl hn
    have hr := rd_mid pre suf o
    have h1 := ih (pre ++ [o]) (n + (if hit d o then 1 else 0)) k (by simp; omega) (by split <;> omega) (by split <;> omega)
    rw [show k + (o :: suf).length + 1 = (k + suf.length + 1) + 1 from by simp; omega]
    simp only [List.append_assoc, List.singleton_append] at h1
    rw [show ((pre ++ [o]).length : Int) = (pre.length : Int) + 1 from by simp] at h1
    rw [hist_Most.l1, if_pos (by simp; omega), if_pos (by omega), if_pos (by simp; omega), hr, w64 (x := (pre.length : Int) + 1) (by omega) (by omega)]
    simp only [cnt]
    rw [show n + ((if hit d o then 1 else 0) + cnt d suf) = n + (if hit d o then 1 else 0) + cnt d suf from by omega, ← h1]
    by_cases c1 : o.f2 ≤ d.f2
    · rw [if_pos c1]
      unfold hist_Before.f
      by_cases c2 : o.f3 ≥ 0
      · rw [if_pos c2]
        by_cases c3 : o.f3 < d.f2
        · simp [c3, hit, c1, c2]
        · simp only [c3, decide_false, Option.bind_some]
          rw [if_neg (by simp), w64 (by omega) (by omega)]
          rw [show hit d o = true from by simp only [hit, c1, c2, c3]; decide]
          rfl
      · rw [if_neg c2]
        simp only [Option.bind_some]
        rw [if_neg (by simp), w64 (by omega) (by omega)]
        rw [show hit d o = true from by simp only [hit, c1, c2]; simp]
        rfl
    · rw [if_neg c1]
      rw [show hit d o = false from by simp only [hit, c1]; simp]
      simp

theorem outer (x0 : List S32) (h60 : x0.length ≤ 60) : ∀ (suf pre : List S32) (m : Int) (k : Nat), (pre ++ suf).length ≤ 60 →
    hist_Most.l0 (k + suf.length * (x0.length + 2) + 1) x0 m (pre ++ suf) ((pre ++ suf).length : Int) (pre.length : Int) = some (best x0 m suf) := by
  intro suf
  induction suf with
  | nil =>
    intro pre m k hl
    simp only [List.length_nil, Nat.zero_mul, Nat.add_zero, hist_Most.l0, List.append_nil, best]
    rw [if_neg (by omega)]
  | cons d suf ih =>
    intro pre m k hl
    simp only [List.length_append, List.length_cons] at hl
    have hr := rd_mid pre suf d
    have h1 := ih (pre ++ [d]) (mx m (cnt d x0)) k (by simp; omega)
    have h2 := inner x0 (pre ++ d :: suf) m ((pre ++ d :: suf).length : Int) (pre.length : Int) d x0 [] 0 (k + suf.length * (x0.length + 2) + 1) (by simpa using h60) (by omega) (by omega)
    simp only [List.append_assoc, List.singleton_append] at h1
    rw [show ((pre ++ [d]).length : Int) = (pre.length : Int) + 1 from by simp] at h1
    rw [w64 (x := (pre.length : Int) + 1) (by omega) (by omega), Int.zero_add, h1] at h2
    rw [show k + (d :: suf).length * (x0.length + 2) + 1 = (k + suf.length * (x0.length + 2) + 1 + x0.length + 1) + 1 from by
      simp only [List.length_cons, Nat.add_mul]; omega]
    rw [hist_Most.l0, if_pos (by simp; omega), if_pos (by omega), if_pos (by simp; omega), hr]
    simpa [best] using h2

theorem linner (x0 x14 : List S32) (x3 x15 x16 : Int) (d : S32) : ∀ (suf pre : List S32) (n : Int) (k : Nat), (pre ++ suf).length ≤ 60 → 0 ≤ n → n + suf.length ≤ 100 →
    stackyardlaw14_HistMost.l1 (k + suf.length + 1) x0 x3 n x14 x15 x16 (pre ++ suf) ((pre ++ suf).length : Int) (pre.length : Int) d.f0 d.f1.f0 d.f1.f1 d.f1.f2 d.f1.f3 d.f2 d.f3 d.f4.f0 d.f4.f1 d.f4.f2.f0 d.f4.f2.f1 =
      stackyardlaw14_HistMost.l0 k x0 (mx x3 (n + cnt d suf)) x14 x15 (wrap64 (x16 + 1)) := by
  intro suf
  induction suf with
  | nil =>
    intro pre n k hl h0 hn
    simp only [List.length_nil, Nat.add_zero, stackyardlaw14_HistMost.l1, List.append_nil, cnt, Int.add_zero]
    rw [if_neg (by omega)]
    unfold mx
    by_cases c : n > x3
    · rw [if_pos c, if_pos (by omega)]
    · rw [if_neg c, if_neg (by omega)]
  | cons o suf ih =>
    intro pre n k hl h0 hn
    simp only [List.length_append, List.length_cons] at hl hn
    have hr := rd_mid pre suf o
    have h1 := ih (pre ++ [o]) (n + (if hit d o then 1 else 0)) k (by simp; omega) (by split <;> omega) (by split <;> omega)
    rw [show k + (o :: suf).length + 1 = (k + suf.length + 1) + 1 from by simp; omega]
    simp only [List.append_assoc, List.singleton_append] at h1
    rw [show ((pre ++ [o]).length : Int) = (pre.length : Int) + 1 from by simp] at h1
    rw [stackyardlaw14_HistMost.l1, if_pos (by simp; omega), if_pos (by omega), if_pos (by simp; omega), hr, w64 (x := (pre.length : Int) + 1) (by omega) (by omega)]
    simp only [cnt]
    rw [show n + ((if hit d o then 1 else 0) + cnt d suf) = n + (if hit d o then 1 else 0) + cnt d suf from by omega, ← h1]
    by_cases c1 : o.f2 ≤ d.f2
    · rw [if_pos c1]
      by_cases c2 : o.f3 < 0
      · rw [if_pos c2, w64 (by omega) (by omega)]
        rw [show hit d o = true from by simp only [hit, c1, show ¬ o.f3 ≥ 0 by omega]; simp]
        rfl
      · rw [if_neg c2]
        by_cases c3 : o.f3 ≥ d.f2
        · rw [if_pos c3, w64 (by omega) (by omega)]
          rw [show hit d o = true from by simp only [hit, c1, show ¬ o.f3 < d.f2 by omega]; simp]
          rfl
        · rw [if_neg c3]
          rw [show hit d o = false from by simp only [hit, c1, show o.f3 ≥ 0 by omega, show o.f3 < d.f2 by omega]; simp]
          simp
    · rw [if_neg c1]
      rw [show hit d o = false from by simp only [hit, c1]; simp]
      simp

theorem louter (x0 : List S32) (h60 : x0.length ≤ 60) : ∀ (suf pre : List S32) (m : Int) (k : Nat), (pre ++ suf).length ≤ 60 → best x0 m suf = best x0 0 x0 →
    stackyardlaw14_HistMost.l0 (k + suf.length * (x0.length + 2) + 4000) x0 m (pre ++ suf) ((pre ++ suf).length : Int) (pre.length : Int) = some true := by
  intro suf
  induction suf with
  | nil =>
    intro pre m k hl hb
    have hrun := outer x0 h60 x0 [] 0 (k + 3998 - x0.length * (x0.length + 2)) (by simpa using h60)
    have hm : x0.length * (x0.length + 2) ≤ 60 * 62 := Nat.mul_le_mul h60 (by omega)
    rw [show k + 3998 - x0.length * (x0.length + 2) + x0.length * (x0.length + 2) + 1 = k + 3999 from by omega] at hrun
    simp only [List.length_nil, Nat.zero_mul, Nat.add_zero, List.append_nil]
    rw [show k + 4000 = (k + 3999) + 1 from by omega, stackyardlaw14_HistMost.l0, if_neg (by omega)]
    unfold hist_Most.f
    simp only [List.nil_append, List.length_nil] at hrun
    rw [show ((0 : Nat) : Int) = 0 from rfl] at hrun
    rw [hrun]
    simp only [best] at hb
    simp [← hb]
  | cons d suf ih =>
    intro pre m k hl hb
    simp only [List.length_append, List.length_cons] at hl
    have hr := rd_mid pre suf d
    have h1 := ih (pre ++ [d]) (mx m (cnt d x0)) k (by simp; omega) (by simpa [best] using hb)
    have h2 := linner x0 (pre ++ d :: suf) m ((pre ++ d :: suf).length : Int) (pre.length : Int) d x0 [] 0 (k + suf.length * (x0.length + 2) + 4000) (by simpa using h60) (by omega) (by omega)
    simp only [List.append_assoc, List.singleton_append] at h1
    rw [show ((pre ++ [d]).length : Int) = (pre.length : Int) + 1 from by simp] at h1
    rw [w64 (x := (pre.length : Int) + 1) (by omega) (by omega), Int.zero_add, h1] at h2
    rw [show k + (d :: suf).length * (x0.length + 2) + 4000 = (k + suf.length * (x0.length + 2) + 4000 + x0.length + 1) + 1 from by
      simp only [List.length_cons, Nat.add_mul]; omega]
    rw [stackyardlaw14_HistMost.l0, if_pos (by simp; omega), if_pos (by omega), if_pos (by simp; omega), hr]
    simpa using h2

theorem head_true : stackyardlaw14_head.f 9 = some true := by decide +kernel
theorem head_any (k : Nat) (hk : 9 ≤ k) : stackyardlaw14_head.f k = some true := at_rounds (fun k => stackyardlaw14_head.mono k) hk head_true
end Go.Proofs.Ythlipcejeeoacaa.HM
namespace Go.Proofs.Ythlipcejeeoacaa
open Go.RowKit Go.SepYthlipcejeeoacaa Go.Proofs.Ythlipcejeeoacaa.PHistMost Go.Proofs.Ythlipcejeeoacaa.HM
theorem histMost_calls (W : World) (a : Option Addr) (len cap : Nat) (rows : List (List Value)) (h : RowsAt W DeedK a len cap rows) :
    Calls Try.prog 4 #[.slice a len cap] W fun e W' => e = .returned (.bool true) ∧ Below W.heap.size W W' := by
  obtain ⟨ps, rfl, hk⟩ := kd_of h
  refine stackyardlaw14_HistMost.calls 20000 a cap ps true W hk h.le ?_
  unfold stackyardlaw14_HistMost.f
  rw [head_any _ (by omega)]
  simp only [Option.bind_some, if_true]
  by_cases h60 : (ps.length : Int) > 60
  · rw [if_pos h60]
  · rw [if_neg h60]
    have hm : ps.length * (ps.length + 2) ≤ 60 * 62 := Nat.mul_le_mul (by omega) (by omega)
    have := louter ps (by omega) ps [] 0 (16000 - ps.length * (ps.length + 2)) (by simp; omega) rfl
    rw [show 16000 - ps.length * (ps.length + 2) + ps.length * (ps.length + 2) + 4000 = 20000 from by omega] at this
    simpa using this
end Go.Proofs.Ythlipcejeeoacaa
