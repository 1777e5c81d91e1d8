/- The greatest number of steps between two ends is what bound.Gaps tells, whatever gaps there are (60 at most, each cut to 16 bits). No condition beyond the row's own. -/
import Derived.Test.YthlipcejeeoacaaPBoundGapsx1
namespace Go.Proofs.Ythlipcejeeoacaa.Pure
open Go.RowKit Go.Proofs.Ythlipcejeeoacaa.PBoundGaps Go.Proofs.YthlipcejeeoacaaW.PrintWords Go.Proofs.YthlipcejeeoacaaW.PrintLast Go.Proofs.YthlipcejeeoacaaW.PrintMore

theorem i64_and16 (n : Int) : bits .and .i64 n 65535 = n % 65536 := by
  have h127 : (BitVec.ofInt 64 65535).toNat = 2 ^ 16 - 1 := by decide
  have key : (BitVec.ofInt 64 n &&& BitVec.ofInt 64 65535).toNat = (n % ((2 ^ 64 : Nat) : Int)).toNat % 2 ^ 16 := by
    rw [BitVec.toNat_and, BitVec.toNat_ofInt, h127, Nat.and_two_pow_sub_one_eq_mod]
  show IntKind.i64.wrap ((BitVec.ofInt 64 n &&& BitVec.ofInt 64 65535).toNat : Nat) = n % 65536
  rw [key, IntKind.wrap_i64]
  omega

def scan : Int → List Int → List Int
  | _, [] => []
  | a, g :: gs => (a + g) :: scan (a + g) gs
def tot : Int → List Int → Int
  | a, [] => a
  | a, g :: gs => tot (a + g) gs
def big : Int → List Int → Int
  | m, [] => m
  | m, g :: gs => big (mx m g) gs

theorem w64 {x : Int} (h : -9223372036854775808 ≤ x) (h' : x < 9223372036854775808) : wrap64 x = x := by unfold wrap64; omega

theorem rd_mid (pre suf : List Int) (x : Int) : rd (pre ++ x :: suf) (pre.length : Int) = x := by
  simp [rd]

theorem scan_length (a : Int) (gs : List Int) : (scan a gs).length = gs.length := by
  induction gs generalizing a with
  | nil => rfl
  | cons g gs ih => simp [scan, ih]
theorem scan_snoc (a : Int) (gs : List Int) (g : Int) : scan a (gs ++ [g]) = scan a gs ++ [tot a gs + g] := by
  induction gs generalizing a with
  | nil => rfl
  | cons h gs ih => simp [scan, tot, ih]
theorem tot_snoc (a : Int) (gs : List Int) (g : Int) : tot a (gs ++ [g]) = tot a gs + g := by
  induction gs generalizing a with
  | nil => rfl
  | cons h gs ih => simp [tot, ih]
theorem big_snoc (a : Int) (gs : List Int) (g : Int) : big a (gs ++ [g]) = mx (big a gs) g := by
  induction gs generalizing a with
  | nil => rfl
  | cons h gs ih => simp [big, ih]
theorem tot_bd (a : Int) (gs : List Int) (h : ∀ g ∈ gs, 1 ≤ g ∧ g ≤ 65536) : a ≤ tot a gs ∧ tot a gs ≤ a + 65536 * gs.length := by
  induction gs generalizing a with
  | nil => simp [tot]
  | cons g gs ih =>
    have h1 := h g (by simp)
    have h2 := ih (a + g) (fun x hx => h x (by simp [hx]))
    simp only [tot, List.length_cons]
    omega
theorem big_mx (a b : Int) (gs : List Int) : big (mx a b) gs = mx (big b gs) a := by
  induction gs generalizing a b with
  | nil => simp only [big, mx]; (repeat' split) <;> omega
  | cons g gs ih =>
    simp only [big]
    rw [show mx (mx a b) g = mx a (mx b g) from by unfold mx; (repeat' split) <;> omega, ih]

theorem gaps_run (all : Int) (hall : 0 ≤ all ∧ all ≤ 2 ^ 40) : ∀ (suf pre : List Int) (a M : Int) (k : Nat), (∀ g ∈ suf, 1 ≤ g ∧ g ≤ 65536) → -1 ≤ a → a + 65536 * suf.length ≤ 2 ^ 40 → (pre ++ scan a suf).length ≤ 100 → suf.length < k →
    bound_Gaps.l0 k all M a (pre ++ scan a suf) ((pre ++ scan a suf).length : Int) (pre.length : Int) = some (mx (big M suf) (all - tot a suf - 1)) := by
  intro suf
  induction suf with
  | nil =>
    intro pre a M k hg ha hb hl hk
    obtain ⟨k, rfl⟩ : ∃ m, k = m + 1 := ⟨k - 1, by omega⟩
    simp only [bound_Gaps.l0, scan, List.append_nil, big, tot]
    simp only [List.length_nil] at hb
    rw [if_neg (by omega), w64 (x := all - a) (by omega) (by omega), w64 (x := all - a - 1) (by omega) (by omega)]
  | cons g suf ih =>
    intro pre a M k hg ha hb hl hk
    obtain ⟨k, rfl⟩ : ∃ m, k = m + 1 := ⟨k - 1, by omega⟩
    have h1 := hg g (by simp)
    simp only [List.length_cons] at hb hk
    have hlen : (pre ++ scan a (g :: suf)).length = pre.length + suf.length + 1 := by simp [scan, scan_length]; omega
    have hr : rd (pre ++ scan a (g :: suf)) (pre.length : Int) = a + g := rd_mid pre (scan (a + g) suf) (a + g)
    have hpre : pre ++ scan a (g :: suf) = (pre ++ [a + g]) ++ scan (a + g) suf := by simp [scan]
    have := ih (pre ++ [a + g]) (a + g) (mx M g) k (fun x hx => hg x (by simp [hx])) (by omega) (by omega) (by rw [← hpre]; exact hl) (by omega)
    rw [← hpre] at this
    simp only [bound_Gaps.l0, big, tot]
    rw [if_pos (by omega), if_pos (by omega), if_pos (by omega), hr, w64 (x := a + g - a) (by omega) (by omega), show a + g - a = g from by omega,
      w64 (x := (pre.length : Int) + 1) (by omega) (by omega)]
    rw [show (pre.length : Int) + 1 = ((pre ++ [a + g]).length : Int) from by simp]
    exact this

def gOf (x : Int) : Int := 1 + x % 65536

theorem law_run (rest : Int) (hrest : 0 ≤ rest ∧ rest ≤ 65535) : ∀ (suf done : List Int) (k : Nat), (done ++ suf).length ≤ 60 → suf.length + 70 < k →
    stackyardlaw16_BoundGaps.l0 k rest (big rest (done.map gOf)) (tot (-1) (done.map gOf)) (scan (-1) (done.map gOf)) (done ++ suf) ((done ++ suf).length : Int) (done.length : Int) = some true := by
  have hgs : ∀ l : List Int, ∀ g ∈ l.map gOf, 1 ≤ g ∧ g ≤ 65536 := by
    intro l g hg
    obtain ⟨x, _, rfl⟩ := List.mem_map.1 hg
    unfold gOf; omega
  intro suf
  induction suf with
  | nil =>
    intro done k hl hk
    obtain ⟨k, rfl⟩ : ∃ m, k = m + 1 := ⟨k - 1, by omega⟩
    simp only [List.append_nil] at hl
    have hb := tot_bd (-1) (done.map gOf) (hgs done)
    simp only [List.length_map] at hb
    have hrun := gaps_run (tot (-1) (done.map gOf) + 1 + rest) (by omega) (done.map gOf) [] (-1) 0 k (hgs done) (by omega) (by simp; omega) (by simp [scan_length]; omega) (by simp at hk ⊢; omega)
    simp only [stackyardlaw16_BoundGaps.l0, List.append_nil]
    rw [if_neg (by omega), w64 (x := tot (-1) (done.map gOf) + 1) (by omega) (by omega), w64 (by omega) (by omega)]
    unfold bound_Gaps.f
    simp only [List.nil_append, List.length_nil] at hrun
    rw [show ((0 : Nat) : Int) = 0 from rfl] at hrun
    rw [hrun]
    simp only [Option.bind_some, Option.some.injEq, beq_iff_eq]
    rw [show tot (-1) (done.map gOf) + 1 + rest - tot (-1) (done.map gOf) - 1 = rest from by omega]
    have h0 := big_mx rest 0 (done.map gOf)
    rw [← h0]
    congr 1
    unfold mx; split <;> omega
  | cons x suf ih =>
    intro done k hl hk
    obtain ⟨k, rfl⟩ : ∃ m, k = m + 1 := ⟨k - 1, by omega⟩
    simp only [List.length_append, List.length_cons] at hl hk
    have hb := tot_bd (-1) (done.map gOf) (hgs done)
    simp only [List.length_map] at hb
    have hx : gOf x = 1 + x % 65536 := rfl
    have hnext := ih (done ++ [x]) k (by simp; omega) (by omega)
    have hr : rd (done ++ x :: suf) (done.length : Int) = x := rd_mid done suf x
    simp only [stackyardlaw16_BoundGaps.l0, List.append_assoc, List.singleton_append] at hnext ⊢
    rw [if_pos (by simp; omega), if_pos (by omega), if_pos (by simp; omega), hr, i64_and16, w64 (x := 1 + x % 65536) (by omega) (by omega), if_pos (by rw [scan_length]; simp; omega)]
    simp only [Option.bind_some]
    rw [w64 (x := (done.length : Int) + 1) (by omega) (by omega), w64 (x := tot (-1) (done.map gOf) + (1 + x % 65536)) (by omega) (by omega)]
    rw [show ((done ++ [x]).length : Int) = (done.length : Int) + 1 from by simp] at hnext
    simp only [List.map_append, List.map_cons, List.map_nil, scan_snoc, tot_snoc, big_snoc, hx] at hnext
    by_cases hm : 1 + x % 65536 > big rest (done.map gOf)
    · rw [if_pos hm]
      rw [show mx (big rest (done.map gOf)) (1 + x % 65536) = 1 + x % 65536 from by unfold mx; rw [if_pos hm]] at hnext
      exact hnext
    · rw [if_neg hm]
      rw [show mx (big rest (done.map gOf)) (1 + x % 65536) = big rest (done.map gOf) from by unfold mx; rw [if_neg (by omega)]] at hnext
      exact hnext

theorem head_true : stackyardlaw16_head.f 200 = some true := by decide +kernel

theorem BoundGaps : stackyardlaw16_BoundGaps.Pure := by
  intro l0 a1 _ _ _ _
  refine ⟨200, ?_⟩
  unfold stackyardlaw16_BoundGaps.f
  rw [head_true]
  simp only [Option.bind_some, if_true]
  by_cases h : (l0.length : Int) > 60
  · rw [if_pos h]
  · rw [if_neg h, i64_and16]
    have := law_run (a1 % 65536) (by omega) l0 [] 200 (by simp; omega) (by omega)
    simpa [big, tot, scan] using this

end Go.Proofs.Ythlipcejeeoacaa.Pure
