/- A layout as the statements make it, and rows of an argument as they lie in memory. Plain lemmas; no condition. -/
import Derived.Test.YtdhcomklmckhoaaLay
import Derived.Test.YtdhcomklmckhoaaFlat
import Derived.DataReads
namespace Go.Proofs.Ytdhcomklmckhoaa
open Go.RowKit Go.SepYtdhcomklmckhoaa
set_option linter.unusedSimpArgs false
set_option linter.unusedVariables false
set_option maxRecDepth 100000
set_option maxHeartbeats 4000000
theorem andp (k : Nat) (hk : k ≤ 60) (n : Int) : bits .and .i64 n (2 ^ k - 1) = n % 2 ^ k := by
  have hp : (2 : Nat) ^ k ≤ 2 ^ 60 := Nat.pow_le_pow_right (by omega) hk
  have hp1 : 1 ≤ (2 : Nat) ^ k := Nat.one_le_two_pow
  have hc : ((2 : Int) ^ k) = ((2 ^ k : Nat) : Int) := by rw [Int.natCast_pow]; rfl
  have h : (BitVec.ofInt 64 (2 ^ k - 1)).toNat = 2 ^ k - 1 := by
    rw [BitVec.toNat_ofInt, hc]
    omega
  have key : (BitVec.ofInt 64 n &&& BitVec.ofInt 64 (2 ^ k - 1)).toNat = (n % ((2 ^ 64 : Nat) : Int)).toNat % 2 ^ k := by
    rw [BitVec.toNat_and, BitVec.toNat_ofInt, h, Nat.and_two_pow_sub_one_eq_mod]
  show IntKind.i64.wrap ((BitVec.ofInt 64 n &&& BitVec.ofInt 64 (2 ^ k - 1)).toNat : Nat) = n % 2 ^ k
  rw [key, IntKind.wrap_i64, hc]
  have hd : (2 ^ k : Nat) ∣ 2 ^ 64 := Nat.pow_dvd_pow 2 (by omega)
  have e1 : (((n % ((2 ^ 64 : Nat) : Int)).toNat % 2 ^ k : Nat) : Int) = n % ((2 ^ k : Nat) : Int) := by
    rw [Int.natCast_emod, Int.toNat_of_nonneg (Int.emod_nonneg _ (by decide))]
    exact Int.emod_emod_of_dvd _ (Int.natCast_dvd_natCast.2 hd)
  rw [e1]
  have b1 : 0 ≤ n % ((2 ^ k : Nat) : Int) := Int.emod_nonneg _ (by omega)
  have b2 : n % ((2 ^ k : Nat) : Int) < ((2 ^ k : Nat) : Int) := Int.emod_lt_of_pos _ (by omega)
  have b3 : ((2 ^ k : Nat) : Int) ≤ ((2 ^ 60 : Nat) : Int) := Int.ofNat_le.2 hp
  have b4 : ((2 ^ 60 : Nat) : Int) = 1152921504606846976 := by decide
  omega
theorem and3 (n : Int) : bits .and .i64 n 3 = n % 4 := andp 2 (by decide) n
theorem and7 (n : Int) : bits .and .i64 n 7 = n % 8 := andp 3 (by decide) n
theorem and15 (n : Int) : bits .and .i64 n 15 = n % 16 := andp 4 (by decide) n
theorem and16 (n : Int) : bits .and .i64 n 65535 = n % 65536 := andp 16 (by decide) n
/-- A layout, right and small. -/
def confS (t s r d : Int) : ConfM := ⟨1 + t % 4, 1 + s % 4, r % 18446744073709551616 % 5, d % 4⟩
theorem confS_ok (t s r d : Int) : (confS t s r d).ok := by
  constructor <;> (unfold confS; dsimp only; omega)
theorem confS_small (t s r d : Int) : (confS t s r d).th ≤ 4 ∧ (confS t s r d).sl ≤ 4 ∧ (confS t s r d).dl ≤ 3 := by
  unfold confS; dsimp only; omega
theorem conf_calls (t s r d : Int) (w : World) : Tells 8 #[.int .i64 t, .int .i64 s, .int .i64 r, .int .i64 d] w (.agg #[.int .i64 (confS t s r d).th, .int .i64 (confS t s r d).sl, .int .i64 (confS t s r d).src, .int .i64 (confS t s r d).dl]) := by
  have e1 := and3 t
  have e2 := and3 s
  have e3 := and3 d
  have f1 : wrap64 (1 + t % 4) = 1 + t % 4 := w64 (by omega) (by omega)
  have f2 : wrap64 (1 + s % 4) = 1 + s % 4 := w64 (by omega) (by omega)
  have g1 : IntKind.u64.wrap r = r % 18446744073709551616 := by rw [IntKind.wrap_u64]
  have g2 : wrap64 (r % 18446744073709551616 % 5) = r % 18446744073709551616 % 5 := w64 (by omega) (by omega)
  have H := Lib.hid (And.intro e1 (And.intro e2 (And.intro e3 (And.intro f1 (And.intro f2 (And.intro g1 g2))))))
  clear e1 e2 e3 f1 f2 g1 g2
  have K := Lib.hid (sat.start w)
  go_enter Try.func8, Try.ntmps8
  go_wp2
  obtain ⟨e1, e2, e3, f1, f2, g1, g2⟩ := H.out
  have g0 : (r % 18446744073709551616).tmod 5 = r % 18446744073709551616 % 5 := Int.tmod_eq_emod_of_nonneg (by omega)
  exact bodyPost_ret (v := .agg #[.int .i64 (confS t s r d).th, .int .i64 (confS t s r d).sl, .int .i64 (confS t s r d).src, .int .i64 (confS t s r d).dl]) (by simp [results, Try.results8, go_sem, confS, e1, e2, e3, f1, f2, g0, g1, g2]) rfl ⟨rfl, (K.out.alloc_any _).below⟩
/-- The elements of a slice, in memory that was there. -/
def OldS {α : Type} (V : α → List Value) (size : Nat) (w : World) (p : Option Addr) (l : List α) : Prop := ∀ j, (hj : j < l.length) → ∃ b off, p = some ⟨b, off, none⟩ ∧ b < w.heap.size ∧ ∀ i u, (V l[j])[i]? = some u → w.cell? ⟨b, off + j * size + i, none⟩ = some u
theorem OldS.grown {α : Type} {V : α → List Value} {size : Nat} {w w' : World} {p : Option Addr} {l : List α} (h : OldS V size w p l) (b : Below w.heap.size w w') : OldS V size w' p l := fun j hj => by
  obtain ⟨c, off, h1, h2, h3⟩ := h j hj
  exact ⟨c, off, h1, Nat.lt_of_lt_of_le h2 b.size, fun i u hi => (b.cell (p := ⟨c, off + j * size + i, none⟩) h2).trans (h3 i u hi)⟩
theorem oldS_of {α : Type} (V : α → List Value) (wf : α → Prop) {ks : List FK} {W : World} {a : Option Addr} {len cap : Nat} {rows : List (List Value)} (h : RowsAt W ks a len cap rows)
    (hV : ∀ r, okAll ks r → ∃ v, r = V v ∧ wf v) (h0 : ∀ v, ∃ u, (V v)[0]? = some u) : ∃ l : List α, l.length = len ∧ (∀ e ∈ l, wf e) ∧ OldS V ks.length W a l := by
  have hw : ∃ l : List α, rows = l.map V ∧ ∀ v ∈ l, wf v := by
    have key : ∀ rs : List (List Value), (∀ r ∈ rs, ∃ v : α, r = V v ∧ wf v) → ∃ l : List α, rs = l.map V ∧ ∀ v ∈ l, wf v := by
      intro rs
      induction rs with
      | nil => exact fun _ => ⟨[], rfl, by simp⟩
      | cons r rs ih =>
        intro hr
        obtain ⟨v, rfl, hn⟩ := hr r List.mem_cons_self
        obtain ⟨ws, rfl, hws⟩ := ih (fun r h => hr r (List.mem_cons_of_mem _ h))
        refine ⟨v :: ws, rfl, fun x hx => ?_⟩
        rcases List.mem_cons.1 hx with rfl | hx
        · exact hn
        · exact hws x hx
    exact key rows (fun r hr => hV r (h.ok r hr))
  obtain ⟨l, rfl, hwf⟩ := hw
  have hlen : l.length = len := by simpa using h.length
  refine ⟨l, hlen, hwf, fun j hj => ?_⟩
  cases a with
  | none => have := h.nil rfl; omega
  | some x =>
    have hc : ∀ i, (hi : i < l.length) → ∀ k u, (V l[i])[k]? = some u → W.cell? (x.add (i * ks.length + k)) = some u := fun i hi k u hu =>
      h.cell x rfl i k u (V l[i]) (by rw [List.getElem?_map, List.getElem?_eq_getElem hi]; rfl) hu
    obtain ⟨u0, hu0⟩ := h0 l[0]
    have h0 := hc 0 (by omega) 0 _ hu0
    have hs : x.spot = none := World.cell?_spot (by simpa [Addr.add] using h0)
    obtain ⟨b, o, sp⟩ := x
    simp only at hs
    subst hs
    have hj' := hc j hj
    refine ⟨b, o, rfl, ?_, fun i u hi => ?_⟩
    · rw [Addr.add_lit] at h0
      rcases Nat.lt_or_ge b W.heap.size with h | h
      · exact h
      · simp [World.cell?, Array.getElem?_eq_none h] at h0
    · have := hj' i u hi
      rw [Addr.add_lit] at this
      rw [Nat.add_assoc]
      exact this
theorem lit_u64 {i : Int} (h : (Lit.int .u64 i).wf = true) : 0 ≤ i ∧ i < 18446744073709551616 := by
  have e1 : IntKind.u64.min = 0 := by decide
  have e2 : IntKind.u64.max = 18446744073709551615 := by decide
  simp only [Lit.wf, Bool.and_eq_true, decide_eq_true_eq] at h
  omega
theorem lit_i64 {i : Int} (h : (Lit.int .i64 i).wf = true) : -9223372036854775808 ≤ i ∧ i < 9223372036854775808 := by
  have e1 : IntKind.i64.min = -9223372036854775808 := by decide
  have e2 : IntKind.i64.max = 9223372036854775807 := by decide
  simp only [Lit.wf, Bool.and_eq_true, decide_eq_true_eq] at h
  omega
end Go.Proofs.Ytdhcomklmckhoaa
