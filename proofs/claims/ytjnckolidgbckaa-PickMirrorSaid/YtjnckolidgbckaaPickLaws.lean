/- What the statements of pick share: the words of an argument. No condition. -/
import Derived.Test.YtjnckolidgbckaaPickHead
import Derived.Test.YtjnckolidgbckaaFlat
import Derived.DataReads
namespace Go.Proofs.Ytjnckolidgbckaa
open Go.RowKit Go.SepYtjnckolidgbckaa
set_option linter.unusedSimpArgs false
set_option linter.unusedVariables false
theorem oldU_of {W : World} {a : Option Addr} {len cap : Nat} {rows : List (List Value)} (h : RowsAt W [.int .u64] a len cap rows) :
    ∃ words : List Int, words.length = len ∧ (∀ x ∈ words, 0 ≤ x ∧ x < 18446744073709551616) ∧ OldU W a words := by
  have hk : ∀ r ∈ rows, ∃ n : Int, r = [.int .u64 n] ∧ 0 ≤ n ∧ n < 18446744073709551616 := fun r hr => by
    obtain ⟨n, vs, rfl, hw, h2⟩ := okAll_int (h.ok r hr)
    obtain rfl := okAll_nil h2
    refine ⟨n, rfl, ?_⟩
    simp only [Lit.wf, Bool.and_eq_true, decide_eq_true_eq] at hw
    have e1 : IntKind.u64.min = 0 := by decide
    have e2 : IntKind.u64.max = 18446744073709551615 := by decide
    omega
  have hw : ∃ words : List Int, rows = words.map (fun n => [.int .u64 n]) ∧ ∀ x ∈ words, 0 ≤ x ∧ x < 18446744073709551616 := by
    have key : ∀ rs : List (List Value), (∀ r ∈ rs, ∃ n : Int, r = [.int .u64 n] ∧ 0 ≤ n ∧ n < 18446744073709551616) → ∃ words : List Int, rs = words.map (fun n => [.int .u64 n]) ∧ ∀ x ∈ words, 0 ≤ x ∧ x < 18446744073709551616 := by
      intro rs
      induction rs with
      | nil => exact fun _ => ⟨[], rfl, by simp⟩
      | cons r rs ih =>
        intro hr
        obtain ⟨n, rfl, hn⟩ := hr r List.mem_cons_self
        obtain ⟨ws, rfl, hws⟩ := ih (fun r h => hr r (List.mem_cons_of_mem _ h))
        refine ⟨n :: ws, rfl, fun x hx => ?_⟩
        rcases List.mem_cons.1 hx with rfl | hx
        · exact hn
        · exact hws x hx
    exact key rows hk
  obtain ⟨words, rfl, hwf⟩ := hw
  refine ⟨words, by simpa using h.length, hwf, fun j hj => ?_⟩
  have hlen : words.length = len := by simpa using h.length
  cases a with
  | none => have := h.nil rfl; omega
  | some x =>
    have hc : ∀ i, (hi : i < words.length) → W.cell? (x.add i) = some (.int .u64 words[i]) := fun i hi => by
      have := h.cell x rfl i 0 (.int .u64 words[i]) [.int .u64 words[i]] (by rw [List.getElem?_map, List.getElem?_eq_getElem hi]; rfl) rfl
      simpa using this
    have h0 := hc 0 (by omega)
    have hs : x.spot = none := World.cell?_spot (by simpa [Addr.add] using h0)
    obtain ⟨b, o, sp⟩ := x
    simp only at hs
    subst hs
    have hj' := hc j hj
    rw [Addr.add_lit] at hj'
    refine ⟨b, o, rfl, ?_, hj'⟩
    rcases Nat.lt_or_ge b W.heap.size with h | h
    · exact h
    · simp [World.cell?, Array.getElem?_eq_none h] at hj'
end Go.Proofs.Ytjnckolidgbckaa
