/- Deeds of an argument, as they lie in memory. Plain lemmas; no condition. -/
import Derived.Test.YtlnfbfnccefcnaaGreatModel
import Derived.Test.YtlnfbfnccefcnaaGreatFlat
import Derived.Test.YtlnfbfnccefcnaaGreatMapWalk
import Derived.Test.YtlnfbfnccefcnaaGreatLay
namespace Go.Proofs.YtlnfbfnccefcnaaGreat
open Go.RowKit Go.SepYtlnfbfnccefcnaaGreat
set_option linter.unusedSimpArgs false
set_option linter.unusedVariables false
set_option maxRecDepth 100000
def w64P (i : Int) : Prop := -9223372036854775808 ≤ i ∧ i < 9223372036854775808
def u64P (i : Int) : Prop := 0 ≤ i ∧ i < 18446744073709551616
theorem wf64 {i : Int} (h : w64P i) : (Lit.int .i64 i).wf = true := by
  have e1 : IntKind.i64.min = -9223372036854775808 := by decide
  have e2 : IntKind.i64.max = 9223372036854775807 := by decide
  unfold w64P at h
  simp only [Lit.wf, Bool.and_eq_true, decide_eq_true_eq]
  omega
theorem wfU {i : Int} (h : u64P i) : (Lit.int .u64 i).wf = true := by
  have e1 : IntKind.u64.min = 0 := by decide
  have e2 : IntKind.u64.max = 18446744073709551615 := by decide
  unfold u64P at h
  simp only [Lit.wf, Bool.and_eq_true, decide_eq_true_eq]
  omega
theorem unwfU {i : Int} (h : (Lit.int .u64 i).wf = true) : u64P i := by
  have e1 : IntKind.u64.min = 0 := by decide
  have e2 : IntKind.u64.max = 18446744073709551615 := by decide
  simp only [Lit.wf, Bool.and_eq_true, decide_eq_true_eq] at h
  unfold u64P
  omega
theorem unwf64 {i : Int} (h : (Lit.int .i64 i).wf = true) : w64P i := by
  have e1 : IntKind.i64.min = -9223372036854775808 := by decide
  have e2 : IntKind.i64.max = 9223372036854775807 := by decide
  simp only [Lit.wf, Bool.and_eq_true, decide_eq_true_eq] at h
  unfold w64P
  omega
abbrev DeedM.v (d : DeedM) : List Value := [.int .i64 d.who, .int .i64 d.call.kind, .int .i64 d.call.fin, .int .u64 d.call.value, .int .i64 d.call.start, .int .i64 d.start, .int .i64 d.stop, .bool d.reply.ok, .int .u64 d.reply.value, .int .i64 d.reply.stamp.lo, .int .i64 d.reply.stamp.hi]
/-- Numbers as the program holds them. -/
structure DeedM.wf (d : DeedM) : Prop where
  who : w64P d.who
  value : u64P d.call.value
  start : w64P d.start
  stop : w64P d.stop
  rvalue : u64P d.reply.value
abbrev deedA (b : Nat) (d : DeedM) : SA := pt b (.cells d.v.toArray 57 (0, 0))
/-- The deeds of a slice, in memory that was there. -/
def OldD (w : World) (p : Option Addr) (l : List DeedM) : Prop := ∀ j, (hj : j < l.length) → ∃ b off, p = some ⟨b, off, none⟩ ∧ b < w.heap.size ∧ ∀ i u, (DeedM.v l[j])[i]? = some u → w.cell? ⟨b, off + j * 11 + i, none⟩ = some u
theorem OldD.grown {w w' : World} {p : Option Addr} {l : List DeedM} (h : OldD w p l) (b : Below w.heap.size w w') : OldD w' p l := fun j hj => by
  obtain ⟨c, off, h1, h2, h3⟩ := h j hj
  exact ⟨c, off, h1, Nat.lt_of_lt_of_le h2 b.size, fun i u hi => (b.cell (p := ⟨c, off + j * 11 + i, none⟩) h2).trans (h3 i u hi)⟩
theorem OldD.take {w : World} {p : Option Addr} {l : List DeedM} (h : OldD w p l) (n : Nat) : OldD w p (l.take n) := fun j hj => by
  have hj' : j < l.length := by simp at hj; omega
  obtain ⟨c, off, h1, h2, h3⟩ := h j hj'
  refine ⟨c, off, h1, h2, fun i u hi => h3 i u ?_⟩
  rwa [List.getElem_take] at hi
abbrev deedK : List FK := [.int .i64, .int .i64, .int .i64, .int .u64, .int .i64, .int .i64, .int .i64, .bool, .int .u64, .int .i64, .int .i64]
theorem oldD_of {W : World} {a : Option Addr} {len cap : Nat} {rows : List (List Value)} (h : RowsAt W deedK a len cap rows) :
    ∃ l : List DeedM, l.length = len ∧ (∀ e ∈ l, DeedM.wf e) ∧ OldD W a l := by
  have hk : ∀ r ∈ rows, ∃ v : DeedM, r = DeedM.v v ∧ DeedM.wf v := fun r hr => by
    obtain ⟨n0, v0, rfl, h0, k0⟩ := okAll_int (h.ok r hr)
    obtain ⟨n1, v1, rfl, h1, k1⟩ := okAll_int k0
    obtain ⟨n2, v2, rfl, h2, k2⟩ := okAll_int k1
    obtain ⟨n3, v3, rfl, h3, k3⟩ := okAll_int k2
    obtain ⟨n4, v4, rfl, h4, k4⟩ := okAll_int k3
    obtain ⟨n5, v5, rfl, h5, k5⟩ := okAll_int k4
    obtain ⟨n6, v6, rfl, h6, k6⟩ := okAll_int k5
    obtain ⟨n7, v7, rfl, k7⟩ := okAll_bool k6
    obtain ⟨n8, v8, rfl, h8, k8⟩ := okAll_int k7
    obtain ⟨n9, v9, rfl, h9, k9⟩ := okAll_int k8
    obtain ⟨n10, v10, rfl, h10, k10⟩ := okAll_int k9
    obtain rfl := okAll_nil k10
    exact ⟨⟨n0, ⟨n1, n2, n3, n4⟩, n5, n6, ⟨n7, n8, ⟨n9, n10⟩⟩⟩, rfl, ⟨unwf64 h0, unwfU h3, unwf64 h5, unwf64 h6, unwfU h8⟩⟩
  have hw : ∃ l : List DeedM, rows = l.map DeedM.v ∧ ∀ v ∈ l, DeedM.wf v := by
    have key : ∀ rs : List (List Value), (∀ r ∈ rs, ∃ v : DeedM, r = DeedM.v v ∧ DeedM.wf v) → ∃ l : List DeedM, rs = l.map DeedM.v ∧ ∀ v ∈ l, DeedM.wf v := by
      intro rs
      induction rs with
      | nil => exact fun _ => ⟨[], rfl, by simp⟩
      | cons r rs ih =>
        intro hr
        obtain ⟨v, rfl, hn⟩ := hr r List.mem_cons_self
        obtain ⟨ws, rfl, hws⟩ := ih (fun r h => hr r (List.mem_cons_of_mem _ h))
        refine ⟨v :: ws, rfl, fun x hx => ?_⟩
        rcases List.mem_cons.1 hx with rfl | hx
        · exact hn
        · exact hws x hx
    exact key rows hk
  obtain ⟨l, rfl, hwf⟩ := hw
  have hlen : l.length = len := by simpa using h.length
  refine ⟨l, hlen, hwf, fun j hj => ?_⟩
  cases a with
  | none => have := h.nil rfl; omega
  | some x =>
    have hc : ∀ i, (hi : i < l.length) → ∀ k u, (DeedM.v l[i])[k]? = some u → W.cell? (x.add (i * 11 + k)) = some u := fun i hi k u hu =>
      h.cell x rfl i k u (DeedM.v l[i]) (by rw [List.getElem?_map, List.getElem?_eq_getElem hi]; rfl) hu
    have h0 := hc 0 (by omega) 0 _ rfl
    have hs : x.spot = none := World.cell?_spot (by simpa [Addr.add] using h0)
    obtain ⟨b, o, sp⟩ := x
    simp only at hs
    subst hs
    have hj' := hc j hj
    refine ⟨b, o, rfl, ?_, fun i u hi => ?_⟩
    · have hj0 := hj' 0 _ rfl
      rw [Addr.add_lit] at hj0
      rcases Nat.lt_or_ge b W.heap.size with h | h
      · exact h
      · simp [World.cell?, Array.getElem?_eq_none h] at hj0
    · have := hj' i u hi
      rw [Addr.add_lit] at this
      rw [Nat.add_assoc]
      exact this
end Go.Proofs.YtlnfbfnccefcnaaGreat
