/- The moves of an argument, and rows of moves and of bytes of one's own. Plain lemmas; no condition. (The lines of the text of CodeJoins that other statements need.) -/
import Derived.Test.YtiladkalijonbaaCodeKit
import Derived.Test.YtiladkalijonbaaCodeMake
import Derived.Test.YtiladkalijonbaaRegion
import Derived.Test.YtiladkalijonbaaJoin
import Derived.Test.YtiladkalijonbaaRowKit
namespace Go.Proofs.Ytiladkalijonbaa
open Go.RowKit Go.SepYtiladkalijonbaa Go.Proofs.YtiladkalijonbaaW.PrintWords Go.Proofs.YtiladkalijonbaaW.PrintLast Go.Proofs.YtiladkalijonbaaW.PrintMore
open Go.Proofs.Ytiladkalijonbaa.PCodeCuts (S38 S40 S33 k38 k40 k33)
set_option linter.unusedSimpArgs false
set_option linter.unusedVariables false
set_option maxRecDepth 100000
def s33C (v : S33) : List Value := [.int .i64 v.f0, .int .i64 v.f1, .int .i64 v.f2, .int .i64 v.f3, .bool v.f4, .bool v.f5, .int .u64 v.f6, .int .i64 v.f7]
/-- The moves of an argument. -/
def OldV (w : World) (p : Option Addr) (l : List S33) : Prop := ∀ j, (hj : j < l.length) → ∃ b off, p = some ⟨b, off, none⟩ ∧ b < w.heap.size ∧ ∀ i u, (s33C l[j])[i]? = some u → w.cell? ⟨b, off + j * 8 + i, none⟩ = some u
theorem OldV.grown {w w' : World} {p : Option Addr} {l : List S33} (h : OldV w p l) (b : Below w.heap.size w w') : OldV w' p l := fun j hj => by
  obtain ⟨c, off, h1, h2, h3⟩ := h j hj
  exact ⟨c, off, h1, Nat.lt_of_lt_of_le h2 b.size, fun i u hi => (b.cell (p := ⟨c, off + j * 8 + i, none⟩) h2).trans (h3 i u hi)⟩
theorem moveInfo : ∃ q z, Try.prog.info? 40 = some q ∧ q.zero = some z ∧ q.size = 7 ∧ q.bytes = 56 ∧ z.cells.size = 7 := ⟨_, _, rfl, rfl, rfl, rfl, rfl⟩
theorem byteInfo : ∃ q z, Try.prog.info? 5 = some q ∧ q.zero = some z ∧ q.size = 1 ∧ q.bytes = 1 ∧ z.cells.size = 1 := ⟨_, _, rfl, rfl, rfl, rfl, rfl⟩
theorem take_flat (ms : List S40) (n : Nat) (h : n < ms.length) : (ms.take (n + 1)).flatMap moveC = (ms.take n).flatMap moveC ++ moveC ms[n] := by
  rw [List.take_succ_eq_append_getElem h, List.flatMap_append]
  simp
theorem box1_at (w : World) (l : List Value) (t : TypeId) (j : Nat) (u : Value) (h : l[j]? = some u) : (w.alloc (.cells l.toArray t)).cell? ⟨w.heap.size, 0 + j, none⟩ = some u := by
  rw [Nat.zero_add, World.cell?_alloc_at _ _ _ _ rfl]
  simpa using h
theorem fb (l : List Int) : l.flatMap byteC = l.map (Value.int .u8) := by
  induction l with
  | nil => rfl
  | cons a l ih => rw [List.flatMap_cons, ih]; rfl
theorem byte_one (l : List Int) : ∀ u ∈ l.flatMap byteC, u.oneCell' = true := by
  intro u hu
  rw [fb] at hu
  obtain ⟨x, _, rfl⟩ := List.mem_map.1 hu
  rfl
theorem drop_byte {l : List Int} {m j : Nat} {u : Value} (h : ((l.drop m).flatMap byteC)[j]? = some u) : (l.flatMap byteC)[m + j]? = some u := by
  rw [fb, List.map_drop, List.getElem?_drop] at h
  rw [fb]
  exact h
theorem asize (w : World) (o : Obj) : (w.alloc o).heap.size = w.heap.size + 1 := by simp
theorem oldV_of {W : World} {a : Option Addr} {len cap : Nat} {rows : List (List Value)} (h : RowsAt W [.int .i64, .int .i64, .int .i64, .int .i64, .bool, .bool, .int .u64, .int .i64] a len cap rows) :
    ∃ l : List S33, l.length = len ∧ (∀ v ∈ l, 0 ≤ v.f6 ∧ v.f6 < 18446744073709551616) ∧ OldV W a l := by
  have hk : ∀ r ∈ rows, ∃ v : S33, r = s33C v ∧ 0 ≤ v.f6 ∧ v.f6 < 18446744073709551616 := fun r hr => by
    obtain ⟨n0, w0, rfl, _, k0⟩ := okAll_int (h.ok r hr)
    obtain ⟨n1, w1, rfl, _, k1⟩ := okAll_int k0
    obtain ⟨n2, w2, rfl, _, k2⟩ := okAll_int k1
    obtain ⟨n3, w3, rfl, _, k3⟩ := okAll_int k2
    obtain ⟨n4, w4, rfl, k4⟩ := okAll_bool k3
    obtain ⟨n5, w5, rfl, k5⟩ := okAll_bool k4
    obtain ⟨n6, w6, rfl, hw, k6⟩ := okAll_int k5
    obtain ⟨n7, w7, rfl, _, k7⟩ := okAll_int k6
    obtain rfl := okAll_nil k7
    refine ⟨⟨n0, n1, n2, n3, n4, n5, n6, n7⟩, rfl, ?_⟩
    simp only [Lit.wf, Bool.and_eq_true, decide_eq_true_eq] at hw
    have e1 : IntKind.u64.min = 0 := by decide
    have e2 : IntKind.u64.max = 18446744073709551615 := by decide
    dsimp only
    omega
  have hw : ∃ l : List S33, rows = l.map s33C ∧ ∀ v ∈ l, 0 ≤ v.f6 ∧ v.f6 < 18446744073709551616 := by
    have key : ∀ rs : List (List Value), (∀ r ∈ rs, ∃ v : S33, r = s33C v ∧ 0 ≤ v.f6 ∧ v.f6 < 18446744073709551616) → ∃ l : List S33, rs = l.map s33C ∧ ∀ v ∈ l, 0 ≤ v.f6 ∧ v.f6 < 18446744073709551616 := by
      intro rs
      induction rs with
      | nil => exact fun _ => ⟨[], rfl, by simp⟩
      | cons r rs ih =>
        intro hr
        obtain ⟨v, rfl, hn⟩ := hr r List.mem_cons_self
        obtain ⟨ws, rfl, hws⟩ := ih (fun r h => hr r (List.mem_cons_of_mem _ h))
        refine ⟨v :: ws, rfl, fun x hx => ?_⟩
        rcases List.mem_cons.1 hx with rfl | hx
        · exact hn
        · exact hws x hx
    exact key rows hk
  obtain ⟨l, rfl, hwf⟩ := hw
  have hlen : l.length = len := by simpa using h.length
  refine ⟨l, hlen, hwf, fun j hj => ?_⟩
  cases a with
  | none => have := h.nil rfl; omega
  | some x =>
    have hc : ∀ i, (hi : i < l.length) → ∀ k u, (s33C l[i])[k]? = some u → W.cell? (x.add (i * 8 + k)) = some u := fun i hi k u hu =>
      h.cell x rfl i k u (s33C l[i]) (by rw [List.getElem?_map, List.getElem?_eq_getElem hi]; rfl) hu
    have h0 := hc 0 (by omega) 0 _ rfl
    have hs : x.spot = none := World.cell?_spot (by simpa [Addr.add] using h0)
    obtain ⟨b, o, sp⟩ := x
    simp only at hs
    subst hs
    have hj' := hc j hj
    refine ⟨b, o, rfl, ?_, fun i u hi => ?_⟩
    · have hj0 := hj' 0 _ rfl
      rw [Addr.add_lit] at hj0
      rcases Nat.lt_or_ge b W.heap.size with h | h
      · exact h
      · simp [World.cell?, Array.getElem?_eq_none h] at hj0
    · have := hj' i u hi
      rw [Addr.add_lit] at this
      rw [Nat.add_assoc]
      exact this
end Go.Proofs.Ytiladkalijonbaa
