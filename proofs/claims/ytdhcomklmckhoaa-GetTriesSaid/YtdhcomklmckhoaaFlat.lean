/- How data that hold no pointer read: a struct of numbers, bools and texts, and a slice of such, cell by cell. Plain lemmas over any program; no condition. -/
import Derived.Deep.Slices
import Derived.ChangeReads
import Derived.ChangeOld
namespace Go.SepYtdhcomklmckhoaa

/-- What stands in one cell. -/
inductive FK where
  | bool
  | int (k : IntKind)
  | string
def FK.ok : FK → Value → Prop
  | .bool, v => ∃ b, v = .bool b
  | .int k, v => ∃ n, v = .int k n ∧ (Lit.int k n).wf = true
  | .string, v => ∃ s : ByteArray, v = .string s ∧ s.size ≤ maxLen
def okAll : List FK → List Value → Prop
  | [], [] => True
  | k :: ks, v :: vs => k.ok v ∧ okAll ks vs
  | _, _ => False
theorem okAll_length : ∀ {ks : List FK} {vs : List Value}, okAll ks vs → vs.length = ks.length
  | [], [], _ => rfl
  | _ :: _, _ :: _, h => by simp [okAll_length h.2]
  | [], _ :: _, h => h.elim
  | _ :: _, [], h => h.elim
theorem okAll_append : ∀ {ks : List FK} {vs : List Value} {ks' : List FK} {vs' : List Value}, okAll ks vs → okAll ks' vs' → okAll (ks ++ ks') (vs ++ vs')
  | [], [], _, _, _, h => h
  | _ :: _, _ :: _, _, _, h, h' => ⟨h.1, okAll_append h.2 h'⟩
  | [], _ :: _, _, _, h, _ => h.elim
  | _ :: _, [], _, _, h, _ => h.elim

theorem okAll_int {k : IntKind} {ks : List FK} {vs : List Value} (h : okAll (.int k :: ks) vs) : ∃ n vs', vs = .int k n :: vs' ∧ (Lit.int k n).wf = true ∧ okAll ks vs' := by
  cases vs with
  | nil => exact h.elim
  | cons v vs => obtain ⟨⟨n, rfl, hw⟩, h⟩ := h; exact ⟨n, vs, rfl, hw, h⟩
theorem okAll_bool {ks : List FK} {vs : List Value} (h : okAll (.bool :: ks) vs) : ∃ b vs', vs = .bool b :: vs' ∧ okAll ks vs' := by
  cases vs with
  | nil => exact h.elim
  | cons v vs => obtain ⟨⟨n, rfl⟩, h⟩ := h; exact ⟨n, vs, rfl, h⟩
theorem okAll_string {ks : List FK} {vs : List Value} (h : okAll (.string :: ks) vs) : ∃ s vs', vs = .string s :: vs' ∧ s.size ≤ maxLen ∧ okAll ks vs' := by
  cases vs with
  | nil => exact h.elim
  | cons v vs => obtain ⟨⟨n, rfl, hw⟩, h⟩ := h; exact ⟨n, vs, rfl, hw, h⟩
theorem okAll_nil {vs : List Value} (h : okAll [] vs) : vs = [] := by
  cases vs with
  | nil => rfl
  | cons v vs => exact h.elim

def flatFields (P : Program) (r : TypeId → Option (List FK)) (total : Nat) : Nat → List Field → Option (List FK)
  | off, [] => if off = total then some [] else none
  | off, f :: fs => match r f.type with
    | some ks => if f.offset = off ∧ P.cellsOf f.type = ks.length then (flatFields P r total (off + ks.length) fs).map (ks ++ ·) else none
    | none => none
/-- The cells of a type that holds no pointer. -/
def flat (P : Program) : Nat → TypeId → Option (List FK)
  | 0, _ => none
  | n + 1, t => match P.underlying t with
    | some .bool => some [.bool]
    | some (.int k) => some [.int k]
    | some .string => some [.string]
    | some (.struct fs) => flatFields P (flat P n) (P.cellsOf t) 0 fs.toList
    | _ => none

section
variable {H : Type} {enc : TypeId × Value → H} {P : Program} {w : World} {base : Nat} {sp : Nat → Bool} {held : Bool}
theorem mapM_cons_some {α β : Type} {f : α → Option β} {a : α} {l : List α} {bs : List β} (h : (a :: l).mapM f = some bs) : ∃ b cs, f a = some b ∧ l.mapM f = some cs ∧ bs = b :: cs := by
  rw [List.mapM_cons] at h
  cases ha : f a with
  | none => simp [ha] at h
  | some b =>
    cases hl : l.mapM f with
    | none => simp [ha, hl] at h
    | some cs => simp [ha, hl] at h; exact ⟨b, cs, rfl, rfl, h.symm⟩
theorem flatFields_ok {r : TypeId → Option (List FK)} {total fuel : Nat} {cs : List Value}
    (ih : ∀ t ks cs x, r t = some ks → DataW.trod enc P w base sp held fuel t cs = some x → okAll ks cs) (hlen : cs.length = total) :
    ∀ (fs : List Field) (off : Nat) (ks : List FK) (xs : List (DataW H × List MemPlace)), flatFields P r total off fs = some ks → off ≤ total →
      fs.mapM (fun f => DataW.trod enc P w base sp held fuel f.type ((cs.drop f.offset).take (P.cellsOf f.type))) = some xs → okAll ks (cs.drop off)
  | [], off, ks, xs, h, _, _ => by
    simp only [flatFields] at h
    split at h
    · simp at h; subst h
      rename_i e; subst e; rw [← hlen]; simp [okAll]
    · cases h
  | f :: fs, off, ks, xs, h, hoff, hx => by
    simp only [flatFields] at h
    split at h
    · rename_i k1 hk1
      split at h
      · rename_i hc
        obtain ⟨h1, h2⟩ := hc
        obtain ⟨k2, hk2, rfl⟩ := Option.map_eq_some_iff.1 h
        obtain ⟨b, bs, hb, hbs, rfl⟩ := mapM_cons_some hx
        have o1 := ih _ _ _ _ hk1 hb
        rw [h1, h2] at o1
        have l1 := okAll_length o1
        have hle : off + k1.length ≤ total := by
          simp at l1
          omega
        have o2 := flatFields_ok ih hlen fs _ _ _ hk2 hle hbs
        have := okAll_append o1 o2
        rwa [← List.drop_drop, List.take_append_drop] at this
      · cases h
    · cases h
theorem trod_flat : ∀ (n fuel : Nat) (t : TypeId) (ks : List FK) (cs : List Value) (x : DataW H × List MemPlace), flat P n t = some ks → DataW.trod enc P w base sp held fuel t cs = some x → okAll ks cs
  | 0, _, _, _, _, _, h, _ => by simp [flat] at h
  | _ + 1, 0, _, _, _, _, _, h => by simp [DataW.trod] at h
  | n + 1, fuel + 1, t, ks, cs, x, h, hx => by
    simp only [flat] at h
    unfold DataW.trod at hx
    split at h
    · rename_i hu
      simp at h; subst h
      simp only [hu] at hx
      split at hx <;> simp_all [okAll, FK.ok]
    · rename_i k hu
      simp at h; subst h
      simp only [hu] at hx
      split at hx <;> try simp_all
      obtain ⟨⟨rfl, hw⟩, _⟩ := hx
      exact ⟨⟨_, rfl, hw⟩, trivial⟩
    · rename_i hu
      simp at h; subst h
      simp only [hu] at hx
      split at hx <;> try simp_all
      exact ⟨⟨_, rfl, hx.1⟩, trivial⟩
    · rename_i fs hu
      simp only [hu] at hx
      split at hx
      · rename_i hl
        obtain ⟨xs, hxs, _⟩ := Option.map_eq_some_iff.1 hx
        have := flatFields_ok (fun t ks cs x => trod_flat n fuel t ks cs x) hl fs.toList 0 ks xs h (Nat.zero_le _) hxs
        simpa using this
      · cases hx
    · cases h
/-- A struct that holds no pointer, by value. -/
theorem open_flat {n : Nat} {t : TypeId} {ks : List FK} {v : Value} {d : DataW H} {ps : List MemPlace} (hf : flat P n t = some ks) (h2 : 2 ≤ ks.length) (h : DataW.Trod enc P w base sp held t v d ps) :
    ∃ cs : List Value, v = .agg cs.toArray ∧ okAll ks cs := by
  obtain ⟨fuel, h⟩ := h
  have o := trod_flat n fuel t ks _ _ hf h
  have l := okAll_length o
  have key : ∀ u : Value, u.cells = #[u] → u.cells.toList.length = ks.length → False := fun u e l => by rw [e] at l; simp at l; omega
  cases v with
  | agg cs => exact ⟨cs.toList, rfl, o⟩
  | _ => exact (key _ rfl l).elim
/-- A slice of what holds no pointer. -/
theorem open_flats {n : Nat} {t e : TypeId} {ks : List FK} {a : Option Addr} {len cap : Nat} {d : DataW H} {ps : List MemPlace} (ht : P.underlying t = some (.slice e)) (hf : flat P n e = some ks) (hc : P.cellsOf e = ks.length)
    (h : DataW.Trod enc P w base sp held t (.slice a len cap) d ps) :
    (a = none ∧ len = 0 ∧ cap = 0) ∨
    ∃ x, a = some x ∧ len ≤ cap ∧ cap ≤ maxLen ∧ ∃ rows : List (List Value), rows.length = len ∧ (∀ r ∈ rows, okAll ks r) ∧
      ∀ i j u r, rows[i]? = some r → r[j]? = some u → w.cell? (x.add (i * ks.length + j)) = some u := by
  obtain ⟨fuel, h⟩ := h
  rcases Go.Deep.open_slice ht h with ⟨h0, _⟩ | ⟨x, l, c, m, n', D, Pl, h0, _, hl, hm, hmd, _, hi⟩
  · simp [Value.cells] at h0
    exact .inl h0
  · simp [Value.cells] at h0
    obtain ⟨rfl, rfl, rfl⟩ := h0
    right
    refine ⟨x, rfl, hl, hm, ?_⟩
    have hlm : len ≤ m := by rw [hmd]; split <;> omega
    have ex : ∀ i, i < len → ∃ r, okAll ks r ∧ ∀ j u, r[j]? = some u → w.cell? (x.add (i * ks.length + j)) = some u := fun i h => by
      obtain ⟨cs', h1, h2⟩ := hi i (by omega)
      refine ⟨cs', trod_flat n _ _ ks _ _ hf h2, fun j u hj => ?_⟩
      obtain ⟨_, hlen, hg⟩ := World.cells?_some h1
      have hj' : j < cs'.length := by
        rcases Nat.lt_or_ge j cs'.length with h | h
        · exact h
        · simp [List.getElem?_eq_none h] at hj
      have := hg j (by omega)
      rw [Go.Deep.add_add, hc] at this
      rw [this, hj]
    clear hi hlm hmd h
    have build : ∀ k, k ≤ len → ∃ rows : List (List Value), rows.length = k ∧ (∀ r ∈ rows, okAll ks r) ∧ ∀ i j u r, rows[i]? = some r → r[j]? = some u → w.cell? (x.add (i * ks.length + j)) = some u := by
      intro k
      induction k with
      | zero => exact fun _ => ⟨[], rfl, by simp, by simp⟩
      | succ k ih =>
        intro hk
        obtain ⟨rows, h1, h2, h3⟩ := ih (by omega)
        obtain ⟨r, g1, g2⟩ := ex k (by omega)
        refine ⟨rows ++ [r], by simp [h1], ?_, ?_⟩
        · intro q hq
          rcases List.mem_append.1 hq with hq | hq
          · exact h2 q hq
          · simp at hq; subst hq; exact g1
        · intro i j u q hq hu
          rcases Nat.lt_trichotomy i k with hlt | rfl | hgt
          · rw [List.getElem?_append_left (by omega)] at hq
            exact h3 i j u q hq hu
          · rw [List.getElem?_append_right (by omega), h1] at hq
            simp at hq; subst hq
            exact g2 j u hu
          · rw [List.getElem?_eq_none (by simp; omega)] at hq
            cases hq
    exact build len (Nat.le_refl _)
/-- The rows of a slice as they lie in memory. -/
structure RowsAt (w : World) (ks : List FK) (a : Option Addr) (len cap : Nat) (rows : List (List Value)) : Prop where
  length : rows.length = len
  le : len ≤ cap
  max : cap ≤ maxLen
  nil : a = none → len = 0 ∧ cap = 0
  ok : ∀ r ∈ rows, okAll ks r
  cell : ∀ x, a = some x → ∀ i j u r, rows[i]? = some r → r[j]? = some u → w.cell? (x.add (i * ks.length + j)) = some u
theorem rowsAt_of {n : Nat} {t e : TypeId} {ks : List FK} {a : Option Addr} {len cap : Nat} {d : DataW H} {ps : List MemPlace} (ht : P.underlying t = some (.slice e)) (hf : flat P n e = some ks) (hc : P.cellsOf e = ks.length)
    (h : DataW.Trod enc P w base sp held t (.slice a len cap) d ps) : ∃ rows, RowsAt w ks a len cap rows := by
  rcases open_flats ht hf hc h with ⟨rfl, rfl, rfl⟩ | ⟨x, rfl, hl, hm, rows, h1, h2, h3⟩
  · exact ⟨[], rfl, Nat.le_refl _, by decide, fun _ => ⟨rfl, rfl⟩, by simp, by simp⟩
  · exact ⟨rows, h1, hl, hm, (fun e => by cases e), h2, (fun y hy => by cases hy; exact h3)⟩
end
#print axioms trod_flat
#print axioms open_flats
end Go.SepYtdhcomklmckhoaa
