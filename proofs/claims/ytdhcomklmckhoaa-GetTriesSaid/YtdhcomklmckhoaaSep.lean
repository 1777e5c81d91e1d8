/- Own memory as a list of parts that share no block: what each part is, and what the machine's steps do to it. Plain lemmas over any program; no condition. -/
import Derived.Below
import Derived.Carry
import Derived.Deep.Draws
import Derived.Laws.NewBlocks
import Derived.Laws.AppendOwn
import Derived.Laws.OwnMore
namespace Go.SepYtdhcomklmckhoaa
open Go.RowKit

/-- A part of the memory: some blocks, and what they are. -/
abbrev Hp := Nat → Option Obj
def Hp.apart (h g : Hp) : Prop := ∀ b, h b = none ∨ g b = none
def Hp.both (h g : Hp) : Hp := fun b => match h b with | some o => some o | none => g b
/-- A statement on a part of the memory. -/
abbrev SA := Hp → Prop
def star (A B : SA) : SA := fun h => ∃ h1 h2, Hp.apart h1 h2 ∧ h = Hp.both h1 h2 ∧ A h1 ∧ B h2
def bag : List SA → SA
  | [] => fun h => ∀ b, h b = none
  | A :: L => star A (bag L)
/-- The world w is one that came of E without turning a block of E's; besides, it holds the parts L, all of them new. -/
def sat (E w : World) (L : List SA) : Prop :=
  Below E.heap.size E w ∧ ∃ h, bag L h ∧ ∀ b o, h b = some o → w.heap[b]? = some o ∧ E.heap.size ≤ b
/-- One block. -/
def pt (b : Nat) (o : Obj) : SA := fun h => h b = some o

theorem apart_comm {h g : Hp} (a : Hp.apart h g) : Hp.apart g h := fun b => (a b).symm
theorem both_comm {h g : Hp} (a : Hp.apart h g) : Hp.both h g = Hp.both g h := by
  funext b
  simp only [Hp.both]
  rcases a b with e | e
  · rw [e]; cases g b <;> rfl
  · rw [e]; cases h b <;> rfl
theorem apart_both {h g k : Hp} : Hp.apart h (Hp.both g k) ↔ Hp.apart h g ∧ Hp.apart h k := by
  constructor
  · intro a
    refine ⟨fun b => ?_, fun b => ?_⟩
    · rcases a b with e | e
      · exact .inl e
      · right; simp only [Hp.both] at e; cases e2 : g b with
        | none => rfl
        | some o => rw [e2] at e; cases e
    · rcases a b with e | e
      · exact .inl e
      · right; simp only [Hp.both] at e; cases e2 : g b with
        | none => rw [e2] at e; exact e
        | some o => rw [e2] at e; cases e
  · rintro ⟨a, c⟩ b
    rcases a b with e | e
    · exact .inl e
    · rcases c b with e' | e'
      · exact .inl e'
      · exact .inr (by simp [Hp.both, e, e'])
theorem both_apart {h g k : Hp} : Hp.apart (Hp.both g k) h ↔ Hp.apart g h ∧ Hp.apart k h :=
  ⟨fun a => let ⟨x, y⟩ := apart_both.1 (apart_comm a); ⟨apart_comm x, apart_comm y⟩, fun ⟨x, y⟩ => apart_comm (apart_both.2 ⟨apart_comm x, apart_comm y⟩)⟩
theorem both_assoc (h g k : Hp) : Hp.both (Hp.both h g) k = Hp.both h (Hp.both g k) := by
  funext b; simp only [Hp.both]; cases h b <;> rfl

theorem star_comm {A B : SA} {h : Hp} (x : star A B h) : star B A h := by
  obtain ⟨h1, h2, a, rfl, x, y⟩ := x
  exact ⟨h2, h1, apart_comm a, both_comm a, y, x⟩
theorem star_assoc {A B C : SA} {h : Hp} : star (star A B) C h ↔ star A (star B C) h := by
  constructor
  · rintro ⟨_, h3, a, rfl, ⟨h1, h2, c, rfl, x, y⟩, z⟩
    obtain ⟨a1, a2⟩ := both_apart.1 a
    exact ⟨h1, _, apart_both.2 ⟨c, a1⟩, both_assoc _ _ _, x, h2, h3, a2, rfl, y, z⟩
  · rintro ⟨h1, _, a, rfl, x, h2, h3, c, rfl, y, z⟩
    obtain ⟨a1, a2⟩ := apart_both.1 a
    exact ⟨_, h3, both_apart.2 ⟨a2, c⟩, (both_assoc _ _ _).symm, ⟨h1, h2, a1, rfl, x, y⟩, z⟩
theorem star_mono {A A' B B' : SA} (p : ∀ h, A h → A' h) (q : ∀ h, B h → B' h) {h : Hp} (x : star A B h) : star A' B' h := by
  obtain ⟨h1, h2, a, e, x, y⟩ := x
  exact ⟨h1, h2, a, e, p _ x, q _ y⟩
theorem star_swap {A B C : SA} {h : Hp} (x : star A (star B C) h) : star B (star A C) h :=
  star_assoc.1 (star_mono (fun _ => star_comm) (fun _ => id) (star_assoc.2 x))
theorem both_none_left {h g : Hp} (e : ∀ b, h b = none) : Hp.both h g = g := by funext b; simp [Hp.both, e b]
theorem both_none_right {h g : Hp} (e : ∀ b, g b = none) : Hp.both h g = h := by funext b; simp only [Hp.both, e b]; split <;> simp_all
theorem bag_append : ∀ {L M : List SA} {h : Hp}, bag (L ++ M) h ↔ star (bag L) (bag M) h
  | [], M, h => by
    constructor
    · intro x; exact ⟨fun _ => none, h, fun _ => .inl rfl, (both_none_left (fun _ => rfl)).symm, fun _ => rfl, x⟩
    · rintro ⟨h1, h2, a, rfl, x, y⟩
      rw [both_none_left x]; exact y
  | A :: L, M, h => by
    constructor
    · intro x
      exact star_assoc.2 (star_mono (fun _ => id) (fun _ => bag_append.1) x)
    · intro x
      exact star_mono (fun _ => id) (fun _ => bag_append.2) (star_assoc.1 x)
theorem bag_perm {L M : List SA} (p : L.Perm M) : ∀ {h : Hp}, bag L h → bag M h := by
  induction p with
  | nil => exact fun x => x
  | cons A _ ih => exact fun x => star_mono (fun _ => id) (fun _ => ih) x
  | swap A B L => exact fun x => star_swap x
  | trans _ _ i j => exact fun x => j (i x)
theorem bag_one {A : SA} {h : Hp} : bag [A] h ↔ A h := by
  constructor
  · rintro ⟨h1, h2, _, rfl, x, y⟩; rw [both_none_right y]; exact x
  · intro x; exact ⟨h, fun _ => none, fun _ => .inr rfl, (both_none_right (fun _ => rfl)).symm, x, fun _ => rfl⟩

theorem pick_perm {α : Type _} : ∀ (i : Nat) (L : List α) {A : α}, L[i]? = some A → L.Perm (A :: L.eraseIdx i)
  | 0, [], _, e => by simp at e
  | 0, B :: L, A, e => by simp at e; subst e; simp
  | i + 1, [], _, e => by simp at e
  | i + 1, B :: L, A, e => by
    simp at e
    exact (List.Perm.cons B (pick_perm i L e)).trans (List.Perm.swap A B _)
section
variable {E w : World} {L M : List SA} {A B : SA}
theorem sat.perm (h : sat E w L) (p : L.Perm M) : sat E w M := let ⟨b, g, x, y⟩ := h; ⟨b, g, bag_perm p x, y⟩
theorem sat.drop (h : sat E w (A :: L)) : sat E w L := by
  obtain ⟨b, g, ⟨h1, h2, a, rfl, _, x⟩, y⟩ := h
  refine ⟨b, h2, x, fun c o e => y c o ?_⟩
  rcases a c with e' | e'
  · simp [Hp.both, e', e]
  · simp [e'] at e
/-- The part number i (from 0 on) is laid in front. -/
theorem sat.pick (i : Nat) (h : sat E w L) {A : SA} (e : L[i]? = some A) : sat E w (A :: L.eraseIdx i) := by
  exact h.perm (pick_perm i L e)
theorem sat.unbag (h : sat E w (bag M :: L)) : sat E w (M ++ L) := by
  obtain ⟨b, g, x, y⟩ := h
  exact ⟨b, g, bag_append.2 x, y⟩
theorem sat.bag (h : sat E w (M ++ L)) : sat E w (bag M :: L) := by
  obtain ⟨b, g, x, y⟩ := h
  exact ⟨b, g, bag_append.1 x, y⟩
theorem sat.ex {α : Sort _} {P : α → SA} (h : sat E w ((fun g => ∃ x, P x g) :: L)) : ∃ x, sat E w (P x :: L) := by
  obtain ⟨b, _, ⟨h1, h2, a, rfl, ⟨x, z⟩, r⟩, y⟩ := h
  exact ⟨x, b, _, ⟨h1, h2, a, rfl, z, r⟩, y⟩
theorem sat.mkex {α : Sort _} {P : α → SA} (x : α) (h : sat E w (P x :: L)) : sat E w ((fun g => ∃ x, P x g) :: L) := by
  obtain ⟨b, _, ⟨h1, h2, a, rfl, z, r⟩, y⟩ := h
  exact ⟨b, _, ⟨h1, h2, a, rfl, ⟨x, z⟩, r⟩, y⟩
theorem sat.pure {φ : Prop} (h : sat E w ((fun g => φ ∧ A g) :: L)) : φ ∧ sat E w (A :: L) := by
  obtain ⟨b, _, ⟨h1, h2, a, rfl, ⟨x, z⟩, r⟩, y⟩ := h
  exact ⟨x, b, _, ⟨h1, h2, a, rfl, z, r⟩, y⟩
theorem sat.mkpure {φ : Prop} (x : φ) (h : sat E w (A :: L)) : sat E w ((fun g => φ ∧ A g) :: L) := by
  obtain ⟨b, _, ⟨h1, h2, a, rfl, z, r⟩, y⟩ := h
  exact ⟨b, _, ⟨h1, h2, a, rfl, ⟨x, z⟩, r⟩, y⟩
theorem sat.imp (p : ∀ g, A g → B g) (h : sat E w (A :: L)) : sat E w (B :: L) := by
  obtain ⟨b, _, ⟨h1, h2, a, rfl, z, r⟩, y⟩ := h
  exact ⟨b, _, ⟨h1, h2, a, rfl, p _ z, r⟩, y⟩
theorem sat.below (h : sat E w L) : Below E.heap.size E w := h.1
theorem sat.nil (b : Below E.heap.size E w) : sat E w [] := ⟨b, fun _ => none, fun _ => rfl, fun _ _ e => by simp at e⟩
theorem sat.start (E : World) : sat E E [] := sat.nil (Below.refl _ _)
theorem sat.size (h : sat E w L) : E.heap.size ≤ w.heap.size := h.1.size
theorem both_left {h g : Hp} {b : Nat} {o : Obj} (e : h b = some o) : Hp.both h g b = some o := by simp [Hp.both, e]
theorem both_right {h g : Hp} (a : Hp.apart h g) {b : Nat} {o : Obj} (e : g b = some o) : Hp.both h g b = some o := by
  rcases a b with e' | e'
  · simp [Hp.both, e', e]
  · simp [e'] at e
theorem sat.at {b : Nat} {o : Obj} (h : sat E w (pt b o :: L)) : w.heap[b]? = some o := by
  obtain ⟨_, _, ⟨h1, h2, a, rfl, z, r⟩, y⟩ := h
  exact (y b o (both_left z)).1
theorem sat.own {b : Nat} {o : Obj} (h : sat E w (pt b o :: L)) : E.heap.size ≤ b := by
  obtain ⟨_, _, ⟨h1, h2, a, rfl, z, r⟩, y⟩ := h
  exact (y b o (both_left z)).2
theorem sat.lt {b : Nat} {o : Obj} (h : sat E w (pt b o :: L)) : b < w.heap.size := by
  have := h.at
  rcases Nat.lt_or_ge b w.heap.size with h | h
  · exact h
  · simp [Array.getElem?_eq_none h] at this
theorem sat.ne {b c : Nat} {o p : Obj} (h : sat E w (pt b o :: pt c p :: L)) : b ≠ c := by
  rintro rfl
  obtain ⟨_, _, ⟨h1, _, a, rfl, z, ⟨g1, g2, c, rfl, z', _⟩⟩, y⟩ := h
  have := (apart_both.1 a).1 b
  simp [pt] at z z'
  simp [z, z'] at this
/-- A step that keeps all blocks but b (which is one's own) as they were, and may make new ones. -/
theorem sat.turn {b : Nat} {o o' : Obj} {w' : World} (h : sat E w (pt b o :: L)) (hg : w.grownBy w' (some b)) (hb : w'.heap[b]? = some o') : sat E w' (pt b o' :: L) := by
  have hown := h.own
  obtain ⟨bl, _, ⟨h1, h2, a, rfl, z, r⟩, y⟩ := h
  have z0 := z
  simp only [pt] at z0
  refine ⟨bl.trans ⟨hg.os, hg.tape, hg.output, hg.size, fun k hk => hg.block k (Nat.lt_of_lt_of_le hk bl.size) (by simp; omega)⟩, Hp.both (fun c => if c = b then some o' else none) h2,
    ⟨_, h2, fun c => ?_, rfl, by simp [pt], r⟩, fun c q e => ?_⟩
  · by_cases hc : c = b
    · subst hc
      rcases a c with e | e
      · simp [z0] at e
      · exact .inr e
    · simp [hc]
  · by_cases hc : c = b
    · subst hc
      simp [Hp.both] at e
      subst e
      exact ⟨hb, hown⟩
    · simp [Hp.both, hc] at e
      have := y c q (both_right a e)
      refine ⟨?_, this.2⟩
      rw [hg.block c ?_ (by simp [hc])]
      · exact this.1
      · rcases Nat.lt_or_ge c w.heap.size with h | h
        · exact h
        · simp [Array.getElem?_eq_none h] at this
/-- A step that keeps all blocks as they were, and may make new ones. -/
theorem sat.grown {w' : World} (h : sat E w L) (hg : Below w.heap.size w w') : sat E w' L := by
  obtain ⟨bl, g, x, y⟩ := h
  refine ⟨bl.trans (hg.mono bl.size), g, x, fun c q e => ?_⟩
  have := y c q e
  refine ⟨?_, this.2⟩
  rw [hg.block c]
  · exact this.1
  · rcases Nat.lt_or_ge c w.heap.size with h | h
    · exact h
    · simp [Array.getElem?_eq_none h] at this
/-- .. of which one is taken over. -/
theorem sat.take {w' : World} {b : Nat} {o : Obj} (h : sat E w L) (hg : Below w.heap.size w w') (hb : w.heap.size ≤ b) (ho : w'.heap[b]? = some o) : sat E w' (pt b o :: L) := by
  have hs := h.size
  obtain ⟨bl, g, x, y⟩ := h
  have none_at : ∀ c, w.heap.size ≤ c → g c = none := fun c hc => by
    cases e : g c with
    | none => rfl
    | some q =>
      have := (y c q e).1
      simp [Array.getElem?_eq_none hc] at this
  refine ⟨bl.trans (hg.mono bl.size), Hp.both (fun c => if c = b then some o else none) g, ⟨_, g, fun c => ?_, rfl, by simp [pt], x⟩, fun c q e => ?_⟩
  · by_cases hc : c = b
    · subst hc; exact .inr (none_at _ hb)
    · simp [hc]
  · by_cases hc : c = b
    · subst hc
      simp [Hp.both] at e
      subst e
      exact ⟨ho, Nat.le_trans hs hb⟩
    · simp [Hp.both, hc] at e
      have := y c q e
      refine ⟨?_, this.2⟩
      rw [hg.block c]
      · exact this.1
      · rcases Nat.lt_or_ge c w.heap.size with h | h
        · exact h
        · simp [Array.getElem?_eq_none h] at this
theorem sat.drew (h : sat E w L) : sat E w.drew L := h.grown ((Below.refl _ _).drew)
theorem sat.drewN (h : sat E w L) (n : Nat) : sat E (w.drewN n) L := h.grown ⟨rfl, rfl, rfl, Nat.le_refl _, fun _ _ => rfl⟩
theorem sat.alloc (h : sat E w L) (o : Obj) : sat E (w.alloc o) (pt w.heap.size o :: L) :=
  h.take ((Below.refl _ _).alloc (Nat.le_refl _) o) (Nat.le_refl _) (by show (w.heap.push o)[_]? = _; simp)
theorem sat.alloc_any (h : sat E w L) (o : Obj) : sat E (w.alloc o) L := h.grown ((Below.refl _ _).alloc (Nat.le_refl _) o)
theorem sat.set {b i : Nat} {C : Array Value} {t : TypeId} {f : Nat × Nat} {v : Value} (h : sat E w (pt b (.cells C t f) :: L)) : sat E (w.setCell ⟨b, i, none⟩ v) (pt b (.cells (C.setIfInBounds i v) t f) :: L) := by
  refine h.turn ⟨rfl, rfl, rfl, by simp [World.setCell], fun k _ hk => Below.heap_setCell _ _ _ _ (fun e => hk (by rw [e]))⟩ ?_
  have := h.at
  simp [World.setCell, Array.getElem?_modify, this]
/-- A cell of one's own. -/
theorem sat.cell {b i : Nat} {C : Array Value} {t : TypeId} {f : Nat × Nat} (h : sat E w (pt b (.cells C t f) :: L)) : w.cell? ⟨b, i, none⟩ = C[i]? := by
  simp [World.cell?, h.at]
theorem sat.free {b i : Nat} {C : Array Value} {t : TypeId} (h : sat E w (pt b (.cells C t (0, 0)) :: L)) : w.frozen? ⟨b, i, none⟩ = false := by
  simp [World.frozen?, h.at]
end
/-! ### A row of one's own: what a slice value of one's own holds -/
/-- v is a slice of n elements (type e, size cells each) over a block of one's own, whose first cells are xs. -/
def rowA (v : Value) (e size n : Nat) (xs : List Value) : SA := fun h =>
  xs.length = n * size ∧ ((v = .slice none 0 0 ∧ n = 0 ∧ ∀ b, h b = none) ∨
    ∃ g cap cur, v = .slice (some ⟨g, 0, none⟩) n cap ∧ n ≤ cap ∧ cap ≤ maxLen ∧ cur.size = cap * size ∧ cur.toList.take (n * size) = xs ∧ h g = some (.cells cur e (0, 0)) ∧ ∀ b, b ≠ g → h b = none)
section
variable {E w : World} {L : List SA} {P : Program}
theorem rowA_nil (e size : Nat) : rowA (.slice none 0 0) e size 0 [] (fun _ => none) := ⟨by simp, .inl ⟨rfl, rfl, fun _ => rfl⟩⟩
theorem sat.row_nil (e size : Nat) (h : sat E w L) : sat E w (rowA (.slice none 0 0) e size 0 [] :: L) := by
  obtain ⟨b, g, x, y⟩ := h
  exact ⟨b, g, ⟨_, g, fun _ => .inl rfl, (both_none_left (fun _ => rfl)).symm, rowA_nil e size, x⟩, y⟩
theorem sat.row_open {v : Value} {e size n : Nat} {xs : List Value} (h : sat E w (rowA v e size n xs :: L)) :
    xs.length = n * size ∧ ((v = .slice none 0 0 ∧ n = 0 ∧ sat E w L) ∨
      ∃ g cap cur, v = .slice (some ⟨g, 0, none⟩) n cap ∧ n ≤ cap ∧ cap ≤ maxLen ∧ cur.size = cap * size ∧ cur.toList.take (n * size) = xs ∧ sat E w (pt g (.cells cur e (0, 0)) :: L)) := by
  have h0 := h
  obtain ⟨b, _, ⟨h1, h2, a, rfl, ⟨hl, z⟩, r⟩, y⟩ := h
  refine ⟨hl, ?_⟩
  rcases z with ⟨rfl, rfl, z⟩ | ⟨g, cap, cur, rfl, q1, q2, q3, q4, q5, _⟩
  · exact .inl ⟨rfl, rfl, h0.drop⟩
  · exact .inr ⟨g, cap, cur, rfl, q1, q2, q3, q4, b, _, ⟨h1, h2, a, rfl, q5, r⟩, y⟩
theorem sat.row_shut {e size n g cap : Nat} {cur : Array Value} {xs : List Value} (hl : xs.length = n * size) (h1 : n ≤ cap) (h2 : cap ≤ maxLen) (h3 : cur.size = cap * size) (h4 : cur.toList.take (n * size) = xs)
    (h : sat E w (pt g (.cells cur e (0, 0)) :: L)) : sat E w (rowA (.slice (some ⟨g, 0, none⟩) n cap) e size n xs :: L) := by
  obtain ⟨b, _, ⟨k1, k2, a, rfl, z, r⟩, y⟩ := h
  refine ⟨b, Hp.both (fun c => if c = g then some (.cells cur e (0, 0)) else none) k2, ⟨_, k2, fun c => ?_, rfl, ⟨hl, .inr ⟨g, cap, cur, rfl, h1, h2, h3, h4, by simp, fun c hc => by simp [hc]⟩⟩, r⟩, fun c q e => ?_⟩
  · by_cases hc : c = g
    · subst hc
      rcases a c with e | e
      · simp [pt] at z; simp [z] at e
      · exact .inr e
    · simp [hc]
  · refine y c q ?_
    by_cases hc : c = g
    · subst hc
      simp [Hp.both] at e
      subst e
      exact both_left z
    · simp [Hp.both, hc] at e
      exact both_right a e
/-- The cells of a row of one's own. -/
theorem sat.row_cell {e size n g o cap : Nat} {xs : List Value} (h : sat E w (rowA (.slice (some ⟨g, o, none⟩) n cap) e size n xs :: L)) (j : Nat) {u : Value} (hj : xs[j]? = some u) : o = 0 ∧ w.cell? ⟨g, j, none⟩ = some u ∧ w.frozen? ⟨g, j, none⟩ = false ∧ g < w.heap.size ∧ E.heap.size ≤ g := by
  obtain ⟨_, ⟨h0, _⟩ | ⟨g', cap', cur, h0, _, _, _, h4, h5⟩⟩ := h.row_open
  · simp at h0
  · simp at h0
    obtain ⟨⟨rfl, rfl⟩, rfl⟩ := h0
    refine ⟨rfl, ?_, h5.free, h5.lt, h5.own⟩
    rw [h5.cell, ← hj, ← h4, List.getElem?_take]
    have hlt : j < xs.length := (List.getElem?_eq_some_iff.1 hj).1
    rw [← h4] at hlt
    simp at hlt
    rw [if_pos (by omega)]
    simp
/-- A store into a cell of a row of one's own. -/
theorem sat.row_set {e size n g cap : Nat} {xs : List Value} (h : sat E w (rowA (.slice (some ⟨g, 0, none⟩) n cap) e size n xs :: L)) (j : Nat) (u : Value) :
    sat E (w.setCell ⟨g, j, none⟩ u) (rowA (.slice (some ⟨g, 0, none⟩) n cap) e size n (xs.set j u) :: L) := by
  obtain ⟨hl, ⟨h0, _⟩ | ⟨g', cap', cur, h0, h1, h2, h3, h4, h5⟩⟩ := h.row_open
  · simp at h0
  · simp at h0
    obtain ⟨rfl, rfl⟩ := h0
    refine sat.row_shut (by simpa using hl) h1 h2 (by simpa using h3) ?_ h5.set
    simp [List.take_set, h4]
/-- 'append' on a row of one's own, of at least one element more. -/
theorem run_append_sat {t ty e size bytes : Nat} {i : TypeInfo} {z : Value} (ht : P.underlying t = some (.slice e)) (hi : P.info? e = some i) (hz : i.zero = some z)
    (hsize : i.size = size) (hby : i.bytes = bytes) (hzs : z.cells.size = size)
    {v : Value} {n : Nat} {xs : List Value} (h : sat E w (rowA v e size n xs :: L))
    {ad : Addr} {m c : Nat} {news : List Value} (hl : news.length = m * size) (hnews : ∀ j u, news[j]? = some u → w.cell? (ad.add j) = some u) (h1 : ∀ u ∈ news, u.oneCell' = true) (hm : 0 < m)
    (h63 : n + m ≤ maxLen) (hbytes : (n + m) * bytes ≤ 140737488355328) :
    ∃ v' w', (Builtin.append_ #[t, t] ty #[v, .slice (some ad) m c]).run P w = .ok v' w' ∧ sat E w' (rowA v' e size (n + m) (xs ++ news) :: L) ∧ w.heap.size ≤ w'.heap.size := by
  subst hsize
  subst hby
  have hsmall : n + m ≤ 9223372036854775807 := by simp only [maxLen] at h63; omega
  obtain ⟨hxs, h2⟩ := h.row_open
  have hlen : (xs ++ news).length = (n + m) * i.size := by rw [List.length_append, hxs, hl, Nat.add_mul]
  have grown : ∀ (old : Nat), sat E w L → sat E (w.drew.alloc (.cells (xs.toArray ++ news.toArray ++ Builtin.zeroCells z.cells (grownCap w (n + m) old e - (n + m))) e))
      (rowA (.slice (some ⟨w.heap.size, 0, none⟩) (n + m) (grownCap w (n + m) old e)) e i.size (n + m) (xs ++ news) :: L) := by
    intro old hs
    have hge := grownCap_ge w (n + m) old e
    have hcm : grownCap w (n + m) old e ≤ maxLen := grownCap_le_maxLen w (n + m) old e h63
    have ha := (hs.drew).alloc (.cells (xs.toArray ++ news.toArray ++ Builtin.zeroCells z.cells (grownCap w (n + m) old e - (n + m))) e)
    refine sat.row_shut hlen hge hcm ?_ ?_ ha
    · simp only [Array.size_append, List.size_toArray, size_zeroCells, hzs, hxs, hl, ← Nat.add_mul]
      congr 1
      omega
    · simp only [Array.toList_append, List.append_assoc]
      rw [← List.append_assoc, ← hlen]
      exact List.take_left
  rcases h2 with ⟨rfl, rfl, hs⟩ | ⟨g, cap, cur, rfl, hnc, hcm, hcs, htake, hs⟩
  · have hx : xs = [] := List.eq_nil_of_length_eq_zero (by simpa using hxs)
    subst hx
    have hr := run_append_nil (P := P) w t ty e i z ht hi hz ad m c news hl hnews (by omega) (by omega) (by have hb := hbytes; simp only [Nat.zero_add] at hb; omega)
    have hgr := grown 0 hs
    simp only [Nat.zero_add, List.nil_append, Array.empty_append] at hgr ⊢
    exact ⟨_, _, hr, hgr, by simp⟩
  · by_cases hroom : n + m ≤ cap
    · have hfit : n * i.size + news.length ≤ cur.size := by rw [hl, hcs, ← Nat.add_mul]; exact Nat.mul_le_mul_right _ hroom
      have hr := run_append_room (P := P) w t ty e i ht hi g n cap cur hs.at ad m c news hl hnews h1 hroom hfit
      refine ⟨_, _, hr, ?_, by simp⟩
      refine sat.row_shut hlen hroom hcm ?_ ?_ (hs.turn ⟨rfl, rfl, rfl, by simp, fun k hk hne => setRow_other w g k _ (fun e => hne (by simp [e]))⟩ (setRow_heap w g cur _ e _ hs.at))
      · simp only [List.size_toArray, List.length_append, List.length_take, List.length_drop, Array.length_toList]
        omega
      · rw [htake, ← hlen]
        exact List.take_left
    · have holds : ∀ j u, xs[j]? = some u → w.cell? ((⟨g, 0, none⟩ : Addr).add j) = some u := by
        intro j u hj
        have := (h.row_cell j hj).2.1
        rwa [Addr.add_lit, Nat.zero_add]
      have hr := run_append_grow (P := P) w t ty e i z ht hi hz ⟨g, 0, none⟩ n cap xs hxs holds ad m c news hl hnews (by omega) (by omega) (growslice_fits (by omega) hbytes)
      exact ⟨_, _, hr, grown cap hs.drop, by simp⟩
theorem wpList_append_sat {ops : Array Oper} {rest : List Oper} {o : Oper} {a : Act} {Q : Exit → Act → World → Prop} (hgd : o.guard = none) (s x : Operand) (t : TypeId)
    (ho : o.op = .call { callee := .builtin .append, args := #[s, x], argTypes := #[t, t] })
    (e size bytes : Nat) (i : TypeInfo) (z : Value) (ht : P.underlying t = some (.slice e)) (hi : P.info? e = some i) (hz : i.zero = some z)
    (hsize : i.size = size) (hby : i.bytes = bytes) (hzs : z.cells.size = size)
    (v : Value) (n : Nat) (xs : List Value) (hs : a.eval s = v) (hown : sat E w (rowA v e size n xs :: L))
    (ad : Addr) (m c : Nat) (news : List Value) (hx : a.eval x = .slice (some ad) m c) (hl : news.length = m * size) (hnews : ∀ j u, news[j]? = some u → w.cell? (ad.add j) = some u) (h1 : ∀ u ∈ news, u.oneCell' = true) (hm : 0 < m)
    (h63 : n + m ≤ maxLen) (hbytes : (n + m) * bytes ≤ 140737488355328)
    (h : ∀ v' w', sat E w' (rowA v' e size (n + m) (xs ++ news) :: L) → w.heap.size ≤ w'.heap.size → wpList P ops Q rest (a.put o.dst v') w') : wpList P ops Q (o :: rest) a w := by
  refine wpList_plain hgd fun K hK => ?_
  obtain ⟨v', w', hr, h2, h3⟩ := run_append_sat (P := P) (ty := o.type) ht hi hz hsize hby hzs hown hl hnews h1 hm (c := c) h63 hbytes
  unfold Oper.wp execOp
  simp only [ho, resolve, invoke, builtin, Sem.run_bind, Sem.run_pure, Result.andThen_ok, List.map_toArray, List.map_cons, List.map_nil, hs, hx, hr]
  exact hK _ _ (h v' w' h2 h3)
end
#print axioms sat.turn
#print axioms sat.take
#print axioms wpList_append_sat
end Go.SepYtdhcomklmckhoaa
