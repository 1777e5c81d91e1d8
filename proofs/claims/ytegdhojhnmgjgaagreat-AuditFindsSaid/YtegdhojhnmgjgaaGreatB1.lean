/- Several texts in one: Sep Flat Step Model Reg Append AppendV Join RowKit. Each says ahead of it what it shows. -/
import Derived.Below
import Derived.Carry
import Derived.Deep.Draws
import Derived.Laws.NewBlocks
import Derived.Laws.AppendOwn
import Derived.Laws.OwnMore
import Derived.Deep.Slices
import Derived.ChangeReads
import Derived.ChangeOld
import Derived.Laws.Tables
import Derived.Laws.Rows
import Derived.WalkKit
import Derived.OwnWalk
import Derived.Deep.RegionHeld3
import Derived.KernelRfl
set_option linter.unusedVariables false
/- Own memory as a list of parts that share no block: what each part is, and what the machine's steps do to it. Plain lemmas over any program; no condition. -/
namespace Go.SepYtegdhojhnmgjgaaGreat
open Go.RowKit

/-- A part of the memory: some blocks, and what they are. -/
abbrev Hp := Nat → Option Obj
def Hp.apart (h g : Hp) : Prop := ∀ b, h b = none ∨ g b = none
def Hp.both (h g : Hp) : Hp := fun b => match h b with | some o => some o | none => g b
/-- A statement on a part of the memory. -/
abbrev SA := Hp → Prop
def star (A B : SA) : SA := fun h => ∃ h1 h2, Hp.apart h1 h2 ∧ h = Hp.both h1 h2 ∧ A h1 ∧ B h2
def bag : List SA → SA
  | [] => fun h => ∀ b, h b = none
  | A :: L => star A (bag L)
/-- The world w is one that came of E without turning a block of E's; besides, it holds the parts L, all of them new. -/
def sat (E w : World) (L : List SA) : Prop :=
  Below E.heap.size E w ∧ ∃ h, bag L h ∧ ∀ b o, h b = some o → w.heap[b]? = some o ∧ E.heap.size ≤ b
/-- One block. -/
def pt (b : Nat) (o : Obj) : SA := fun h => h b = some o

theorem apart_comm {h g : Hp} (a : Hp.apart h g) : Hp.apart g h := fun b => (a b).symm
theorem both_comm {h g : Hp} (a : Hp.apart h g) : Hp.both h g = Hp.both g h := by
  funext b
  simp only [Hp.both]
  rcases a b with e | e
  · rw [e]; cases g b <;> rfl
  · rw [e]; cases h b <;> rfl
theorem apart_both {h g k : Hp} : Hp.apart h (Hp.both g k) ↔ Hp.apart h g ∧ Hp.apart h k := by
  constructor
  · intro a
    refine ⟨fun b => ?_, fun b => ?_⟩
    · rcases a b with e | e
      · exact .inl e
      · right; simp only [Hp.both] at e; cases e2 : g b with
        | none => rfl
        | some o => rw [e2] at e; cases e
    · rcases a b with e | e
      · exact .inl e
      · right; simp only [Hp.both] at e; cases e2 : g b with
        | none => rw [e2] at e; exact e
        | some o => rw [e2] at e; cases e
  · rintro ⟨a, c⟩ b
    rcases a b with e | e
    · exact .inl e
    · rcases c b with e' | e'
      · exact .inl e'
      · exact .inr (by simp [Hp.both, e, e'])
theorem both_apart {h g k : Hp} : Hp.apart (Hp.both g k) h ↔ Hp.apart g h ∧ Hp.apart k h :=
  ⟨fun a => let ⟨x, y⟩ := apart_both.1 (apart_comm a); ⟨apart_comm x, apart_comm y⟩, fun ⟨x, y⟩ => apart_comm (apart_both.2 ⟨apart_comm x, apart_comm y⟩)⟩
theorem both_assoc (h g k : Hp) : Hp.both (Hp.both h g) k = Hp.both h (Hp.both g k) := by
  funext b; simp only [Hp.both]; cases h b <;> rfl

theorem star_comm {A B : SA} {h : Hp} (x : star A B h) : star B A h := by
  obtain ⟨h1, h2, a, rfl, x, y⟩ := x
  exact ⟨h2, h1, apart_comm a, both_comm a, y, x⟩
theorem star_assoc {A B C : SA} {h : Hp} : star (star A B) C h ↔ star A (star B C) h := by
  constructor
  · rintro ⟨_, h3, a, rfl, ⟨h1, h2, c, rfl, x, y⟩, z⟩
    obtain ⟨a1, a2⟩ := both_apart.1 a
    exact ⟨h1, _, apart_both.2 ⟨c, a1⟩, both_assoc _ _ _, x, h2, h3, a2, rfl, y, z⟩
  · rintro ⟨h1, _, a, rfl, x, h2, h3, c, rfl, y, z⟩
    obtain ⟨a1, a2⟩ := apart_both.1 a
    exact ⟨_, h3, both_apart.2 ⟨a2, c⟩, (both_assoc _ _ _).symm, ⟨h1, h2, a1, rfl, x, y⟩, z⟩
theorem star_mono {A A' B B' : SA} (p : ∀ h, A h → A' h) (q : ∀ h, B h → B' h) {h : Hp} (x : star A B h) : star A' B' h := by
  obtain ⟨h1, h2, a, e, x, y⟩ := x
  exact ⟨h1, h2, a, e, p _ x, q _ y⟩
theorem star_swap {A B C : SA} {h : Hp} (x : star A (star B C) h) : star B (star A C) h :=
  star_assoc.1 (star_mono (fun _ => star_comm) (fun _ => id) (star_assoc.2 x))
theorem both_none_left {h g : Hp} (e : ∀ b, h b = none) : Hp.both h g = g := by funext b; simp [Hp.both, e b]
theorem both_none_right {h g : Hp} (e : ∀ b, g b = none) : Hp.both h g = h := by funext b; simp only [Hp.both, e b]; split <;> simp_all
theorem bag_append : ∀ {L M : List SA} {h : Hp}, bag (L ++ M) h ↔ star (bag L) (bag M) h
  | [], M, h => by
    constructor
    · intro x; exact ⟨fun _ => none, h, fun _ => .inl rfl, (both_none_left (fun _ => rfl)).symm, fun _ => rfl, x⟩
    · rintro ⟨h1, h2, a, rfl, x, y⟩
      rw [both_none_left x]; exact y
  | A :: L, M, h => by
    constructor
    · intro x
      exact star_assoc.2 (star_mono (fun _ => id) (fun _ => bag_append.1) x)
    · intro x
      exact star_mono (fun _ => id) (fun _ => bag_append.2) (star_assoc.1 x)
theorem bag_perm {L M : List SA} (p : L.Perm M) : ∀ {h : Hp}, bag L h → bag M h := by
  induction p with
  | nil => exact fun x => x
  | cons A _ ih => exact fun x => star_mono (fun _ => id) (fun _ => ih) x
  | swap A B L => exact fun x => star_swap x
  | trans _ _ i j => exact fun x => j (i x)
theorem bag_one {A : SA} {h : Hp} : bag [A] h ↔ A h := by
  constructor
  · rintro ⟨h1, h2, _, rfl, x, y⟩; rw [both_none_right y]; exact x
  · intro x; exact ⟨h, fun _ => none, fun _ => .inr rfl, (both_none_right (fun _ => rfl)).symm, x, fun _ => rfl⟩

theorem pick_perm {α : Type _} : ∀ (i : Nat) (L : List α) {A : α}, L[i]? = some A → L.Perm (A :: L.eraseIdx i)
  | 0, [], _, e => by simp at e
  | 0, B :: L, A, e => by simp at e; subst e; simp
  | i + 1, [], _, e => by simp at e
  | i + 1, B :: L, A, e => by
    simp at e
    exact (List.Perm.cons B (pick_perm i L e)).trans (List.Perm.swap A B _)
section
variable {E w : World} {L M : List SA} {A B : SA}
theorem sat.perm (h : sat E w L) (p : L.Perm M) : sat E w M := let ⟨b, g, x, y⟩ := h; ⟨b, g, bag_perm p x, y⟩
theorem sat.drop (h : sat E w (A :: L)) : sat E w L := by
  obtain ⟨b, g, ⟨h1, h2, a, rfl, _, x⟩, y⟩ := h
  refine ⟨b, h2, x, fun c o e => y c o ?_⟩
  rcases a c with e' | e'
  · simp [Hp.both, e', e]
  · simp [e'] at e
/-- The part number i (from 0 on) is laid in front. -/
theorem sat.pick (i : Nat) (h : sat E w L) {A : SA} (e : L[i]? = some A) : sat E w (A :: L.eraseIdx i) := by
  exact h.perm (pick_perm i L e)
theorem sat.unbag (h : sat E w (bag M :: L)) : sat E w (M ++ L) := by
  obtain ⟨b, g, x, y⟩ := h
  exact ⟨b, g, bag_append.2 x, y⟩
theorem sat.bag (h : sat E w (M ++ L)) : sat E w (bag M :: L) := by
  obtain ⟨b, g, x, y⟩ := h
  exact ⟨b, g, bag_append.1 x, y⟩
theorem sat.ex {α : Sort _} {P : α → SA} (h : sat E w ((fun g => ∃ x, P x g) :: L)) : ∃ x, sat E w (P x :: L) := by
  obtain ⟨b, _, ⟨h1, h2, a, rfl, ⟨x, z⟩, r⟩, y⟩ := h
  exact ⟨x, b, _, ⟨h1, h2, a, rfl, z, r⟩, y⟩
theorem sat.mkex {α : Sort _} {P : α → SA} (x : α) (h : sat E w (P x :: L)) : sat E w ((fun g => ∃ x, P x g) :: L) := by
  obtain ⟨b, _, ⟨h1, h2, a, rfl, z, r⟩, y⟩ := h
  exact ⟨b, _, ⟨h1, h2, a, rfl, ⟨x, z⟩, r⟩, y⟩
theorem sat.pure {φ : Prop} (h : sat E w ((fun g => φ ∧ A g) :: L)) : φ ∧ sat E w (A :: L) := by
  obtain ⟨b, _, ⟨h1, h2, a, rfl, ⟨x, z⟩, r⟩, y⟩ := h
  exact ⟨x, b, _, ⟨h1, h2, a, rfl, z, r⟩, y⟩
theorem sat.mkpure {φ : Prop} (x : φ) (h : sat E w (A :: L)) : sat E w ((fun g => φ ∧ A g) :: L) := by
  obtain ⟨b, _, ⟨h1, h2, a, rfl, z, r⟩, y⟩ := h
  exact ⟨b, _, ⟨h1, h2, a, rfl, ⟨x, z⟩, r⟩, y⟩
theorem sat.imp (p : ∀ g, A g → B g) (h : sat E w (A :: L)) : sat E w (B :: L) := by
  obtain ⟨b, _, ⟨h1, h2, a, rfl, z, r⟩, y⟩ := h
  exact ⟨b, _, ⟨h1, h2, a, rfl, p _ z, r⟩, y⟩
theorem sat.below (h : sat E w L) : Below E.heap.size E w := h.1
theorem sat.nil (b : Below E.heap.size E w) : sat E w [] := ⟨b, fun _ => none, fun _ => rfl, fun _ _ e => by simp at e⟩
theorem sat.start (E : World) : sat E E [] := sat.nil (Below.refl _ _)
theorem sat.size (h : sat E w L) : E.heap.size ≤ w.heap.size := h.1.size
theorem both_left {h g : Hp} {b : Nat} {o : Obj} (e : h b = some o) : Hp.both h g b = some o := by simp [Hp.both, e]
theorem both_right {h g : Hp} (a : Hp.apart h g) {b : Nat} {o : Obj} (e : g b = some o) : Hp.both h g b = some o := by
  rcases a b with e' | e'
  · simp [Hp.both, e', e]
  · simp [e'] at e
theorem sat.at {b : Nat} {o : Obj} (h : sat E w (pt b o :: L)) : w.heap[b]? = some o := by
  obtain ⟨_, _, ⟨h1, h2, a, rfl, z, r⟩, y⟩ := h
  exact (y b o (both_left z)).1
theorem sat.own {b : Nat} {o : Obj} (h : sat E w (pt b o :: L)) : E.heap.size ≤ b := by
  obtain ⟨_, _, ⟨h1, h2, a, rfl, z, r⟩, y⟩ := h
  exact (y b o (both_left z)).2
theorem sat.lt {b : Nat} {o : Obj} (h : sat E w (pt b o :: L)) : b < w.heap.size := by
  have := h.at
  rcases Nat.lt_or_ge b w.heap.size with h | h
  · exact h
  · simp [Array.getElem?_eq_none h] at this
theorem sat.ne {b c : Nat} {o p : Obj} (h : sat E w (pt b o :: pt c p :: L)) : b ≠ c := by
  rintro rfl
  obtain ⟨_, _, ⟨h1, _, a, rfl, z, ⟨g1, g2, c, rfl, z', _⟩⟩, y⟩ := h
  have := (apart_both.1 a).1 b
  simp [pt] at z z'
  simp [z, z'] at this
/-- A step that keeps all blocks but b (which is one's own) as they were, and may make new ones. -/
theorem sat.turn {b : Nat} {o o' : Obj} {w' : World} (h : sat E w (pt b o :: L)) (hg : w.grownBy w' (some b)) (hb : w'.heap[b]? = some o') : sat E w' (pt b o' :: L) := by
  have hown := h.own
  obtain ⟨bl, _, ⟨h1, h2, a, rfl, z, r⟩, y⟩ := h
  have z0 := z
  simp only [pt] at z0
  refine ⟨bl.trans ⟨hg.os, hg.tape, hg.output, hg.size, fun k hk => hg.block k (Nat.lt_of_lt_of_le hk bl.size) (by simp; omega)⟩, Hp.both (fun c => if c = b then some o' else none) h2,
    ⟨_, h2, fun c => ?_, rfl, by simp [pt], r⟩, fun c q e => ?_⟩
  · by_cases hc : c = b
    · subst hc
      rcases a c with e | e
      · simp [z0] at e
      · exact .inr e
    · simp [hc]
  · by_cases hc : c = b
    · subst hc
      simp [Hp.both] at e
      subst e
      exact ⟨hb, hown⟩
    · simp [Hp.both, hc] at e
      have := y c q (both_right a e)
      refine ⟨?_, this.2⟩
      rw [hg.block c ?_ (by simp [hc])]
      · exact this.1
      · rcases Nat.lt_or_ge c w.heap.size with h | h
        · exact h
        · simp [Array.getElem?_eq_none h] at this
/-- A step that keeps all blocks as they were, and may make new ones. -/
theorem sat.grown {w' : World} (h : sat E w L) (hg : Below w.heap.size w w') : sat E w' L := by
  obtain ⟨bl, g, x, y⟩ := h
  refine ⟨bl.trans (hg.mono bl.size), g, x, fun c q e => ?_⟩
  have := y c q e
  refine ⟨?_, this.2⟩
  rw [hg.block c]
  · exact this.1
  · rcases Nat.lt_or_ge c w.heap.size with h | h
    · exact h
    · simp [Array.getElem?_eq_none h] at this
/-- .. of which one is taken over. -/
theorem sat.take {w' : World} {b : Nat} {o : Obj} (h : sat E w L) (hg : Below w.heap.size w w') (hb : w.heap.size ≤ b) (ho : w'.heap[b]? = some o) : sat E w' (pt b o :: L) := by
  have hs := h.size
  obtain ⟨bl, g, x, y⟩ := h
  have none_at : ∀ c, w.heap.size ≤ c → g c = none := fun c hc => by
    cases e : g c with
    | none => rfl
    | some q =>
      have := (y c q e).1
      simp [Array.getElem?_eq_none hc] at this
  refine ⟨bl.trans (hg.mono bl.size), Hp.both (fun c => if c = b then some o else none) g, ⟨_, g, fun c => ?_, rfl, by simp [pt], x⟩, fun c q e => ?_⟩
  · by_cases hc : c = b
    · subst hc; exact .inr (none_at _ hb)
    · simp [hc]
  · by_cases hc : c = b
    · subst hc
      simp [Hp.both] at e
      subst e
      exact ⟨ho, Nat.le_trans hs hb⟩
    · simp [Hp.both, hc] at e
      have := y c q e
      refine ⟨?_, this.2⟩
      rw [hg.block c]
      · exact this.1
      · rcases Nat.lt_or_ge c w.heap.size with h | h
        · exact h
        · simp [Array.getElem?_eq_none h] at this
theorem sat.drew (h : sat E w L) : sat E w.drew L := h.grown ((Below.refl _ _).drew)
theorem sat.drewN (h : sat E w L) (n : Nat) : sat E (w.drewN n) L := h.grown ⟨rfl, rfl, rfl, Nat.le_refl _, fun _ _ => rfl⟩
theorem sat.alloc (h : sat E w L) (o : Obj) : sat E (w.alloc o) (pt w.heap.size o :: L) :=
  h.take ((Below.refl _ _).alloc (Nat.le_refl _) o) (Nat.le_refl _) (by show (w.heap.push o)[_]? = _; simp)
theorem sat.alloc_any (h : sat E w L) (o : Obj) : sat E (w.alloc o) L := h.grown ((Below.refl _ _).alloc (Nat.le_refl _) o)
theorem sat.set {b i : Nat} {C : Array Value} {t : TypeId} {f : Nat × Nat} {v : Value} (h : sat E w (pt b (.cells C t f) :: L)) : sat E (w.setCell ⟨b, i, none⟩ v) (pt b (.cells (C.setIfInBounds i v) t f) :: L) := by
  refine h.turn ⟨rfl, rfl, rfl, by simp [World.setCell], fun k _ hk => Below.heap_setCell _ _ _ _ (fun e => hk (by rw [e]))⟩ ?_
  have := h.at
  simp [World.setCell, Array.getElem?_modify, this]
/-- A cell of one's own. -/
theorem sat.cell {b i : Nat} {C : Array Value} {t : TypeId} {f : Nat × Nat} (h : sat E w (pt b (.cells C t f) :: L)) : w.cell? ⟨b, i, none⟩ = C[i]? := by
  simp [World.cell?, h.at]
theorem sat.free {b i : Nat} {C : Array Value} {t : TypeId} (h : sat E w (pt b (.cells C t (0, 0)) :: L)) : w.frozen? ⟨b, i, none⟩ = false := by
  simp [World.frozen?, h.at]
end
/-! ### A row of one's own: what a slice value of one's own holds -/
/-- v is a slice of n elements (type e, size cells each) over a block of one's own, whose first cells are xs. -/
def rowA (v : Value) (e size n : Nat) (xs : List Value) : SA := fun h =>
  xs.length = n * size ∧ ((v = .slice none 0 0 ∧ n = 0 ∧ ∀ b, h b = none) ∨
    ∃ g cap cur, v = .slice (some ⟨g, 0, none⟩) n cap ∧ n ≤ cap ∧ cap ≤ maxLen ∧ cur.size = cap * size ∧ cur.toList.take (n * size) = xs ∧ h g = some (.cells cur e (0, 0)) ∧ ∀ b, b ≠ g → h b = none)
section
variable {E w : World} {L : List SA} {P : Program}
theorem rowA_nil (e size : Nat) : rowA (.slice none 0 0) e size 0 [] (fun _ => none) := ⟨by simp, .inl ⟨rfl, rfl, fun _ => rfl⟩⟩
theorem sat.row_nil (e size : Nat) (h : sat E w L) : sat E w (rowA (.slice none 0 0) e size 0 [] :: L) := by
  obtain ⟨b, g, x, y⟩ := h
  exact ⟨b, g, ⟨_, g, fun _ => .inl rfl, (both_none_left (fun _ => rfl)).symm, rowA_nil e size, x⟩, y⟩
theorem sat.row_open {v : Value} {e size n : Nat} {xs : List Value} (h : sat E w (rowA v e size n xs :: L)) :
    xs.length = n * size ∧ ((v = .slice none 0 0 ∧ n = 0 ∧ sat E w L) ∨
      ∃ g cap cur, v = .slice (some ⟨g, 0, none⟩) n cap ∧ n ≤ cap ∧ cap ≤ maxLen ∧ cur.size = cap * size ∧ cur.toList.take (n * size) = xs ∧ sat E w (pt g (.cells cur e (0, 0)) :: L)) := by
  have h0 := h
  obtain ⟨b, _, ⟨h1, h2, a, rfl, ⟨hl, z⟩, r⟩, y⟩ := h
  refine ⟨hl, ?_⟩
  rcases z with ⟨rfl, rfl, z⟩ | ⟨g, cap, cur, rfl, q1, q2, q3, q4, q5, _⟩
  · exact .inl ⟨rfl, rfl, h0.drop⟩
  · exact .inr ⟨g, cap, cur, rfl, q1, q2, q3, q4, b, _, ⟨h1, h2, a, rfl, q5, r⟩, y⟩
theorem sat.row_shut {e size n g cap : Nat} {cur : Array Value} {xs : List Value} (hl : xs.length = n * size) (h1 : n ≤ cap) (h2 : cap ≤ maxLen) (h3 : cur.size = cap * size) (h4 : cur.toList.take (n * size) = xs)
    (h : sat E w (pt g (.cells cur e (0, 0)) :: L)) : sat E w (rowA (.slice (some ⟨g, 0, none⟩) n cap) e size n xs :: L) := by
  obtain ⟨b, _, ⟨k1, k2, a, rfl, z, r⟩, y⟩ := h
  refine ⟨b, Hp.both (fun c => if c = g then some (.cells cur e (0, 0)) else none) k2, ⟨_, k2, fun c => ?_, rfl, ⟨hl, .inr ⟨g, cap, cur, rfl, h1, h2, h3, h4, by simp, fun c hc => by simp [hc]⟩⟩, r⟩, fun c q e => ?_⟩
  · by_cases hc : c = g
    · subst hc
      rcases a c with e | e
      · simp [pt] at z; simp [z] at e
      · exact .inr e
    · simp [hc]
  · refine y c q ?_
    by_cases hc : c = g
    · subst hc
      simp [Hp.both] at e
      subst e
      exact both_left z
    · simp [Hp.both, hc] at e
      exact both_right a e
/-- The cells of a row of one's own. -/
theorem sat.row_cell {e size n g o cap : Nat} {xs : List Value} (h : sat E w (rowA (.slice (some ⟨g, o, none⟩) n cap) e size n xs :: L)) (j : Nat) {u : Value} (hj : xs[j]? = some u) : o = 0 ∧ w.cell? ⟨g, j, none⟩ = some u ∧ w.frozen? ⟨g, j, none⟩ = false ∧ g < w.heap.size ∧ E.heap.size ≤ g := by
  obtain ⟨_, ⟨h0, _⟩ | ⟨g', cap', cur, h0, _, _, _, h4, h5⟩⟩ := h.row_open
  · simp at h0
  · simp at h0
    obtain ⟨⟨rfl, rfl⟩, rfl⟩ := h0
    refine ⟨rfl, ?_, h5.free, h5.lt, h5.own⟩
    rw [h5.cell, ← hj, ← h4, List.getElem?_take]
    have hlt : j < xs.length := (List.getElem?_eq_some_iff.1 hj).1
    rw [← h4] at hlt
    simp at hlt
    rw [if_pos (by omega)]
    simp
/-- A store into a cell of a row of one's own. -/
theorem sat.row_set {e size n g cap : Nat} {xs : List Value} (h : sat E w (rowA (.slice (some ⟨g, 0, none⟩) n cap) e size n xs :: L)) (j : Nat) (u : Value) :
    sat E (w.setCell ⟨g, j, none⟩ u) (rowA (.slice (some ⟨g, 0, none⟩) n cap) e size n (xs.set j u) :: L) := by
  obtain ⟨hl, ⟨h0, _⟩ | ⟨g', cap', cur, h0, h1, h2, h3, h4, h5⟩⟩ := h.row_open
  · simp at h0
  · simp at h0
    obtain ⟨rfl, rfl⟩ := h0
    refine sat.row_shut (by simpa using hl) h1 h2 (by simpa using h3) ?_ h5.set
    simp [List.take_set, h4]
/-- 'append' on a row of one's own, of at least one element more. -/
theorem run_append_sat {t ty e size bytes : Nat} {i : TypeInfo} {z : Value} (ht : P.underlying t = some (.slice e)) (hi : P.info? e = some i) (hz : i.zero = some z)
    (hsize : i.size = size) (hby : i.bytes = bytes) (hzs : z.cells.size = size)
    {v : Value} {n : Nat} {xs : List Value} (h : sat E w (rowA v e size n xs :: L))
    {ad : Addr} {m c : Nat} {news : List Value} (hl : news.length = m * size) (hnews : ∀ j u, news[j]? = some u → w.cell? (ad.add j) = some u) (h1 : ∀ u ∈ news, u.oneCell' = true) (hm : 0 < m)
    (h63 : n + m ≤ maxLen) (hbytes : (n + m) * bytes ≤ 140737488355328) :
    ∃ v' w', (Builtin.append_ #[t, t] ty #[v, .slice (some ad) m c]).run P w = .ok v' w' ∧ sat E w' (rowA v' e size (n + m) (xs ++ news) :: L) ∧ w.heap.size ≤ w'.heap.size := by
  subst hsize
  subst hby
  have hsmall : n + m ≤ 9223372036854775807 := by simp only [maxLen] at h63; omega
  obtain ⟨hxs, h2⟩ := h.row_open
  have hlen : (xs ++ news).length = (n + m) * i.size := by rw [List.length_append, hxs, hl, Nat.add_mul]
  have grown : ∀ (old : Nat), sat E w L → sat E (w.drew.alloc (.cells (xs.toArray ++ news.toArray ++ Builtin.zeroCells z.cells (grownCap w (n + m) old e - (n + m))) e))
      (rowA (.slice (some ⟨w.heap.size, 0, none⟩) (n + m) (grownCap w (n + m) old e)) e i.size (n + m) (xs ++ news) :: L) := by
    intro old hs
    have hge := grownCap_ge w (n + m) old e
    have hcm : grownCap w (n + m) old e ≤ maxLen := grownCap_le_maxLen w (n + m) old e h63
    have ha := (hs.drew).alloc (.cells (xs.toArray ++ news.toArray ++ Builtin.zeroCells z.cells (grownCap w (n + m) old e - (n + m))) e)
    refine sat.row_shut hlen hge hcm ?_ ?_ ha
    · simp only [Array.size_append, List.size_toArray, size_zeroCells, hzs, hxs, hl, ← Nat.add_mul]
      congr 1
      omega
    · simp only [Array.toList_append, List.append_assoc]
      rw [← List.append_assoc, ← hlen]
      exact List.take_left
  rcases h2 with ⟨rfl, rfl, hs⟩ | ⟨g, cap, cur, rfl, hnc, hcm, hcs, htake, hs⟩
  · have hx : xs = [] := List.eq_nil_of_length_eq_zero (by simpa using hxs)
    subst hx
    have hr := run_append_nil (P := P) w t ty e i z ht hi hz ad m c news hl hnews (by omega) (by omega) (by have hb := hbytes; simp only [Nat.zero_add] at hb; omega)
    have hgr := grown 0 hs
    simp only [Nat.zero_add, List.nil_append, Array.empty_append] at hgr ⊢
    exact ⟨_, _, hr, hgr, by simp⟩
  · by_cases hroom : n + m ≤ cap
    · have hfit : n * i.size + news.length ≤ cur.size := by rw [hl, hcs, ← Nat.add_mul]; exact Nat.mul_le_mul_right _ hroom
      have hr := run_append_room (P := P) w t ty e i ht hi g n cap cur hs.at ad m c news hl hnews h1 hroom hfit
      refine ⟨_, _, hr, ?_, by simp⟩
      refine sat.row_shut hlen hroom hcm ?_ ?_ (hs.turn ⟨rfl, rfl, rfl, by simp, fun k hk hne => setRow_other w g k _ (fun e => hne (by simp [e]))⟩ (setRow_heap w g cur _ e _ hs.at))
      · simp only [List.size_toArray, List.length_append, List.length_take, List.length_drop, Array.length_toList]
        omega
      · rw [htake, ← hlen]
        exact List.take_left
    · have holds : ∀ j u, xs[j]? = some u → w.cell? ((⟨g, 0, none⟩ : Addr).add j) = some u := by
        intro j u hj
        have := (h.row_cell j hj).2.1
        rwa [Addr.add_lit, Nat.zero_add]
      have hr := run_append_grow (P := P) w t ty e i z ht hi hz ⟨g, 0, none⟩ n cap xs hxs holds ad m c news hl hnews (by omega) (by omega) (growslice_fits (by omega) hbytes)
      exact ⟨_, _, hr, grown cap hs.drop, by simp⟩
theorem wpList_append_sat {ops : Array Oper} {rest : List Oper} {o : Oper} {a : Act} {Q : Exit → Act → World → Prop} (hgd : o.guard = none) (s x : Operand) (t : TypeId)
    (ho : o.op = .call { callee := .builtin .append, args := #[s, x], argTypes := #[t, t] })
    (e size bytes : Nat) (i : TypeInfo) (z : Value) (ht : P.underlying t = some (.slice e)) (hi : P.info? e = some i) (hz : i.zero = some z)
    (hsize : i.size = size) (hby : i.bytes = bytes) (hzs : z.cells.size = size)
    (v : Value) (n : Nat) (xs : List Value) (hs : a.eval s = v) (hown : sat E w (rowA v e size n xs :: L))
    (ad : Addr) (m c : Nat) (news : List Value) (hx : a.eval x = .slice (some ad) m c) (hl : news.length = m * size) (hnews : ∀ j u, news[j]? = some u → w.cell? (ad.add j) = some u) (h1 : ∀ u ∈ news, u.oneCell' = true) (hm : 0 < m)
    (h63 : n + m ≤ maxLen) (hbytes : (n + m) * bytes ≤ 140737488355328)
    (h : ∀ v' w', sat E w' (rowA v' e size (n + m) (xs ++ news) :: L) → w.heap.size ≤ w'.heap.size → wpList P ops Q rest (a.put o.dst v') w') : wpList P ops Q (o :: rest) a w := by
  refine wpList_plain hgd fun K hK => ?_
  obtain ⟨v', w', hr, h2, h3⟩ := run_append_sat (P := P) (ty := o.type) ht hi hz hsize hby hzs hown hl hnews h1 hm (c := c) h63 hbytes
  unfold Oper.wp execOp
  simp only [ho, resolve, invoke, builtin, Sem.run_bind, Sem.run_pure, Result.andThen_ok, List.map_toArray, List.map_cons, List.map_nil, hs, hx, hr]
  exact hK _ _ (h v' w' h2 h3)
end
end Go.SepYtegdhojhnmgjgaaGreat
/- How data that hold no pointer read: a struct of numbers, bools and texts, and a slice of such, cell by cell. Plain lemmas over any program; no condition. -/
namespace Go.SepYtegdhojhnmgjgaaGreat

/-- What stands in one cell. -/
inductive FK where
  | bool
  | int (k : IntKind)
  | string
def FK.ok : FK → Value → Prop
  | .bool, v => ∃ b, v = .bool b
  | .int k, v => ∃ n, v = .int k n ∧ (Lit.int k n).wf = true
  | .string, v => ∃ s : ByteArray, v = .string s ∧ s.size ≤ maxLen
def okAll : List FK → List Value → Prop
  | [], [] => True
  | k :: ks, v :: vs => k.ok v ∧ okAll ks vs
  | _, _ => False
theorem okAll_length : ∀ {ks : List FK} {vs : List Value}, okAll ks vs → vs.length = ks.length
  | [], [], _ => rfl
  | _ :: _, _ :: _, h => by simp [okAll_length h.2]
  | [], _ :: _, h => h.elim
  | _ :: _, [], h => h.elim
theorem okAll_append : ∀ {ks : List FK} {vs : List Value} {ks' : List FK} {vs' : List Value}, okAll ks vs → okAll ks' vs' → okAll (ks ++ ks') (vs ++ vs')
  | [], [], _, _, _, h => h
  | _ :: _, _ :: _, _, _, h, h' => ⟨h.1, okAll_append h.2 h'⟩
  | [], _ :: _, _, _, h, _ => h.elim
  | _ :: _, [], _, _, h, _ => h.elim

theorem okAll_int {k : IntKind} {ks : List FK} {vs : List Value} (h : okAll (.int k :: ks) vs) : ∃ n vs', vs = .int k n :: vs' ∧ (Lit.int k n).wf = true ∧ okAll ks vs' := by
  cases vs with
  | nil => exact h.elim
  | cons v vs => obtain ⟨⟨n, rfl, hw⟩, h⟩ := h; exact ⟨n, vs, rfl, hw, h⟩
theorem okAll_bool {ks : List FK} {vs : List Value} (h : okAll (.bool :: ks) vs) : ∃ b vs', vs = .bool b :: vs' ∧ okAll ks vs' := by
  cases vs with
  | nil => exact h.elim
  | cons v vs => obtain ⟨⟨n, rfl⟩, h⟩ := h; exact ⟨n, vs, rfl, h⟩
theorem okAll_string {ks : List FK} {vs : List Value} (h : okAll (.string :: ks) vs) : ∃ s vs', vs = .string s :: vs' ∧ s.size ≤ maxLen ∧ okAll ks vs' := by
  cases vs with
  | nil => exact h.elim
  | cons v vs => obtain ⟨⟨n, rfl, hw⟩, h⟩ := h; exact ⟨n, vs, rfl, hw, h⟩
theorem okAll_nil {vs : List Value} (h : okAll [] vs) : vs = [] := by
  cases vs with
  | nil => rfl
  | cons v vs => exact h.elim

def flatFields (P : Program) (r : TypeId → Option (List FK)) (total : Nat) : Nat → List Field → Option (List FK)
  | off, [] => if off = total then some [] else none
  | off, f :: fs => match r f.type with
    | some ks => if f.offset = off ∧ P.cellsOf f.type = ks.length then (flatFields P r total (off + ks.length) fs).map (ks ++ ·) else none
    | none => none
/-- The cells of a type that holds no pointer. -/
def flat (P : Program) : Nat → TypeId → Option (List FK)
  | 0, _ => none
  | n + 1, t => match P.underlying t with
    | some .bool => some [.bool]
    | some (.int k) => some [.int k]
    | some .string => some [.string]
    | some (.struct fs) => flatFields P (flat P n) (P.cellsOf t) 0 fs.toList
    | _ => none

section
variable {H : Type} {enc : TypeId × Value → H} {P : Program} {w : World} {base : Nat} {sp : Nat → Bool} {held : Bool}
theorem mapM_cons_some {α β : Type} {f : α → Option β} {a : α} {l : List α} {bs : List β} (h : (a :: l).mapM f = some bs) : ∃ b cs, f a = some b ∧ l.mapM f = some cs ∧ bs = b :: cs := by
  rw [List.mapM_cons] at h
  cases ha : f a with
  | none => simp [ha] at h
  | some b =>
    cases hl : l.mapM f with
    | none => simp [ha, hl] at h
    | some cs => simp [ha, hl] at h; exact ⟨b, cs, rfl, rfl, h.symm⟩
theorem flatFields_ok {r : TypeId → Option (List FK)} {total fuel : Nat} {cs : List Value}
    (ih : ∀ t ks cs x, r t = some ks → DataW.trod enc P w base sp held fuel t cs = some x → okAll ks cs) (hlen : cs.length = total) :
    ∀ (fs : List Field) (off : Nat) (ks : List FK) (xs : List (DataW H × List MemPlace)), flatFields P r total off fs = some ks → off ≤ total →
      fs.mapM (fun f => DataW.trod enc P w base sp held fuel f.type ((cs.drop f.offset).take (P.cellsOf f.type))) = some xs → okAll ks (cs.drop off)
  | [], off, ks, xs, h, _, _ => by
    simp only [flatFields] at h
    split at h
    · simp at h; subst h
      rename_i e; subst e; rw [← hlen]; simp [okAll]
    · cases h
  | f :: fs, off, ks, xs, h, hoff, hx => by
    simp only [flatFields] at h
    split at h
    · rename_i k1 hk1
      split at h
      · rename_i hc
        obtain ⟨h1, h2⟩ := hc
        obtain ⟨k2, hk2, rfl⟩ := Option.map_eq_some_iff.1 h
        obtain ⟨b, bs, hb, hbs, rfl⟩ := mapM_cons_some hx
        have o1 := ih _ _ _ _ hk1 hb
        rw [h1, h2] at o1
        have l1 := okAll_length o1
        have hle : off + k1.length ≤ total := by
          simp at l1
          omega
        have o2 := flatFields_ok ih hlen fs _ _ _ hk2 hle hbs
        have := okAll_append o1 o2
        rwa [← List.drop_drop, List.take_append_drop] at this
      · cases h
    · cases h
theorem trod_flat : ∀ (n fuel : Nat) (t : TypeId) (ks : List FK) (cs : List Value) (x : DataW H × List MemPlace), flat P n t = some ks → DataW.trod enc P w base sp held fuel t cs = some x → okAll ks cs
  | 0, _, _, _, _, _, h, _ => by simp [flat] at h
  | _ + 1, 0, _, _, _, _, _, h => by simp [DataW.trod] at h
  | n + 1, fuel + 1, t, ks, cs, x, h, hx => by
    simp only [flat] at h
    unfold DataW.trod at hx
    split at h
    · rename_i hu
      simp at h; subst h
      simp only [hu] at hx
      split at hx <;> simp_all [okAll, FK.ok]
    · rename_i k hu
      simp at h; subst h
      simp only [hu] at hx
      split at hx <;> try simp_all
      obtain ⟨⟨rfl, hw⟩, _⟩ := hx
      exact ⟨⟨_, rfl, hw⟩, trivial⟩
    · rename_i hu
      simp at h; subst h
      simp only [hu] at hx
      split at hx <;> try simp_all
      exact ⟨⟨_, rfl, hx.1⟩, trivial⟩
    · rename_i fs hu
      simp only [hu] at hx
      split at hx
      · rename_i hl
        obtain ⟨xs, hxs, _⟩ := Option.map_eq_some_iff.1 hx
        have := flatFields_ok (fun t ks cs x => trod_flat n fuel t ks cs x) hl fs.toList 0 ks xs h (Nat.zero_le _) hxs
        simpa using this
      · cases hx
    · cases h
/-- A struct that holds no pointer, by value. -/
theorem open_flat {n : Nat} {t : TypeId} {ks : List FK} {v : Value} {d : DataW H} {ps : List MemPlace} (hf : flat P n t = some ks) (h2 : 2 ≤ ks.length) (h : DataW.Trod enc P w base sp held t v d ps) :
    ∃ cs : List Value, v = .agg cs.toArray ∧ okAll ks cs := by
  obtain ⟨fuel, h⟩ := h
  have o := trod_flat n fuel t ks _ _ hf h
  have l := okAll_length o
  have key : ∀ u : Value, u.cells = #[u] → u.cells.toList.length = ks.length → False := fun u e l => by rw [e] at l; simp at l; omega
  cases v with
  | agg cs => exact ⟨cs.toList, rfl, o⟩
  | _ => exact (key _ rfl l).elim
/-- A slice of what holds no pointer. -/
theorem open_flats {n : Nat} {t e : TypeId} {ks : List FK} {a : Option Addr} {len cap : Nat} {d : DataW H} {ps : List MemPlace} (ht : P.underlying t = some (.slice e)) (hf : flat P n e = some ks) (hc : P.cellsOf e = ks.length)
    (h : DataW.Trod enc P w base sp held t (.slice a len cap) d ps) :
    (a = none ∧ len = 0 ∧ cap = 0) ∨
    ∃ x, a = some x ∧ len ≤ cap ∧ cap ≤ maxLen ∧ ∃ rows : List (List Value), rows.length = len ∧ (∀ r ∈ rows, okAll ks r) ∧
      ∀ i j u r, rows[i]? = some r → r[j]? = some u → w.cell? (x.add (i * ks.length + j)) = some u := by
  obtain ⟨fuel, h⟩ := h
  rcases Go.Deep.open_slice ht h with ⟨h0, _⟩ | ⟨x, l, c, m, n', D, Pl, h0, _, hl, hm, hmd, _, hi⟩
  · simp [Value.cells] at h0
    exact .inl h0
  · simp [Value.cells] at h0
    obtain ⟨rfl, rfl, rfl⟩ := h0
    right
    refine ⟨x, rfl, hl, hm, ?_⟩
    have hlm : len ≤ m := by rw [hmd]; split <;> omega
    have ex : ∀ i, i < len → ∃ r, okAll ks r ∧ ∀ j u, r[j]? = some u → w.cell? (x.add (i * ks.length + j)) = some u := fun i h => by
      obtain ⟨cs', h1, h2⟩ := hi i (by omega)
      refine ⟨cs', trod_flat n _ _ ks _ _ hf h2, fun j u hj => ?_⟩
      obtain ⟨_, hlen, hg⟩ := World.cells?_some h1
      have hj' : j < cs'.length := by
        rcases Nat.lt_or_ge j cs'.length with h | h
        · exact h
        · simp [List.getElem?_eq_none h] at hj
      have := hg j (by omega)
      rw [Go.Deep.add_add, hc] at this
      rw [this, hj]
    clear hi hlm hmd h
    have build : ∀ k, k ≤ len → ∃ rows : List (List Value), rows.length = k ∧ (∀ r ∈ rows, okAll ks r) ∧ ∀ i j u r, rows[i]? = some r → r[j]? = some u → w.cell? (x.add (i * ks.length + j)) = some u := by
      intro k
      induction k with
      | zero => exact fun _ => ⟨[], rfl, by simp, by simp⟩
      | succ k ih =>
        intro hk
        obtain ⟨rows, h1, h2, h3⟩ := ih (by omega)
        obtain ⟨r, g1, g2⟩ := ex k (by omega)
        refine ⟨rows ++ [r], by simp [h1], ?_, ?_⟩
        · intro q hq
          rcases List.mem_append.1 hq with hq | hq
          · exact h2 q hq
          · simp at hq; subst hq; exact g1
        · intro i j u q hq hu
          rcases Nat.lt_trichotomy i k with hlt | rfl | hgt
          · rw [List.getElem?_append_left (by omega)] at hq
            exact h3 i j u q hq hu
          · rw [List.getElem?_append_right (by omega), h1] at hq
            simp at hq; subst hq
            exact g2 j u hu
          · rw [List.getElem?_eq_none (by simp; omega)] at hq
            cases hq
    exact build len (Nat.le_refl _)
/-- The rows of a slice as they lie in memory. -/
structure RowsAt (w : World) (ks : List FK) (a : Option Addr) (len cap : Nat) (rows : List (List Value)) : Prop where
  length : rows.length = len
  le : len ≤ cap
  max : cap ≤ maxLen
  nil : a = none → len = 0 ∧ cap = 0
  ok : ∀ r ∈ rows, okAll ks r
  cell : ∀ x, a = some x → ∀ i j u r, rows[i]? = some r → r[j]? = some u → w.cell? (x.add (i * ks.length + j)) = some u
theorem rowsAt_of {n : Nat} {t e : TypeId} {ks : List FK} {a : Option Addr} {len cap : Nat} {d : DataW H} {ps : List MemPlace} (ht : P.underlying t = some (.slice e)) (hf : flat P n e = some ks) (hc : P.cellsOf e = ks.length)
    (h : DataW.Trod enc P w base sp held t (.slice a len cap) d ps) : ∃ rows, RowsAt w ks a len cap rows := by
  rcases open_flats ht hf hc h with ⟨rfl, rfl, rfl⟩ | ⟨x, rfl, hl, hm, rows, h1, h2, h3⟩
  · exact ⟨[], rfl, Nat.le_refl _, by decide, fun _ => ⟨rfl, rfl⟩, by simp, by simp⟩
  · exact ⟨rows, h1, hl, hm, (fun e => by cases e), h2, (fun y hy => by cases hy; exact h3)⟩
end
end Go.SepYtegdhojhnmgjgaaGreat
/- The machine's steps on one's own memory: stores, new blocks, appends, each leaving a fresh world of which the parts are known. Plain lemmas over any program; no condition. -/
namespace Go.SepYtegdhojhnmgjgaaGreat
open Go.RowKit

/-! 'min' and 'max' of two whole numbers. -/
theorem min2_w (k k' : IntKind) (x y : Int) : Builtin.min2 (.int k x) (.int k' y) = pure (.int k (min x y)) := by
  simp only [Builtin.min2]
  rw [show (min x y : Int) = (if y < x then y else x) by omega]
theorem max2_w (k k' : IntKind) (x y : Int) : Builtin.max2 (.int k x) (.int k' y) = pure (.int k (max x y)) := by
  simp only [Builtin.max2, gt_iff_lt]
  rw [show (max x y : Int) = (if x < y then y else x) by omega]
theorem max_w (ats : Array TypeId) (ty : TypeId) (a b : Value) : Builtin.max_ ats ty #[a, b] = (Builtin.max2 a b >>= fun s => pure s) := by simp only [Builtin.max_, List.foldlM_cons, List.foldlM_nil]
theorem min_w (ats : Array TypeId) (ty : TypeId) (a b : Value) : Builtin.min_ ats ty #[a, b] = (Builtin.min2 a b >>= fun s => pure s) := by simp only [Builtin.min_, List.foldlM_cons, List.foldlM_nil]
/-- Cells with some of them turned, from a place on. -/
def putL : List Value → Nat → List Value → List Value
  | [], _, _ => []
  | c :: cs, 0, [] => c :: cs
  | _ :: cs, 0, v :: vs => v :: putL cs 0 vs
  | c :: cs, i + 1, vs => c :: putL cs i vs
theorem putL_nil : ∀ (l : List Value), putL l 0 [] = l
  | [] => rfl
  | _ :: _ => rfl
theorem putL_one : ∀ (l : List Value) (i : Nat) (v : Value), putL l i [v] = l.set i v
  | [], _, _ => rfl
  | c :: cs, 0, v => by simp [putL, putL_nil]
  | c :: cs, i + 1, v => by simp [putL, putL_one cs i v]
theorem putL_eq : ∀ (l : List Value) (i : Nat) (vs : List Value), i + vs.length ≤ l.length → putL l i vs = l.take i ++ vs ++ l.drop (i + vs.length)
  | [], i, vs, h => by simp at h; obtain ⟨rfl, rfl⟩ := h; rfl
  | c :: cs, 0, [], _ => rfl
  | c :: cs, 0, v :: vs, h => by
    have := putL_eq cs 0 vs (by simpa using h)
    simp [putL, this, Nat.add_comm]
  | c :: cs, i + 1, vs, h => by
    have := putL_eq cs i vs (by simp at h; omega)
    simp [putL, this, Nat.add_right_comm i 1]
theorem putL_length (l : List Value) (i : Nat) (vs : List Value) (h : i + vs.length ≤ l.length) : (putL l i vs).length = l.length := by
  rw [putL_eq l i vs h]; simp; omega

/-- What an operand is, laid open. -/
def look (a : Act) : Operand → Option Value
  | .tmp t => a.tmps.toList[t]?
  | .const v => some v
  | .global g => some (.pointer (some ⟨g, 0, none⟩))
  | .func f => some (.func (.func f) #[] #[])
theorem look_eval {a : Act} {x : Operand} {v : Value} (h : look a x = some v) : a.eval x = v := by
  cases x with
  | tmp t =>
    have h : a.tmps.toList[t]? = some v := h
    have h2 : a.tmps[t]? = some v := by rw [← h]; simp
    simp [Act.eval, h2]
  | const u => exact Option.some.inj h
  | global g => exact Option.some.inj h
  | func f => exact Option.some.inj h
def valCells : Value → Option (List Value)
  | .agg ⟨l⟩ => some l
  | v => some [v]
theorem valCells_cells {v : Value} {vs : List Value} (h : valCells v = some vs) : v.cells.toList = vs := by
  cases v <;> first | exact Option.some.inj h | (have := Option.some.inj h; subst this; rfl)
section
variable {E w : World} {L : List SA} {P : Program}
theorem set_perm {α : Type _} : ∀ (i : Nat) (L : List α) {A B : α}, L[i]? = some A → (L.set i B).Perm (B :: L.eraseIdx i)
  | 0, [], _, _, e => by simp at e
  | 0, _ :: L, _, B, _ => by simp
  | i + 1, [], _, _, e => by simp at e
  | i + 1, C :: L, A, B, e => by
    simp at e
    exact (List.Perm.cons C (set_perm i L e)).trans (List.Perm.swap B C _)
/-- What holds of the part in front holds of the part number i. -/
theorem sat.at_part {w' : World} {A B : SA} (i : Nat) (h : sat E w L) (e : L[i]? = some A) (f : ∀ M, sat E w (A :: M) → sat E w' (B :: M)) : sat E w' (L.set i B) :=
  (f _ (h.pick i e)).perm (set_perm i L e).symm
/-- The part number i laid open, or shut, where it is. -/
theorem sat.imp_part {A B : SA} (i : Nat) (h : sat E w L) (e : L[i]? = some A) (f : ∀ g, A g → B g) : sat E w (L.set i B) := h.at_part i e (fun _ s => s.imp f)
theorem sat.row_slice {v : Value} {e size n : Nat} {xs : List Value} (h : sat E w (rowA v e size n xs :: L)) : ∃ p m c, v = .slice p m c := by
  obtain ⟨_, ⟨rfl, _⟩ | ⟨g, cap, _, rfl, _⟩⟩ := h.row_open
  · exact ⟨_, _, _, rfl⟩
  · exact ⟨_, _, _, rfl⟩
/-- Cells of one's own, read. -/
theorem sat.rd (i : Nat) (h : sat E w L) {b t : Nat} {l : List Value} {f : Nat × Nat} (e : L[i]? = some (pt b (.cells l.toArray t f))) : ∀ j, w.cell? ⟨b, j, none⟩ = l[j]? := fun j => by
  rw [(h.pick i e).cell]; simp
theorem sat.s0 {M : List SA} {b t : Nat} {l : List Value} {f : Nat × Nat} (h : sat E w (pt b (.cells l.toArray t f) :: M)) : (∀ j, w.cell? ⟨b, j, none⟩ = l[j]?) ∧ b < w.heap.size := ⟨h.rd 0 rfl, h.lt⟩
theorem sat.gen (h : sat E w L) : ∃ w2, w2 = w ∧ sat E w2 L := ⟨w, rfl, h⟩
theorem sat.swap {A B : SA} (h : sat E w (A :: B :: L)) : sat E w (B :: A :: L) := h.perm (List.Perm.swap B A L)
theorem sat.set0 {b t i : Nat} {l : List Value} {v : Value} (h : sat E w (pt b (.cells l.toArray t (0, 0)) :: L)) : sat E (w.setCell ⟨b, i, none⟩ v) (pt b (.cells (l.set i v).toArray t (0, 0)) :: L) := by
  have := h.set (i := i) (v := v)
  simpa using this
theorem sat.alloc2 {o o' : Obj} (h : sat E w L) : sat E ((w.alloc o).alloc o') (pt (w.heap.size + 1) o' :: L) := by
  have := (h.alloc_any o).alloc o'
  simpa using this
theorem sat.alloc3 {o o' o'' : Obj} (h : sat E w L) : sat E (((w.alloc o).alloc o').alloc o'') (pt (w.heap.size + 2) o'' :: pt (w.heap.size + 1) o' :: L) := by
  have := (h.alloc2 (o := o) (o' := o')).alloc o''
  simpa using this
theorem sat.ltp (i : Nat) (h : sat E w L) {b : Nat} {o : Obj} (e : L[i]? = some (pt b o)) : b < w.heap.size := (h.pick i e).lt
theorem sat.fr (i : Nat) (h : sat E w L) {b t : Nat} {l : List Value} (e : L[i]? = some (pt b (.cells l.toArray t (0, 0)))) : ∀ j, w.frozen? ⟨b, j, none⟩ = false := fun _ => (h.pick i e).free
theorem sat.row_rd (i : Nat) (h : sat E w L) {g e' size n cap : Nat} {xs : List Value} (e : L[i]? = some (rowA (.slice (some ⟨g, 0, none⟩) n cap) e' size n xs)) (j : Nat) (u : Value) (hj : xs[j]? = some u) : w.cell? ⟨g, j, none⟩ = some u :=
  ((h.pick i e).row_cell j hj).2.1
theorem sat.add_end {w' : World} {A : SA} (h : sat E w' (A :: L)) : sat E w' (L ++ [A]) := h.perm (List.perm_append_singleton A L).symm

/-- A store of one cell or several into a block of one's own. -/
theorem run_store_at (i : Nat) (h : sat E w L) {b t off ty : Nat} {l : List Value} {v : Value} (e : L[i]? = some (pt b (.cells l.toArray t (0, 0)))) {vs : List Value} (hv : v.cells.toList = vs)
    (hs : (P.info? ty).map (·.size) = some vs.length) (hfit : off + vs.length ≤ l.length) (h1 : ∀ u ∈ vs, u.oneCell' = true) :
    ∃ w', (storeVar ty ⟨b, off, none⟩ v).run P w = .ok () w' ∧ sat E w' (L.set i (pt b (.cells (putL l off vs).toArray t (0, 0)))) ∧ w'.heap.size = w.heap.size := by
  have hb := (h.pick i e).at
  have hst := run_storeCells_at P b off t vs 0 l.toArray w hb (by simpa using hfit) h1
  simp only [Nat.add_zero] at hst
  refine ⟨w.setRow b (putL l off vs).toArray, ?_, ?_, by simp⟩
  · cases hq : P.info? ty with
    | none => simp [hq] at hs
    | some q =>
      have hz : q.size = vs.length := by simpa [hq] using hs
      have hvs : v.cells.size = vs.length := by rw [← hv]; simp
      rw [putL_eq l off vs hfit]
      simp [storeVar, sizeOf, typeInfo, hq, hz, hvs, hv, hst]
  · refine h.at_part i e (fun M s => ?_)
    exact s.turn ⟨rfl, rfl, rfl, by simp, fun k _ hk => setRow_other w b k _ (fun q => hk (by simp [q]))⟩ (setRow_heap w b _ _ t _ hb)
theorem st_store (i : Nat) {ops : Array Oper} {rest : List Oper} {a : Act} {Q : Exit → Act → World → Prop} {ty : Nat} {p x : Operand} {oty : TypeId} {pos : String} {af : Array Edge}
    (h : sat E w L) {b t off : Nat} {l : List Value} {vs : List Value} {v : Value} (hp : look a p = some (.pointer (some ⟨b, off, none⟩))) (hx : look a x = some v) (e : L[i]? = some (pt b (.cells l.toArray t (0, 0)))) (hv : valCells v = some vs)
    (hs : (P.info? ty).map (·.size) = some vs.length) (hfit : off + vs.length ≤ l.length) (h1 : ∀ u ∈ vs, u.oneCell' = true)
    (k : ∀ w', sat E w' (L.set i (pt b (.cells (putL l off vs).toArray t (0, 0)))) → wpList P ops Q rest a w') : wpList P ops Q (⟨none, .store ty p x, oty, pos, af, none⟩ :: rest) a w := by
  refine wpList_plain rfl fun K hK => ?_
  replace hp := look_eval hp
  replace hx := look_eval hx
  replace hv := valCells_cells hv
  obtain ⟨w', hr, hsat, _⟩ := run_store_at (P := P) (ty := ty) i h e hv hs hfit h1
  unfold Oper.wp execOp
  simp only [hp, hx, Instr.storeAt, Instr.sureAddr, Sem.run_bind, Sem.run_pure, Result.andThen_ok, hr]
  exact hK _ _ (k w' hsat)
/-! Gates: each fits one kind of operation alone. -/
theorem at_store {ops : Array Oper} {rest : List Oper} {a : Act} {Q : Exit → Act → World → Prop} {ty : Nat} {p x : Operand} {oty : TypeId} {pos : String} {af : Array Edge}
    (h : wpList P ops Q (⟨none, .store ty p x, oty, pos, af, none⟩ :: rest) a w) : wpList P ops Q (⟨none, .store ty p x, oty, pos, af, none⟩ :: rest) a w := h
theorem at_box {ops : Array Oper} {rest : List Oper} {a : Act} {Q : Exit → Act → World → Prop} {dst : Option Tmp} {el : TypeId} {x : Operand} {oty : TypeId} {pos : String} {af : Array Edge}
    (h : wpList P ops Q (⟨dst, .box el x, oty, pos, af, none⟩ :: rest) a w) : wpList P ops Q (⟨dst, .box el x, oty, pos, af, none⟩ :: rest) a w := h
theorem at_alloc {ops : Array Oper} {rest : List Oper} {a : Act} {Q : Exit → Act → World → Prop} {dst : Option Tmp} {el : TypeId} {oty : TypeId} {pos : String} {af : Array Edge}
    (h : wpList P ops Q (⟨dst, .alloc el, oty, pos, af, none⟩ :: rest) a w) : wpList P ops Q (⟨dst, .alloc el, oty, pos, af, none⟩ :: rest) a w := h
theorem at_row {ops : Array Oper} {rest : List Oper} {a : Act} {Q : Exit → Act → World → Prop} {dst : Option Tmp} {t : TypeId} {n : Nat} {ps : Array (Nat × Operand)} {oty : TypeId} {pos : String} {af : Array Edge}
    (h : wpList P ops Q (⟨dst, .buildSlice t n ps, oty, pos, af, none⟩ :: rest) a w) : wpList P ops Q (⟨dst, .buildSlice t n ps, oty, pos, af, none⟩ :: rest) a w := h
theorem at_append {ops : Array Oper} {rest : List Oper} {a : Act} {Q : Exit → Act → World → Prop} {dst : Option Tmp} {s x : Operand} {t : TypeId} {oty : TypeId} {pos : String} {af : Array Edge}
    (h : wpList P ops Q (⟨dst, .call { callee := .builtin .append, args := #[s, x], argTypes := #[t, t] }, oty, pos, af, none⟩ :: rest) a w) :
    wpList P ops Q (⟨dst, .call { callee := .builtin .append, args := #[s, x], argTypes := #[t, t] }, oty, pos, af, none⟩ :: rest) a w := h
theorem at_make {ops : Array Oper} {rest : List Oper} {a : Act} {Q : Exit → Act → World → Prop} {dst : Option Tmp} {s x : Operand} {t : TypeId} {oty : TypeId} {pos : String} {af : Array Edge}
    (h : wpList P ops Q (⟨dst, .makeSlice t s x, oty, pos, af, none⟩ :: rest) a w) : wpList P ops Q (⟨dst, .makeSlice t s x, oty, pos, af, none⟩ :: rest) a w := h
/-- A store of one cell into a row of one's own. -/
theorem st_store_row (i : Nat) {ops : Array Oper} {rest : List Oper} {a : Act} {Q : Exit → Act → World → Prop} {ty : Nat} {p x : Operand} {oty : TypeId} {pos : String} {af : Array Edge}
    (h : sat E w L) {g e' size n cap off : Nat} {xs vs : List Value} {v : Value} (hp : look a p = some (.pointer (some ⟨g, off, none⟩))) (hx : look a x = some v) (e : L[i]? = some (rowA (.slice (some ⟨g, 0, none⟩) n cap) e' size n xs)) (hv : valCells v = some vs)
    (hs : (P.info? ty).map (·.size) = some vs.length) (hfit : off + vs.length ≤ xs.length) (h1 : ∀ u ∈ vs, u.oneCell' = true)
    (k : ∀ w', sat E w' (L.set i (rowA (.slice (some ⟨g, 0, none⟩) n cap) e' size n (putL xs off vs))) → wpList P ops Q rest a w') : wpList P ops Q (⟨none, .store ty p x, oty, pos, af, none⟩ :: rest) a w := by
  replace hp := look_eval hp
  replace hx := look_eval hx
  replace hv := valCells_cells hv
  refine wpList_plain rfl fun K hK => ?_
  obtain ⟨hl, ⟨h0, _⟩ | ⟨g', cap', cur, h0, q1, q2, q3, q4, q5⟩⟩ := (h.pick i e).row_open
  · simp at h0
  · simp at h0
    obtain ⟨rfl, rfl⟩ := h0
    have hcur : (cur.toList.toArray) = cur := by simp
    rw [← hcur] at q5
    have hle : xs.length ≤ cur.toList.length := by rw [← q4]; simp; omega
    obtain ⟨w', hr, hsat, _⟩ := run_store_at (P := P) (ty := ty) (off := off) 0 q5 rfl hv hs (by omega) h1
    unfold Oper.wp execOp
    simp only [hp, hx, Instr.storeAt, Instr.sureAddr, Sem.run_bind, Sem.run_pure, Result.andThen_ok, hr]
    refine hK _ _ (k w' ?_)
    simp only [List.set_cons_zero] at hsat
    refine (sat.row_shut ?_ q1 q2 ?_ ?_ hsat).perm (set_perm i L e).symm
    · rw [putL_length xs off vs hfit]; exact hl
    · rw [List.size_toArray, putL_length _ _ _ (by omega)]; simpa using q3
    · rw [putL_eq xs off vs hfit, putL_eq _ _ _ (by omega : off + vs.length ≤ cur.toList.length), ← q4]
      simp only [List.take_append, List.take_take, List.length_take, List.length_append]
      have hl2 : n * size = xs.length := hl.symm
      have hx2 : xs.length = min (n * size) cur.toList.length := by rw [← q4]; simp
      rw [← q4] at hfit hle
      simp only [List.length_take] at hfit hle
      rw [List.drop_take]
      simp only [Nat.min_eq_left (show off ≤ cur.toList.length by omega)]
      rw [Nat.min_eq_right (show off ≤ n * size by omega), Nat.min_eq_left (show off ≤ n * size by omega), List.take_of_length_le (l := vs) (by omega)]
/-- A new block for a value. -/
theorem st_box {ops : Array Oper} {rest : List Oper} {a : Act} {Q : Exit → Act → World → Prop} {dst : Option Tmp} {el : TypeId} {x : Operand} {oty : TypeId} {pos : String} {af : Array Edge}
    (h : sat E w L) {v : Value} {vs : List Value} (hx : look a x = some v) (_hv : valCells v = some vs)
    (hr : ∀ w : World, (Instr.box el v).run P w = .ok (.pointer (some ⟨w.heap.size, 0, none⟩)) (w.alloc (.cells vs.toArray el)))
    (k : ∀ g w', sat E w' (L ++ [pt g (.cells vs.toArray el (0, 0))]) → wpList P ops Q rest (a.put dst (.pointer (some ⟨g, 0, none⟩))) w') : wpList P ops Q (⟨dst, .box el x, oty, pos, af, none⟩ :: rest) a w := by
  refine wpList_plain rfl fun K hK => ?_
  unfold Oper.wp execOp
  simp only [look_eval hx, Sem.run_bind, hr, Result.andThen_ok, Sem.run_pure]
  exact hK _ _ (k w.heap.size (w.alloc (.cells vs.toArray el)) (h.alloc _).add_end)
/-- .. laid in front. -/
theorem st_boxf {ops : Array Oper} {rest : List Oper} {a : Act} {Q : Exit → Act → World → Prop} {dst : Option Tmp} {el : TypeId} {x : Operand} {oty : TypeId} {pos : String} {af : Array Edge}
    (h : sat E w L) {v : Value} {vs : List Value} (hx : look a x = some v) (_hv : valCells v = some vs)
    (hr : ∀ w : World, (Instr.box el v).run P w = .ok (.pointer (some ⟨w.heap.size, 0, none⟩)) (w.alloc (.cells vs.toArray el)))
    (k : ∀ g w', sat E w' (pt g (.cells vs.toArray el (0, 0)) :: L) → wpList P ops Q rest (a.put dst (.pointer (some ⟨g, 0, none⟩))) w') : wpList P ops Q (⟨dst, .box el x, oty, pos, af, none⟩ :: rest) a w := by
  refine wpList_plain rfl fun K hK => ?_
  unfold Oper.wp execOp
  simp only [look_eval hx, Sem.run_bind, hr, Result.andThen_ok, Sem.run_pure]
  exact hK _ _ (k w.heap.size (w.alloc (.cells vs.toArray el)) (h.alloc _))
theorem st_alloc {ops : Array Oper} {rest : List Oper} {a : Act} {Q : Exit → Act → World → Prop} {dst : Option Tmp} {el : TypeId} {oty : TypeId} {pos : String} {af : Array Edge}
    (h : sat E w L) {vs : List Value}
    (hr : ∀ w : World, (Instr.alloc el true (.tuple #[])).run P w = .ok (.pointer (some ⟨w.heap.size, 0, none⟩)) (w.alloc (.cells vs.toArray el)))
    (k : ∀ g w', sat E w' (L ++ [pt g (.cells vs.toArray el (0, 0))]) → wpList P ops Q rest (a.put dst (.pointer (some ⟨g, 0, none⟩))) w') : wpList P ops Q (⟨dst, .alloc el, oty, pos, af, none⟩ :: rest) a w := by
  refine wpList_plain rfl fun K hK => ?_
  unfold Oper.wp execOp
  simp only [Sem.run_bind, hr, Result.andThen_ok, Sem.run_pure]
  exact hK _ _ (k w.heap.size (w.alloc (.cells vs.toArray el)) (h.alloc _).add_end)
/-- A row of elements that are written out. -/
theorem st_row {ops : Array Oper} {rest : List Oper} {a : Act} {Q : Exit → Act → World → Prop} {dst : Option Tmp} {t : TypeId} {n : Nat} {ps : Array (Nat × Operand)} {oty : TypeId} {pos : String} {af : Array Edge}
    (h : sat E w L) (vs : List Value) (el : Nat)
    (hr : ∀ w : World, (Instr.buildSlice t n (ps.map fun (i, x) => (i, a.eval x))).run P w = .ok (.slice (some ⟨w.heap.size, 0, none⟩) n n) (w.alloc (.cells vs.toArray el)))
    (k : ∀ g w', sat E w' (L ++ [pt g (.cells vs.toArray el (0, 0))]) → wpList P ops Q rest (a.put dst (.slice (some ⟨g, 0, none⟩) n n)) w') : wpList P ops Q (⟨dst, .buildSlice t n ps, oty, pos, af, none⟩ :: rest) a w := by
  refine wpList_plain rfl fun K hK => ?_
  unfold Oper.wp execOp
  simp only [Sem.run_bind, hr, Result.andThen_ok, Sem.run_pure]
  exact hK _ _ (k w.heap.size (w.alloc (.cells vs.toArray el)) (h.alloc _).add_end)
/-- An append of one element (or more) to a row of one's own, the new elements in a block of one's own. -/
theorem st_append (i : Nat) {ops : Array Oper} {rest : List Oper} {a : Act} {Q : Exit → Act → World → Prop} {dst : Option Tmp} {s x : Operand} {t : TypeId} {oty : TypeId} {pos : String} {af : Array Edge}
    (e size bytes : Nat) (ht : P.underlying t = some (.slice e)) (hi : ∃ q z, P.info? e = some q ∧ q.zero = some z ∧ q.size = size ∧ q.bytes = bytes ∧ z.cells.size = size)
    (h : sat E w L) {v : Value} {n : Nat} {xs : List Value} (hs : look a s = some v) (hL : L[i]? = some (rowA v e size n xs))
    {b o m c : Nat} {news : List Value} (hx : look a x = some (.slice (some ⟨b, o, none⟩) m c)) (hl : news.length = m * size) (hnews : ∀ j u, news[j]? = some u → w.cell? ⟨b, o + j, none⟩ = some u) (h1 : ∀ u ∈ news, u.oneCell' = true) (hm : 0 < m)
    (h63 : n + m ≤ maxLen) (hbytes : (n + m) * bytes ≤ 140737488355328)
    (k : ∀ p1 n1 c1 w', sat E w' (L.set i (rowA (.slice p1 n1 c1) e size (n + m) (xs ++ news))) → wpList P ops Q rest (a.put dst (.slice p1 n1 c1)) w') :
    wpList P ops Q (⟨dst, .call { callee := .builtin .append, args := #[s, x], argTypes := #[t, t] }, oty, pos, af, none⟩ :: rest) a w := by
  obtain ⟨q, z, g1, g2, g3, g4, g5⟩ := hi
  refine wpList_append_sat rfl s x t rfl e size bytes q z ht g1 g2 g3 g4 g5 v n xs (look_eval hs) (h.pick i hL) ⟨b, o, none⟩ m c news (look_eval hx) hl ?_ h1 hm h63 hbytes (fun v' w' hs' _ => ?_)
  rotate_left
  · obtain ⟨p1, n1, c1, rfl⟩ := hs'.row_slice
    exact k p1 n1 c1 w' (hs'.perm (set_perm i L hL).symm)
  intro j u hj
  rw [Addr.add_lit]
  exact hnews j u hj
/-- .. the new elements in the block that was just made for them. -/
theorem st_append_new (i : Nat) {ops : Array Oper} {rest : List Oper} {a : Act} {Q : Exit → Act → World → Prop} {dst : Option Tmp} {s x : Operand} {t : TypeId} {oty : TypeId} {pos : String} {af : Array Edge}
    (e size bytes : Nat) (ht : P.underlying t = some (.slice e)) (hi : ∃ q z, P.info? e = some q ∧ q.zero = some z ∧ q.size = size ∧ q.bytes = bytes ∧ z.cells.size = size)
    (h : sat E w L) {v : Value} {n : Nat} {xs : List Value} (hs : look a s = some v) (hL : L[i]? = some (rowA v e size n xs))
    {m c e2 : Nat} {news : List Value} (hx : look a x = some (.slice (some ⟨w.heap.size, 0, none⟩) m c)) (hl : news.length = m * size) (h1 : ∀ u ∈ news, u.oneCell' = true) (hm : 0 < m)
    (h63 : n + m ≤ maxLen) (hbytes : (n + m) * bytes ≤ 140737488355328)
    (k : ∀ p1 n1 c1 w', sat E w' (L.set i (rowA (.slice p1 n1 c1) e size (n + m) (xs ++ news))) → wpList P ops Q rest (a.put dst (.slice p1 n1 c1)) w') :
    wpList P ops Q (⟨dst, .call { callee := .builtin .append, args := #[s, x], argTypes := #[t, t] }, oty, pos, af, none⟩ :: rest) a (w.alloc (.cells news.toArray e2)) := by
  refine st_append i e size bytes ht hi (h.alloc_any _) hs hL hx hl (fun j u hj => ?_) h1 hm h63 hbytes k
  rw [Nat.zero_add, World.cell?_alloc_at _ _ _ _ rfl]
  simpa using hj
end
end Go.SepYtegdhojhnmgjgaaGreat
/- What the program's layers do, as plain functions on numbers and lists: cells, stamps, words, and each call step by step. No Go in it. -/
namespace Go.Proofs.YtegdhojhnmgjgaaGreat

/-- An element by its number. -/
def getI (l : List Int) (i : Int) : Int := l.getD i.toNat 0
def setI (l : List Int) (i : Int) (x : Int) : List Int := l.set i.toNat x
abbrev Top : Int := 16777215

/-! ### Cells -/
structure Ev where
  who : Int
  op : Int
  cell : Int
  old : Int
  new : Int
  ok : Bool
  deriving DecidableEq
structure MemM where
  cells : List Int
  log : List Ev
def opNew (op was old next : Int) : Int := if op = 0 then was else if op = 2 then (if was = old then next else was) else if op = 3 then (was + next) % 18446744073709551616 else next
def opOk (op was old : Int) : Bool := if op = 2 then decide (was = old) else true
def MemM.has (m : MemM) (cell : Int) : Prop := 0 ≤ cell ∧ cell < m.cells.length
instance (m : MemM) (cell : Int) : Decidable (m.has cell) := by unfold MemM.has; exact inferInstance
def MemM.peek (m : MemM) (cell : Int) : Int := if m.has cell then getI m.cells cell else 0
def MemM.okOf (m : MemM) (op cell old : Int) : Bool := if m.has cell then opOk op (getI m.cells cell) old else false
def MemM.touch (m : MemM) (who op cell old next : Int) : MemM :=
  if m.has cell then
    ⟨setI m.cells cell (opNew op (getI m.cells cell) old next), m.log ++ [⟨who, op, cell, getI m.cells cell, opNew op (getI m.cells cell) old next, opOk op (getI m.cells cell) old⟩]⟩
  else m
def MemM.wf (m : MemM) : Prop := ∀ x ∈ m.cells, 0 ≤ x ∧ x < 18446744073709551616
def MemM.new (n : Nat) : MemM := ⟨List.replicate n 0, []⟩
theorem getI_wf {m : MemM} (h : m.wf) (c : Int) : 0 ≤ getI m.cells c ∧ getI m.cells c < 18446744073709551616 := by
  unfold getI
  rw [List.getD_eq_getElem?_getD]
  cases hc : m.cells[c.toNat]? with
  | none => simp
  | some x => exact h x (List.mem_of_getElem? hc)
theorem MemM.peek_wf {m : MemM} (h : m.wf) (c : Int) : 0 ≤ m.peek c ∧ m.peek c < 18446744073709551616 := by
  unfold MemM.peek; split
  · exact getI_wf h c
  · omega
theorem MemM.touch_wf {m : MemM} (h : m.wf) (who op cell old next : Int) (hn : 0 ≤ next ∧ next < 18446744073709551616) : (m.touch who op cell old next).wf := by
  unfold MemM.touch
  split
  · intro x hx
    rcases List.mem_or_eq_of_mem_set hx with hx | rfl
    · exact h x hx
    · have := getI_wf h cell
      unfold opNew
      (repeat' split) <;> omega
  · exact h
theorem MemM.touch_length (m : MemM) (who op cell old next : Int) : (m.touch who op cell old next).cells.length = m.cells.length := by
  unfold MemM.touch; split <;> simp [setI]
theorem MemM.touch_log (m : MemM) (who op cell old next : Int) : (m.touch who op cell old next).log.length ≤ m.log.length + 1 := by
  unfold MemM.touch; split <;> simp

/-! ### Stamps, words, the layout -/
structure StampM where
  lo : Int
  hi : Int
  deriving DecidableEq
def StampM.right (s : StampM) : Bool := decide (0 ≤ s.lo) && decide (s.lo ≤ s.hi) && decide (s.hi < Top)
def StampM.before (s o : StampM) : Bool := decide (s.hi < o.lo)
def cmpI (a b : Int) : Int := if a < b then -1 else if a > b then 1 else 0
def StampM.cmp (s o : StampM) : Int := if cmpI s.lo o.lo ≠ 0 then cmpI s.lo o.lo else cmpI s.hi o.hi
abbrev point (n : Int) : StampM := ⟨n, n⟩
structure WordM where
  state : Int
  fin : Int
  gen : Int
  stamp : StampM
  deriving DecidableEq
def WordM.right (w : WordM) : Bool :=
  decide (0 ≤ w.state) && decide (w.state ≤ 2) && (decide (w.fin = 0) || decide (w.fin = 1)) && decide (0 ≤ w.gen) && decide (w.gen ≤ 8191) && decide (0 ≤ w.stamp.lo) && decide (w.stamp.lo ≤ Top) && decide (0 ≤ w.stamp.hi) && decide (w.stamp.hi ≤ Top)
def WordM.pack (w : WordM) : Int := if w.right then w.state + w.fin * 4 + w.gen * 8 + w.stamp.lo * 65536 + w.stamp.hi * 1099511627776 else 0
def unpack (x : Int) : WordM := ⟨x % 4, x / 4 % 2, x / 8 % 8192, ⟨x / 65536 % 16777216, x / 1099511627776 % 16777216⟩⟩
def WordM.taken (w : WordM) : WordM := { w with state := 2 }
def WordM.next (w : WordM) (e : Int) (s : StampM) : WordM := ⟨1, e, w.gen + 1, s⟩
structure ConfM where
  th : Int
  sl : Int
  src : Int
  dl : Int
  deriving DecidableEq
def ConfM.right (c : ConfM) : Bool :=
  decide (1 ≤ c.th) && decide (c.th ≤ 64) && decide (1 ≤ c.sl) && decide (c.sl ≤ 64) && decide (0 ≤ c.src) && decide (c.src ≤ 4) && decide (0 ≤ c.dl) && decide (c.dl ≤ 100)
structure ConfM.ok (c : ConfM) : Prop where
  th1 : 1 ≤ c.th
  th2 : c.th ≤ 64
  sl1 : 1 ≤ c.sl
  sl2 : c.sl ≤ 64
  src1 : 0 ≤ c.src
  src2 : c.src ≤ 4
  dl1 : 0 ≤ c.dl
  dl2 : c.dl ≤ 100
theorem ConfM.right_ok {c : ConfM} : c.right = true ↔ c.ok := by
  simp only [ConfM.right, Bool.and_eq_true, decide_eq_true_eq]
  exact ⟨fun ⟨⟨⟨⟨⟨⟨⟨a, b⟩, c⟩, d⟩, e⟩, f⟩, g⟩, h⟩ => ⟨a, b, c, d, e, f, g, h⟩, fun ⟨a, b, c, d, e, f, g, h⟩ => ⟨⟨⟨⟨⟨⟨⟨a, b⟩, c⟩, d⟩, e⟩, f⟩, g⟩, h⟩⟩
def ConfM.all (c : ConfM) : Int := c.th * c.sl
def ConfM.first (c : ConfM) (t : Int) : Int := t * c.sl
def ConfM.value (c : ConfM) (s : Int) : Int := c.all + s
def ConfM.hazard (c : ConfM) (t : Int) : Int := 2 * c.all + t
def ConfM.number (c : ConfM) (t : Int) : Int := 2 * c.all + c.th + t
def ConfM.cells (c : ConfM) : Int := 2 * c.all + 2 * c.th
theorem ConfM.ok.all_bd {c : ConfM} (h : c.ok) : 1 ≤ c.all ∧ c.all ≤ 4096 := by
  have := h.th1; have := h.th2; have := h.sl1; have := h.sl2
  unfold ConfM.all
  constructor
  · have := Int.mul_le_mul h.th1 h.sl1 (by omega) (by omega); omega
  · have := Int.mul_le_mul h.th2 h.sl2 (by omega) (by omega); omega
theorem ConfM.ok.first_bd {c : ConfM} (h : c.ok) {t : Int} (h0 : 0 ≤ t) (h1 : t < c.th) : 0 ≤ c.first t ∧ c.first t + c.sl ≤ c.all := by
  have := h.sl1
  unfold ConfM.all ConfM.first
  constructor
  · exact Int.mul_nonneg h0 (by omega)
  · have e : t * c.sl + c.sl = (t + 1) * c.sl := by rw [Int.add_mul, Int.one_mul]
    rw [e]
    exact Int.mul_le_mul_of_nonneg_right (by omega) (by omega)

/-! ### How stamps are made -/
structure TickM where
  conf : ConfM
  who : Int
  steps : Int
  a : Int
  b : Int
  stamp : StampM
  phase : Int
  deriving DecidableEq
def TickM.new (c : ConfM) (who : Int) : TickM := ⟨c, who, 0, 0, 0, ⟨0, 0⟩, 0⟩
def TickM.done (t : TickM) (s : StampM) : TickM := if s.right then { t with phase := 1, stamp := s } else { t with phase := 2 }
def cap (x : Int) : Int := min x Top
def TickM.read (t : TickM) (m : MemM) (th : Int) : Int := cap (m.peek (t.conf.number th))
def TickM.load (t : TickM) (m : MemM) (th : Int) : MemM := m.touch t.who 0 (t.conf.number th) 0 0
def TickM.stutter (t : TickM) (m : MemM) : TickM × MemM :=
  if t.steps < t.conf.th then ({ t with a := max t.a (t.read m t.steps) }, t.load m t.steps)
  else
    let t' := t.done (point (t.a + 1))
    (t', if t'.phase = 1 then m.touch t.who 1 (t.conf.number t.who) 0 (t.a + 1) else m)
def TickM.swap (t : TickM) (m : MemM) : TickM × MemM :=
  if t.steps = 0 then
    let a := t.read m 0
    ({ t with a := a, phase := if a ≥ Top then 2 else t.phase }, t.load m 0)
  else if t.steps = 1 then
    let b := t.read m 0
    (if b ≠ t.a then { t with b := b }.done ⟨t.a, b - 1⟩ else { t with b := b }, t.load m 0)
  else if t.steps = 2 then
    (if m.okOf 2 (t.conf.number 0) t.a then t.done (point t.a) else t, m.touch t.who 2 (t.conf.number 0) t.a (t.a + 1))
  else if t.steps = 3 then
    let b := t.read m 0
    ({ t with b := b }.done ⟨t.a, b - 1⟩, t.load m 0)
  else (t, m)
def TickM.step (t : TickM) (m : MemM) (now0 : Int) : TickM × MemM :=
  if t.phase ≠ 0 then (t, m) else
  let now := cap now0
  let r : TickM × MemM :=
    if t.conf.src = 0 then (t.done (point (cap (m.peek (t.conf.number 0)))), m.touch t.who 3 (t.conf.number 0) 0 1)
    else if t.conf.src = 1 then t.stutter m
    else if t.conf.src = 2 then t.swap m
    else if t.conf.src = 4 then
      let t1 := if t.steps = 0 then { t with a := now } else t
      if t.steps ≤ t.conf.dl then (t1, m) else (t1.done ⟨t1.a, now⟩, m)
    else (t.done (point now), m)
  ({ r.1 with steps := r.1.steps + 1 }, r.2)

/-! ### A place that may be used anew -/
structure ClaimM where
  conf : ConfM
  who : Int
  k : Int
  guard : Int
  word : WordM
  phase : Int
  deriving DecidableEq
def ClaimM.new (c : ConfM) (who : Int) : ClaimM := ⟨c, who, 0, -1, ⟨0, 0, 0, ⟨0, 0⟩⟩, 0⟩
def ClaimM.slot (c : ClaimM) : Int := c.conf.first c.who + c.k
def ClaimM.pass (c : ClaimM) : ClaimM := if c.k + 1 = c.conf.sl then { c with guard := -1, phase := 2 } else { c with guard := -1, k := c.k + 1 }
def ClaimM.look (c : ClaimM) (m : MemM) : ClaimM × MemM :=
  let w := unpack (m.peek c.slot)
  let c1 := { c with word := w }
  (if w.gen ≥ 8191 then c1.pass else if w.state = 0 then { c1 with phase := 1 } else if w.state = 2 then { c1 with guard := 0 } else c1.pass, m.touch c.who 0 c.slot 0 0)
def ClaimM.step (c : ClaimM) (m : MemM) : ClaimM × MemM :=
  if c.phase ≠ 0 then (c, m)
  else if c.guard < 0 then c.look m
  else
    (if m.peek (c.conf.hazard c.guard) = c.slot + 1 then c.pass
     else if c.guard + 1 = c.conf.th then { c with guard := c.guard + 1, phase := 1 } else { c with guard := c.guard + 1 },
     m.touch c.who 0 (c.conf.hazard c.guard) 0 0)

/-! ### All places at one time -/
structure SnapM where
  conf : ConfM
  who : Int
  start : Int
  k : Int
  pass : Int
  same : Bool
  words : List Int
  phase : Int
  deriving DecidableEq
def SnapM.new (c : ConfM) (who start : Int) : SnapM := ⟨c, who, start % 18446744073709551616 % c.all, 0, 0, false, List.replicate c.all.toNat 0, 0⟩
def SnapM.slot (s : SnapM) : Int := (s.start + s.k) % s.conf.all
def SnapM.step (s : SnapM) (m : MemM) : SnapM × MemM :=
  if s.phase ≠ 0 then (s, m) else
  let same0 := if s.k = 0 then decide (s.pass > 0) else s.same
  let x := m.peek s.slot
  let same := same0 && decide (x = getI s.words s.slot)
  let s1 := { s with same := same, words := setI s.words s.slot x, k := s.k + 1 }
  (if s.k + 1 < s.conf.all then s1 else { s1 with k := 0, pass := s.pass + 1, phase := if same then 1 else 0 }, m.touch s.who 0 s.slot 0 0)

/-! ### What is in a place is taken -/
structure TakeM where
  conf : ConfM
  who : Int
  slot : Int
  word : Int
  steps : Int
  lost : Bool
  value : Int
  phase : Int
  deriving DecidableEq
def TakeM.new (c : ConfM) (who slot word : Int) : TakeM := ⟨c, who, slot, word, 0, false, 0, 0⟩
def TakeM.fin (t : TakeM) (m : MemM) : TakeM × MemM := ({ t with phase := if t.lost then 2 else 1 }, m.touch t.who 1 (t.conf.hazard t.who) 0 0)
def TakeM.step (t : TakeM) (m : MemM) : TakeM × MemM :=
  if t.phase ≠ 0 then (t, m)
  else if t.lost then t.fin m
  else
    let r : TakeM × MemM :=
      if t.steps = 0 then (t, m.touch t.who 1 (t.conf.hazard t.who) 0 (t.slot + 1))
      else if t.steps = 1 then ({ t with lost := !decide (m.peek t.slot = t.word) }, m.touch t.who 0 t.slot 0 0)
      else if t.steps = 2 then ({ t with value := m.peek (t.conf.value t.slot) }, m.touch t.who 0 (t.conf.value t.slot) 0 0)
      else if t.steps = 3 then ({ t with lost := !m.okOf 2 t.slot t.word }, m.touch t.who 2 t.slot t.word (unpack t.word).taken.pack)
      else t.fin m
    ({ r.1 with steps := r.1.steps + 1 }, r.2)
def TakeM.get (t : TakeM) : Int := if t.phase = 1 then t.value else 0

/-! ### A value is put in -/
structure PutM where
  conf : ConfM
  who : Int
  fin : Int
  value : Int
  claim : ClaimM
  tick : TickM
  stored : Bool
  phase : Int
  deriving DecidableEq
def PutM.new (c : ConfM) (who fin value : Int) : PutM := ⟨c, who, fin, value, ClaimM.new c who, TickM.new c who, false, 0⟩
def PutM.step (p : PutM) (m : MemM) (now : Int) : PutM × MemM :=
  if p.phase ≠ 0 then (p, m)
  else if p.claim.phase = 0 then
    let r := p.claim.step m
    ({ p with claim := r.1, phase := if r.1.phase = 2 then 2 else p.phase }, r.2)
  else if p.tick.phase = 0 then
    let r := p.tick.step m now
    ({ p with tick := r.1, phase := if r.1.phase = 2 then 2 else p.phase }, r.2)
  else if p.stored = false then ({ p with stored := true }, m.touch p.who 1 (p.conf.value p.claim.slot) 0 p.value)
  else ({ p with phase := 1 }, m.touch p.who 1 p.claim.slot 0 (p.claim.word.next p.fin p.tick.stamp).pack)

/-! ### What stands at an end -/
/-- Is the thing in place a (word x) ahead of that in place b (word y), among things of the right end? -/
def laterB (x : WordM) (a : Int) (y : WordM) (b : Int) : Bool :=
  let c := x.stamp.cmp y.stamp
  decide (c > 0) || (decide (c = 0) && decide (a > b))
def aheadB (words : List Int) (a b : Int) : Bool :=
  let x := unpack (getI words a)
  let y := unpack (getI words b)
  if x.fin ≠ y.fin then decide (x.fin = 0)
  else if x.fin = 0 then laterB x a y b else laterB y b x a
def insB (words : List Int) (i : Int) : List Int → List Int
  | [] => [i]
  | a :: l => if aheadB words a i then a :: insB words i l else i :: a :: l
/-- The places in which something is, from left to right, out of the first n. -/
def rowM (words : List Int) : Nat → List Int
  | 0 => []
  | n + 1 => if (unpack (getI words n)).state = 1 then insB words n (rowM words n) else rowM words n
def orderM (words : List Int) : List Int := rowM words words.length
def atM (words : List Int) (e : Int) : Int :=
  match orderM words with
  | [] => -1
  | a :: l => if e = 0 then a else (a :: l).getLast (by simp)

/-! ### What stands at an end is taken -/
structure GetM where
  conf : ConfM
  who : Int
  fin : Int
  start : Int
  snap : SnapM
  take : Option TakeM
  tries : Int
  value : Int
  phase : Int
  deriving DecidableEq
def GetM.new (c : ConfM) (who fin start : Int) : GetM := ⟨c, who, fin, start, SnapM.new c who start, none, 0, 0, 0⟩
def GetM.chosen (g : GetM) : GetM :=
  let slot := atM g.snap.words g.fin
  if slot < 0 then { g with phase := 2 } else { g with take := some (TakeM.new g.conf g.who slot (getI g.snap.words slot)) }
def GetM.step (g : GetM) (m : MemM) : GetM × MemM :=
  if g.phase ≠ 0 then (g, m)
  else match g.take with
  | none =>
    let r := g.snap.step m
    let g1 := { g with snap := r.1 }
    (if r.1.phase = 1 then g1.chosen else g1, r.2)
  | some t =>
    let r := t.step m
    (if r.1.phase = 1 then { g with take := some r.1, value := r.1.get, phase := 1 }
     else if r.1.phase = 2 then { g with tries := g.tries + 1, take := none, snap := SnapM.new g.conf g.who g.start }
     else { g with take := some r.1 }, r.2)

/-! ### Calls, and threads that share cells -/
structure CallM where
  kind : Int
  fin : Int
  value : Int
  start : Int
  deriving DecidableEq
def CallM.right (c : CallM) : Bool := (decide (c.kind = 0) || decide (c.kind = 1)) && (decide (c.fin = 0) || decide (c.fin = 1))
structure ReplyM where
  ok : Bool
  value : Int
  stamp : StampM
  deriving DecidableEq
def ReplyM.zero : ReplyM := ⟨false, 0, ⟨0, 0⟩⟩
inductive WorkM where
  | put (p : PutM)
  | get (g : GetM)
  deriving DecidableEq
structure TaskM where
  call : CallM
  work : WorkM
  deriving DecidableEq
def TaskM.new (c : ConfM) (who : Int) (call : CallM) : TaskM :=
  ⟨call, if call.kind = 0 then .put (PutM.new c who call.fin call.value) else .get (GetM.new c who call.fin call.start)⟩
def WorkM.phase : WorkM → Int
  | .put p => p.phase
  | .get g => g.phase
def TaskM.step (t : TaskM) (m : MemM) (now : Int) : TaskM × MemM :=
  match t.work with
  | .put p => let r := p.step m now; (⟨t.call, .put r.1⟩, r.2)
  | .get g => let r := g.step m; (⟨t.call, .get r.1⟩, r.2)
def TaskM.over (t : TaskM) : Bool := !decide (t.work.phase = 0)
def TaskM.reply (t : TaskM) : ReplyM :=
  if t.work.phase ≠ 1 then .zero else
  match t.work with
  | .put p => ⟨true, 0, p.tick.stamp⟩
  | .get g => ⟨true, g.value, ⟨0, 0⟩⟩
structure DeedM where
  who : Int
  call : CallM
  start : Int
  stop : Int
  reply : ReplyM
  deriving DecidableEq
structure YardM where
  conf : ConfM
  mem : MemM
  tasks : List (Option TaskM)
  deeds : List DeedM
  mine : List Int
  moves : Int
  now : Int
abbrev MaxTime : Int := 1099511627776
def YardM.new (c : ConfM) : YardM := ⟨c, MemM.new c.cells.toNat, List.replicate c.th.toNat none, [], List.replicate c.th.toNat 0, 0, 0⟩
def YardM.there (y : YardM) (who : Int) : Bool := decide (0 ≤ who) && decide (who < y.conf.th)
def YardM.task (y : YardM) (who : Int) : Option TaskM := (y.tasks[who.toNat]?).join
def YardM.busy (y : YardM) (who : Int) : Bool := y.there who && (y.task who).isSome
def YardM.call (y : YardM) (who : Int) (c : CallM) : YardM × Int :=
  if !y.there who || !c.right then (y, 1)
  else if (y.task who).isSome then (y, 2)
  else ({ y with tasks := y.tasks.set who.toNat (some (TaskM.new y.conf who c)), mine := y.mine.set who.toNat y.deeds.length, deeds := y.deeds ++ [⟨who, c, y.moves, -1, .zero⟩], moves := y.moves + 1 }, 0)
def YardM.pass (y : YardM) (n : Int) : YardM := if n > 0 then { y with now := y.now + min n (MaxTime - y.now) } else y
def YardM.step (y : YardM) (who : Int) : YardM × Bool :=
  if !y.busy who then (y, false) else
  match y.task who with
  | none => (y, false)
  | some t =>
    let r := t.step y.mem y.now
    let y1 := { y with mem := r.2, tasks := y.tasks.set who.toNat (some r.1) }
    let y2 := if r.1.over then { y1 with deeds := y1.deeds.modify (getI y.mine who).toNat (fun d => { d with stop := y.moves, reply := r.1.reply }), tasks := y1.tasks.set who.toNat none } else y1
    ({ y2 with moves := y2.moves + 1 }.pass 1, true)
end Go.Proofs.YtegdhojhnmgjgaaGreat
/- A region that draws its order: an operation taken first, its slot named. Plain lemmas over any program; no condition. -/
namespace Go.SepYtegdhojhnmgjgaaGreat
open Go Go.RowKit
section
variable {P : Program} {ops : Array Oper} {Q : Exit → Act → World → Prop} {md : Region.Mode} {S : World → Prop}
theorem tk (i : Nat) (d : Option Tmp) {oi : Oper} {v : Value} {fuel : Nat} {listed : Array Bool} {a : Act} {w : World}
    (h : wpAnyH P md ops Q S fuel (listed.setIfInBounds i true) (a.put d v) w) (hi : ops[i]? = some oi := by rfl) (hd : oi.dst = d := by rfl)
    (hs : Region.noSelect ops = true := by kernel_rfl) (hf : Region.free md ops listed i = true := by kernel_rfl) (hr : (Region.ready md ops listed).contains i = true := by kernel_rfl)
    (hQ : ∀ c a w, Q (.panic c) (a.put d v) w → Q (.panic c) a w := by exact fun _ _ _ h => h) (hw : Region.wanted oi (yielded ops a.tmps) = true := by kernel_rfl)
    (hy : ∀ w, S w → (execOp a.eval oi).run P w = .ok (.value v) w := by (intro w hSw; (try dsimp only at hSw); go_simp; (try with_reducible rfl))) (hS : S w := by assumption) : wpAnyH P md ops Q S (fuel + 1) listed a w := by
  subst hd
  exact wpAnyH_take hi hs hf hr hQ (Or.inl ⟨hw, hy⟩) hS h
theorem sk (i : Nat) (d : Option Tmp) {oi : Oper} {fuel : Nat} {listed : Array Bool} {a : Act} {w : World}
    (h : wpAnyH P md ops Q S fuel (listed.setIfInBounds i true) (a.put d undef) w) (hi : ops[i]? = some oi := by rfl) (hd : oi.dst = d := by rfl)
    (hs : Region.noSelect ops = true := by kernel_rfl) (hf : Region.free md ops listed i = true := by kernel_rfl) (hr : (Region.ready md ops listed).contains i = true := by kernel_rfl)
    (hQ : ∀ c a w, Q (.panic c) (a.put d undef) w → Q (.panic c) a w := by exact fun _ _ _ h => h) (hw : Region.wanted oi (yielded ops a.tmps) = false := by kernel_rfl) (hS : S w := by assumption) : wpAnyH P md ops Q S (fuel + 1) listed a w := by
  subst hd
  exact wpAnyH_take hi hs hf hr hQ (Or.inr ⟨hw, rfl⟩) hS h
theorem p0 {α : Type} {l : List α} {i : Nat} {x : α} : l.toArray.setIfInBounds i x = (l.set i x).toArray := List.setIfInBounds_toArray _ _ _
theorem p1 {α : Type} {x b : α} {l : List α} : (x :: l).set 0 b = b :: l := List.set_cons_zero
theorem p2 {α : Type} {x b : α} {l : List α} {n : Nat} : (x :: l).set (n + 1) b = x :: l.set n b := List.set_cons_succ
/-- Behind an operation that was carried out S is shown anew, once. -/
theorem shown {T : World → Prop} {K : Act → World → Prop} {W : Act → World → Prop} (hk : Shut (∀ a w, T w → (T w → W a w) → K a w)) (a : Act) (w : World) (hS : T w) (h : T w → W a w) : K a w := hk.out a w hS h
/-! What an operation of a region does to the parts of one's own memory. -/
theorem rg_alloc {E w : World} {L : List SA} {a : Act} {o : Oper} {Kc : Act → World → Prop} {el : TypeId}
    (hw : Region.wanted o (yielded ops a.tmps) = true) {d : Option Tmp} (hd : o.dst = d) (ho : o.op = .alloc el) (h : sat E w L) {vs : List Value}
    (hr : ∀ w : World, (Instr.alloc el true (.tuple #[])).run P w = .ok (.pointer (some ⟨w.heap.size, 0, none⟩)) (w.alloc (.cells vs.toArray el)))
    (k : ∀ g w', sat E w' (pt g (.cells vs.toArray el (0, 0)) :: L) → Kc (a.put d (.pointer (some ⟨g, 0, none⟩))) w') :
    if Region.wanted o (yielded ops a.tmps) = true then Oper.wp P o a w Kc Q else Kc (a.put o.dst undef) w := by
  subst hd
  rw [if_pos hw]
  unfold Oper.wp execOp
  simp only [ho, Sem.run_bind, hr, Result.andThen_ok, Sem.run_pure]
  exact k w.heap.size (w.alloc (.cells vs.toArray el)) (h.alloc _)
theorem rg_box {E w : World} {L : List SA} {a : Act} {o : Oper} {Kc : Act → World → Prop} {el : TypeId} {x : Operand}
    (hw : Region.wanted o (yielded ops a.tmps) = true) {d : Option Tmp} (hd : o.dst = d) (ho : o.op = .box el x) (h : sat E w L) {v : Value} {vs : List Value} (hx : look a x = some v) (_hv : valCells v = some vs)
    (hr : ∀ w : World, (Instr.box el v).run P w = .ok (.pointer (some ⟨w.heap.size, 0, none⟩)) (w.alloc (.cells vs.toArray el)))
    (k : ∀ g w', sat E w' (pt g (.cells vs.toArray el (0, 0)) :: L) → Kc (a.put d (.pointer (some ⟨g, 0, none⟩))) w') :
    if Region.wanted o (yielded ops a.tmps) = true then Oper.wp P o a w Kc Q else Kc (a.put o.dst undef) w := by
  subst hd
  rw [if_pos hw]
  unfold Oper.wp execOp
  simp only [ho, look_eval hx, Sem.run_bind, hr, Result.andThen_ok, Sem.run_pure]
  exact k w.heap.size (w.alloc (.cells vs.toArray el)) (h.alloc _)
theorem rg_store (i : Nat) {E w : World} {L : List SA} {a : Act} {o : Oper} {Kc : Act → World → Prop} {ty : TypeId} {p x : Operand}
    (hw : Region.wanted o (yielded ops a.tmps) = true) {d : Option Tmp} (hd : o.dst = d) (ho : o.op = .store ty p x) (h : sat E w L) {b t off : Nat} {l : List Value} {vs : List Value} {v : Value}
    (hp : look a p = some (.pointer (some ⟨b, off, none⟩))) (hx : look a x = some v) (e : L[i]? = some (pt b (.cells l.toArray t (0, 0)))) (hv : valCells v = some vs)
    (hs : (P.info? ty).map (·.size) = some vs.length) (hfit : off + vs.length ≤ l.length) (h1 : ∀ u ∈ vs, u.oneCell' = true)
    (k : ∀ w', sat E w' (L.set i (pt b (.cells (putL l off vs).toArray t (0, 0)))) → Kc (a.put d undef) w') :
    if Region.wanted o (yielded ops a.tmps) = true then Oper.wp P o a w Kc Q else Kc (a.put o.dst undef) w := by
  replace hp := look_eval hp
  replace hx := look_eval hx
  replace hv := valCells_cells hv
  obtain ⟨w', hr, hsat, _⟩ := run_store_at (P := P) (ty := ty) i h e hv hs hfit h1
  subst hd
  rw [if_pos hw]
  unfold Oper.wp execOp
  simp only [ho, hp, hx, Instr.storeAt, Instr.sureAddr, Sem.run_bind, Sem.run_pure, Result.andThen_ok, hr]
  exact k w' hsat
end
end Go.SepYtegdhojhnmgjgaaGreat
/- 'append' of no element, and of one row of one's own to another. Plain lemmas; no condition. -/
namespace Go.SepYtegdhojhnmgjgaaGreat
open Go.RowKit
section
variable {E w : World} {L : List SA} {P : Program}
theorem run_append_zero {t ty e : Nat} {i : TypeInfo} (ht : P.underlying t = some (.slice e)) (hi : P.info? e = some i) {p px : Option Addr} {n cap cx : Nat} (hn : n ≤ cap) :
    (Builtin.append_ #[t, t] ty #[.slice p n cap, .slice px 0 cx]).run P w = .ok (.slice p n cap) w := by
  cases p <;> cases px <;> simp [Builtin.append_, underlying, ht, sizeOf, typeInfo, hi, Builtin.lenOf, hn, Builtin.firstCells, loadCells, loadCellsFrom, storeCells]
theorem set_self {α : Type _} : ∀ (i : Nat) (L : List α) {A : α}, L[i]? = some A → L.set i A = L
  | 0, [], _, h => rfl
  | 0, a :: l, _, h => by simp at h; simp [h]
  | i + 1, [], _, h => rfl
  | i + 1, a :: l, _, h => by simp at h; simp [set_self i l h]
/-- An append of a row of one's own (empty or not) to another row of one's own. -/
theorem st_append_row (i j : Nat) {ops : Array Oper} {rest : List Oper} {a : Act} {Q : Exit → Act → World → Prop} {dst : Option Tmp} {s x : Operand} {t : TypeId} {oty : TypeId} {pos : String} {af : Array Edge}
    (e size bytes : Nat) (ht : P.underlying t = some (.slice e)) (hi : ∃ q z, P.info? e = some q ∧ q.zero = some z ∧ q.size = size ∧ q.bytes = bytes ∧ z.cells.size = size)
    (h : sat E w L) {v : Value} {n : Nat} {xs : List Value} (hs : look a s = some v) (hL : L[i]? = some (rowA v e size n xs))
    {u : Value} {m : Nat} {ys : List Value} (hx : look a x = some u) (hM : L[j]? = some (rowA u e size m ys)) (h1 : ∀ u ∈ ys, u.oneCell' = true)
    (h63 : n + m ≤ maxLen) (hbytes : (n + m) * bytes ≤ 140737488355328)
    (k : ∀ p1 n1 c1 w', sat E w' (L.set i (rowA (.slice p1 n1 c1) e size (n + m) (xs ++ ys))) → wpList P ops Q rest (a.put dst (.slice p1 n1 c1)) w') :
    wpList P ops Q (⟨dst, .call { callee := .builtin .append, args := #[s, x], argTypes := #[t, t] }, oty, pos, af, none⟩ :: rest) a w := by
  obtain ⟨hl, hu⟩ := (h.pick j hM).row_open
  obtain ⟨hxs, hv⟩ := (h.pick i hL).row_open
  rcases Nat.eq_zero_or_pos m with rfl | hm
  · obtain rfl : ys = [] := List.eq_nil_of_length_eq_zero (by simpa using hl)
    have hv' : ∃ p cap, v = .slice p n cap ∧ n ≤ cap := by
      rcases hv with ⟨rfl, rfl, _⟩ | ⟨g, cap, _, rfl, h1, _⟩
      · exact ⟨_, _, rfl, Nat.le_refl _⟩
      · exact ⟨_, _, rfl, h1⟩
    have hu' : ∃ p c, u = .slice p 0 c := by
      rcases hu with ⟨rfl, _⟩ | ⟨g, cap, _, rfl, _⟩
      · exact ⟨_, _, rfl⟩
      · exact ⟨_, _, rfl⟩
    obtain ⟨p, cap, rfl, hnc⟩ := hv'
    obtain ⟨px, c, rfl⟩ := hu'
    obtain ⟨q, z, g1, _⟩ := hi
    have hr := run_append_zero (P := P) (ty := oty) (w := w) ht g1 (p := p) (px := px) (cx := c) hnc
    have kk := k p n cap w (by rw [List.append_nil, Nat.add_zero, set_self i L hL]; exact h)
    refine wpList_plain rfl fun K hK => ?_
    unfold Oper.wp execOp
    simp only [resolve, invoke, builtin, Sem.run_bind, Sem.run_pure, Result.andThen_ok, List.map_toArray, List.map_cons, List.map_nil, look_eval hs, look_eval hx, hr]
    exact hK _ _ kk
  · rcases hu with ⟨_, h0, _⟩ | ⟨g, c, cur, rfl, _⟩
    · omega
    · exact st_append i e size bytes ht hi h hs hL hx hl (fun j' u hj => by rw [Nat.zero_add]; exact h.row_rd j hM j' u hj) h1 hm h63 hbytes k
end
end Go.SepYtegdhojhnmgjgaaGreat
/- 'append' of a part of a slice, empty or not, to a row of one's own. Plain lemmas; no condition. -/
namespace Go.SepYtegdhojhnmgjgaaGreat
open Go.RowKit
section
variable {E w : World} {L : List SA} {P : Program}
theorem st_append_part (i : Nat) {ops : Array Oper} {rest : List Oper} {a : Act} {Q : Exit → Act → World → Prop} {dst : Option Tmp} {s x : Operand} {t : TypeId} {oty : TypeId} {pos : String} {af : Array Edge}
    (e size bytes : Nat) (ht : P.underlying t = some (.slice e)) (hi : ∃ q z, P.info? e = some q ∧ q.zero = some z ∧ q.size = size ∧ q.bytes = bytes ∧ z.cells.size = size)
    (h : sat E w L) {v : Value} {n : Nat} {xs : List Value} (hs : look a s = some v) (hL : L[i]? = some (rowA v e size n xs))
    {px : Option Addr} {m c : Nat} {news : List Value} (hx : look a x = some (.slice px m c)) (hl : news.length = m * size)
    (hnews : 0 < m → ∃ b o, px = some ⟨b, o, none⟩ ∧ ∀ j u, news[j]? = some u → w.cell? ⟨b, o + j, none⟩ = some u) (h1 : ∀ u ∈ news, u.oneCell' = true)
    (h63 : n + m ≤ maxLen) (hbytes : (n + m) * bytes ≤ 140737488355328)
    (k : ∀ p1 n1 c1 w', sat E w' (L.set i (rowA (.slice p1 n1 c1) e size (n + m) (xs ++ news))) → wpList P ops Q rest (a.put dst (.slice p1 n1 c1)) w') :
    wpList P ops Q (⟨dst, .call { callee := .builtin .append, args := #[s, x], argTypes := #[t, t] }, oty, pos, af, none⟩ :: rest) a w := by
  obtain ⟨hxs, hv⟩ := (h.pick i hL).row_open
  rcases Nat.eq_zero_or_pos m with rfl | hm
  · obtain rfl : news = [] := List.eq_nil_of_length_eq_zero (by simpa using hl)
    have hv' : ∃ p cap, v = .slice p n cap ∧ n ≤ cap := by
      rcases hv with ⟨rfl, rfl, _⟩ | ⟨g, cap, _, rfl, h1, _⟩
      · exact ⟨_, _, rfl, Nat.le_refl _⟩
      · exact ⟨_, _, rfl, h1⟩
    obtain ⟨p, cap, rfl, hnc⟩ := hv'
    obtain ⟨q, z, g1, _⟩ := hi
    have hr := run_append_zero (P := P) (ty := oty) (w := w) ht g1 (p := p) (px := px) (cx := c) hnc
    have kk := k p n cap w (by rw [List.append_nil, Nat.add_zero, set_self i L hL]; exact h)
    refine wpList_plain rfl fun K hK => ?_
    unfold Oper.wp execOp
    simp only [resolve, invoke, builtin, Sem.run_bind, Sem.run_pure, Result.andThen_ok, List.map_toArray, List.map_cons, List.map_nil, look_eval hs, look_eval hx, hr]
    exact hK _ _ kk
  · obtain ⟨b, o, rfl, hb⟩ := hnews hm
    exact st_append i e size bytes ht hi h hs hL hx hl hb h1 hm h63 hbytes k
/-- An empty row, just made. -/
theorem sat.row_empty {e size : Nat} (h : sat E w L) : sat E (w.alloc (.cells #[] e)) (rowA (.slice (some ⟨w.heap.size, 0, none⟩) 0 0) e size 0 [] :: L) :=
  sat.row_shut (by simp) (Nat.le_refl _) (by simp [maxLen]) (by simp) (by simp) (h.alloc _)
end
end Go.SepYtegdhojhnmgjgaaGreat
/- What a call leaves of its own, beside what its caller holds. Plain lemmas; no condition. -/
namespace Go.SepYtegdhojhnmgjgaaGreat
open Go.RowKit
/-- A call's own parts, joined to the caller's. -/
theorem sat.join {E w w' : World} {L M : List SA} (h : sat E w L) (k : sat w w' M) : sat E w' (M ++ L) := by
  have hs := h.size
  obtain ⟨bl, g, x, y⟩ := h
  obtain ⟨bl', g', x', y'⟩ := k
  have none_at : ∀ c, w.heap.size ≤ c → g c = none := fun c hc => by
    cases e : g c with
    | none => rfl
    | some q =>
      have := (y c q e).1
      simp [Array.getElem?_eq_none hc] at this
  refine ⟨bl.trans (bl'.mono bl.size), Hp.both g' g, bag_append.2 ⟨g', g, fun c => ?_, rfl, x', x⟩, fun c q e => ?_⟩
  · cases e : g' c with
    | none => exact .inl rfl
    | some q => exact .inr (none_at c (y' c q e).2)
  · cases e' : g' c with
    | some q' =>
      have : Hp.both g' g c = some q' := both_left e'
      rw [this] at e
      obtain rfl := Option.some.inj e
      exact ⟨(y' c q' e').1, Nat.le_trans hs (y' c q' e').2⟩
    | none =>
      have e2 : g c = some q := by simpa [Hp.both, e'] using e
      have := y c q e2
      refine ⟨?_, this.2⟩
      rw [bl'.block c]
      · exact this.1
      · rcases Nat.lt_or_ge c w.heap.size with h | h
        · exact h
        · simp [Array.getElem?_eq_none h] at this
end Go.SepYtegdhojhnmgjgaaGreat
/- What the value of a row of one's own looks like. Plain lemmas; no condition. -/
namespace Go.SepYtegdhojhnmgjgaaGreat
open Go.RowKit
section
variable {E w : World} {L : List SA}
theorem row_len {p : Option Addr} {m c e size n : Nat} {xs : List Value} (h : sat E w (rowA (.slice p m c) e size n xs :: L)) : m = n ∧ ((p = none ∧ n = 0) ∨ ∃ g, p = some ⟨g, 0, none⟩) := by
  obtain ⟨_, ⟨h0, h1, _⟩ | ⟨g, cap, cur, h0, _⟩⟩ := h.row_open
  · simp at h0; exact ⟨by omega, .inl ⟨h0.1, h1⟩⟩
  · simp at h0; exact ⟨h0.2.1, .inr ⟨g, h0.1⟩⟩
theorem row_any {v : Value} {e size n : Nat} {xs : List Value} (h : sat E w (rowA v e size n xs :: L)) : ∃ p c, v = .slice p n c := by
  obtain ⟨p, m, c, rfl⟩ := h.row_slice
  obtain ⟨rfl, _⟩ := row_len h
  exact ⟨p, c, rfl⟩
theorem row_pos {v : Value} {e size n : Nat} {xs : List Value} (h : sat E w (rowA v e size n xs :: L)) (hn : 0 < n) : ∃ g c, v = .slice (some ⟨g, 0, none⟩) n c := by
  obtain ⟨p, m, c, rfl⟩ := h.row_slice
  obtain ⟨rfl, ⟨_, h0⟩ | ⟨g, rfl⟩⟩ := row_len h
  · omega
  · exact ⟨g, c, rfl⟩
theorem row_some {p : Option Addr} {n c e size m : Nat} {xs : List Value} (h : sat E w (rowA (.slice p n c) e size m xs :: L)) (hm : 0 < m) : ∃ g, p = some ⟨g, 0, none⟩ ∧ n = m := by
  obtain ⟨rfl, ⟨_, h0⟩ | ⟨g, rfl⟩⟩ := row_len h
  · omega
  · exact ⟨g, rfl, rfl⟩
theorem row_cap {p : Option Addr} {m c e size n : Nat} {xs : List Value} (h : sat E w (rowA (.slice p m c) e size n xs :: L)) : n ≤ c ∧ c ≤ maxLen := by
  obtain ⟨_, ⟨h0, h1, _⟩ | ⟨g, cap, cur, h0, h1, h2, _⟩⟩ := h.row_open
  · simp at h0; obtain ⟨_, _, rfl⟩ := h0; exact ⟨by omega, Nat.zero_le _⟩
  · simp at h0; obtain ⟨_, _, rfl⟩ := h0; exact ⟨h1, h2⟩
end
end Go.SepYtegdhojhnmgjgaaGreat
