/- Calls that are under way, by threads: a row of pointers and what they point at. Plain lemmas; no condition. -/
import Derived.Test.YtlnfbfnccefcnaaGreatTask
namespace Go.Proofs.YtlnfbfnccefcnaaGreat
open Go.RowKit Go.SepYtlnfbfnccefcnaaGreat
set_option linter.unusedSimpArgs false
set_option linter.unusedVariables false
def emp : SA := fun h => ∀ b, h b = none
def taskO (v : Value) : Option TaskM → SA
  | none => fun h => v = .pointer none ∧ ∀ b, h b = none
  | some t => fun h => ∃ b : Nat, v = .pointer (some ⟨b, 0, none⟩) ∧ taskA b t h
def tasksA : List Value → List (Option TaskM) → SA
  | [], [] => emp
  | v :: vs, t :: ts => star (taskO v t) (tasksA vs ts)
  | _, _ => fun _ => False
theorem star_emp {A B : SA} {h : Hp} (x : A h) (e : ∀ g, (∀ b, g b = none) → B g) : star B A h :=
  ⟨fun _ => none, h, fun _ => .inl rfl, (both_none_left (fun _ => rfl)).symm, e _ (fun _ => rfl), x⟩
theorem star_left {A B C : SA} {h : Hp} (x : star A (star B C) h) : star (star A B) C h := star_assoc.2 x
theorem tasks_out : ∀ (vs : List Value) (ts : List (Option TaskM)) (i : Nat) (hi : i < ts.length) {h : Hp}, tasksA vs ts h → ∃ v, vs[i]? = some v ∧ star (taskO v ts[i]) (tasksA (vs.set i (.pointer none)) (ts.set i none)) h
  | [], [], i, hi, _, _ => by simp at hi
  | [], _ :: _, _, _, _, x => x.elim
  | _ :: _, [], i, hi, _, _ => by simp at hi
  | v :: vs, t :: ts, 0, _, h, x => by
    refine ⟨v, rfl, ?_⟩
    exact star_mono (fun _ => id) (fun g y => star_emp y (fun g hg => ⟨rfl, hg⟩)) x
  | v :: vs, t :: ts, i + 1, hi, h, x => by
    obtain ⟨h1, h2, a, e, y, z⟩ := x
    obtain ⟨u, hu, w⟩ := tasks_out vs ts i (by simpa using hi) z
    refine ⟨u, hu, ?_⟩
    have q : star (taskO v t) (star (taskO u (ts[i]'(by simpa using hi))) (tasksA (vs.set i (.pointer none)) (ts.set i none))) h := ⟨h1, h2, a, e, y, w⟩
    exact star_swap q
theorem tasks_in : ∀ (vs : List Value) (ts : List (Option TaskM)) (i : Nat) (hi : i < ts.length) (v : Value) (t : Option TaskM) {h : Hp}, star (taskO v t) (tasksA (vs.set i (.pointer none)) (ts.set i none)) h → tasksA (vs.set i v) (ts.set i t) h
  | [], [], i, hi, _, _, _, _ => by simp at hi
  | [], _ :: _, i, _, _, _, _, x => by
    obtain ⟨h1, h2, a, e, y, z⟩ := x
    cases i <;> exact z.elim
  | _ :: _, [], i, hi, _, _, _, _ => by simp at hi
  | v0 :: vs, t0 :: ts, 0, _, v, t, h, x => by
    obtain ⟨h1, h2, a, e, y, z⟩ := x
    obtain ⟨g1, g2, a', e', ⟨_, y'⟩, z'⟩ := z
    have e2 : h2 = g2 := by rw [e']; exact both_none_left y'
    subst e2
    exact ⟨h1, h2, a, e, y, z'⟩
  | v0 :: vs, t0 :: ts, i + 1, hi, v, t, h, x => by
    have q : star (taskO v0 t0) (star (taskO v t) (tasksA (vs.set i (.pointer none)) (ts.set i none))) h := star_swap x
    exact star_mono (fun _ => id) (fun g y => tasks_in vs ts i (by simpa using hi) v t y) q
theorem tasks_new : ∀ n : Nat, ∀ h : Hp, (∀ b, h b = none) → tasksA (List.replicate n (.pointer none)) (List.replicate n none) h
  | 0, _, x => x
  | n + 1, h, x => star_emp (tasks_new n h x) (fun g hg => ⟨rfl, hg⟩)
theorem tasks_len : ∀ (vs : List Value) (ts : List (Option TaskM)) {h : Hp}, tasksA vs ts h → vs.length = ts.length
  | [], [], _, _ => rfl
  | [], _ :: _, _, x => x.elim
  | _ :: _, [], _, x => x.elim
  | v :: vs, t :: ts, h, x => by
    obtain ⟨h1, h2, a, e, y, z⟩ := x
    simp [tasks_len vs ts z]
section
variable {E w : World} {L : List SA}
theorem sat_unstar {A B : SA} (h : sat E w (star A B :: L)) : sat E w (A :: B :: L) := by
  obtain ⟨b, g, x, y⟩ := h
  exact ⟨b, g, star_assoc.1 x, y⟩
theorem sat_star {A B : SA} (h : sat E w (A :: B :: L)) : sat E w (star A B :: L) := by
  obtain ⟨b, g, x, y⟩ := h
  exact ⟨b, g, star_assoc.2 x, y⟩
theorem sat_has {A : SA} {P : Prop} (h : sat E w (A :: L)) (f : ∀ g, A g → P) : P := by
  obtain ⟨_, _, ⟨h1, h2, _, _, z, _⟩, _⟩ := h
  exact f _ z
theorem tasks_pick {vs : List Value} {ts : List (Option TaskM)} (i : Nat) (hi : i < ts.length) (h : sat E w (tasksA vs ts :: L)) : ∃ v, vs[i]? = some v ∧ sat E w (taskO v ts[i] :: tasksA (vs.set i (.pointer none)) (ts.set i none) :: L) := by
  have hl := sat_has h (fun g => tasks_len vs ts)
  obtain ⟨v, hv⟩ : ∃ v, vs[i]? = some v := ⟨vs[i], List.getElem?_eq_getElem (by omega)⟩
  refine ⟨v, hv, sat_unstar (h.imp (fun g x => ?_))⟩
  obtain ⟨u, hu, y⟩ := tasks_out vs ts i hi x
  rw [hv] at hu
  rw [Option.some.inj hu]
  exact y
theorem tasks_put {vs : List Value} {ts : List (Option TaskM)} (i : Nat) (hi : i < ts.length) (v : Value) (t : Option TaskM) (h : sat E w (taskO v t :: tasksA (vs.set i (.pointer none)) (ts.set i none) :: L)) : sat E w (tasksA (vs.set i v) (ts.set i t) :: L) :=
  (sat_star h).imp (fun g x => tasks_in vs ts i hi v t x)
theorem tasks_mk (n : Nat) (h : sat E w L) : sat E w (tasksA (List.replicate n (.pointer none)) (List.replicate n none) :: L) := h.emp (fun g hg => tasks_new n g hg)
theorem taskO_none {v : Value} (h : sat E w (taskO v none :: L)) : v = .pointer none ∧ sat E w L := by
  have h' : sat E w ((fun g => v = .pointer none ∧ ∀ b, g b = none) :: L) := h
  obtain ⟨e, h'⟩ := h'.pure
  exact ⟨e, h'.drop⟩
theorem taskO_mk (h : sat E w L) : sat E w (taskO (.pointer none) none :: L) := h.emp (fun g hg => ⟨rfl, hg⟩)
theorem taskO_some {v : Value} {t : TaskM} (h : sat E w (taskO v (some t) :: L)) : ∃ b : Nat, v = .pointer (some ⟨b, 0, none⟩) ∧ sat E w (taskA b t :: L) := by
  have h' : sat E w ((fun g => ∃ b : Nat, v = .pointer (some ⟨b, 0, none⟩) ∧ taskA b t g) :: L) := h
  obtain ⟨b, h'⟩ := h'.ex
  obtain ⟨e, h'⟩ := h'.pure
  exact ⟨b, e, h'⟩
theorem taskO_put {b : Nat} {t : TaskM} (h : sat E w (taskA b t :: L)) : sat E w (taskO (.pointer (some ⟨b, 0, none⟩)) (some t) :: L) :=
  sat.mkex (P := fun b' g => (Value.pointer (some ⟨b, 0, none⟩)) = .pointer (some ⟨b', 0, none⟩) ∧ taskA b' t g) b (sat.mkpure rfl h)
end
end Go.Proofs.YtlnfbfnccefcnaaGreat
