/- A map with whole numbers as elements, made by the call: a part of one's own memory, spoken of by what each key has. Plain lemmas over any program; no condition. -/
import Derived.Test.YtlnfbfnccefcnaaGreatStep
import Derived.Maps.OwnSet
namespace Go.SepYtlnfbfnccefcnaaGreat
open Go.RowKit Go.Maps Go.WideElems
section
variable {E w : World} {L : List SA} {P : Program}
/-- What a datum has under each key of the map's type. -/
def Has (P : Program) (k : TypeId) (q : IntKind) (D : DataW Unit) (f : Lit → Option Int) : Prop :=
  IsMap D ∧ ∀ kl, KeysOf P k kl → (f kl = none → Maps.has D kl = false) ∧ ∀ c, f kl = some c → Maps.has D kl = true ∧ ∀ z, D.atKey kl z = .lit (.int q c)
/-- Block b is a map of at most n entries; what it has under each key is f. -/
def mapI (P : Program) (k e : TypeId) (q : IntKind) (b n : Nat) (f : Lit → Option Int) : SA := fun h =>
  ∃ es clock, h b = some (.map es clock) ∧ Fit P k (plainElem (H := Unit) P e) es clock ∧ es.size ≤ n ∧ Has P k q (.map ((es.toList.map (rg P k (plainElem (H := Unit) P e))).foldr DataW.insert [])) f
theorem sat.mapI_owns {k e : TypeId} {q : IntKind} {b n : Nat} {f : Lit → Option Int} (h : sat E w (mapI P k e q b n f :: L)) :
    ∃ o D, sat E w (pt b o :: L) ∧ w.ownsMap P k (plainElem (H := Unit) P e) b n D ∧ Has P k q D f := by
  obtain ⟨es, h1⟩ := sat.ex h
  obtain ⟨clock, h2⟩ := sat.ex h1
  have h3 : sat E w ((fun g => (Fit P k (plainElem (H := Unit) P e) es clock ∧ es.size ≤ n ∧ Has P k q (.map ((es.toList.map (rg P k (plainElem (H := Unit) P e))).foldr DataW.insert [])) f) ∧ pt b (.map es clock) g) :: L) :=
    sat.imp (fun g hg => ⟨hg.2, hg.1⟩) h2
  obtain ⟨⟨F, hs, hf⟩, h4⟩ := sat.pure h3
  exact ⟨_, _, h4, ⟨es, clock, h4.at, F, hs, rfl⟩, hf⟩
theorem sat.mapI_shut {k e : TypeId} {q : IntKind} {b n : Nat} {f : Lit → Option Int} {D : DataW Unit} {o : Obj} (h : sat E w (pt b o :: L)) (ho : w.ownsMap P k (plainElem (H := Unit) P e) b n D) (hf : Has P k q D f) : sat E w (mapI P k e q b n f :: L) := by
  obtain ⟨es, clock, hb, F, hs, rfl⟩ := ho
  have hat := h.at
  rw [hb] at hat
  obtain rfl := Option.some.inj hat
  exact sat.imp (fun g hg => ⟨es, clock, hg, F, hs, hf⟩) h
theorem sat.mapI_new {k e : TypeId} {q : IntKind} (h : sat E w L) : sat E (w.alloc (.map #[] 0)) (mapI P k e q w.heap.size 0 (fun _ => none) :: L) :=
  sat.mapI_shut (h.alloc _) (World.ownsMap_made w P k _) ⟨isMap_empty, fun kl _ => ⟨fun _ => rfl, fun c hc => by cases hc⟩⟩
open Classical in
/-- .. with one key's element turned. -/
noncomputable def updI (f : Lit → Option Int) (kl : Lit) (c : Int) : Lit → Option Int := fun x => if x = kl then some c else f x
theorem updI_same (f : Lit → Option Int) (kl : Lit) (c : Int) : updI f kl c kl = some c := by unfold updI; rw [if_pos rfl]
theorem updI_other (f : Lit → Option Int) (kl : Lit) (c : Int) {x : Lit} (h : x ≠ kl) : updI f kl c x = f x := by unfold updI; rw [if_neg h]
theorem zeroI {e : TypeId} {q : IntKind} (hz : ∀ w : World, (zeroValue e).run P w = .ok (.int q 0) w) (w : World) : (zeroValue e).run P w = .ok (.int q 0) w := hz w
/-- 'm[k]', and 'v, ok := m[k]'. -/
theorem sat.mapI_look {t k e : TypeId} {q : IntKind} {b n : Nat} {f : Lit → Option Int} (h : sat E w (mapI P k e q b n f :: L)) (K : Keyed P k) (ht : P.underlying t = some (.map k e)) (he : P.underlying e = some (.int q)) (hz : ∀ w : World, (zeroValue e).run P w = .ok (.int q 0) w)
    {key : Value} {kl : Lit} (hkey : keyOf P k key = some kl) :
    (Instr.lookup t (.map (some b)) key false).run P w = .ok (.int q ((f kl).getD 0)) w ∧ (Instr.lookup t (.map (some b)) key true).run P w = .ok (.tuple #[.int q ((f kl).getD 0), .bool (f kl).isSome]) w := by
  obtain ⟨o, D, hp, ho, hm, hf⟩ := h.mapI_owns
  have hw0 : (Lit.int q 0).wf = true := by cases q <;> decide
  obtain ⟨c, hrun, hat, hwc⟩ := ho.lookup_int K ht he (hz w) hkey
  obtain ⟨v, ps, hrun2, hv⟩ := ho.look_ok K ht (hz w) (plainElem_int he hw0) hkey
  obtain ⟨c2, rfl, hc2, _⟩ := plainElem_int_inv he hv
  simp only [Prod.mk.injEq] at hc2
  have hc := hc2.1
  rw [hat] at hc
  simp only [DataW.lit.injEq, Lit.int.injEq, true_and] at hc
  subst hc
  have hk := hf kl ⟨key, hkey⟩
  cases hfk : f kl with
  | none =>
    have h0 := hk.1 hfk
    have hz0 := atKey_of_not_has h0 (.lit (.int q 0))
    rw [hat] at hz0
    simp only [DataW.lit.injEq, Lit.int.injEq, true_and] at hz0
    subst hz0
    exact ⟨hrun, by rw [h0] at hrun2; exact hrun2⟩
  | some x =>
    obtain ⟨h1, h2⟩ := hk.2 x hfk
    have hx := h2 (.lit (.int q 0))
    rw [hat] at hx
    simp only [DataW.lit.injEq, Lit.int.injEq, true_and] at hx
    subst hx
    exact ⟨hrun, by rw [h1] at hrun2; exact hrun2⟩
/-- 'm[k] = v'. -/
theorem sat.mapI_put {t k e : TypeId} {q : IntKind} {b n : Nat} {f : Lit → Option Int} (h : sat E w (mapI P k e q b n f :: L)) (K : Keyed P k) (ht : P.underlying t = some (.map k e)) (he : P.underlying e = some (.int q)) (hn : n < maxLen)
    {key : Value} {kl : Lit} (hkey : keyOf P k key = some kl) {c : Int} (hc : (Lit.int q c).wf = true) :
    ∃ w', (Instr.mapUpdate t (.map (some b)) key (.int q c)).run P w = .ok () w' ∧ sat E w' (mapI P k e q b (n + 1) (updI f kl c) :: L) := by
  obtain ⟨o, D, hp, ho, hm, hf⟩ := h.mapI_owns
  obtain ⟨w', hrun, ho', hg⟩ := ho.update K ht hn hkey (plainElem_int he hc)
  obtain ⟨es, clock, hb, F, hs, hD⟩ := ho'
  refine ⟨w', hrun, sat.mapI_shut (hp.turn hg hb) ⟨es, clock, hb, F, hs, hD⟩ ⟨hm.put _ _, fun x hx => ?_⟩⟩
  have hk := K.key hkey
  by_cases e1 : x = kl
  · subst e1
    rw [updI_same]
    refine ⟨fun h0 => (by cases h0), fun c' hc' => ?_⟩
    obtain rfl := Option.some.inj hc'
    exact ⟨has_put_same hm hk _, fun z => atKey_put_same hm hk _ z⟩
  · rw [updI_other _ _ _ e1]
    obtain ⟨h1, h2⟩ := hf x hx
    refine ⟨fun h0 => by rw [has_put_other e1]; exact h1 h0, fun c' hc' => ?_⟩
    obtain ⟨h3, h4⟩ := h2 c' hc'
    exact ⟨by rw [has_put_other e1]; exact h3, fun z => by rw [atKey_put_other e1]; exact h4 z⟩
end
end Go.SepYtlnfbfnccefcnaaGreat
