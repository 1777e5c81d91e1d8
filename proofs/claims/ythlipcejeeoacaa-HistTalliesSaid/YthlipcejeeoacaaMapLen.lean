/- How many entries a map has; a loop over a map that strikes entries out. Plain lemmas over any program; no condition. -/
import Derived.Test.YthlipcejeeoacaaMapWalk
import Derived.Maps.RangeWalk
namespace Go.SepYthlipcejeeoacaa
open Go.RowKit Go.Maps Go.WideElems Go.ChangeMaps Go.MapKept Go.WideShapes
set_option linter.unusedVariables false
section
variable {E w : World} {L : List SA} {P : Program}
theorem sameKey_self {k : Lit} (hk : WideAt.IsKeyLit k) : k.sameKey k = true := by
  cases k <;> simp_all [Lit.sameKey, WideAt.IsKeyLit]
/-- A map of which the keys are those of a list that names none twice has as many entries. -/
theorem size_keys {k e : TypeId} {b n : Nat} {D : DataW Unit} (h : w.ownsMap P k (plainElem (H := Unit) P e) b n D) (K : Keyed P k) (ks : List Lit) (hks : ks.Nodup) (h1 : ∀ kl ∈ ks, KeysOf P k kl) (h2 : ∀ kl, KeysOf P k kl → (kl ∈ ks ↔ Maps.has D kl = true)) :
    Maps.size D = ks.length := by
  have hko : ∃ es, D = .map es ∧ es.Pairwise (fun p q => p.1 ≠ q.1) ∧ ∀ p ∈ es, KeysOf P k p.1 := by
    obtain ⟨es, clock, _, F, _, rfl⟩ := h
    refine ⟨_, rfl, ((sorted_perm _).pairwise_iff (fun {_ _} hne => Ne.symm hne)).2 (Maps.fit_apart K F), fun p hp => ?_⟩
    obtain ⟨x, hx, rfl⟩ := List.mem_map.1 (mem_sorted.1 hp)
    obtain ⟨y, hy⟩ := F.reads x hx
    rw [rg_of hy]
    exact ⟨_, rd_key hy⟩
  obtain ⟨es, rfl, hp, hk⟩ := hko
  have hn : (es.map (·.1)).Nodup := List.pairwise_map.2 hp
  have hperm : (es.map (·.1)).Perm ks := (List.perm_ext_iff_of_nodup hn hks).2 fun kl => by
    constructor
    · intro hm
      obtain ⟨p, hp1, rfl⟩ := List.mem_map.1 hm
      refine (h2 _ (hk p hp1)).2 ?_
      rw [Maps.has_eq, List.any_eq_true]
      obtain ⟨v, hv⟩ := hk p hp1
      exact ⟨p, hp1, sameKey_self (K.key hv)⟩
    · intro hm
      have := (h2 _ (h1 _ hm)).1 hm
      rw [Maps.has_eq, List.any_eq_true] at this
      obtain ⟨p, hp1, hs⟩ := this
      by_cases he : p.1 = kl
      · exact List.mem_map.2 ⟨p, hp1, he⟩
      · rw [Maps.sameKey_ne he] at hs; cases hs
  show es.length = ks.length
  rw [← hperm.length_eq, List.length_map]
/-- 'len(m)'. -/
theorem sat.mapI_len {t k e : TypeId} {q : IntKind} {b n : Nat} {f : Lit → Option Int} (h : sat E w (mapI P k e q b n f :: L)) (K : Keyed P k) (ht : P.underlying t = some (.map k e)) (ks : List Lit) (hks : ks.Nodup) (h1 : ∀ kl ∈ ks, KeysOf P k kl)
    (h2 : ∀ kl, KeysOf P k kl → (kl ∈ ks ↔ f kl ≠ none)) (ty : TypeId) : (Builtin.len_ #[t] ty #[.map (some b)]).run P w = .ok (.int .i64 (ks.length : Int)) w := by
  obtain ⟨o, D, hp, ho, hm, hf⟩ := h.mapI_owns
  have := ho.len ht ty
  rw [size_keys ho K ks hks h1 (fun kl hkl => ?_)] at this
  · exact this
  · rw [h2 kl hkl]
    obtain ⟨h3, h4⟩ := hf kl hkl
    cases hfk : f kl with
    | none => simp [h3 hfk]
    | some c => simp [(h4 c hfk).1]
open Classical in
/-- The map while entries that hold nought are struck out: 'left' is what is still to come. -/
noncomputable def flt (f : Lit → Option Int) (left : Lit → Bool) (kl : Lit) : Option Int := match f kl with
  | some c => if c ≠ 0 ∨ left kl = true then some c else none
  | none => none
noncomputable def nz (f : Lit → Option Int) (kl : Lit) : Option Int := match f kl with
  | some c => if c ≠ 0 then some c else none
  | none => none
theorem flt_end {f : Lit → Option Int} {left : Lit → Bool} (h : ∀ kl, left kl = false) : flt f left = nz f := by
  funext kl
  unfold flt nz
  cases f kl with
  | none => rfl
  | some c => simp [h kl]
theorem has_flt_start {k : TypeId} {q : IntKind} {D : DataW Unit} {f : Lit → Option Int} (h : Has P k q D f) : Has P k q D (flt f (Maps.has D)) := by
  refine ⟨h.1, fun kl hkl => ?_⟩
  obtain ⟨h1, h2⟩ := h.2 kl hkl
  have hs : flt f (Maps.has D) kl = f kl := by
    unfold flt
    cases hf : f kl with
    | none => rfl
    | some c => simp [(h2 c hf).1]
  rw [hs]
  exact ⟨h1, h2⟩
/-- The element that has come. -/
theorem flt_came {k : TypeId} {q : IntKind} {D : DataW Unit} {f : Lit → Option Int} {left : Lit → Bool} (h : Has P k q D (flt f left)) {kl : Lit} (hkl : KeysOf P k kl) {c : Int} (hat : ∀ zd, D.atKey kl zd = .lit (.int q c)) : f kl = some c := by
  obtain ⟨h1, h2⟩ := h.2 kl hkl
  have hh := Maps.has_true_of_atKey hat
  cases hf : flt f left kl with
  | none => rw [h1 hf] at hh; cases hh
  | some c' =>
    have := (h2 c' hf).2 (.lit (.int q 0))
    rw [hat] at this
    simp only [DataW.lit.injEq, Lit.int.injEq, true_and] at this
    subst this
    unfold flt at hf
    cases hfk : f kl with
    | none => rw [hfk] at hf; cases hf
    | some c0 =>
      rw [hfk] at hf
      dsimp only at hf
      split at hf
      · exact hf
      · cases hf
theorem flt_struck {k : TypeId} {q : IntKind} {D : DataW Unit} {f : Lit → Option Int} {left : Lit → Bool} (h : Has P k q D (flt f left)) {kl : Lit} (hkey : WideAt.IsKeyLit kl) (h0 : f kl = some 0) : Has P k q (D.del kl) (flt f (fun z => left z && !z.sameKey kl)) := by
  refine ⟨h.1.del _, fun x hx => ?_⟩
  by_cases e : x = kl
  · subst e
    have hn : flt f (fun z => left z && !z.sameKey x) x = none := by unfold flt; rw [h0]; simp [sameKey_self hkey]
    rw [hn]
    exact ⟨fun _ => has_del_same, fun c hc => by cases hc⟩
  · have hs : flt f (fun z => left z && !z.sameKey kl) x = flt f left x := by unfold flt; simp [Maps.sameKey_ne e]
    rw [hs]
    obtain ⟨h1, h2⟩ := h.2 x hx
    exact ⟨fun hn => by rw [has_del_other e]; exact h1 hn, fun c hc => ⟨by rw [has_del_other e]; exact (h2 c hc).1, fun z => by rw [atKey_del_other e]; exact (h2 c hc).2 z⟩⟩
theorem flt_stays {k : TypeId} {q : IntKind} {D : DataW Unit} {f : Lit → Option Int} {left : Lit → Bool} (h : Has P k q D (flt f left)) {kl : Lit} {c : Int} (h0 : f kl = some c) (hc : c ≠ 0) : Has P k q D (flt f (fun z => left z && !z.sameKey kl)) := by
  have : flt f (fun z => left z && !z.sameKey kl) = flt f left := by
    funext x
    by_cases e : x = kl
    · subst e; unfold flt; rw [h0]; simp [hc]
    · unfold flt; simp [Maps.sameKey_ne e]
  rw [this]
  exact h
end
end Go.SepYthlipcejeeoacaa
