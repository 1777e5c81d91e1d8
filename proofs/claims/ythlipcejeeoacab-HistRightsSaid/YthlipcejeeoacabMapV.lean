/- A map with structs of numbers and bools (or of nothing) as elements, made by the call. Plain lemmas over any program; no condition. -/
import Derived.Test.YthlipcejeeoacabMapWalk
namespace Go.SepYthlipcejeeoacab
open Go.RowKit Go.Maps Go.WideElems
set_option linter.unusedVariables false
def encC : Value → DataW Unit
  | .int k n => .lit (.int k n)
  | .bool b => .lit (.bool b)
  | _ => .nil
def okC : Value → Bool
  | .int _ _ => true
  | .bool _ => true
  | _ => false
def encV : Value → DataW Unit
  | .agg cs => .agg (cs.toList.map encC)
  | _ => .nil
def okV : Value → Bool
  | .agg cs => cs.toList.all okC
  | _ => false
def readV (v : Value) : Option (DataW Unit × List MemPlace) := if okV v then some (encV v, []) else none
theorem encC_inj {u v : Value} (hu : okC u = true) (hv : okC v = true) (h : encC u = encC v) : u = v := by
  cases u <;> simp [okC] at hu <;> cases v <;> simp [okC] at hv <;> simp_all [encC]
theorem encL_inj : ∀ (a b : List Value), a.all okC = true → b.all okC = true → a.map encC = b.map encC → a = b
  | [], [], _, _, _ => rfl
  | [], _ :: _, _, _, h => by simp at h
  | _ :: _, [], _, _, h => by simp at h
  | x :: a, y :: b, ha, hb, h => by
    simp only [List.all_cons, Bool.and_eq_true] at ha hb
    simp only [List.map_cons, List.cons.injEq] at h
    rw [encC_inj ha.1 hb.1 h.1, encL_inj a b ha.2 hb.2 h.2]
theorem encV_inj {u v : Value} (hu : okV u = true) (hv : okV v = true) (h : encV u = encV v) : u = v := by
  cases u <;> simp only [okV] at hu <;> first | (cases hu; done) | skip
  cases v <;> simp only [okV] at hv <;> first | (cases hv; done) | skip
  rename_i cs ds
  simp only [encV, DataW.agg.injEq] at h
  have := encL_inj _ _ hu hv h
  have e : cs = ds := by rw [← Array.toArray_toList (xs := cs), this]
  rw [e]
theorem readV_inv {v : Value} {z : DataW Unit × List MemPlace} (h : readV v = some z) : okV v = true ∧ z = (encV v, []) := by
  unfold readV at h
  split at h
  · exact ⟨by assumption, (Option.some.inj h).symm⟩
  · cases h
def HasV (P : Program) (k : TypeId) (D : DataW Unit) (f : Lit → Option Value) : Prop :=
  IsMap D ∧ ∀ kl, KeysOf P k kl → (f kl = none → Maps.has D kl = false) ∧ ∀ u, f kl = some u → okV u = true ∧ Maps.has D kl = true ∧ ∀ z, D.atKey kl z = encV u
/-- Block b is a map of at most n entries; what it has under each key is f. -/
def mapV (P : Program) (k : TypeId) (b n : Nat) (f : Lit → Option Value) : SA := fun h =>
  ∃ es clock, h b = some (.map es clock) ∧ Fit P k readV es clock ∧ es.size ≤ n ∧ HasV P k (.map ((es.toList.map (rg P k readV)).foldr DataW.insert [])) f
section
variable {E w : World} {L : List SA} {P : Program}
theorem sat.mapV_owns {k : TypeId} {b n : Nat} {f : Lit → Option Value} (h : sat E w (mapV P k b n f :: L)) :
    ∃ o D, sat E w (pt b o :: L) ∧ w.ownsMap P k readV b n D ∧ HasV P k D f := by
  obtain ⟨es, h1⟩ := sat.ex h
  obtain ⟨clock, h2⟩ := sat.ex h1
  have h3 : sat E w ((fun g => (Fit P k readV es clock ∧ es.size ≤ n ∧ HasV P k (.map ((es.toList.map (rg P k readV)).foldr DataW.insert [])) f) ∧ pt b (.map es clock) g) :: L) :=
    sat.imp (fun g hg => ⟨hg.2, hg.1⟩) h2
  obtain ⟨⟨F, hs, hf⟩, h4⟩ := sat.pure h3
  exact ⟨_, _, h4, ⟨es, clock, h4.at, F, hs, rfl⟩, hf⟩
theorem sat.mapV_shut {k : TypeId} {b n : Nat} {f : Lit → Option Value} {D : DataW Unit} {o : Obj} (h : sat E w (pt b o :: L)) (ho : w.ownsMap P k readV b n D) (hf : HasV P k D f) : sat E w (mapV P k b n f :: L) := by
  obtain ⟨es, clock, hb, F, hs, rfl⟩ := ho
  have hat := h.at
  rw [hb] at hat
  obtain rfl := Option.some.inj hat
  exact sat.imp (fun g hg => ⟨es, clock, hg, F, hs, hf⟩) h
theorem sat.mapV_new {k : TypeId} (h : sat E w L) : sat E (w.alloc (.map #[] 0)) (mapV P k w.heap.size 0 (fun _ => none) :: L) :=
  sat.mapV_shut (h.alloc _) (World.ownsMap_made w P k _) ⟨isMap_empty, fun kl _ => ⟨fun _ => rfl, fun c hc => by cases hc⟩⟩
theorem sat.mapV_mono {k : TypeId} {b n m : Nat} {f : Lit → Option Value} (h : sat E w (mapV P k b n f :: L)) (hn : n ≤ m) : sat E w (mapV P k b m f :: L) :=
  sat.imp (fun g ⟨es, clock, h1, h2, h3, h4⟩ => ⟨es, clock, h1, h2, Nat.le_trans h3 hn, h4⟩) h
open Classical in
noncomputable def updV (f : Lit → Option Value) (kl : Lit) (c : Value) : Lit → Option Value := fun x => if x = kl then some c else f x
theorem updV_same (f : Lit → Option Value) (kl : Lit) (c : Value) : updV f kl c kl = some c := by unfold updV; rw [if_pos rfl]
theorem updV_other (f : Lit → Option Value) (kl : Lit) (c : Value) {x : Lit} (h : x ≠ kl) : updV f kl c x = f x := by unfold updV; rw [if_neg h]
/-- 'v, ok := m[k]'. -/
theorem sat.mapV_look {t k e : TypeId} {b n : Nat} {f : Lit → Option Value} (h : sat E w (mapV P k b n f :: L)) (K : Keyed P k) (ht : P.underlying t = some (.map k e)) {z : Value} (hz : ∀ w : World, (zeroValue e).run P w = .ok z w) (hzo : okV z = true)
    {key : Value} {kl : Lit} (hkey : keyOf P k key = some kl) : (Instr.lookup t (.map (some b)) key true).run P w = .ok (.tuple #[(f kl).getD z, .bool (f kl).isSome]) w := by
  obtain ⟨o, D, hp, ho, hm, hf⟩ := h.mapV_owns
  obtain ⟨v, ps, hrun, hv⟩ := ho.look_ok K ht (hz w) (show readV z = some (encV z, []) by unfold readV; rw [if_pos hzo]) hkey
  obtain ⟨hvo, he⟩ := readV_inv hv
  have he := congrArg Prod.fst he
  dsimp only at he
  have hk := hf kl ⟨key, hkey⟩
  cases hfk : f kl with
  | none =>
    have h0 := hk.1 hfk
    rw [atKey_of_not_has h0] at he
    rw [h0, ← encV_inj hzo hvo he] at hrun
    exact hrun
  | some u =>
    obtain ⟨h1, h2, h3⟩ := hk.2 u hfk
    rw [h3] at he
    rw [h2, ← encV_inj h1 hvo he] at hrun
    exact hrun
/-- 'm[k] = v'. -/
theorem sat.mapV_put {t k e : TypeId} {b n : Nat} {f : Lit → Option Value} (h : sat E w (mapV P k b n f :: L)) (K : Keyed P k) (ht : P.underlying t = some (.map k e)) (hn : n < maxLen)
    {key : Value} {kl : Lit} (hkey : keyOf P k key = some kl) {c : Value} (hc : okV c = true) :
    ∃ w', (Instr.mapUpdate t (.map (some b)) key c).run P w = .ok () w' ∧ sat E w' (mapV P k b (n + 1) (updV f kl c) :: L) := by
  obtain ⟨o, D, hp, ho, hm, hf⟩ := h.mapV_owns
  obtain ⟨w', hrun, ho', hg⟩ := ho.update K ht hn hkey (show readV c = some (encV c, []) by unfold readV; rw [if_pos hc])
  obtain ⟨es, clock, hb, F, hs, hD⟩ := ho'
  refine ⟨w', hrun, sat.mapV_shut (hp.turn hg hb) ⟨es, clock, hb, F, hs, hD⟩ ⟨hm.put _ _, fun x hx => ?_⟩⟩
  have hk := K.key hkey
  by_cases e1 : x = kl
  · subst e1
    rw [updV_same]
    refine ⟨fun h0 => (by cases h0), fun c' hc' => ?_⟩
    obtain rfl := Option.some.inj hc'
    exact ⟨hc, has_put_same hm hk _, fun z => atKey_put_same hm hk _ z⟩
  · rw [updV_other _ _ _ e1]
    obtain ⟨h1, h2⟩ := hf x hx
    refine ⟨fun h0 => by rw [has_put_other e1]; exact h1 h0, fun c' hc' => ?_⟩
    obtain ⟨h3, h4, h5⟩ := h2 c' hc'
    exact ⟨h3, by rw [has_put_other e1]; exact h4, fun z => by rw [atKey_put_other e1]; exact h5 z⟩
theorem st_lookV (i : Nat) {ops : Array Oper} {rest : List Oper} {a : Act} {Q : Exit → Act → World → Prop} {dst : Option Tmp} {m x : Operand} {t : TypeId} {oty : TypeId} {pos : String} {af : Array Edge}
    {k e : TypeId} {b n : Nat} {f : Lit → Option Value} (h : sat E w L) (hL : L[i]? = some (mapV P k b n f)) (K : Keyed P k) (ht : P.underlying t = some (.map k e)) {z : Value} (hz : ∀ w : World, (zeroValue e).run P w = .ok z w) (hzo : okV z = true)
    (hm : look a m = some (.map (some b))) {key : Value} {kl : Lit} (hx : look a x = some key) (hkey : keyOf P k key = some kl)
    {v : Value} {c : Bool} (hv : (f kl).getD z = v) (hb : (f kl).isSome = c) (r : wpList P ops Q rest (a.put dst (.tuple #[v, .bool c])) w) : wpList P ops Q (⟨dst, .lookup t m x true, oty, pos, af, none⟩ :: rest) a w := by
  subst hv hb
  refine wpList_plain rfl fun K' hK' => ?_
  have hr := sat.mapV_look (h.pick i hL) K ht hz hzo hkey
  unfold Oper.wp execOp
  simp only [look_eval hm, look_eval hx, Sem.run_bind, Sem.run_pure, Result.andThen_ok, hr]
  exact hK' _ _ r
theorem st_putV (i : Nat) {ops : Array Oper} {rest : List Oper} {a : Act} {Q : Exit → Act → World → Prop} {dst : Option Tmp} {m x v : Operand} {t : TypeId} {oty : TypeId} {pos : String} {af : Array Edge}
    {k e : TypeId} {b n : Nat} {f : Lit → Option Value} (h : sat E w L) (hL : L[i]? = some (mapV P k b n f)) (K : Keyed P k) (ht : P.underlying t = some (.map k e)) (hn : n < maxLen)
    (hm : look a m = some (.map (some b))) {key : Value} {kl : Lit} (hx : look a x = some key) (hkey : keyOf P k key = some kl) {c : Value} (hv : look a v = some c) (hc : okV c = true)
    (r : ∀ w', sat E w' (L.set i (mapV P k b (n + 1) (updV f kl c))) → wpList P ops Q rest (a.put dst undef) w') : wpList P ops Q (⟨dst, .mapUpdate t m x v, oty, pos, af, none⟩ :: rest) a w := by
  refine wpList_plain rfl fun K' hK' => ?_
  obtain ⟨w', hr, hs⟩ := sat.mapV_put (h.pick i hL) K ht hn hkey hc
  unfold Oper.wp execOp
  simp only [look_eval hm, look_eval hx, look_eval hv, Sem.run_bind, Sem.run_pure, Result.andThen_ok, hr]
  exact hK' _ _ (r w' (hs.perm (set_perm i L hL).symm))
theorem st_makeV {ops : Array Oper} {rest : List Oper} {a : Act} {Q : Exit → Act → World → Prop} {dst : Option Tmp} {t : TypeId} {oty : TypeId} {pos : String} {af : Array Edge}
    (k : TypeId) (h : sat E w L) (r : ∀ g w', sat E w' (mapV P k g 0 (fun _ => none) :: L) → wpList P ops Q rest (a.put dst (.map (some g))) w') : wpList P ops Q (⟨dst, .makeMap t none, oty, pos, af, none⟩ :: rest) a w := by
  refine wpList_plain rfl fun K' hK' => ?_
  have hr := run_makeMap (P := P) t w
  unfold Oper.wp execOp
  simp only [Sem.run_bind, Sem.run_pure, Result.andThen_ok, Option.map_none, hr]
  exact hK' _ _ (r _ _ h.mapV_new)
end
end Go.SepYthlipcejeeoacab
