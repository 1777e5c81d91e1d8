/- What a step keeps of the conditions on which the contracts of steps rest: plain lemmas on the model. -/
import Derived.Test.YtdhcomklmckhoaaSnapN
namespace Go.Proofs.Ytdhcomklmckhoaa
set_option linter.unusedSimpArgs false
set_option linter.unusedVariables false
def wfs (l : List Int) : Prop := ∀ x ∈ l, 0 ≤ x ∧ x < 18446744073709551616
theorem wfs_setI {l : List Int} (h : wfs l) (i x : Int) (hx : 0 ≤ x ∧ x < 18446744073709551616) : wfs (setI l i x) := by
  intro y hy
  rcases List.mem_or_eq_of_mem_set hy with hy | rfl
  · exact h y hy
  · exact hx
theorem wfs_getI {l : List Int} (h : wfs l) (i : Int) : 0 ≤ getI l i ∧ getI l i < 18446744073709551616 := by
  unfold getI
  rw [List.getD_eq_getElem?_getD]
  cases hc : l[i.toNat]? with
  | none => simp
  | some x => exact h x (List.mem_of_getElem? hc)
theorem wfs_rep (n : Nat) : wfs (List.replicate n 0) := by
  intro x hx
  obtain ⟨_, rfl⟩ := List.mem_replicate.1 hx
  omega
/-! ### A snap -/
theorem SnapM.new_ok {c : ConfM} (hc : c.ok) {who : Int} (h0 : 0 ≤ who) (h1 : who < c.th) (start : Int) : (SnapM.new c who start).ok := by
  have := hc.all_bd
  refine ⟨hc, h0, h1, Int.emod_nonneg _ (by omega), Int.emod_lt_of_pos _ (by omega), ?_, ?_, ?_, ?_, ?_⟩ <;> simp only [SnapM.new, List.length_replicate] <;> omega
structure SnapM.kept (s s' : SnapM) : Prop where
  ok : s'.ok
  words : wfs s'.words
  conf : s'.conf = s.conf
  who : s'.who = s.who
  start : s'.start = s.start
  pass : s'.pass ≤ s.pass + 1
theorem SnapM.step_kept {s : SnapM} {m : MemM} (ho : s.ok) (hm : m.wf) (hw : wfs s.words) (hp : s.pass < 1000000000) : s.kept (s.step m).1 := by
  have hx := MemM.peek_wf hm s.slot
  have h1 := ho.k0
  have h2 := ho.k1
  have h3 := ho.p0
  have h4 := ho.len
  have h5 := ho.conf.all_bd
  by_cases hq : s.phase = 0
  · rw [s.step_eq m hq]
    unfold SnapM.rest
    split
    · exact ⟨⟨ho.conf, ho.who0, ho.who1, ho.st0, ho.st1, by show 0 ≤ s.k + 1; omega, by assumption, h3, ho.p1, by simpa [setI] using h4⟩, wfs_setI hw _ _ hx, rfl, rfl, rfl, by show s.pass ≤ _; omega⟩
    · exact ⟨⟨ho.conf, ho.who0, ho.who1, ho.st0, ho.st1, by show (0 : Int) ≤ 0; omega, by show 0 < s.conf.all; omega, by show 0 ≤ s.pass + 1; omega, by show s.pass + 1 ≤ _; omega, by simpa [setI] using h4⟩, wfs_setI hw _ _ hx, rfl, rfl, rfl, by show s.pass + 1 ≤ _; omega⟩
  · have e : s.step m = (s, m) := by unfold SnapM.step; rw [if_pos hq]
    rw [e]
    exact ⟨ho, hw, rfl, rfl, rfl, by show s.pass ≤ _; omega⟩
/-! ### A take -/
theorem TakeM.new_ok {c : ConfM} (hc : c.ok) {who slot word : Int} (h0 : 0 ≤ who) (h1 : who < c.th) (s0 : 0 ≤ slot) (s1 : slot < c.all) (hw : 0 ≤ word ∧ word < 18446744073709551616) : (TakeM.new c who slot word).ok :=
  ⟨hc, h0, h1, s0, s1, hw.1, hw.2, Int.le_refl _, by show (0 : Int) ≤ _; omega⟩
structure TakeM.kept (s s' : TakeM) : Prop where
  ok : s'.ok
  conf : s'.conf = s.conf
  who : s'.who = s.who
  slot : s'.slot = s.slot
  word : s'.word = s.word
  steps : s'.steps ≤ s.steps + 1
theorem TakeM.step_kept {s : TakeM} {m : MemM} (ho : s.ok) (hp : s.steps < 1000000000) : s.kept (s.step m).1 := by
  have h0 := ho.st0
  unfold TakeM.step
  split
  · exact ⟨ho, rfl, rfl, rfl, rfl, by show s.steps ≤ _; omega⟩
  · split
    · exact ⟨⟨ho.conf, ho.who0, ho.who1, ho.slot0, ho.slot1, ho.word0, ho.word1, ho.st0, ho.st1⟩, rfl, rfl, rfl, rfl, by show s.steps ≤ _; omega⟩
    · have hs : s.steps + 1 ≤ 1000000000 := by omega
      have hs0 : 0 ≤ s.steps + 1 := by omega
      dsimp only
      (repeat' split) <;> exact ⟨⟨ho.conf, ho.who0, ho.who1, ho.slot0, ho.slot1, ho.word0, ho.word1, hs0, hs⟩, rfl, rfl, rfl, rfl, Int.le_refl _⟩
/-! ### A place -/
theorem ClaimM.new_ok {c : ConfM} (hc : c.ok) {who : Int} (h0 : 0 ≤ who) (h1 : who < c.th) : (ClaimM.new c who).ok := by
  have := hc.sl1
  have := hc.th1
  exact ⟨hc, h0, h1, Int.le_refl _, by show 0 < c.sl; omega, by show (-1 : Int) ≤ -1; omega, fun _ => by show -1 < c.th; omega⟩
structure ClaimM.kept (s s' : ClaimM) : Prop where
  ok : s'.ok
  conf : s'.conf = s.conf
  who : s'.who = s.who
  gen : 0 ≤ s.word.gen → s.word.gen ≤ 8191 → 0 ≤ s'.word.gen ∧ s'.word.gen ≤ 8191
theorem ClaimM.pass_kept {s : ClaimM} (ho : s.ok) : s.kept s.pass := by
  have h0 := ho.k0
  have h1 := ho.k1
  have h2 := ho.conf.th1
  unfold ClaimM.pass
  split
  · exact ⟨⟨ho.conf, ho.who0, ho.who1, h0, h1, by show (-1 : Int) ≤ -1; omega, fun _ => by show -1 < s.conf.th; omega⟩, rfl, rfl, fun a b => ⟨a, b⟩⟩
  · exact ⟨⟨ho.conf, ho.who0, ho.who1, by show 0 ≤ s.k + 1; omega, by show s.k + 1 < s.conf.sl; omega, by show (-1 : Int) ≤ -1; omega, fun _ => by show -1 < s.conf.th; omega⟩, rfl, rfl, fun a b => ⟨a, b⟩⟩
theorem unpack_gen (x : Int) : 0 ≤ (unpack x).gen ∧ (unpack x).gen ≤ 8191 := by
  show 0 ≤ x / 8 % 8192 ∧ x / 8 % 8192 ≤ 8191
  omega
theorem ClaimM.step_kept {s : ClaimM} {m : MemM} (ho : s.ok) : s.kept (s.step m).1 := by
  have hg := unpack_gen (m.peek s.slot)
  have h2 := ho.conf.th1
  unfold ClaimM.step
  split
  · exact ⟨ho, rfl, rfl, fun a b => ⟨a, b⟩⟩
  · rename_i hp
    have hp0 : s.phase = 0 := Classical.not_not.1 hp
    split
    · rename_i hgd
      unfold ClaimM.look
      dsimp only
      have h1 : ({ s with word := unpack (m.peek s.slot) } : ClaimM).ok := ⟨ho.conf, ho.who0, ho.who1, ho.k0, ho.k1, ho.g0, ho.g1⟩
      have hk := ClaimM.pass_kept h1
      have hpass : s.kept ({ s with word := unpack (m.peek s.slot) } : ClaimM).pass := ⟨hk.ok, hk.conf, hk.who, fun _ _ => hk.gen hg.1 hg.2⟩
      split
      · exact hpass
      · split
        · exact ⟨⟨ho.conf, ho.who0, ho.who1, ho.k0, ho.k1, ho.g0, fun h => by cases h⟩, rfl, rfl, fun _ _ => hg⟩
        · split
          · exact ⟨⟨ho.conf, ho.who0, ho.who1, ho.k0, ho.k1, by show (-1 : Int) ≤ 0; omega, fun _ => by show 0 < s.conf.th; omega⟩, rfl, rfl, fun _ _ => hg⟩
          · exact hpass
    · rename_i hgd
      have h3 := ho.g1 hp0
      dsimp only
      split
      · have hk := ClaimM.pass_kept ho
        exact ⟨hk.ok, hk.conf, hk.who, hk.gen⟩
      · split
        · exact ⟨⟨ho.conf, ho.who0, ho.who1, ho.k0, ho.k1, by show -1 ≤ s.guard + 1; omega, fun h => by cases h⟩, rfl, rfl, fun a b => ⟨a, b⟩⟩
        · exact ⟨⟨ho.conf, ho.who0, ho.who1, ho.k0, ho.k1, by show -1 ≤ s.guard + 1; omega, fun h => by show s.guard + 1 < s.conf.th; omega⟩, rfl, rfl, fun a b => ⟨a, b⟩⟩
/-! ### A stamp -/
theorem TickM.new_ok {c : ConfM} (hc : c.ok) {who : Int} (h0 : 0 ≤ who) (h1 : who < c.th) : (TickM.new c who).ok := by
  refine ⟨hc, h0, h1, ?_, ?_, ?_, ?_⟩ <;> simp only [TickM.new] <;> omega
theorem cap_bd {x : Int} (h : 0 ≤ x) : 0 ≤ cap x ∧ cap x ≤ 16777215 := by show 0 ≤ min x 16777215 ∧ min x 16777215 ≤ 16777215; omega
theorem tdone_a (t : TickM) (s : StampM) : (t.done s).a = t.a := by unfold TickM.done; split <;> rfl
structure TickM.kept (s s' : TickM) : Prop where
  ok : s'.ok
  conf : s'.conf = s.conf
  who : s'.who = s.who
  steps : s'.steps ≤ s.steps + 1
theorem TickM.of (s s' : TickM) (ho : s.ok) (hp : s.steps < 1000000000) (hc : s'.conf = s.conf) (hw : s'.who = s.who) (ha : 0 ≤ s'.a ∧ s'.a ≤ 16777215) (hs : s'.steps = s.steps) : s.kept { s' with steps := s'.steps + 1 } := by
  have := ho.s0
  refine ⟨⟨by show s'.conf.ok; rw [hc]; exact ho.conf, by show 0 ≤ s'.who; rw [hw]; exact ho.who0, by show s'.who < s'.conf.th; rw [hw, hc]; exact ho.who1, ha.1, ha.2, by show 0 ≤ s'.steps + 1; omega, by show s'.steps + 1 ≤ _; omega⟩, hc, hw, by show s'.steps + 1 ≤ _; omega⟩
theorem TickM.step_kept {s : TickM} {m : MemM} {now : Int} (ho : s.ok) (hm : m.wf) (hn : 0 ≤ now) (hp : s.steps < 1000000000) : s.kept (s.step m now).1 := by
  have ha := And.intro ho.a0 ho.a1
  have hs := ho.s0
  have hr : ∀ th, 0 ≤ s.read m th ∧ s.read m th ≤ 16777215 := fun th => cap_bd (MemM.peek_wf hm _).1
  unfold TickM.step
  split
  · exact ⟨ho, rfl, rfl, by show s.steps ≤ _; omega⟩
  · dsimp only
    split
    · exact TickM.of s _ ho hp (tdone_conf _ _) (tdone_who _ _) (by rw [tdone_a]; exact ha) (tdone_steps _ _)
    · split
      · unfold TickM.stutter
        split
        · have := hr s.steps
          exact TickM.of s { s with a := max s.a (s.read m s.steps) } ho hp rfl rfl (by show 0 ≤ max s.a (s.read m s.steps) ∧ max s.a (s.read m s.steps) ≤ 16777215; omega) rfl
        · exact TickM.of s _ ho hp (tdone_conf _ _) (tdone_who _ _) (by show 0 ≤ (s.done _).a ∧ (s.done _).a ≤ _; rw [tdone_a]; exact ha) (tdone_steps _ _)
      · split
        · unfold TickM.swap
          have := hr 0
          split
          · exact TickM.of s { s with a := s.read m 0, phase := if s.read m 0 ≥ Top then 2 else s.phase } ho hp rfl rfl this rfl
          · split
            · dsimp only
              split
              · exact TickM.of s _ ho hp (tdone_conf _ _) (tdone_who _ _) (by rw [tdone_a]; exact ha) (tdone_steps _ _)
              · exact TickM.of s { s with b := s.read m 0 } ho hp rfl rfl ha rfl
            · split
              · dsimp only
                split
                · exact TickM.of s _ ho hp (tdone_conf _ _) (tdone_who _ _) (by rw [tdone_a]; exact ha) (tdone_steps _ _)
                · exact TickM.of s s ho hp rfl rfl ha rfl
              · split
                · exact TickM.of s _ ho hp (tdone_conf _ _) (tdone_who _ _) (by rw [tdone_a]; exact ha) (tdone_steps _ _)
                · exact TickM.of s s ho hp rfl rfl ha rfl
        · have hc := cap_bd hn
          split
          · split
            · split
              · exact TickM.of s { s with a := cap now } ho hp rfl rfl hc rfl
              · exact TickM.of s s ho hp rfl rfl ha rfl
            · split
              · exact TickM.of s _ ho hp (tdone_conf _ _) (tdone_who _ _) (by show 0 ≤ (TickM.done _ _).a ∧ (TickM.done _ _).a ≤ _; rw [tdone_a]; exact hc) (tdone_steps _ _)
              · exact TickM.of s _ ho hp (tdone_conf _ _) (tdone_who _ _) (by show 0 ≤ (TickM.done _ _).a ∧ (TickM.done _ _).a ≤ _; rw [tdone_a]; exact ha) (tdone_steps _ _)
          · exact TickM.of s _ ho hp (tdone_conf _ _) (tdone_who _ _) (by rw [tdone_a]; exact ha) (tdone_steps _ _)
end Go.Proofs.Ytdhcomklmckhoaa
