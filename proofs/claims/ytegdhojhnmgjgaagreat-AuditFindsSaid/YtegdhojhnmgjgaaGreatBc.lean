/- Several texts in one: YardF YardN YardI YardO YardW. Each says ahead of it what it shows. -/
import Derived.Test.YtegdhojhnmgjgaaGreatBa
import Derived.Lib.SliceRun
import Derived.Test.YtegdhojhnmgjgaaGreatB1
set_option linter.unusedVariables false
set_option linter.unusedSimpArgs false
/- Threads that share cells (package yard): what is told of a yard (Conf, Deeds, Log). Conditions: as YardM.ok says. -/
namespace Go.Proofs.YtegdhojhnmgjgaaGreat
open Go.RowKit Go.SepYtegdhojhnmgjgaaGreat
set_option maxRecDepth 100000
set_option maxHeartbeats 4000000
theorem deedInfoF : ∃ q z, Tryz.prog.info? 51 = some q ∧ q.zero = some z ∧ q.size = 11 ∧ q.bytes = 88 ∧ z.cells.size = 11 := ⟨_, _, rfl, rfl, rfl, rfl, rfl⟩
theorem dv_len (d : DeedM) : d.v.length = 11 := rfl
theorem dv_one (d : DeedM) : ∀ u ∈ d.v, u.oneCell' = true := by
  intro u hu
  simp at hu
  rcases hu with rfl | rfl | rfl | rfl | rfl | rfl | rfl | rfl | rfl | rfl | rfl <;> rfl
theorem eqlD (w : World) (a : Option Addr) (n c : Nat) : (binOp .eql 37 (.slice a n c) (.slice none 0 0)).run Tryz.prog w = .ok (.bool a.isNone) w := Lib.run_eql_slice_nil w 37 51 a n c 0 0 Tryz.underlying37
attribute [local go_sem] eqlD
section
variable {E w : World} {L : List SA}
theorem ddclone_calls (p : Option Addr) (l : List DeedM) (cap : Nat) (hl : l.length ≤ 1000000) (ho : OldS DeedM.v 11 w p l) (h : sat E w L) :
    Calls Tryz.prog 48 #[.slice p l.length cap] w fun e w' => ∃ p1 c1, e = .returned (.slice p1 l.length c1) ∧ sat E w' (rowA (.slice p1 l.length c1) 51 11 l.length (l.flatMap DeedM.v) :: L) := by
  have K := Lib.hid h
  have H := Lib.hid ho
  clear h ho
  cases p with
  | none =>
    have hl0 : l = [] := by
      rcases Nat.eq_zero_or_pos l.length with h | h
      · exact List.eq_nil_of_length_eq_zero h
      · obtain ⟨b, off, e, _⟩ := H.out 0 h
        simp at e
    subst hl0
    go_enter Tryz.func48, Tryz.ntmps48
    go_wp2
    go_ret
    exact ⟨_, _, rfl, sat.row_nil _ _ K.out⟩
  | some a =>
    have HN := Lib.hid (show ∀ w', Below w.heap.size w w' → 0 < l.length → ∃ b o, some a = some ⟨b, o, none⟩ ∧ ∀ j u, (l.flatMap DeedM.v)[j]? = some u → w'.cell? ⟨b, o + j, none⟩ = some u from fun w' hb h0 => oldS_new dv_len (by decide) (H.out.grown hb) h0 (fun x => ⟨_, rfl⟩))
    go_enter Tryz.func48, Tryz.ntmps48
    go_wp2_with (have KE := sat.row_empty (e := 51) (size := 11) K.out; (with_reducible refine at_append ?_); refine st_append_part 0 51 11 88 Tryz.underlying37 deedInfoF KE rfl rfl (news := l.flatMap DeedM.v) rfl (fm_len dv_len l) ?_ (fm_one dv_one l) ?_ ?_ ?_; (· exact HN.out _ ((Below.refl _ _).alloc (Nat.le_refl _) _)); (· simp only [maxLen]; omega); (· omega); intro pa na ca w1 K1; simp only [List.set, Nat.zero_add, List.nil_append] at K1; clear KE)
    go_ret
    obtain ⟨hna, _⟩ := Go.SepYtegdhojhnmgjgaaGreat.row_len K1
    subst hna
    exact ⟨_, _, rfl, K1⟩
theorem ydeeds_nil (w : World) : Calls Tryz.prog 13 #[.pointer none] w fun e w' => e = .returned (.slice none 0 0) ∧ w = w' := by
  go_enter Tryz.func13, Tryz.ntmps13
  go_wp2
  go_ret
  exact ⟨rfl, rfl⟩
theorem ydeeds_calls (b : Nat) (y : YardM) (hd : y.deeds.length ≤ 1000000) (h : sat E w (yardA b y :: L)) : Calls Tryz.prog 13 #[.pointer (some ⟨b, 0, none⟩)] w fun e w' => ∃ p1 c1, e = .returned (.slice p1 y.deeds.length c1) ∧ sat E w' (rowA (.slice p1 y.deeds.length c1) 51 11 y.deeds.length (y.deeds.flatMap DeedM.v) :: yardA b y :: L) := by
  have h0 := h
  obtain ⟨bm, gt, gm, p, n, c, vs, h⟩ := yardA_open h
  obtain ⟨hn, _⟩ := Go.SepYtegdhojhnmgjgaaGreat.row_len (h.pick 4 rfl)
  subst hn
  have a0 := h.rd 0 rfl
  have CL := Lib.hid (ddclone_calls p y.deeds c hd (oldS_row dv_len (h.pick 4 rfl)) h0)
  clear h0 h
  go_enter Tryz.func13, Tryz.ntmps13
  go_wp2_with (go_at_call 48; (with_reducible refine CL.out.mono ?_); rintro e w1 ⟨p1, c1, rfl, K1⟩)
  go_ret
  exact ⟨_, _, rfl, K1⟩
theorem ylog_nil (w : World) : Calls Tryz.prog 14 #[.pointer none] w fun e w' => e = .returned (.slice none 0 0) ∧ w = w' := by
  go_enter Tryz.func14, Tryz.ntmps14
  go_wp2
  go_ret
  exact ⟨rfl, rfl⟩
theorem ylog_calls (b : Nat) (y : YardM) (hd : y.mem.log.length ≤ 1000000) (h : sat E w (yardA b y :: L)) : Calls Tryz.prog 14 #[.pointer (some ⟨b, 0, none⟩)] w fun e w' => ∃ p1 c1, e = .returned (.slice p1 y.mem.log.length c1) ∧ sat E w' (rowA (.slice p1 y.mem.log.length c1) 85 6 y.mem.log.length (evCells y.mem.log) :: yardA b y :: L) := by
  obtain ⟨bm, gt, gm, p, n, c, vs, h⟩ := yardA_open h
  have K := Lib.hid h
  have a0 := h.rd 0 rfl
  have CL := Lib.hid (log_calls bm y.mem hd (h.pick 1 rfl))
  clear h
  go_enter Tryz.func14, Tryz.ntmps14
  go_wp2_with (go_at_call 28; (with_reducible refine CL.out.mono ?_); rintro e w1 ⟨p1, c1, rfl, K1⟩)
  go_ret
  have q := (((((((K1.pick 0 rfl).pick 6 rfl).pick 6 rfl).pick 6 rfl).pick 6 rfl).pick 5 rfl).pick 6 rfl)
  exact ⟨_, _, rfl, (yardA_shut (y := y) q).swap⟩
end
end Go.Proofs.YtegdhojhnmgjgaaGreat
/- What a yard's moves keep of the conditions on which the contracts rest: plain lemmas on the model. -/
namespace Go.Proofs.YtegdhojhnmgjgaaGreat
structure YardM.okn (n : Nat) (y : YardM) : Prop where
  conf : y.conf.ok
  tl : (y.tasks.length : Int) = y.conf.th
  ml : (y.mine.length : Int) = y.conf.th
  dl : y.deeds.length ≤ n
  m0 : 0 ≤ y.moves
  m1 : y.moves ≤ n
  n0 : 0 ≤ y.now
  n1 : y.now ≤ MaxTime
  wf : y.mem.wf
  log : y.mem.log.length ≤ n
  cells : (y.mem.cells.length : Int) = y.conf.cells
  task : ∀ (i : Nat) t, y.tasks[i]? = some (some t) → t.okn y.conf i n
  mine : ∀ (i : Nat) t, y.tasks[i]? = some (some t) → 0 ≤ getI y.mine i ∧ getI y.mine i < y.deeds.length
theorem YardM.okn.ok {n : Nat} {y : YardM} (h : y.okn n) (hn : n ≤ 100000) : y.ok :=
  ⟨h.conf, h.tl, h.ml, by have := h.dl; omega, h.m0, by have := h.m1; omega, h.n0, h.n1, by have := h.log; omega, h.cells, fun i t ht => (h.task i t ht).mono (by omega), h.mine⟩
theorem YardM.okn.mono {n k : Nat} {y : YardM} (h : y.okn n) (hn : n ≤ k) : y.okn k :=
  ⟨h.conf, h.tl, h.ml, by have := h.dl; omega, h.m0, by have := h.m1; omega, h.n0, h.n1, h.wf, by have := h.log; omega, h.cells, fun i t ht => (h.task i t ht).mono (by omega), h.mine⟩
theorem YardM.new_okn {c : ConfM} (hc : c.ok) : (YardM.new c).okn 0 := by
  have ho := YardM.new_ok hc
  exact ⟨hc, ho.tl, ho.ml, by simp [YardM.new], Int.le_refl _, Int.le_refl _, Int.le_refl _, ho.n1, MemM.new_wf _, by simp [YardM.new, MemM.new], ho.cells, fun i t h => by simp [YardM.new, List.getElem?_replicate] at h, fun i t h => by simp [YardM.new, List.getElem?_replicate] at h⟩
theorem YardM.pass_okn {n : Nat} {y : YardM} (h : y.okn n) (k : Int) : (y.pass k).okn n := by
  unfold YardM.pass
  split
  · rename_i hk
    have h0 := h.n0
    have h1 : y.now ≤ 1099511627776 := h.n1
    refine ⟨h.conf, h.tl, h.ml, h.dl, h.m0, h.m1, ?_, ?_, h.wf, h.log, h.cells, h.task, h.mine⟩
    · show 0 ≤ y.now + min k (1099511627776 - y.now); omega
    · show y.now + min k (1099511627776 - y.now) ≤ 1099511627776; omega
  · exact h
theorem getI_set {l : List Int} {i : Nat} (hi : i < l.length) (x : Int) (j : Nat) : getI (l.set i x) j = if j = i then x else getI l j := by
  unfold getI
  rw [Int.toNat_natCast, List.getD_eq_getElem?_getD, List.getD_eq_getElem?_getD, List.getElem?_set]
  by_cases h : i = j
  · subst h; simp [hi]
  · rw [if_neg h, if_neg (fun q => h q.symm)]
theorem YardM.call_okn {n : Nat} {y : YardM} (h : y.okn n) (who : Int) {k : CallM} (hk : k.wf) : (y.call who k).1.okn (n + 1) := by
  unfold YardM.call
  split
  · exact h.mono (by omega)
  · split
    · exact h.mono (by omega)
    · rename_i hbad hb
      have ht : y.there who = true := by cases q : y.there who <;> simp_all
      have hbd : 0 ≤ who ∧ who < y.conf.th := by
        unfold YardM.there at ht
        rw [Bool.and_eq_true, decide_eq_true_eq, decide_eq_true_eq] at ht
        exact ht
      have h1 := h.tl
      have h2 := h.ml
      have h3 := h.dl
      have h4 := h.m0
      have h5 := h.m1
      refine ⟨h.conf, by simpa using h1, by simpa using h2, by simp; omega, by show 0 ≤ y.moves + 1; omega, by show y.moves + 1 ≤ _; omega, h.n0, h.n1, h.wf, by have := h.log; show y.mem.log.length ≤ _; omega, h.cells, fun i t hi => ?_, fun i t hi => ?_⟩
      · rw [List.getElem?_set] at hi
        split at hi
        · rename_i e
          split at hi
          · simp only [Option.some.injEq] at hi
            subst hi
            have e' : (i : Int) = who := by omega
            rw [e']
            exact (TaskM.new_okn h.conf hbd.1 hbd.2 hk).mono (by omega)
          · cases hi
        · exact (h.task i t hi).mono (by omega)
      · show 0 ≤ getI (y.mine.set who.toNat (y.deeds.length : Int)) i ∧ getI (y.mine.set who.toNat (y.deeds.length : Int)) i < ((y.deeds ++ [_]).length : Int)
        rw [getI_set (by omega), List.length_append]
        rw [List.getElem?_set] at hi
        split
        · simp; omega
        · rename_i e
          rw [if_neg (fun q => e q.symm)] at hi
          have := h.mine i t hi
          simp
          omega
theorem YardM.step_okn {n : Nat} {y : YardM} (h : y.okn n) (hn : n < 100000) (who : Int) : (y.step who).1.okn (n + 1) := by
  unfold YardM.step
  split
  · exact h.mono (by omega)
  · rename_i hb
    split
    · exact h.mono (by omega)
    · rename_i t hk
      have hbusy : y.busy who = true := by simpa using hb
      have ht : y.there who = true := by unfold YardM.busy at hbusy; rw [Bool.and_eq_true] at hbusy; exact hbusy.1
      have hbd : 0 ≤ who ∧ who < y.conf.th := by
        unfold YardM.there at ht
        rw [Bool.and_eq_true, decide_eq_true_eq, decide_eq_true_eq] at ht
        exact ht
      have h1 := h.tl
      have hlt : who.toNat < y.tasks.length := by omega
      have hat : y.tasks[who.toNat]? = some (some t) := by
        have q : y.task who = some t := hk
        unfold YardM.task at q
        rw [List.getElem?_eq_getElem hlt] at q
        rw [List.getElem?_eq_getElem hlt]
        exact congrArg some q
      have hto := h.task who.toNat t hat
      have hst := TaskM.step_okn (m := y.mem) (now := y.now) hto (by omega) (by omega) h.wf h.n0
      obtain ⟨s1, s2, s3⟩ := hst
      have g1 := s3.len
      have g2 := s3.wf h.wf
      have g3 := s3.log
      have h2 := h.ml
      have h3 := h.dl
      have h4 := h.m0
      have h5 := h.m1
      have h6 := h.log
      have h7 := h.cells
      dsimp only
      refine YardM.pass_okn ?_ 1
      split
      · refine ⟨h.conf, by simpa using h1, h2, by simp only [List.length_modify]; omega, by show 0 ≤ y.moves + 1; omega, by show y.moves + 1 ≤ _; omega, h.n0, h.n1, g2, by show (t.step y.mem y.now).2.log.length ≤ _; omega, by show ((t.step y.mem y.now).2.cells.length : Int) = _; rw [g1]; exact h7, fun i u hi => ?_, fun i u hi => ?_⟩
        · rw [List.set_set, List.getElem?_set] at hi
          split at hi
          · simp at hi
          · exact (h.task i u hi).mono (by omega)
        · rw [List.set_set, List.getElem?_set] at hi
          split at hi
          · simp at hi
          · have := h.mine i u hi
            simpa only [List.length_modify] using this
      · refine ⟨h.conf, by simpa using h1, h2, by show y.deeds.length ≤ _; omega, by show 0 ≤ y.moves + 1; omega, by show y.moves + 1 ≤ _; omega, h.n0, h.n1, g2, by show (t.step y.mem y.now).2.log.length ≤ _; omega, by show ((t.step y.mem y.now).2.cells.length : Int) = _; rw [g1]; exact h7, fun i u hi => ?_, fun i u hi => ?_⟩
        · rw [List.getElem?_set] at hi
          split at hi
          · rename_i e
            simp only [Option.some.injEq] at hi
            subst hi
            rw [← e]
            have q := s1
            rw [Int.natCast_add]
            exact q
          · exact (h.task i u hi).mono (by omega)
        · rw [List.getElem?_set] at hi
          split at hi
          · rename_i e
            have := h.mine who.toNat t hat
            rw [← e]
            exact this
          · exact h.mine i u hi
end Go.Proofs.YtegdhojhnmgjgaaGreat
/- What a yard's deeds keep: one behind the other by each thread, no two at one move. Plain lemmas on the model. -/
namespace Go.Proofs.YtegdhojhnmgjgaaGreat
theorem getI_setN {l : List Int} {i : Nat} (hi : i < l.length) (x : Int) (j : Int) (hj : 0 ≤ j) : getI (l.set i x) j = if j = i then x else getI l j := by
  unfold getI
  rw [List.getD_eq_getElem?_getD, List.getD_eq_getElem?_getD, List.getElem?_set]
  by_cases h : i = j.toNat
  · subst h; rw [if_pos rfl, if_pos hi, if_pos (by omega)]; rfl
  · rw [if_neg h, if_neg (by omega)]
theorem snoc_at {α : Type} {l : List α} {d a : α} {i : Nat} (h : (l ++ [d])[i]? = some a) : (l[i]? = some a ∧ i < l.length) ∨ (i = l.length ∧ a = d) := by
  rcases Nat.lt_or_ge i l.length with q | q
  · rw [List.getElem?_append_left q] at h; exact .inl ⟨h, q⟩
  · rw [List.getElem?_append_right q] at h
    right
    cases e : i - l.length with
    | zero => rw [e] at h; simp at h; exact ⟨by omega, h.symm⟩
    | succ k => rw [e] at h; simp at h
theorem modify_at {α : Type} {l : List α} {f : α → α} {k i : Nat} {a : α} (h : (l.modify k f)[i]? = some a) : (i = k ∧ ∃ d, l[i]? = some d ∧ a = f d) ∨ (i ≠ k ∧ l[i]? = some a) := by
  rw [List.getElem?_modify] at h
  by_cases e : k = i
  · subst e
    simp at h
    obtain ⟨d, h1, h2⟩ := h
    exact .inl ⟨rfl, d, h1, h2.symm⟩
  · simp [e] at h
    exact .inr ⟨fun q => e q.symm, h⟩
theorem lt_of_at {α : Type} {l : List α} {i : Nat} {a : α} (h : l[i]? = some a) : i < l.length := by
  rcases Nat.lt_or_ge i l.length with q | q
  · exact q
  · rw [List.getElem?_eq_none q] at h; cases h
structure YardM.hinv (y : YardM) : Prop where
  m0 : 0 ≤ y.moves
  tl : (y.tasks.length : Int) = y.conf.th
  ml : (y.mine.length : Int) = y.conf.th
  each : ∀ (i : Nat) d, y.deeds[i]? = some d → 0 ≤ d.start ∧ d.start < y.moves ∧ d.call.right = true ∧ 0 ≤ d.who ∧ d.who < y.conf.th ∧ ((d.stop = -1 ∧ d.reply = .zero) ∨ (d.start < d.stop ∧ d.stop < y.moves))
  two : ∀ (i j : Nat) a b, i < j → y.deeds[i]? = some a → y.deeds[j]? = some b → a.start < b.start ∧ a.stop ≠ b.start ∧ (0 ≤ a.stop → a.stop ≠ b.stop) ∧ (a.who = b.who → 0 ≤ a.stop ∧ a.stop < b.start)
  busy : ∀ (i : Nat) d, y.deeds[i]? = some d → d.stop = -1 → ∃ t, y.tasks[d.who.toNat]? = some (some t) ∧ getI y.mine d.who = i ∧ t.call = d.call
  task : ∀ (w : Nat) t, y.tasks[w]? = some (some t) → ∃ d, 0 ≤ getI y.mine w ∧ y.deeds[(getI y.mine w).toNat]? = some d ∧ d.who = w ∧ d.stop = -1
theorem YardM.new_hinv {c : ConfM} (hc : c.ok) : (YardM.new c).hinv := by
  have := hc.th1
  refine ⟨Int.le_refl _, ?_, ?_, fun i d h => by simp [YardM.new] at h, fun i j a b _ h => by simp [YardM.new] at h, fun i d h => by simp [YardM.new] at h, fun w t h => by simp [YardM.new, List.getElem?_replicate] at h⟩
  · simp only [YardM.new, List.length_replicate]; omega
  · simp only [YardM.new, List.length_replicate]; omega
theorem YardM.pass_hinv {y : YardM} (h : y.hinv) (n : Int) : (y.pass n).hinv := by
  unfold YardM.pass
  split
  · exact ⟨h.m0, h.tl, h.ml, h.each, h.two, h.busy, h.task⟩
  · exact h
theorem YardM.there_bd {y : YardM} {who : Int} (h : y.there who = true) : 0 ≤ who ∧ who < y.conf.th := by
  unfold YardM.there at h
  rw [Bool.and_eq_true, decide_eq_true_eq, decide_eq_true_eq] at h
  exact h
theorem YardM.call_hinv {y : YardM} (h : y.hinv) (who : Int) (k : CallM) : (y.call who k).1.hinv := by
  unfold YardM.call
  split
  · exact h
  · split
    · exact h
    · rename_i hbad hb
      have ht : y.there who = true := by cases q : y.there who <;> simp_all
      have hr : k.right = true := by cases q : k.right <;> simp_all
      have hbd := YardM.there_bd ht
      have h0 := h.m0
      have h1 := h.tl
      have h2 := h.ml
      have hnone : ∀ t, y.tasks[who.toNat]? ≠ some (some t) := by
        intro t e
        apply hb
        unfold YardM.task
        rw [e]; rfl
      have hopen : ∀ (i : Nat) d, y.deeds[i]? = some d → d.who = who → 0 ≤ d.stop := by
        intro i d hd hw
        rcases (h.each i d hd).2.2.2.2.2 with ⟨q, _⟩ | ⟨q, _⟩
        · obtain ⟨t, ht', _⟩ := h.busy i d hd q
          rw [hw] at ht'
          exact (hnone t ht').elim
        · have := (h.each i d hd).1; omega
      refine ⟨by show 0 ≤ y.moves + 1; omega, by simpa using h1, by simpa using h2, fun i d hd => ?_, fun i j a b hij ha hb' => ?_, fun i d hd hs => ?_, fun w t hw => ?_⟩
      · rcases snoc_at hd with ⟨q, _⟩ | ⟨_, rfl⟩
        · obtain ⟨a1, a2, a3, a4, a5, a6⟩ := h.each i d q
          refine ⟨a1, by show d.start < y.moves + 1; omega, a3, a4, a5, ?_⟩
          rcases a6 with q | ⟨q1, q2⟩
          · exact .inl q
          · exact .inr ⟨q1, by show d.stop < y.moves + 1; omega⟩
        · exact ⟨h0, by show y.moves < y.moves + 1; omega, hr, hbd.1, hbd.2, .inl ⟨rfl, rfl⟩⟩
      · rcases snoc_at hb' with ⟨q, ql⟩ | ⟨ql, rfl⟩
        · rcases snoc_at ha with ⟨p, _⟩ | ⟨pl, _⟩
          · exact h.two i j a b hij p q
          · omega
        · rcases snoc_at ha with ⟨p, _⟩ | ⟨pl, _⟩
          · obtain ⟨a1, a2, a3, a4, a5, a6⟩ := h.each i a p
            refine ⟨a2, ?_, ?_, fun hw => ?_⟩
            · show a.stop ≠ y.moves; omega
            · intro _; show a.stop ≠ -1; omega
            · have := hopen i a p hw
              exact ⟨this, by show a.stop < y.moves; omega⟩
          · omega
      · rcases snoc_at hd with ⟨q, _⟩ | ⟨ql, rfl⟩
        · have hne : d.who ≠ who := fun e => by have := hopen i d q e; omega
          have hw := (h.each i d q).2.2.2
          obtain ⟨t, ht1, ht2, ht3⟩ := h.busy i d q hs
          refine ⟨t, ?_, ?_, ht3⟩
          · show (y.tasks.set who.toNat _)[d.who.toNat]? = _
            rw [List.getElem?_set_ne (by omega)]
            exact ht1
          · show getI (y.mine.set who.toNat _) d.who = i
            rw [getI_setN (by omega) _ _ hw.1, if_neg (by omega)]
            exact ht2
        · refine ⟨TaskM.new y.conf who k, ?_, ?_, rfl⟩
          · show (y.tasks.set who.toNat _)[who.toNat]? = _
            rw [List.getElem?_set_self (by omega)]
          · show getI (y.mine.set who.toNat _) who = i
            rw [getI_setN (by omega) _ _ hbd.1, if_pos (by omega), ql]
      · show ∃ d, 0 ≤ getI (y.mine.set who.toNat (y.deeds.length : Int)) w ∧ (y.deeds ++ [_])[(getI (y.mine.set who.toNat (y.deeds.length : Int)) w).toNat]? = some d ∧ d.who = (w : Int) ∧ d.stop = -1
        have hw' : (y.tasks.set who.toNat (some (TaskM.new y.conf who k)))[w]? = some (some t) := hw
        rw [getI_setN (by omega) _ _ (by omega)]
        rw [List.getElem?_set] at hw'
        by_cases e : (w : Int) = who
        · rw [if_pos (by omega)]
          refine ⟨⟨who, k, y.moves, -1, .zero⟩, by omega, ?_, by show who = w; omega, rfl⟩
          rw [Int.toNat_natCast, List.getElem?_append_right (Nat.le_refl _), Nat.sub_self]
          rfl
        · rw [if_neg (by omega)]
          rw [if_neg (by omega)] at hw'
          obtain ⟨d, d1, d2, d3, d4⟩ := h.task w t hw'
          refine ⟨d, d1, ?_, d3, d4⟩
          rw [List.getElem?_append_left (lt_of_at d2)]
          exact d2
theorem TaskM.step_call (t : TaskM) (m : MemM) (now : Int) : (t.step m now).1.call = t.call := by
  obtain ⟨c, w⟩ := t
  cases w <;> rfl
theorem YardM.task_at' {y : YardM} {who : Int} (h1 : (y.tasks.length : Int) = y.conf.th) (ht : y.there who = true) {t : TaskM} (hk : y.task who = some t) : y.tasks[who.toNat]? = some (some t) := by
  have hbd := YardM.there_bd ht
  have hlt : who.toNat < y.tasks.length := by omega
  unfold YardM.task at hk
  rw [List.getElem?_eq_getElem hlt] at hk
  rw [List.getElem?_eq_getElem hlt]
  exact congrArg some hk
theorem YardM.step_hinv {y : YardM} (h : y.hinv) (who : Int) : (y.step who).1.hinv := by
  unfold YardM.step
  split
  · exact h
  · rename_i hb
    split
    · exact h
    · rename_i t hk
      have hbusy : y.busy who = true := by simpa using hb
      have ht : y.there who = true := by unfold YardM.busy at hbusy; rw [Bool.and_eq_true] at hbusy; exact hbusy.1
      have hbd := YardM.there_bd ht
      have h0 := h.m0
      have h1 := h.tl
      have h2 := h.ml
      have hat := YardM.task_at' h1 ht hk
      obtain ⟨dd, q1, q2, q3, q4⟩ := h.task who.toNat t hat
      rw [show ((who.toNat : Nat) : Int) = who by omega] at q1 q2 q3
      have hcall := TaskM.step_call t y.mem y.now
      dsimp only
      refine YardM.pass_hinv ?_ 1
      generalize t.step y.mem y.now = r at *
      split
      · have hlater : ∀ (j : Nat) b, (getI y.mine who).toNat < j → y.deeds[j]? = some b → b.who ≠ who := fun j b hj hb' e => by
          have := (h.two _ j dd b hj q2 hb').2.2.2 (by omega)
          omega
        refine ⟨by show 0 ≤ y.moves + 1; omega, by simpa using h1, h2, fun i d hd => ?_, fun i j a b hij ha hb' => ?_, fun i d hd hs => ?_, fun w u hw => ?_⟩
        · have hd' : (y.deeds.modify (getI y.mine who).toNat (fun d => { d with stop := y.moves, reply := r.1.reply }))[i]? = some d := hd
          rcases modify_at hd' with ⟨e, d0, e1, rfl⟩ | ⟨e, e1⟩
          · obtain ⟨a1, a2, a3, a4, a5, a6⟩ := h.each i d0 e1
            exact ⟨a1, by show d0.start < y.moves + 1; omega, a3, a4, a5, .inr ⟨a2, by show y.moves < y.moves + 1; omega⟩⟩
          · obtain ⟨a1, a2, a3, a4, a5, a6⟩ := h.each i d e1
            refine ⟨a1, by show d.start < y.moves + 1; omega, a3, a4, a5, ?_⟩
            rcases a6 with q | ⟨q1, q2⟩
            · exact .inl q
            · exact .inr ⟨q1, by show d.stop < y.moves + 1; omega⟩
        · have ha' : (y.deeds.modify (getI y.mine who).toNat (fun d => { d with stop := y.moves, reply := r.1.reply }))[i]? = some a := ha
          have hb'' : (y.deeds.modify (getI y.mine who).toNat (fun d => { d with stop := y.moves, reply := r.1.reply }))[j]? = some b := hb'
          rcases modify_at ha' with ⟨e, a0, e1, rfl⟩ | ⟨e, e1⟩
          · rcases modify_at hb'' with ⟨f, b0, f1, rfl⟩ | ⟨f, f1⟩
            · omega
            · have p := h.two i j a0 b hij e1 f1
              have pe := h.each j b f1
              have hw0 : a0.who = who := by rw [e] at e1; rw [e1] at q2; cases q2; exact q3
              refine ⟨p.1, by show y.moves ≠ b.start; omega, fun _ => by show y.moves ≠ b.stop; rcases pe.2.2.2.2.2 with q | q <;> omega, fun hw => ?_⟩
              exact (hlater j b (by omega) f1 (by rw [← hw0]; exact hw.symm)).elim
          · rcases modify_at hb'' with ⟨f, b0, f1, rfl⟩ | ⟨f, f1⟩
            · have p := h.two i j a b0 hij e1 f1
              have pe := h.each i a e1
              exact ⟨p.1, p.2.1, fun _ => by show a.stop ≠ y.moves; rcases pe.2.2.2.2.2 with q | q <;> omega, p.2.2.2⟩
            · exact h.two i j a b hij e1 f1
        · have hd' : (y.deeds.modify (getI y.mine who).toNat (fun d => { d with stop := y.moves, reply := r.1.reply }))[i]? = some d := hd
          rcases modify_at hd' with ⟨e, d0, e1, rfl⟩ | ⟨e, e1⟩
          · have : y.moves = -1 := hs
            omega
          · obtain ⟨u, u1, u2, u3⟩ := h.busy i d e1 hs
            have hne : d.who ≠ who := fun q => by rw [q] at u2; omega
            have hw := (h.each i d e1).2.2.2
            refine ⟨u, ?_, u2, u3⟩
            show ((y.tasks.set who.toNat (some r.1)).set who.toNat none)[d.who.toNat]? = _
            rw [List.set_set, List.getElem?_set_ne (by omega)]
            exact u1
        · have hw' : ((y.tasks.set who.toNat (some r.1)).set who.toNat none)[w]? = some (some u) := hw
          rw [List.set_set, List.getElem?_set] at hw'
          split at hw'
          · simp at hw'
          · rename_i e
            obtain ⟨d, d1, d2, d3, d4⟩ := h.task w u hw'
            refine ⟨d, d1, ?_, d3, d4⟩
            show (y.deeds.modify (getI y.mine who).toNat _)[(getI y.mine w).toNat]? = some d
            have hne : ¬ (getI y.mine who).toNat = (getI y.mine w).toNat := by
              intro q
              rw [← q, q2] at d2
              cases d2
              omega
            rw [List.getElem?_modify]
            simp only [hne, if_false]
            simpa using d2
      · refine ⟨by show 0 ≤ y.moves + 1; omega, by simpa using h1, h2, fun i d hd => ?_, h.two, fun i d hd hs => ?_, fun w u hw => ?_⟩
        · obtain ⟨a1, a2, a3, a4, a5, a6⟩ := h.each i d hd
          refine ⟨a1, by show d.start < y.moves + 1; omega, a3, a4, a5, ?_⟩
          rcases a6 with q | ⟨q1, q2⟩
          · exact .inl q
          · exact .inr ⟨q1, by show d.stop < y.moves + 1; omega⟩
        · obtain ⟨u, u1, u2, u3⟩ := h.busy i d hd hs
          show ∃ t, (y.tasks.set who.toNat (some r.1))[d.who.toNat]? = some (some t) ∧ getI y.mine d.who = i ∧ t.call = d.call
          by_cases e : d.who = who
          · rw [e] at u1 u2
            rw [hat] at u1
            cases u1
            rw [e, List.getElem?_set_self (lt_of_at hat)]
            exact ⟨r.1, rfl, u2, hcall.trans u3⟩
          · have hw := (h.each i d hd).2.2.2
            rw [List.getElem?_set_ne (by omega)]
            exact ⟨u, u1, u2, u3⟩
        · have hw' : (y.tasks.set who.toNat (some r.1))[w]? = some (some u) := hw
          rw [List.getElem?_set] at hw'
          split at hw'
          · rename_i e
            subst e
            exact h.task who.toNat t hat
          · exact h.task w u hw'
end Go.Proofs.YtegdhojhnmgjgaaGreat
/- What a yard's step does to its cells: it touches one at most, by its own thread; what was noted stays. Plain lemmas on the model. -/
namespace Go.Proofs.YtegdhojhnmgjgaaGreat
/-- One cell is touched by a thread, or none. -/
def MemM.by (w : Int) (m m' : MemM) : Prop := m' = m ∨ ∃ op cell old next, 0 ≤ op ∧ op ≤ 3 ∧ (op = 3 → next = 1) ∧ m' = m.touch w op cell old next
theorem MemM.by_refl (w : Int) (m : MemM) : MemM.by w m m := .inl rfl
theorem MemM.by_touch (w : Int) (m : MemM) (op cell old next : Int) (h0 : 0 ≤ op := by omega) (h1 : op ≤ 3 := by omega) (h2 : op = 3 → next = 1 := by omega) : MemM.by w m (m.touch w op cell old next) := .inr ⟨_, _, _, _, h0, h1, h2, rfl⟩
theorem MemM.by_log {w : Int} {m m' : MemM} (h : MemM.by w m m') : m'.log = m.log ∨ ∃ e, m'.log = m.log ++ [e] ∧ e.who = w := by
  rcases h with rfl | ⟨op, cell, old, next, _, _, _, rfl⟩
  · exact .inl rfl
  · unfold MemM.touch
    split
    · exact .inr ⟨_, rfl, rfl⟩
    · exact .inl rfl
structure SnapM.own (c : ConfM) (w : Int) (s : SnapM) : Prop where
  conf : s.conf = c
  who : s.who = w
structure TakeM.own (c : ConfM) (w : Int) (s : TakeM) : Prop where
  conf : s.conf = c
  who : s.who = w
structure ClaimM.own (c : ConfM) (w : Int) (s : ClaimM) : Prop where
  conf : s.conf = c
  who : s.who = w
structure TickM.own (c : ConfM) (w : Int) (s : TickM) : Prop where
  conf : s.conf = c
  who : s.who = w
structure GetM.own (c : ConfM) (w : Int) (g : GetM) : Prop where
  conf : g.conf = c
  who : g.who = w
  snap : g.snap.own c w
  take : ∀ t, g.take = some t → t.own c w
structure PutM.own (c : ConfM) (w : Int) (p : PutM) : Prop where
  conf : p.conf = c
  who : p.who = w
  claim : p.claim.own c w
  tick : p.tick.own c w
variable {c : ConfM} {w : Int}
theorem SnapM.step_own {s : SnapM} (h : s.own c w) (m : MemM) : (s.step m).1.own c w ∧ MemM.by w m (s.step m).2 := by
  unfold SnapM.step
  split
  · exact ⟨h, .inl rfl⟩
  · dsimp only
    refine ⟨?_, by rw [h.who]; exact MemM.by_touch _ _ _ _ _ _⟩
    split <;> exact ⟨h.conf, h.who⟩
theorem TakeM.step_own {s : TakeM} (h : s.own c w) (m : MemM) : (s.step m).1.own c w ∧ MemM.by w m (s.step m).2 := by
  have hw := h.who
  subst hw
  unfold TakeM.step TakeM.fin
  split
  · exact ⟨h, .inl rfl⟩
  · split
    · exact ⟨⟨h.conf, rfl⟩, MemM.by_touch _ _ _ _ _ _⟩
    · dsimp only
      (repeat' split) <;> exact ⟨⟨h.conf, rfl⟩, MemM.by_touch _ _ _ _ _ _⟩
theorem ClaimM.pass_own {s : ClaimM} (h : s.own c w) : s.pass.own c w := by
  unfold ClaimM.pass; split <;> exact ⟨h.conf, h.who⟩
theorem ClaimM.step_own {s : ClaimM} (h : s.own c w) (m : MemM) : (s.step m).1.own c w ∧ MemM.by w m (s.step m).2 := by
  have hw := h.who
  subst hw
  have h2 : ({ s with word := unpack (m.peek s.slot) } : ClaimM).own c s.who := ⟨h.conf, rfl⟩
  unfold ClaimM.step ClaimM.look
  split
  · exact ⟨h, .inl rfl⟩
  · split
    · refine ⟨?_, MemM.by_touch _ _ _ _ _ _⟩
      dsimp only
      split
      · exact ClaimM.pass_own h2
      · split
        · exact ⟨h.conf, rfl⟩
        · split
          · exact ⟨h.conf, rfl⟩
          · exact ClaimM.pass_own h2
    · refine ⟨?_, MemM.by_touch _ _ _ _ _ _⟩
      dsimp only
      split
      · exact ClaimM.pass_own h
      · split <;> exact ⟨h.conf, rfl⟩
theorem TickM.done_own {s : TickM} (h : s.own c w) (x : StampM) : (s.done x).own c w := by
  unfold TickM.done; split <;> exact ⟨h.conf, h.who⟩
theorem TickM.own_steps {s : TickM} (h : s.own c w) (k : Int) : ({ s with steps := k } : TickM).own c w := ⟨h.conf, h.who⟩
theorem TickM.step_own {s : TickM} (h : s.own c w) (m : MemM) (now : Int) : (s.step m now).1.own c w ∧ MemM.by w m (s.step m now).2 := by
  have hw := h.who
  subst hw
  unfold TickM.step
  split
  · exact ⟨h, .inl rfl⟩
  · dsimp only
    split
    · exact ⟨TickM.own_steps (TickM.done_own h _) _, MemM.by_touch _ _ _ _ _ _⟩
    · split
      · unfold TickM.stutter TickM.load
        split
        · exact ⟨⟨h.conf, rfl⟩, MemM.by_touch _ _ _ _ _ _⟩
        · refine ⟨TickM.own_steps (TickM.done_own h _) _, ?_⟩
          dsimp only
          split
          · exact MemM.by_touch _ _ _ _ _ _
          · exact .inl rfl
      · split
        · unfold TickM.swap TickM.load
          split
          · exact ⟨⟨h.conf, rfl⟩, MemM.by_touch _ _ _ _ _ _⟩
          · split
            · refine ⟨?_, MemM.by_touch _ _ _ _ _ _⟩
              dsimp only
              split
              · exact TickM.own_steps (TickM.done_own (s := { s with b := s.read m 0 }) ⟨h.conf, rfl⟩ _) _
              · exact ⟨h.conf, rfl⟩
            · split
              · refine ⟨?_, MemM.by_touch _ _ _ _ _ _⟩
                dsimp only
                split
                · exact TickM.own_steps (TickM.done_own h _) _
                · exact ⟨h.conf, rfl⟩
              · split
                · exact ⟨TickM.own_steps (TickM.done_own (s := { s with b := s.read m 0 }) ⟨h.conf, rfl⟩ _) _, MemM.by_touch _ _ _ _ _ _⟩
                · exact ⟨⟨h.conf, rfl⟩, .inl rfl⟩
        · split
          · split
            · refine ⟨?_, .inl rfl⟩
              split <;> exact ⟨h.conf, rfl⟩
            · refine ⟨TickM.own_steps (TickM.done_own ?_ _) _, .inl rfl⟩
              split <;> exact ⟨h.conf, rfl⟩
          · exact ⟨TickM.own_steps (TickM.done_own h _) _, .inl rfl⟩
theorem PutM.step_own {p : PutM} (h : p.own c w) (m : MemM) (now : Int) : (p.step m now).1.own c w ∧ MemM.by w m (p.step m now).2 := by
  unfold PutM.step
  split
  · exact ⟨h, .inl rfl⟩
  · split
    · have q := ClaimM.step_own h.claim m
      exact ⟨⟨h.conf, h.who, q.1, h.tick⟩, q.2⟩
    · split
      · have q := TickM.step_own h.tick m now
        exact ⟨⟨h.conf, h.who, h.claim, q.1⟩, q.2⟩
      · split
        · exact ⟨⟨h.conf, h.who, h.claim, h.tick⟩, by rw [h.who]; exact MemM.by_touch _ _ _ _ _ _⟩
        · exact ⟨⟨h.conf, h.who, h.claim, h.tick⟩, by rw [h.who]; exact MemM.by_touch _ _ _ _ _ _⟩
theorem GetM.chosen_own {g : GetM} (h : g.own c w) : g.chosen.own c w := by
  unfold GetM.chosen
  dsimp only
  split
  · exact ⟨h.conf, h.who, h.snap, h.take⟩
  · exact ⟨h.conf, h.who, h.snap, fun t ht => by simp only [Option.some.injEq] at ht; subst ht; exact ⟨h.conf, h.who⟩⟩
theorem GetM.step_own {g : GetM} (h : g.own c w) (m : MemM) : (g.step m).1.own c w ∧ MemM.by w m (g.step m).2 := by
  unfold GetM.step
  split
  · exact ⟨h, .inl rfl⟩
  · cases ht : g.take with
    | none =>
      have q := SnapM.step_own h.snap m
      dsimp only
      have h2 : ({ g with snap := (g.snap.step m).1 } : GetM).own c w := ⟨h.conf, h.who, q.1, h.take⟩
      refine ⟨?_, q.2⟩
      split
      · rw [ht] at h2; exact GetM.chosen_own h2
      · exact ⟨h.conf, h.who, q.1, fun t e => h.take t (ht ▸ e)⟩
    | some t =>
      have q := TakeM.step_own (h.take t ht) m
      dsimp only
      refine ⟨?_, q.2⟩
      split
      · exact ⟨h.conf, h.who, h.snap, fun u e => by simp only [Option.some.injEq] at e; subst e; exact q.1⟩
      · split
        · exact ⟨h.conf, h.who, ⟨h.conf, h.who⟩, fun u e => by cases e⟩
        · exact ⟨h.conf, h.who, h.snap, fun u e => by simp only [Option.some.injEq] at e; subst e; exact q.1⟩
def WorkM.own (c : ConfM) (w : Int) : WorkM → Prop
  | .put p => p.own c w
  | .get g => g.own c w
theorem TaskM.new_own (c : ConfM) (w : Int) (k : CallM) : (TaskM.new c w k).work.own c w := by
  unfold TaskM.new
  dsimp only
  split
  · exact (⟨rfl, rfl, ⟨rfl, rfl⟩, ⟨rfl, rfl⟩⟩ : (PutM.new c w k.fin k.value).own c w)
  · exact (⟨rfl, rfl, ⟨rfl, rfl⟩, fun t h => by cases h⟩ : (GetM.new c w k.fin k.start).own c w)
theorem TaskM.step_own {t : TaskM} (h : t.work.own c w) (m : MemM) (now : Int) : (t.step m now).1.work.own c w ∧ MemM.by w m (t.step m now).2 := by
  obtain ⟨k, x⟩ := t
  cases x with
  | put p => exact PutM.step_own (p := p) h m now
  | get g => exact GetM.step_own (g := g) h m
/-- Whose call is whose. -/
structure YardM.oinv (y : YardM) : Prop where
  tl : (y.tasks.length : Int) = y.conf.th
  task : ∀ (i : Nat) t, y.tasks[i]? = some (some t) → t.work.own y.conf i ∧ t.work.phase = 0
theorem YardM.new_oinv {c : ConfM} (hc : c.ok) : (YardM.new c).oinv := by
  have := hc.th1
  exact ⟨by simp only [YardM.new, List.length_replicate]; omega, fun i t h => by simp [YardM.new, List.getElem?_replicate] at h⟩
theorem YardM.pass_oinv {y : YardM} (h : y.oinv) (n : Int) : (y.pass n).oinv := by
  unfold YardM.pass; split
  · exact ⟨h.tl, h.task⟩
  · exact h
theorem TaskM.new_phase (c : ConfM) (w : Int) (k : CallM) : (TaskM.new c w k).work.phase = 0 := by
  unfold TaskM.new; dsimp only; split <;> rfl
theorem YardM.call_oinv {y : YardM} (h : y.oinv) (who : Int) (k : CallM) : (y.call who k).1.oinv := by
  unfold YardM.call
  split
  · exact h
  · split
    · exact h
    · rename_i hbad hb
      have ht : y.there who = true := by cases q : y.there who <;> simp_all
      have hbd := YardM.there_bd ht
      have h1 := h.tl
      refine ⟨by simpa using h1, fun i t hi => ?_⟩
      have hi' : (y.tasks.set who.toNat (some (TaskM.new y.conf who k)))[i]? = some (some t) := hi
      rw [List.getElem?_set] at hi'
      split at hi'
      · rename_i e
        rw [if_pos (by omega)] at hi'
        simp only [Option.some.injEq] at hi'
        subst hi'
        rw [show ((i : Nat) : Int) = who by omega]
        exact ⟨TaskM.new_own _ _ _, TaskM.new_phase _ _ _⟩
      · exact h.task i t hi'
/-- A step of a yard: what it is, piece by piece. -/
structure YardM.Stepped (y y' : YardM) (who : Int) : Prop where
  oinv : y'.oinv
  conf : y'.conf = y.conf
  mem : MemM.by who y.mem y'.mem
theorem YardM.step_oinv {y : YardM} (h : y.oinv) (who : Int) : YardM.Stepped y (y.step who).1 who := by
  unfold YardM.step
  split
  · exact ⟨h, rfl, .inl rfl⟩
  · rename_i hb
    split
    · exact ⟨h, rfl, .inl rfl⟩
    · rename_i t hk
      have hbusy : y.busy who = true := by simpa using hb
      have ht : y.there who = true := by unfold YardM.busy at hbusy; rw [Bool.and_eq_true] at hbusy; exact hbusy.1
      have hbd := YardM.there_bd ht
      have h1 := h.tl
      have hat := YardM.task_at' h1 ht hk
      have ho := h.task who.toNat t hat
      rw [show ((who.toNat : Nat) : Int) = who by omega] at ho
      have hs := TaskM.step_own ho.1 y.mem y.now
      dsimp only
      generalize t.step y.mem y.now = r at *
      split
      · refine ⟨YardM.pass_oinv ⟨by simpa using h1, fun i u hi => ?_⟩ 1, by unfold YardM.pass; rfl, by unfold YardM.pass; exact hs.2⟩
        have hi' : ((y.tasks.set who.toNat (some r.1)).set who.toNat none)[i]? = some (some u) := hi
        rw [List.set_set, List.getElem?_set] at hi'
        split at hi'
        · simp at hi'
        · exact h.task i u hi'
      · rename_i hov
        refine ⟨YardM.pass_oinv ⟨by simpa using h1, fun i u hi => ?_⟩ 1, by unfold YardM.pass; rfl, by unfold YardM.pass; exact hs.2⟩
        have hi' : (y.tasks.set who.toNat (some r.1))[i]? = some (some u) := hi
        rw [List.getElem?_set] at hi'
        split at hi'
        · rename_i e
          rw [if_pos (by omega)] at hi'
          simp only [Option.some.injEq] at hi'
          subst hi'
          rw [show ((i : Nat) : Int) = who by omega]
          refine ⟨hs.1, ?_⟩
          unfold TaskM.over at hov
          simpa using hov
        · exact h.task i u hi'
/-! ### Moves -/
structure MoveM where
  kind : Int
  who : Int
  take : Bool
  right : Bool
  value : Int
  start : Int
  time : Int
def MoveM.wf (v : MoveM) : Prop := 0 ≤ v.value ∧ v.value < 18446744073709551616
def MoveM.call (v : MoveM) : CallM := ⟨if v.take = true then 1 else 0, if v.right = true then 1 else 0, v.value, v.start⟩
def MoveM.at_ (v : MoveM) (th : Int) : Int := v.who % 65536 % th
def MoveM.run (th : Int) (y : YardM) (v : MoveM) : YardM :=
  if v.kind % 8 = 0 then (y.call (v.at_ th) v.call).1
  else if v.kind % 8 = 6 then y.pass (v.time % 65536)
  else if v.kind % 8 = 7 then (y.step v.who).1
  else (y.step (v.at_ th)).1
/-- What is done later keeps what was over. -/
structure YardM.ext (y y' : YardM) : Prop where
  conf : y'.conf = y.conf
  log : ∃ s, y'.mem.log = y.mem.log ++ s
  len : y.deeds.length ≤ y'.deeds.length
  deeds : ∀ (i : Nat) d, y.deeds[i]? = some d → ∃ d', y'.deeds[i]? = some d' ∧ d'.who = d.who ∧ d'.call = d.call ∧ d'.start = d.start ∧ (0 ≤ d.stop → d' = d)
theorem YardM.ext_refl (y : YardM) : y.ext y := ⟨rfl, ⟨[], by simp⟩, Nat.le_refl _, fun i d h => ⟨d, h, rfl, rfl, rfl, fun _ => rfl⟩⟩
theorem YardM.ext_trans {y z x : YardM} (h : y.ext z) (k : z.ext x) : y.ext x := by
  refine ⟨k.conf.trans h.conf, ?_, Nat.le_trans h.len k.len, fun i d e => ?_⟩
  · obtain ⟨s, hs⟩ := h.log
    obtain ⟨u, hu⟩ := k.log
    exact ⟨s ++ u, by rw [hu, hs, List.append_assoc]⟩
  · obtain ⟨d1, a1, a2, a3, a4, a5⟩ := h.deeds i d e
    obtain ⟨d2, b1, b2, b3, b4, b5⟩ := k.deeds i d1 a1
    refine ⟨d2, b1, b2.trans a2, b3.trans a3, b4.trans a4, fun q => ?_⟩
    have := a5 q
    subst this
    exact b5 q
theorem YardM.pass_ext (y : YardM) (n : Int) : y.ext (y.pass n) := by
  unfold YardM.pass; split
  · exact ⟨rfl, ⟨[], by simp⟩, Nat.le_refl _, fun i d h => ⟨d, h, rfl, rfl, rfl, fun _ => rfl⟩⟩
  · exact YardM.ext_refl y
theorem YardM.call_ext (y : YardM) (who : Int) (k : CallM) : y.ext (y.call who k).1 := by
  unfold YardM.call
  split
  · exact YardM.ext_refl y
  · split
    · exact YardM.ext_refl y
    · exact ⟨rfl, ⟨[], by simp⟩, by simp, fun i d h => ⟨d, by rw [List.getElem?_append_left (lt_of_at h)]; exact h, rfl, rfl, rfl, fun _ => rfl⟩⟩
theorem MemM.by_ext {w : Int} {m m' : MemM} (h : MemM.by w m m') : ∃ s, m'.log = m.log ++ s := by
  rcases MemM.by_log h with e | ⟨e, h, _⟩
  · exact ⟨[], by simp [e]⟩
  · exact ⟨_, h⟩
theorem YardM.step_ext {y : YardM} (h : y.oinv) (hh : y.hinv) (who : Int) : y.ext (y.step who).1 := by
  have hS := YardM.step_oinv h who
  have hS1 := hS.conf
  have hS2 := MemM.by_ext hS.mem
  unfold YardM.step at hS1 hS2 ⊢
  split
  · exact YardM.ext_refl y
  · rename_i hb
    rw [if_neg hb] at hS1 hS2
    split
    · exact YardM.ext_refl y
    · rename_i t hk
      rw [hk] at hS1 hS2
      have hbusy : y.busy who = true := by simpa using hb
      have ht : y.there who = true := by unfold YardM.busy at hbusy; rw [Bool.and_eq_true] at hbusy; exact hbusy.1
      have hbd := YardM.there_bd ht
      have hat := YardM.task_at' hh.tl ht hk
      obtain ⟨dd, q1, q2, q3, q4⟩ := hh.task who.toNat t hat
      rw [show ((who.toNat : Nat) : Int) = who by omega] at q1 q2 q3
      dsimp only at hS1 hS2 ⊢
      generalize t.step y.mem y.now = r at *
      split
      · rename_i hov
        rw [if_pos hov] at hS1 hS2
        refine ⟨hS1, hS2, by simp [YardM.pass], fun i d hd => ?_⟩
        refine ⟨if (getI y.mine who).toNat = i then { d with stop := y.moves, reply := r.1.reply } else d, ?_, ?_, ?_, ?_, fun q => ?_⟩
        · show (y.deeds.modify (getI y.mine who).toNat (fun d => { d with stop := y.moves, reply := r.1.reply }))[i]? = _
          rw [List.getElem?_modify, hd]
          by_cases e : (getI y.mine who).toNat = i <;> simp [e]
        · split <;> rfl
        · split <;> rfl
        · split <;> rfl
        · rw [if_neg]
          intro e
          rw [e, hd] at q2
          cases q2
          omega
      · rename_i hov
        rw [if_neg hov] at hS1 hS2
        exact ⟨hS1, hS2, Nat.le_refl _, fun i d h => ⟨d, h, rfl, rfl, rfl, fun _ => rfl⟩⟩
/-- All that is kept by a move. -/
structure YardM.kept (y y' : YardM) : Prop where
  oinv : y'.oinv
  hinv : y'.hinv
  ext : y.ext y'
theorem MoveM.run_kept {y : YardM} (h : y.oinv) (hh : y.hinv) (th : Int) (v : MoveM) : YardM.kept y (v.run th y) := by
  unfold MoveM.run
  split
  · exact ⟨YardM.call_oinv h _ _, YardM.call_hinv hh _ _, YardM.call_ext _ _ _⟩
  · split
    · exact ⟨YardM.pass_oinv h _, YardM.pass_hinv hh _, YardM.pass_ext _ _⟩
    · split
      · exact ⟨(YardM.step_oinv h _).oinv, YardM.step_hinv hh _, YardM.step_ext h hh _⟩
      · exact ⟨(YardM.step_oinv h _).oinv, YardM.step_hinv hh _, YardM.step_ext h hh _⟩
def runsM (th : Int) (y : YardM) (l : List MoveM) : YardM := l.foldl (MoveM.run th) y
theorem runsM_snoc (th : Int) (y : YardM) (l : List MoveM) (v : MoveM) : runsM th y (l ++ [v]) = v.run th (runsM th y l) := by
  unfold runsM; rw [List.foldl_append]; rfl
theorem runsM_append (th : Int) (y : YardM) (l k : List MoveM) : runsM th y (l ++ k) = runsM th (runsM th y l) k := by
  unfold runsM; rw [List.foldl_append]
theorem runsM_kept (th : Int) : ∀ (l : List MoveM) {y : YardM} (h : y.oinv) (hh : y.hinv), YardM.kept y (runsM th y l)
  | [], y, h, hh => ⟨h, hh, YardM.ext_refl y⟩
  | v :: l, y, h, hh => by
    have a := MoveM.run_kept h hh th v
    have b := runsM_kept th l a.oinv a.hinv
    exact ⟨b.oinv, b.hinv, YardM.ext_trans a.ext b.ext⟩
/-- What a move notes. -/
theorem MoveM.run_log {y : YardM} (h : y.oinv) (th : Int) (v : MoveM) :
    (v.run th y).mem.log = y.mem.log ∨ (v.kind % 8 ≠ 0 ∧ v.kind % 8 ≠ 6 ∧ ∃ e, (v.run th y).mem.log = y.mem.log ++ [e] ∧ e.who = if v.kind % 8 = 7 then v.who else v.at_ th) := by
  unfold MoveM.run
  split
  · left
    unfold YardM.call; (repeat' split) <;> rfl
  · split
    · left
      unfold YardM.pass; split <;> rfl
    · split
      · rcases MemM.by_log (YardM.step_oinv h v.who).mem with q | ⟨e, q1, q2⟩
        · exact .inl q
        · exact .inr ⟨by omega, by omega, e, q1, q2⟩
      · rcases MemM.by_log (YardM.step_oinv h (v.at_ th)).mem with q | ⟨e, q1, q2⟩
        · exact .inl q
        · exact .inr ⟨by omega, by omega, e, q1, q2⟩
end Go.Proofs.YtegdhojhnmgjgaaGreat
/- Threads that share cells (package yard): what a yard's places hold (Conf, Words, Values). Conditions: as YardM.ok says. -/
namespace Go.Proofs.YtegdhojhnmgjgaaGreat
open Go.RowKit Go.SepYtegdhojhnmgjgaaGreat
set_option maxRecDepth 100000
set_option maxHeartbeats 4000000
section
variable {E w : World} {L : List SA}
theorem yconf_nil (h : sat E w L) : Calls Tryz.prog 16 #[.pointer none] w fun e w' => e = .returned (.agg #[.int .i64 0, .int .i64 0, .int .i64 0, .int .i64 0]) ∧ sat E w' L := by
  have K := Lib.hid h
  clear h
  go_enter Tryz.func16, Tryz.ntmps16
  go_wp2
  exact bodyPost_ret (v := .agg #[.int .i64 0, .int .i64 0, .int .i64 0, .int .i64 0]) (by simp [results, Tryz.results16, go_sem]) rfl ⟨rfl, K.out.alloc_any _⟩
theorem yconf_calls (b : Nat) (y : YardM) (h : sat E w (yardA b y :: L)) : Calls Tryz.prog 16 #[.pointer (some ⟨b, 0, none⟩)] w fun e w' => e = .returned (.agg #[.int .i64 y.conf.th, .int .i64 y.conf.sl, .int .i64 y.conf.src, .int .i64 y.conf.dl]) ∧ sat E w' (yardA b y :: L) := by
  have K := Lib.hid h
  obtain ⟨bm, gt, gm, p, n, c, vs, h⟩ := yardA_open h
  have a0 := h.rd 0 rfl
  have l0 := h.ltp 0 rfl
  clear h
  go_enter Tryz.func16, Tryz.ntmps16
  go_wp2
  exact bodyPost_ret (v := .agg #[.int .i64 y.conf.th, .int .i64 y.conf.sl, .int .i64 y.conf.src, .int .i64 y.conf.dl]) (by simp [results, Tryz.results16, go_sem, a0]) rfl ⟨rfl, K.out.alloc_any _⟩
end
end Go.Proofs.YtegdhojhnmgjgaaGreat
