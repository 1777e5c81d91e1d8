/- Threads that share cells (package yard): what is told of a yard (Conf, Deeds, Log). Conditions: as YardM.ok says. -/
import Derived.Test.YtlnfbfnccefcnaaGreatYardB
import Derived.Lib.SliceRun
namespace Go.Proofs.YtlnfbfnccefcnaaGreat
open Go.RowKit Go.SepYtlnfbfnccefcnaaGreat
set_option linter.unusedSimpArgs false
set_option linter.unusedVariables false
set_option maxRecDepth 100000
set_option maxHeartbeats 4000000
theorem deedInfoF : ∃ q z, Tryz.prog.info? 57 = some q ∧ q.zero = some z ∧ q.size = 11 ∧ q.bytes = 88 ∧ z.cells.size = 11 := ⟨_, _, rfl, rfl, rfl, rfl, rfl⟩
theorem dv_len (d : DeedM) : d.v.length = 11 := rfl
theorem dv_one (d : DeedM) : ∀ u ∈ d.v, u.oneCell' = true := by
  intro u hu
  simp at hu
  rcases hu with rfl | rfl | rfl | rfl | rfl | rfl | rfl | rfl | rfl | rfl | rfl <;> rfl
theorem eqlD (w : World) (a : Option Addr) (n c : Nat) : (binOp .eql 43 (.slice a n c) (.slice none 0 0)).run Tryz.prog w = .ok (.bool a.isNone) w := Lib.run_eql_slice_nil w 43 57 a n c 0 0 Tryz.underlying43
attribute [local go_sem] eqlD
section
variable {E w : World} {L : List SA}
theorem ddclone_calls (p : Option Addr) (l : List DeedM) (cap : Nat) (hl : l.length ≤ 1000000) (ho : OldS DeedM.v 11 w p l) (h : sat E w L) :
    Calls Tryz.prog 27 #[.slice p l.length cap] w fun e w' => ∃ p1 c1, e = .returned (.slice p1 l.length c1) ∧ sat E w' (rowA (.slice p1 l.length c1) 57 11 l.length (l.flatMap DeedM.v) :: L) := by
  have K := Lib.hid h
  have H := Lib.hid ho
  clear h ho
  cases p with
  | none =>
    have hl0 : l = [] := by
      rcases Nat.eq_zero_or_pos l.length with h | h
      · exact List.eq_nil_of_length_eq_zero h
      · obtain ⟨b, off, e, _⟩ := H.out 0 h
        simp at e
    subst hl0
    go_enter Tryz.func27, Tryz.ntmps27
    go_wp2
    go_ret
    exact ⟨_, _, rfl, sat.row_nil _ _ K.out⟩
  | some a =>
    have HN := Lib.hid (show ∀ w', Below w.heap.size w w' → 0 < l.length → ∃ b o, some a = some ⟨b, o, none⟩ ∧ ∀ j u, (l.flatMap DeedM.v)[j]? = some u → w'.cell? ⟨b, o + j, none⟩ = some u from fun w' hb h0 => oldS_new dv_len (by decide) (H.out.grown hb) h0 (fun x => ⟨_, rfl⟩))
    go_enter Tryz.func27, Tryz.ntmps27
    go_wp2_with (have KE := sat.row_empty (e := 57) (size := 11) K.out; (with_reducible refine at_append ?_); refine st_append_part 0 57 11 88 Tryz.underlying43 deedInfoF KE rfl rfl (news := l.flatMap DeedM.v) rfl (fm_len dv_len l) ?_ (fm_one dv_one l) ?_ ?_ ?_; (· exact HN.out _ ((Below.refl _ _).alloc (Nat.le_refl _) _)); (· simp only [maxLen]; omega); (· omega); intro pa na ca w1 K1; simp only [List.set, Nat.zero_add, List.nil_append] at K1; clear KE)
    go_ret
    obtain ⟨hna, _⟩ := Go.SepYtlnfbfnccefcnaaGreat.row_len K1
    subst hna
    exact ⟨_, _, rfl, K1⟩
theorem ydeeds_nil (w : World) : Calls Tryz.prog 12 #[.pointer none] w fun e w' => e = .returned (.slice none 0 0) ∧ w = w' := by
  go_enter Tryz.func12, Tryz.ntmps12
  go_wp2
  go_ret
  exact ⟨rfl, rfl⟩
theorem ydeeds_calls (b : Nat) (y : YardM) (hd : y.deeds.length ≤ 1000000) (h : sat E w (yardA b y :: L)) : Calls Tryz.prog 12 #[.pointer (some ⟨b, 0, none⟩)] w fun e w' => ∃ p1 c1, e = .returned (.slice p1 y.deeds.length c1) ∧ sat E w' (rowA (.slice p1 y.deeds.length c1) 57 11 y.deeds.length (y.deeds.flatMap DeedM.v) :: yardA b y :: L) := by
  have h0 := h
  obtain ⟨bm, gt, gm, p, n, c, vs, h⟩ := yardA_open h
  obtain ⟨hn, _⟩ := Go.SepYtlnfbfnccefcnaaGreat.row_len (h.pick 4 rfl)
  subst hn
  have a0 := h.rd 0 rfl
  have CL := Lib.hid (ddclone_calls p y.deeds c hd (oldS_row dv_len (h.pick 4 rfl)) h0)
  clear h0 h
  go_enter Tryz.func12, Tryz.ntmps12
  go_wp2_with (go_at_call 27; (with_reducible refine CL.out.mono ?_); rintro e w1 ⟨p1, c1, rfl, K1⟩)
  go_ret
  exact ⟨_, _, rfl, K1⟩
theorem ylog_nil (w : World) : Calls Tryz.prog 13 #[.pointer none] w fun e w' => e = .returned (.slice none 0 0) ∧ w = w' := by
  go_enter Tryz.func13, Tryz.ntmps13
  go_wp2
  go_ret
  exact ⟨rfl, rfl⟩
theorem ylog_calls (b : Nat) (y : YardM) (hd : y.mem.log.length ≤ 1000000) (h : sat E w (yardA b y :: L)) : Calls Tryz.prog 13 #[.pointer (some ⟨b, 0, none⟩)] w fun e w' => ∃ p1 c1, e = .returned (.slice p1 y.mem.log.length c1) ∧ sat E w' (rowA (.slice p1 y.mem.log.length c1) 93 6 y.mem.log.length (evCells y.mem.log) :: yardA b y :: L) := by
  obtain ⟨bm, gt, gm, p, n, c, vs, h⟩ := yardA_open h
  have K := Lib.hid h
  have a0 := h.rd 0 rfl
  have CL := Lib.hid (log_calls bm y.mem hd (h.pick 1 rfl))
  clear h
  go_enter Tryz.func13, Tryz.ntmps13
  go_wp2_with (go_at_call 28; (with_reducible refine CL.out.mono ?_); rintro e w1 ⟨p1, c1, rfl, K1⟩)
  go_ret
  have q := (((((((K1.pick 0 rfl).pick 6 rfl).pick 6 rfl).pick 6 rfl).pick 6 rfl).pick 5 rfl).pick 6 rfl)
  exact ⟨_, _, rfl, (yardA_shut (y := y) q).swap⟩
end
end Go.Proofs.YtlnfbfnccefcnaaGreat
