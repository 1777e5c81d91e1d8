/- The cells that are shared (package mem): New, Count, Log. Conditions: as many cells as there may be. -/
import Derived.Test.YtdhcomklmckhoaaMem
import Derived.Test.YtdhcomklmckhoaaRowG
import Derived.Test.YtdhcomklmckhoaaCopy
import Derived.Test.YtdhcomklmckhoaaRowKit
import Derived.Lib.SliceRun
namespace Go.Proofs.Ytdhcomklmckhoaa
open Go.RowKit Go.SepYtdhcomklmckhoaa
set_option linter.unusedSimpArgs false
set_option linter.unusedVariables false
set_option maxRecDepth 100000
set_option maxHeartbeats 1000000
attribute [local go_sem] min2_w max2_w min_w max_w
theorem u64InfoM : ∃ q z, Try.prog.info? 31 = some q ∧ q.zero = some z ∧ q.size = 1 ∧ q.bytes = 8 ∧ z.cells = #[.int .u64 0] := ⟨_, _, rfl, rfl, rfl, rfl, rfl⟩
theorem ev_sz (e : Ev) : e.cells.length = 6 := rfl
theorem ev_oneC (e : Ev) : ∀ u ∈ e.cells, u.oneCell' = true := by
  intro u hu
  simp [Ev.cells] at hu
  rcases hu with rfl | rfl | rfl | rfl | rfl | rfl <;> rfl
theorem MemM.new_wf (n : Nat) : (MemM.new n).wf := by
  intro x hx
  obtain ⟨_, rfl⟩ := List.mem_replicate.1 hx
  omega
section
variable {E w : World} {L : List SA}
theorem memnew_calls (n : Nat) (hn : n ≤ 65536) (h : sat E w L) :
    Calls Try.prog 43 #[.int .i64 (n : Int)] w fun e w' => ∃ g, e = .returned (.pointer (some ⟨g, 0, none⟩)) ∧ sat E w' (memA g (MemM.new n) :: L) := by
  have K := Lib.hid h
  clear h
  have v0 : min (n : Int) 65536 = n := by omega
  have v1 : max 0 (n : Int) = n := by omega
  go_enter Try.func43, Try.ntmps43
  go_wp2_with (first | ((with_reducible refine at_make ?_); refine st_makeP 31 8 (.int .u64 0) Try.underlying36 u64InfoM K.out rfl rfl rfl rfl (by omega) (by omega) ?_; intro gm w1 K1; have K2 := Lib.hid K1; clear K1 K; (try clear a0); (try clear l0); (try clear a1); (try clear l1); (try clear a2); (try clear l2); have K := K2; clear K2; have a0 := K.out.rd 0 rfl; have l0 := K.out.ltp 0 rfl) | ((with_reducible refine at_box ?_); refine st_boxf K.out rfl rfl (fun _ => rfl) ?_; intro gb w1 K1; have K2 := Lib.hid K1; clear K1 K; (try clear a0); (try clear l0); (try clear a1); (try clear l1); (try clear a2); (try clear l2); have K := K2; clear K2; have a0 := K.out.rd 0 rfl; have l0 := K.out.ltp 0 rfl; have a1 := K.out.rd 1 rfl; have l1 := K.out.ltp 1 rfl))
  go_ret
  refine ⟨gb, rfl, memA_shut (MemM.new_wf n) (c := gm) (p := none) (q := 0) (r := 0) ?_⟩
  have K1 := sat.row_nil 74 6 (show sat E _ _ from K.out)
  have e : List.replicate n (Value.int .u64 0) = u64s (MemM.new n).cells := by simp [u64s, MemM.new]
  rw [e] at K1
  have hl : (MemM.new n).cells.length = n := by simp [MemM.new]
  rw [hl]
  exact (K1.pick 2 rfl).pick 2 rfl
theorem count_calls (b : Nat) (m : MemM) (h : sat E w (memA b m :: L)) :
    Calls Try.prog 35 #[.pointer (some ⟨b, 0, none⟩)] w fun e w' => e = .returned (.int .i64 (m.log.length : Int)) ∧ w = w' := by
  obtain ⟨hw, c, p, q, r, h⟩ := memA_open h
  obtain ⟨_, ⟨h1, h2, _⟩ | ⟨g, cap, cur, h1, _⟩⟩ := (h.pick 2 rfl).row_open
  · have a0 := h.rd 0 rfl
    simp only [Value.slice.injEq] at h1
    obtain ⟨rfl, rfl, rfl⟩ := h1
    rw [h2]
    clear h h2
    go_enter Try.func35, Try.ntmps35
    go_wp2
    go_ret
    exact ⟨rfl, rfl⟩
  · have a0 := h.rd 0 rfl
    simp only [Value.slice.injEq] at h1
    obtain ⟨rfl, rfl, rfl⟩ := h1
    clear h
    go_enter Try.func35, Try.ntmps35
    go_wp2
    go_ret
    exact ⟨rfl, rfl⟩
theorem eqlE (w : World) (a : Option Addr) (n c : Nat) : (binOp .eql 70 (.slice a n c) (.slice none 0 0)).run Try.prog w = .ok (.bool a.isNone) w := Lib.run_eql_slice_nil w 70 74 a n c 0 0 Try.underlying70
attribute [local go_sem] eqlE
theorem evclone_calls (p : Option Addr) (l : List Ev) (cap : Nat) (hl : l.length ≤ 1000000) (ho : OldS Ev.cells 6 w p l) (h : sat E w L) :
    Calls Try.prog 54 #[.slice p l.length cap] w fun e w' => ∃ p1 c1, e = .returned (.slice p1 l.length c1) ∧ sat E w' (rowA (.slice p1 l.length c1) 74 6 l.length (evCells l) :: L) := by
  have K := Lib.hid h
  have H := Lib.hid ho
  clear h ho
  cases p with
  | none =>
    have hl0 : l = [] := by
      rcases Nat.eq_zero_or_pos l.length with h | h
      · exact List.eq_nil_of_length_eq_zero h
      · obtain ⟨b, off, e, _⟩ := H.out 0 h
        simp at e
    subst hl0
    go_enter Try.func54, Try.ntmps54
    go_wp2
    go_ret
    exact ⟨_, _, rfl, sat.row_nil _ _ K.out⟩
  | some a =>
    have HN := Lib.hid (show ∀ w', Below w.heap.size w w' → 0 < l.length → ∃ b o, some a = some ⟨b, o, none⟩ ∧ ∀ j u, (evCells l)[j]? = some u → w'.cell? ⟨b, o + j, none⟩ = some u from fun w' hb h0 => oldS_new ev_sz (by decide) (H.out.grown hb) h0 (fun x => ⟨_, rfl⟩))
    go_enter Try.func54, Try.ntmps54
    go_wp2_with (have KE := sat.row_empty (e := 74) (size := 6) K.out; (with_reducible refine at_append ?_); refine st_append_part 0 74 6 48 Try.underlying70 evInfo KE rfl rfl (news := evCells l) rfl (fm_len ev_sz l) ?_ (fm_one ev_oneC l) ?_ ?_ ?_; (· exact HN.out _ ((Below.refl _ _).alloc (Nat.le_refl _) _)); (· simp only [maxLen]; omega); (· omega); intro pa na ca w1 K1; simp only [List.set, Nat.zero_add, List.nil_append] at K1; clear KE)
    go_ret
    obtain ⟨hna, _⟩ := Go.SepYtdhcomklmckhoaa.row_len K1
    subst hna
    exact ⟨_, _, rfl, K1⟩
theorem log_calls (b : Nat) (m : MemM) (hl : m.log.length ≤ 1000000) (h : sat E w (memA b m :: L)) :
    Calls Try.prog 36 #[.pointer (some ⟨b, 0, none⟩)] w fun e w' => ∃ p1 c1, e = .returned (.slice p1 m.log.length c1) ∧ sat E w' (rowA (.slice p1 m.log.length c1) 74 6 m.log.length (evCells m.log) :: memA b m :: L) := by
  have h0 := h
  obtain ⟨hw, c, p, q, r, h⟩ := memA_open h
  have h2 := oldS_row ev_sz (h.pick 2 rfl)
  obtain ⟨hq, _⟩ := Go.SepYtdhcomklmckhoaa.row_len (h.pick 2 rfl)
  subst hq
  have a0 := h.rd 0 rfl
  have CL := Lib.hid (evclone_calls p m.log r hl h2 h0)
  clear h0 h hw
  go_enter Try.func36, Try.ntmps36
  go_wp2_with (go_at_call 54; (with_reducible refine CL.out.mono ?_); rintro e w1 ⟨p1, c1, rfl, K1⟩)
  go_ret
  exact ⟨_, _, rfl, K1⟩
end
end Go.Proofs.Ytdhcomklmckhoaa
