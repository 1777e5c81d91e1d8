/- Which calls are over (hist.Over): the closure, slices.Clone and slices.IndexFunc as Over calls them. Conditions: the deeds lie in memory as told; at most a million deeds. -/
import Derived.Test.YthlipcejeeoacabHistB
import Derived.Test.YthlipcejeeoacabAppendV
namespace Go.Proofs.Ythlipcejeeoacab
open Go.RowKit Go.SepYthlipcejeeoacab Go.Maps
set_option linter.unusedSimpArgs false
set_option linter.unusedVariables false
set_option maxRecDepth 100000
set_option maxHeartbeats 4000000
theorem open_calls (d : DeedM) (w : World) : Tells 13 #[deedV d] w (.bool (decide (d.stop < 0))) := by
  have K := Lib.hid (sat.start w)
  go_enter Try.func13, Try.ntmps13
  go_wp2_with (((with_reducible refine at_box ?_); refine st_boxf K.out rfl rfl (fun _ => rfl) ?_; intro gx w1 K1; have K2 := Lib.hid K1; clear K1 K; (try clear a0); (try clear l0); (try clear a1); (try clear l1); (try clear a2); (try clear l2); have K := K2; clear K2; have a0 := K.out.rd 0 rfl; have l0 := K.out.ltp 0 rfl))
  all_goals (go_ret; exact ⟨ret_b (by simp_all <;> omega), K.out.below⟩)
/-- What slices.IndexFunc tells: the first deed that is under way, or -1. -/
def idxP (l : List DeedM) (r : Int) : Prop := (r = -1 ∧ ∀ d ∈ l, 0 ≤ d.stop) ∨ ∃ k : Nat, ∃ hk : k < l.length, r = k ∧ l[k].stop < 0 ∧ ∀ d ∈ l.take k, 0 ≤ d.stop
theorem idxf_calls (p : Option Addr) (l : List DeedM) (cap : Nat) (w : World) (hl : l.length ≤ 1000000) (h : OldD w p l) :
    Calls Try.prog 16 #[.slice p l.length cap, .func (.func 13) #[] #[]] w fun e w' => ∃ r, e = .returned (.int .i64 r) ∧ idxP l r ∧ Below w.heap.size w w' := by
  have K := Lib.hid (sat.start w)
  have H := Lib.hid h
  clear h
  go_enter Try.func16, Try.ntmps16
  go_wp2
  go_loopg [8] l.length (fun gk i w' => ∃ n : Nat, n + gk = l.length ∧ i = .int .i64 n ∧ (∀ d ∈ l.take n, 0 ≤ d.stop) ∧ Below w.heap.size w w')
  case atStart => exact ⟨0, by simp, rfl, by simp, Below.refl _ _⟩
  case round =>
    obtain ⟨n, hn, rfl, hall, hb⟩ := hrel
    have K1 : sat w wr [] := sat.nil hb
    clear K hb
    have K := Lib.hid K1
    clear K1
    have HA := Lib.hid hall
    clear hall
    by_cases hlt : n < l.length
    · have d0 : decide (n < l.length) = true := by simpa using hlt
      obtain ⟨b, off, rfl, hb0, hx0⟩ := H.out n hlt; have hx : ∀ i u, (DeedM.v l[n])[i]? = some u → wr.cell? ⟨b, off + n * 11 + i, none⟩ = some u := fun i u hi => (K.out.below.cell (p := ⟨b, off + n * 11 + i, none⟩) hb0).trans (hx0 i u hi); have y0 : wr.cell? ⟨b, off + n * 11, none⟩ = _ := hx 0 _ rfl; have y1 := hx 1 _ rfl; have y2 := hx 2 _ rfl; have y3 := hx 3 _ rfl; have y4 := hx 4 _ rfl; have y5 := hx 5 _ rfl; have y6 := hx 6 _ rfl; have y7 := hx 7 _ rfl; have y8 := hx 8 _ rfl; have y9 := hx 9 _ rfl; have y10 := hx 10 _ rfl; clear hx hx0 hb0
      have HN := Lib.hid hn
      clear hn
      have C13 := fun w' => Lib.hid (open_calls l[n] w')
      have E1 := Lib.hid (show (∀ d ∈ l.take n, 0 ≤ d.stop) → 0 ≤ l[n].stop → ∀ d ∈ l.take (n + 1), 0 ≤ d.stop from fun h1 h2 d hd => by
        rw [List.take_succ_eq_append_getElem hlt, List.mem_append] at hd
        rcases hd with hd | hd
        · exact h1 d hd
        · rw [List.mem_singleton] at hd; subst hd; exact h2)
      have HX := Lib.hid (show ∃ d, d = l[n] from ⟨_, rfl⟩)
      obtain ⟨gk', rfl⟩ : ∃ g', gk = g' + 1 := ⟨gk - 1, by have := HN.out; omega⟩
      by_cases c0 : l[n].stop < 0
      · have t0 : decide (l[n].stop < 0) = true := by simpa using c0
        have C0 := Lib.hid c0
        clear c0
        have HL := Lib.hid hlt
        go_wp2_with ((go_at_call 13; (with_reducible refine ((C13 _).out).mono ?_); rintro r w1 ⟨rfl, hb⟩; have K1 := sat.grown K.out hb; clear hb; have K2 := Lib.hid K1; clear K1 K; (try clear a0); (try clear l0); (try clear a1); (try clear l1); (try clear a2); (try clear l2); have K := K2; clear K2))
        all_goals (go_ret; exact ⟨_, rfl, .inr ⟨n, HL.out, rfl, C0.out, HA.out⟩, K.out.below⟩)
      · have t0 : decide (l[n].stop < 0) = false := by simpa using c0
        have C0 := Lib.hid (show 0 ≤ l[n].stop from by omega)
        clear c0
        go_wp2_with ((go_at_call 13; (with_reducible refine ((C13 _).out).mono ?_); rintro r w1 ⟨rfl, hb⟩; have K1 := sat.grown K.out hb; clear hb; have K2 := Lib.hid K1; clear K1 K; (try clear a0); (try clear l0); (try clear a1); (try clear l1); (try clear a2); (try clear l2); have K := K2; clear K2))
        go_roundg gk'
        case measure => omega
        case rel => exact ⟨n + 1, by have := HN.out; omega, by simp, E1.out HA.out C0.out, K.out.below⟩
    · have hnl : n = l.length := by omega
      subst hnl
      have d0 : decide (l.length < l.length) = false := by simp
      rw [List.take_length] at HA
      go_wp2
      go_ret
      exact ⟨_, rfl, .inl ⟨rfl, HA.out⟩, K.out.below⟩
end Go.Proofs.Ythlipcejeeoacab
