/- All places at one time (package snap): New and Words. Conditions: a Right layout, a thread of it. -/
import Derived.Test.YtdhcomklmckhoaaSnap
namespace Go.Proofs.Ytdhcomklmckhoaa
open Go.RowKit Go.SepYtdhcomklmckhoaa
set_option linter.unusedSimpArgs false
set_option linter.unusedVariables false
set_option maxRecDepth 100000
set_option maxHeartbeats 1000000
attribute [local go_sem] min2_w max2_w min_w max_w
theorem u64Info1 : ∃ q z, Try.prog.info? 31 = some q ∧ q.zero = some z ∧ q.size = 1 ∧ q.bytes = 8 ∧ z.cells = #[.int .u64 0] := ⟨_, _, rfl, rfl, rfl, rfl, rfl⟩
theorem u64s_rep (n : Nat) : List.replicate n (Value.int .u64 0) = u64s (List.replicate n 0) := by simp [u64s]
section
variable {E w : World} {L : List SA}
theorem snapnew_calls (c : ConfM) (hc : c.ok) (who start : Int) (h : sat E w L) :
    Calls Try.prog 28 #[.agg #[.int .i64 c.th, .int .i64 c.sl, .int .i64 c.src, .int .i64 c.dl], .int .i64 who, .int .i64 start] w (NewA E L (fun g => snapA g (SnapM.new c who start))) := by
  have K := Lib.hid h
  clear h
  have AL := fun w => Lib.hid (all_calls c w hc)
  obtain ⟨al0, al1⟩ := hc.all_bd
  have v0 : IntKind.u64.wrap start = start % 18446744073709551616 := by rw [IntKind.wrap_u64]
  have v1 : IntKind.u64.wrap c.all = c.all := by rw [IntKind.wrap_u64]; omega
  have v2 : (start % 18446744073709551616).tmod c.all = start % 18446744073709551616 % c.all := by rw [Int.tmod_eq_emod_of_nonneg (by omega)]
  have b1 : 0 ≤ start % 18446744073709551616 % c.all := Int.emod_nonneg _ (by omega)
  have b2 : start % 18446744073709551616 % c.all < c.all := Int.emod_lt_of_pos _ (by omega)
  have v3 : IntKind.u64.wrap (start % 18446744073709551616 % c.all) = start % 18446744073709551616 % c.all := by rw [IntKind.wrap_u64]; omega
  have v4 : IntKind.i64.wrap (start % 18446744073709551616 % c.all) = start % 18446744073709551616 % c.all := wi (by omega) (by omega)
  have z1 : (c.all == 0) = false := by simp; omega
  have z2 : ¬ c.all = 0 := by omega
  have lz := Lib.hid (show c.all = (c.all.toNat : Int) by omega)
  have hn : c.all.toNat ≤ 4096 := by omega
  go_enter Try.func28, Try.ntmps28
  go_wp2_with (first | ((with_reducible refine at_box ?_); refine st_boxf K.out rfl rfl (fun _ => rfl) ?_; intro g1 w1 K1; have K2 := Lib.hid K1; clear K1 K; (try clear a0); (try clear l0); (try clear a1); (try clear l1); (try clear a2); (try clear l2); have K := K2; clear K2; have a0 := K.out.rd 0 rfl; have l0 := K.out.ltp 0 rfl))
  refine wp_region_noPanic ?_
  refine wp_region_held_drew (S := (fun w' => (∀ j, w'.cell? ⟨g1, j, none⟩ = ([.int .i64 c.th, .int .i64 c.sl, .int .i64 c.src, .int .i64 c.dl] : List Value)[j]?))) (by kernel_rfl) ?_ (fun hHeld => ?_)
  · ((try dsimp only); (first | exact sat.rd 1 (by repeat (with_reducible first | exact K.out | apply sat.alloc_any | apply sat.drew | apply sat.drewN)) rfl | exact sat.rd 0 (by repeat (with_reducible first | exact K.out | apply sat.alloc_any | apply sat.drew | apply sat.drewN)) rfl | exact sat.rd 2 (by repeat (with_reducible first | exact K.out | apply sat.alloc_any | apply sat.drew | apply sat.drewN)) rfl))
  refine tk 0 (some 7) ?_
  (try simp only [Act.put, p0, p1, p2])
  refine tk 1 (some 8) ?_
  (try simp only [Act.put, p0, p1, p2])
  refine tk 2 (some 9) ?_
  (try simp only [Act.put, p0, p1, p2])
  refine tk 3 (some 10) ?_
  (try simp only [Act.put, p0, p1, p2])
  refine tk 4 (some 11) ?_
  (try simp only [Act.put, p0, p1, p2])
  refine tk 9 (some 16) ?_
  (try simp only [Act.put, p0, p1, p2])
  refine wpAnyH_ready (rs := [5]) (by kernel_rfl) (by simp) ?_
  refine AllReadyH.cons (o := _) rfl (fun kC hkC => ?_) AllReadyH.nil
  go_simp
  (first | (go_at_call 9; (with_reducible refine ((AL _).out).mono ?_); rintro e w1 ⟨rfl, hb⟩; have K1 := sat.grown (show sat _ _ _ from by first | exact K.out | exact K.out.drew) hb; clear hb; have K2 := Lib.hid K1; clear K1 K; (try clear a0); (try clear l0); (try clear f0); (try clear a1); (try clear l1); (try clear f1); (try clear a2); (try clear l2); (try clear f2); (try clear a3); (try clear l3); (try clear f3); (try clear a4); (try clear l4); (try clear f4); (try clear a5); (try clear l5); (try clear f5); have K := K2; clear K2; (try have a0 := K.out.rd 0 rfl); (try have l0 := K.out.ltp 0 rfl); (try have f0 := K.out.fr 0 rfl); (try have a1 := K.out.rd 1 rfl); (try have l1 := K.out.ltp 1 rfl); (try have f1 := K.out.fr 1 rfl); (try have a2 := K.out.rd 2 rfl); (try have l2 := K.out.ltp 2 rfl); (try have f2 := K.out.fr 2 rfl); (try have a3 := K.out.rd 3 rfl); (try have l3 := K.out.ltp 3 rfl); (try have f3 := K.out.fr 3 rfl)) | (refine rg_makeP (E := E) (d := some 18) 31 8 (.int .u64 0) Try.underlying36 u64Info1 (by kernel_rfl) rfl rfl (by first | exact K.out | exact K.out.drew) rfl rfl lz.out lz.out (by omega) (by omega) ?_; intro gm w1 K1; have K2 := Lib.hid K1; clear K1 K; have K := K2; clear K2))
  refine shown hkC _ _ (by (try dsimp only); (first | exact sat.rd 1 (by repeat (with_reducible first | exact K.out | apply sat.alloc_any | apply sat.drew | apply sat.drewN)) rfl | exact sat.rd 0 (by repeat (with_reducible first | exact K.out | apply sat.alloc_any | apply sat.drew | apply sat.drewN)) rfl | exact sat.rd 2 (by repeat (with_reducible first | exact K.out | apply sat.alloc_any | apply sat.drew | apply sat.drewN)) rfl)) ?_; clear hkC kC hHeld; intro hHeld
  (try simp only [Act.put, p0, p1, p2])
  refine tk 6 (some 13) ?_
  (try simp only [Act.put, p0, p1, p2])
  refine tk 7 (some 14) ?_
  (try simp only [Act.put, p0, p1, p2])
  refine tk 8 (some 15) ?_
  (try simp only [Act.put, p0, p1, p2])
  refine wpAnyH_ready (rs := [10]) (by kernel_rfl) (by simp) ?_
  refine AllReadyH.cons (o := _) rfl (fun kC hkC => ?_) AllReadyH.nil
  go_simp
  (first | (go_at_call 9; (with_reducible refine ((AL _).out).mono ?_); rintro e w1 ⟨rfl, hb⟩; have K1 := sat.grown (show sat _ _ _ from by first | exact K.out | exact K.out.drew) hb; clear hb; have K2 := Lib.hid K1; clear K1 K; (try clear a0); (try clear l0); (try clear f0); (try clear a1); (try clear l1); (try clear f1); (try clear a2); (try clear l2); (try clear f2); (try clear a3); (try clear l3); (try clear f3); (try clear a4); (try clear l4); (try clear f4); (try clear a5); (try clear l5); (try clear f5); have K := K2; clear K2; (try have a0 := K.out.rd 0 rfl); (try have l0 := K.out.ltp 0 rfl); (try have f0 := K.out.fr 0 rfl); (try have a1 := K.out.rd 1 rfl); (try have l1 := K.out.ltp 1 rfl); (try have f1 := K.out.fr 1 rfl); (try have a2 := K.out.rd 2 rfl); (try have l2 := K.out.ltp 2 rfl); (try have f2 := K.out.fr 2 rfl); (try have a3 := K.out.rd 3 rfl); (try have l3 := K.out.ltp 3 rfl); (try have f3 := K.out.fr 3 rfl)) | (refine rg_makeP (E := E) (d := some 18) 31 8 (.int .u64 0) Try.underlying36 u64Info1 (by kernel_rfl) rfl rfl (by first | exact K.out | exact K.out.drew) rfl rfl lz.out lz.out (by omega) (by omega) ?_; intro gm w1 K1; have K2 := Lib.hid K1; clear K1 K; have K := K2; clear K2))
  refine shown hkC _ _ (by (try dsimp only); (first | exact sat.rd 1 (by repeat (with_reducible first | exact K.out | apply sat.alloc_any | apply sat.drew | apply sat.drewN)) rfl | exact sat.rd 0 (by repeat (with_reducible first | exact K.out | apply sat.alloc_any | apply sat.drew | apply sat.drewN)) rfl | exact sat.rd 2 (by repeat (with_reducible first | exact K.out | apply sat.alloc_any | apply sat.drew | apply sat.drewN)) rfl)) ?_; clear hkC kC hHeld; intro hHeld
  (try simp only [Act.put, p0, p1, p2])
  refine wpAnyH_ready (rs := [11]) (by kernel_rfl) (by simp) ?_
  refine AllReadyH.cons (o := _) rfl (fun kC hkC => ?_) AllReadyH.nil
  (first | (go_at_call 9; (with_reducible refine ((AL _).out).mono ?_); rintro e w1 ⟨rfl, hb⟩; have K1 := sat.grown (show sat _ _ _ from by first | exact K.out | exact K.out.drew) hb; clear hb; have K2 := Lib.hid K1; clear K1 K; (try clear a0); (try clear l0); (try clear f0); (try clear a1); (try clear l1); (try clear f1); (try clear a2); (try clear l2); (try clear f2); (try clear a3); (try clear l3); (try clear f3); (try clear a4); (try clear l4); (try clear f4); (try clear a5); (try clear l5); (try clear f5); have K := K2; clear K2; (try have a0 := K.out.rd 0 rfl); (try have l0 := K.out.ltp 0 rfl); (try have f0 := K.out.fr 0 rfl); (try have a1 := K.out.rd 1 rfl); (try have l1 := K.out.ltp 1 rfl); (try have f1 := K.out.fr 1 rfl); (try have a2 := K.out.rd 2 rfl); (try have l2 := K.out.ltp 2 rfl); (try have f2 := K.out.fr 2 rfl); (try have a3 := K.out.rd 3 rfl); (try have l3 := K.out.ltp 3 rfl); (try have f3 := K.out.fr 3 rfl)) | (refine rg_makeP (E := E) (d := some 18) 31 8 (.int .u64 0) Try.underlying36 u64Info1 (by kernel_rfl) rfl rfl (by first | exact K.out | exact K.out.drew) rfl rfl lz.out lz.out (by omega) (by omega) ?_; intro gm w1 K1; have K2 := Lib.hid K1; clear K1 K; have K := K2; clear K2))
  refine shown hkC _ _ (by (try dsimp only); (first | exact sat.rd 1 (by repeat (with_reducible first | exact K.out | apply sat.alloc_any | apply sat.drew | apply sat.drewN)) rfl | exact sat.rd 0 (by repeat (with_reducible first | exact K.out | apply sat.alloc_any | apply sat.drew | apply sat.drewN)) rfl | exact sat.rd 2 (by repeat (with_reducible first | exact K.out | apply sat.alloc_any | apply sat.drew | apply sat.drewN)) rfl)) ?_; clear hkC kC hHeld; intro hHeld
  (try simp only [Act.put, p0, p1, p2])
  refine tk 12 (some 19) ?_
  (try simp only [Act.put, p0, p1, p2])
  refine wpAnyH_ready (rs := [13]) (by kernel_rfl) (by simp) ?_
  refine AllReadyH.cons (o := _) rfl (fun kC hkC => ?_) AllReadyH.nil
  (refine rg_box (E := E) (d := some 20) (by kernel_rfl) rfl rfl (by first | exact K.out | exact K.out.drew) rfl rfl (fun _ => rfl) ?_; intro gx w1 K1; have K2 := Lib.hid K1; clear K1 K; (try clear a0); (try clear l0); (try clear f0); (try clear a1); (try clear l1); (try clear f1); (try clear a2); (try clear l2); (try clear f2); (try clear a3); (try clear l3); (try clear f3); (try clear a4); (try clear l4); (try clear f4); (try clear a5); (try clear l5); (try clear f5); have K := K2; clear K2; (try have a0 := K.out.rd 0 rfl); (try have l0 := K.out.ltp 0 rfl); (try have f0 := K.out.fr 0 rfl); (try have a1 := K.out.rd 1 rfl); (try have l1 := K.out.ltp 1 rfl); (try have f1 := K.out.fr 1 rfl); (try have a2 := K.out.rd 2 rfl); (try have l2 := K.out.ltp 2 rfl); (try have f2 := K.out.fr 2 rfl); (try have a3 := K.out.rd 3 rfl); (try have l3 := K.out.ltp 3 rfl); (try have f3 := K.out.fr 3 rfl))
  refine shown hkC _ _ (by (try dsimp only); (first | exact sat.rd 1 (by repeat (with_reducible first | exact K.out | apply sat.alloc_any | apply sat.drew | apply sat.drewN)) rfl | exact sat.rd 0 (by repeat (with_reducible first | exact K.out | apply sat.alloc_any | apply sat.drew | apply sat.drewN)) rfl | exact sat.rd 2 (by repeat (with_reducible first | exact K.out | apply sat.alloc_any | apply sat.drew | apply sat.drewN)) rfl)) ?_; clear hkC kC hHeld; intro hHeld
  (try simp only [Act.put, p0, p1, p2])
  refine tk 14 (some 6) ?_
  (try simp only [Act.put, p0, p1, p2])
  refine wpAnyH_done (by kernel_rfl) (NoPanic.normal ?_) _
  all_goals
    go_wp2
    go_ret
    refine ⟨gx, rfl, snapA_shut (g := gm) (s := SnapM.new c who start) ?_⟩
    have K1 := (K.out.pick 2 rfl).drop
    rw [u64s_rep] at K1
    simp only [snapP, SnapM.v, SnapM.new, List.length_replicate]
    exact K1
theorem u64s_one (l : List Int) : ∀ v ∈ u64s l, v.oneCell' = true := by
  intro v hv
  obtain ⟨x, _, rfl⟩ := List.mem_map.1 hv
  rfl
/-- The words that a Snap read, copied. -/
theorem swords_calls (b : Nat) (s : SnapM) (hp : s.phase = 1) (hl : s.words.length ≤ 4096) (h : sat E w (snapA b s :: L)) :
    Calls Try.prog 31 #[.pointer (some ⟨b, 0, none⟩)] w fun e w' => ∃ g, e = .returned (.slice (some ⟨g, 0, none⟩) s.words.length s.words.length) ∧ sat E w' (u64A g s.words :: snapA b s :: L) := by
  obtain ⟨g0, h⟩ := snapA_open h
  have K := Lib.hid h
  clear h
  have a0 := K.out.rd 0 rfl; have l0 := K.out.ltp 0 rfl; have a1 := K.out.rd 1 rfl; have l1 := K.out.ltp 1 rfl
  have c0 : (s.phase == 1) = true := by simpa using hp
  have hlu : (u64s s.words).length = s.words.length := by simp [u64s]
  have hone := u64s_one s.words
  have HC := Lib.hid hlu
  clear hp hlu
  go_enter Try.func31, Try.ntmps31
  go_wp2_with (first | ((with_reducible refine at_make ?_); refine st_makeP 31 8 (.int .u64 0) Try.underlying36 u64Info1 K.out rfl rfl rfl rfl (by omega) (by omega) ?_; intro gm w1 K1; have K2 := Lib.hid K1; clear K1 K; (try clear a0); (try clear l0); (try clear a1); (try clear l1); (try clear a2); (try clear l2); have K := K2; clear K2; have a0 := K.out.rd 0 rfl; have l0 := K.out.ltp 0 rfl; have a1 := K.out.rd 1 rfl; have l1 := K.out.ltp 1 rfl; have a2 := K.out.rd 2 rfl; have l2 := K.out.ltp 2 rfl) | ((with_reducible refine at_copy ?_); refine st_copy 0 31 K.out (u64s s.words) rfl rfl rfl Try.underlying36 (by kernel_rfl) (by rw [HC.out]; exact (Nat.min_self _).symm) (by rw [HC.out, List.length_replicate]) (fun j v hj => by rw [Addr.add_lit, Nat.zero_add, a2, hj]) hone ?_; intro w1 K1; simp only [List.set] at K1; have K2 := Lib.hid K1; clear K1 K; (try clear a0); (try clear l0); (try clear a1); (try clear l1); (try clear a2); (try clear l2); have K := K2; clear K2; have a0 := K.out.rd 0 rfl; have l0 := K.out.ltp 0 rfl; have a1 := K.out.rd 1 rfl; have l1 := K.out.ltp 1 rfl; have a2 := K.out.rd 2 rfl; have l2 := K.out.ltp 2 rfl))
  go_ret
  exact ⟨gm, rfl, sat.swap (snapA_shut (g := g0) (K.out.pick 1 rfl |>.pick 2 rfl |>.pick 1 rfl))⟩
end
end Go.Proofs.Ytdhcomklmckhoaa
