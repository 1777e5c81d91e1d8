/- Several texts in one: YardX. Each says ahead of it what it shows. -/
import Derived.Test.YtegdhojhnmgjgaaGreatBc
import Derived.Test.YtegdhojhnmgjgaaGreatB1
set_option linter.unusedVariables false
set_option linter.unusedSimpArgs false
/- Threads that share cells (package yard): all places' words, and what is in them (Words, Values). Conditions: as YardM.ok says. -/
namespace Go.Proofs.YtegdhojhnmgjgaaGreat
open Go.RowKit Go.SepYtegdhojhnmgjgaaGreat
set_option maxRecDepth 100000
set_option maxHeartbeats 4000000
theorem u64InfoY : ∃ q z, Tryz.prog.info? 33 = some q ∧ q.zero = some z ∧ q.size = 1 ∧ q.bytes = 8 ∧ z.cells.size = 1 := ⟨_, _, rfl, rfl, rfl, rfl, rfl⟩
abbrev boxY (g b : Nat) : SA := pt g (.cells #[.pointer (some ⟨b, 0, none⟩)] 28 (0, 0))
def peekN (f : Int → Int) (m : MemM) (n : Nat) : List Int := (List.range n).map (fun (i : Nat) => m.peek (f i))
theorem peekN_succ (f : Int → Int) (m : MemM) (n : Nat) : peekN f m (n + 1) = peekN f m n ++ [m.peek (f n)] := by simp [peekN, List.range_succ]
theorem peekN_len (f : Int → Int) (m : MemM) (n : Nat) : (peekN f m n).length = n := by simp [peekN]
section
variable {E w : World} {L : List SA}
theorem wordcl_calls (gb b : Nat) (y : YardM) (hc : y.conf.ok) (i : Int) (i0 : 0 ≤ i) (i1 : i < y.conf.all) (h : sat E w (boxY gb b :: yardA b y :: L)) :
    Calls Tryz.prog 59 #[.int .i64 i, .pointer (some ⟨gb, 0, none⟩)] w fun e w' => e = .returned (.int .u64 (y.mem.peek (i))) ∧ sat E w' (boxY gb b :: yardA b y :: L) := by
  obtain ⟨bm, gt, gm, p, n, c, vs, h⟩ := yardA_open (h.pick 1 rfl)
  have K := Lib.hid h
  clear h
  have a0 := K.out.rd 0 rfl; have l0 := K.out.ltp 0 rfl; have a6 := K.out.rd 6 rfl; have l6 := K.out.ltp 6 rfl
  have WC := fun w => Lib.hid (word_calls y.conf w i)
  have PK := fun w' (M : List SA) (h : sat E w' (memA bm y.mem :: M)) => Lib.hid (peek_calls bm y.mem (i) h)
  go_enter Tryz.func59, Tryz.ntmps59
  go_wp2_with fail
  refine wp_region_noPanic ?_
  refine wp_region_held_drew (S := (fun w' => (∀ j, w'.cell? ⟨b, j, none⟩ = (YardM.v y bm gt gm (.slice p n c))[j]?) ∧ (∀ j, w'.cell? ⟨gb, j, none⟩ = ([.pointer (some ⟨b, 0, none⟩)] : List Value)[j]?))) (by kernel_rfl) ?_ (fun hHeld => ?_)
  · ((try dsimp only); (exact ⟨sat.rd 0 (by repeat (with_reducible first | exact K.out | apply sat.alloc_any | apply sat.drew | apply sat.drewN)) rfl, sat.rd 6 (by repeat (with_reducible first | exact K.out | apply sat.alloc_any | apply sat.drew | apply sat.drewN)) rfl⟩))
  refine tk 0 (some 4) ?_
  (try simp only [Act.put, p0, p1, p2])
  refine tk 1 (some 5) ?_
  (try simp only [Act.put, p0, p1, p2])
  refine tk 2 (some 6) ?_
  (try simp only [Act.put, p0, p1, p2])
  refine tk 3 (some 7) ?_
  (try simp only [Act.put, p0, p1, p2])
  refine tk 4 (some 8) ?_
  (try simp only [Act.put, p0, p1, p2])
  refine tk 5 (some 9) ?_
  (try simp only [Act.put, p0, p1, p2])
  refine tk 6 (some 10) ?_
  (try simp only [Act.put, p0, p1, p2])
  refine tk 7 (some 11) ?_
  (try simp only [Act.put, p0, p1, p2])
  refine tk 8 (some 12) ?_
  (try simp only [Act.put, p0, p1, p2])
  refine wpAnyH_ready (rs := [9]) (by kernel_rfl) (by simp) ?_
  refine AllReadyH.cons (o := _) rfl (fun kC hkC => ?_) AllReadyH.nil
  go_simp
  (first | (go_at_call 33; (with_reducible refine ((WC _).out).mono ?_); rintro e w1 ⟨rfl, hb⟩; have K1 := sat.grown (show sat _ _ _ from by first | exact K.out | exact K.out.drew) hb; clear hb; have K2 := Lib.hid K1; clear K1 K; (try clear a0); (try clear l0); (try clear f0); (try clear a1); (try clear l1); (try clear f1); (try clear a2); (try clear l2); (try clear f2); (try clear a3); (try clear l3); (try clear f3); (try clear a4); (try clear l4); (try clear f4); (try clear a5); (try clear l5); (try clear f5); have K := K2; clear K2; (try have a0 := K.out.rd 0 rfl); (try have l0 := K.out.ltp 0 rfl); (try have f0 := K.out.fr 0 rfl); (try have a1 := K.out.rd 1 rfl); (try have l1 := K.out.ltp 1 rfl); (try have f1 := K.out.fr 1 rfl); (try have a2 := K.out.rd 2 rfl); (try have l2 := K.out.ltp 2 rfl); (try have f2 := K.out.fr 2 rfl); (try have a3 := K.out.rd 3 rfl); (try have l3 := K.out.ltp 3 rfl); (try have f3 := K.out.fr 3 rfl)) | (go_at_call 32; (with_reducible refine (PK _ _ ((show sat E _ _ from by first | exact K.out | exact K.out.drew).pick 1 rfl)).out.mono ?_); rintro e w1 ⟨rfl, rfl⟩))
  refine shown hkC _ _ (by (try dsimp only); (exact ⟨sat.rd 0 (by repeat (with_reducible first | exact K.out | apply sat.alloc_any | apply sat.drew | apply sat.drewN)) rfl, sat.rd 6 (by repeat (with_reducible first | exact K.out | apply sat.alloc_any | apply sat.drew | apply sat.drewN)) rfl⟩)) ?_; clear hkC kC hHeld; intro hHeld
  (try simp only [Act.put, p0, p1, p2])
  refine wpAnyH_ready (rs := [10]) (by kernel_rfl) (by simp) ?_
  refine AllReadyH.cons (o := _) rfl (fun kC hkC => ?_) AllReadyH.nil
  go_simp
  (first | (go_at_call 33; (with_reducible refine ((WC _).out).mono ?_); rintro e w1 ⟨rfl, hb⟩; have K1 := sat.grown (show sat _ _ _ from by first | exact K.out | exact K.out.drew) hb; clear hb; have K2 := Lib.hid K1; clear K1 K; (try clear a0); (try clear l0); (try clear f0); (try clear a1); (try clear l1); (try clear f1); (try clear a2); (try clear l2); (try clear f2); (try clear a3); (try clear l3); (try clear f3); (try clear a4); (try clear l4); (try clear f4); (try clear a5); (try clear l5); (try clear f5); have K := K2; clear K2; (try have a0 := K.out.rd 0 rfl); (try have l0 := K.out.ltp 0 rfl); (try have f0 := K.out.fr 0 rfl); (try have a1 := K.out.rd 1 rfl); (try have l1 := K.out.ltp 1 rfl); (try have f1 := K.out.fr 1 rfl); (try have a2 := K.out.rd 2 rfl); (try have l2 := K.out.ltp 2 rfl); (try have f2 := K.out.fr 2 rfl); (try have a3 := K.out.rd 3 rfl); (try have l3 := K.out.ltp 3 rfl); (try have f3 := K.out.fr 3 rfl)) | (go_at_call 32; (with_reducible refine (PK _ _ ((show sat E _ _ from by first | exact K.out | exact K.out.drew).pick 1 rfl)).out.mono ?_); rintro e w1 ⟨rfl, rfl⟩))
  refine shown hkC _ _ (by (try dsimp only); (exact ⟨sat.rd 0 (by repeat (with_reducible first | exact K.out | apply sat.alloc_any | apply sat.drew | apply sat.drewN)) rfl, sat.rd 6 (by repeat (with_reducible first | exact K.out | apply sat.alloc_any | apply sat.drew | apply sat.drewN)) rfl⟩)) ?_; clear hkC kC hHeld; intro hHeld
  (try simp only [Act.put, p0, p1, p2])
  refine tk 11 (some 3) ?_
  (try simp only [Act.put, p0, p1, p2])
  refine wpAnyH_done (by kernel_rfl) (NoPanic.normal ?_) _
  all_goals
    go_wp2_with fail
    go_ret
    exact ⟨rfl, (yardA_shut (y := y) (show sat E _ _ from by first | exact K.out | exact K.out.drew)).swap⟩
theorem eachwordcl_calls (gb b : Nat) (y : YardM) (hc : y.conf.ok) (h : sat E w (boxY gb b :: yardA b y :: L)) :
    Calls Tryz.prog 58 #[.int .i64 y.conf.all, .func (.func 59) #[] #[.pointer (some ⟨gb, 0, none⟩)]] w fun e w' => ∃ p1 c1, e = .returned (.slice p1 y.conf.all.toNat c1) ∧ sat E w' (rowA (.slice p1 y.conf.all.toNat c1) 33 1 y.conf.all.toNat (u64s (peekN (fun i => i) y.mem y.conf.all.toNat)) :: boxY gb b :: yardA b y :: L) := by
  have K := Lib.hid h
  clear h
  have CL := fun w' i i0 i1 (M : List SA) (h : sat E w' (boxY gb b :: yardA b y :: M)) => Lib.hid (wordcl_calls gb b y hc i i0 i1 h)
  obtain ⟨al0, al1⟩ := hc.all_bd
  go_enter Tryz.func58, Tryz.ntmps58
  have KE := sat.row_nil 33 1 K.out
  clear K
  have K := Lib.hid KE
  clear KE
  go_wp2_with fail
  go_loopg [8, 5] y.conf.all.toNat (fun gk i v w' => ∃ (n : Nat) (p1 : Option Addr) (c1 : Nat), n + gk = y.conf.all.toNat ∧ v = .slice p1 n c1 ∧ i = .int .i64 n ∧ sat E w' (rowA (.slice p1 n c1) 33 1 n (u64s (peekN (fun i => i) y.mem n)) :: boxY gb b :: yardA b y :: L))
  case atStart => exact ⟨0, _, _, by simp, rfl, rfl, K.out⟩
  case round =>
    obtain ⟨n, p1, c1, hn, rfl, rfl, hs⟩ := hrel
    clear K
    have K := Lib.hid hs
    clear hs
    have HN := Lib.hid hn
    by_cases h1 : (n : Int) < y.conf.all
    · have d1 : decide ((n : Int) < y.conf.all) = true := by simpa using h1
      have CN := fun w' (M : List SA) (h : sat E w' (boxY gb b :: yardA b y :: M)) => CL w' n (by omega) h1 M h
      obtain ⟨gk', rfl⟩ : ∃ g', gk = g' + 1 := ⟨gk - 1, by omega⟩
      have EN := Lib.hid (show u64s (peekN (fun i => i) y.mem (n + 1)) = u64s (peekN (fun i => i) y.mem n) ++ [.int .u64 (y.mem.peek ((n : Int)))] by rw [peekN_succ]; simp [u64s])
      generalize y.mem.peek ((n : Int)) = x at *
      have hn4 : n < 4096 := by omega
      clear hn h1 CL
      go_wp2_with (first | (go_at_call 59; (with_reducible refine (CN _ _ ((K.out.pick 2 rfl).pick 2 rfl)).out.mono ?_); rintro e w1 ⟨rfl, K1⟩; replace K1 := (K1.pick 2 rfl); have K2 := Lib.hid K1; clear K1 K; (try clear a0); (try clear l0); (try clear a1); (try clear l1); (try clear a2); (try clear l2); have K := K2; clear K2) | ((with_reducible refine at_append ?_); refine st_append_new 0 33 1 8 Tryz.underlying67 u64InfoY K.out rfl rfl rfl rfl ?_ Nat.one_pos ?_ ?_ ?_; (· simp [Value.oneCell']); (· simp only [maxLen]; omega); (· omega); intro p2 n2 c2 w1 K1; simp only [List.set] at K1; have K2 := Lib.hid K1; clear K1 K; (try clear a0); (try clear l0); (try clear a1); (try clear l1); (try clear a2); (try clear l2); have K := K2; clear K2))
      go_roundg gk'
      case measure => omega
      case rel => exact ⟨n + 1, p2, c2, by have := HN.out; omega, by obtain ⟨q, _⟩ := Go.SepYtegdhojhnmgjgaaGreat.row_len (show sat E _ (rowA (.slice p2 n2 c2) _ _ _ _ :: _) from K.out); subst q; rfl, by first | (simp; done) | (simp; exact w64 (by omega) (by omega)), by rw [EN.out]; obtain ⟨q, _⟩ := Go.SepYtegdhojhnmgjgaaGreat.row_len (show sat E _ (rowA (.slice p2 n2 c2) _ _ _ _ :: _) from K.out); subst q; exact K.out⟩
    · have d1 : decide ((n : Int) < y.conf.all) = false := by simpa using h1
      have E1 := Lib.hid (show n = y.conf.all.toNat by omega)
      clear hn h1
      go_wp2_with fail
      go_ret
      have q := E1.out
      subst q
      exact ⟨p1, c1, rfl, K.out⟩
theorem yWords_calls (b : Nat) (y : YardM) (hc : y.conf.ok) (h : sat E w (yardA b y :: L)) :
    Calls Tryz.prog 29 #[.pointer (some ⟨b, 0, none⟩)] w fun e w' => ∃ p1 c1, e = .returned (.slice p1 y.conf.all.toNat c1) ∧ sat E w' (rowA (.slice p1 y.conf.all.toNat c1) 33 1 y.conf.all.toNat (u64s (peekN (fun i => i) y.mem y.conf.all.toNat)) :: yardA b y :: L) := by
  have K := Lib.hid h
  clear h
  have CF := fun w' (M : List SA) (h : sat E w' (yardA b y :: M)) => Lib.hid (yconf_calls b y h)
  have AL := fun w => Lib.hid (all_calls y.conf w hc)
  have EC := fun w' gb (M : List SA) (h : sat E w' (boxY gb b :: yardA b y :: M)) => Lib.hid (eachwordcl_calls gb b y hc h)
  go_enter Tryz.func29, Tryz.ntmps29
  go_wp2_with (first | ((with_reducible refine at_box ?_); refine st_boxf K.out rfl rfl (fun _ => rfl) ?_; intro gb w1 K1; have K2 := Lib.hid K1; clear K1 K; (try clear a0); (try clear l0); (try clear a1); (try clear l1); (try clear a2); (try clear l2); have K := K2; clear K2; have a0 := K.out.rd 0 rfl; have l0 := K.out.ltp 0 rfl) | (go_at_call 16; (with_reducible refine ((CF _ _ ((show sat E _ _ from by iterate 6 (try (with_reducible first | exact K.out | apply sat.alloc_any | apply sat.drew | apply sat.drewN))).pick 1 rfl)).out).mono ?_); rintro e w1 ⟨rfl, K1⟩; replace K1 := (show sat E w1 (boxY gb b :: yardA b y :: L) from K1.pick 1 rfl); have K2 := Lib.hid K1; clear K1 K; (try clear a0); (try clear l0); (try clear a1); (try clear l1); (try clear a2); (try clear l2); have K := K2; clear K2; have a0 := K.out.rd 0 rfl; have l0 := K.out.ltp 0 rfl) | (go_at_call 31; (with_reducible refine ((AL _).out).mono ?_); rintro e w1 ⟨rfl, hb⟩; have K1 := sat.grown (by repeat (with_reducible first | exact K.out | apply sat.alloc_any | apply sat.drew | apply sat.drewN)) hb; clear hb; have K2 := Lib.hid K1; clear K1 K; (try clear a0); (try clear l0); (try clear a1); (try clear l1); (try clear a2); (try clear l2); have K := K2; clear K2; have a0 := K.out.rd 0 rfl; have l0 := K.out.ltp 0 rfl) | (go_at_call 58; (with_reducible refine ((EC _ _ _ (show sat E _ _ from by iterate 6 (try (with_reducible first | exact K.out | apply sat.alloc_any | apply sat.drew | apply sat.drewN)))).out).mono ?_); rintro e w1 ⟨p1, c1, rfl, K1⟩; have K2 := Lib.hid K1; clear K1 K; (try clear a0); (try clear l0); (try clear a1); (try clear l1); (try clear a2); (try clear l2); have K := K2; clear K2; have a1 := K.out.rd 1 rfl; have l1 := K.out.ltp 1 rfl))
  go_ret
  exact ⟨p1, c1, rfl, (show sat E _ (rowA _ _ _ _ _ :: yardA b y :: L) from (K.out.pick 1 rfl).drop)⟩
theorem valcl_calls (gb b : Nat) (y : YardM) (hc : y.conf.ok) (i : Int) (i0 : 0 ≤ i) (i1 : i < y.conf.all) (h : sat E w (boxY gb b :: yardA b y :: L)) :
    Calls Tryz.prog 60 #[.int .i64 i, .pointer (some ⟨gb, 0, none⟩)] w fun e w' => e = .returned (.int .u64 (y.mem.peek (y.conf.value i))) ∧ sat E w' (boxY gb b :: yardA b y :: L) := by
  obtain ⟨bm, gt, gm, p, n, c, vs, h⟩ := yardA_open (h.pick 1 rfl)
  have K := Lib.hid h
  clear h
  have a0 := K.out.rd 0 rfl; have l0 := K.out.ltp 0 rfl; have a6 := K.out.rd 6 rfl; have l6 := K.out.ltp 6 rfl
  have WC := fun w => Lib.hid (value_calls y.conf w hc i i0 i1)
  have PK := fun w' (M : List SA) (h : sat E w' (memA bm y.mem :: M)) => Lib.hid (peek_calls bm y.mem (y.conf.value i) h)
  go_enter Tryz.func60, Tryz.ntmps60
  go_wp2_with fail
  refine wp_region_noPanic ?_
  refine wp_region_held_drew (S := (fun w' => (∀ j, w'.cell? ⟨b, j, none⟩ = (YardM.v y bm gt gm (.slice p n c))[j]?) ∧ (∀ j, w'.cell? ⟨gb, j, none⟩ = ([.pointer (some ⟨b, 0, none⟩)] : List Value)[j]?))) (by kernel_rfl) ?_ (fun hHeld => ?_)
  · ((try dsimp only); (exact ⟨sat.rd 0 (by repeat (with_reducible first | exact K.out | apply sat.alloc_any | apply sat.drew | apply sat.drewN)) rfl, sat.rd 6 (by repeat (with_reducible first | exact K.out | apply sat.alloc_any | apply sat.drew | apply sat.drewN)) rfl⟩))
  refine tk 0 (some 4) ?_
  (try simp only [Act.put, p0, p1, p2])
  refine tk 1 (some 5) ?_
  (try simp only [Act.put, p0, p1, p2])
  refine tk 2 (some 6) ?_
  (try simp only [Act.put, p0, p1, p2])
  refine tk 3 (some 7) ?_
  (try simp only [Act.put, p0, p1, p2])
  refine tk 4 (some 8) ?_
  (try simp only [Act.put, p0, p1, p2])
  refine tk 5 (some 9) ?_
  (try simp only [Act.put, p0, p1, p2])
  refine tk 6 (some 10) ?_
  (try simp only [Act.put, p0, p1, p2])
  refine tk 7 (some 11) ?_
  (try simp only [Act.put, p0, p1, p2])
  refine tk 8 (some 12) ?_
  (try simp only [Act.put, p0, p1, p2])
  refine wpAnyH_ready (rs := [9]) (by kernel_rfl) (by simp) ?_
  refine AllReadyH.cons (o := _) rfl (fun kC hkC => ?_) AllReadyH.nil
  go_simp
  (first | (go_at_call 34; (with_reducible refine ((WC _).out).mono ?_); rintro e w1 ⟨rfl, hb⟩; have K1 := sat.grown (show sat _ _ _ from by first | exact K.out | exact K.out.drew) hb; clear hb; have K2 := Lib.hid K1; clear K1 K; (try clear a0); (try clear l0); (try clear f0); (try clear a1); (try clear l1); (try clear f1); (try clear a2); (try clear l2); (try clear f2); (try clear a3); (try clear l3); (try clear f3); (try clear a4); (try clear l4); (try clear f4); (try clear a5); (try clear l5); (try clear f5); have K := K2; clear K2; (try have a0 := K.out.rd 0 rfl); (try have l0 := K.out.ltp 0 rfl); (try have f0 := K.out.fr 0 rfl); (try have a1 := K.out.rd 1 rfl); (try have l1 := K.out.ltp 1 rfl); (try have f1 := K.out.fr 1 rfl); (try have a2 := K.out.rd 2 rfl); (try have l2 := K.out.ltp 2 rfl); (try have f2 := K.out.fr 2 rfl); (try have a3 := K.out.rd 3 rfl); (try have l3 := K.out.ltp 3 rfl); (try have f3 := K.out.fr 3 rfl)) | (go_at_call 32; (with_reducible refine (PK _ _ ((show sat E _ _ from by first | exact K.out | exact K.out.drew).pick 1 rfl)).out.mono ?_); rintro e w1 ⟨rfl, rfl⟩))
  refine shown hkC _ _ (by (try dsimp only); (exact ⟨sat.rd 0 (by repeat (with_reducible first | exact K.out | apply sat.alloc_any | apply sat.drew | apply sat.drewN)) rfl, sat.rd 6 (by repeat (with_reducible first | exact K.out | apply sat.alloc_any | apply sat.drew | apply sat.drewN)) rfl⟩)) ?_; clear hkC kC hHeld; intro hHeld
  (try simp only [Act.put, p0, p1, p2])
  refine wpAnyH_ready (rs := [10]) (by kernel_rfl) (by simp) ?_
  refine AllReadyH.cons (o := _) rfl (fun kC hkC => ?_) AllReadyH.nil
  go_simp
  (first | (go_at_call 34; (with_reducible refine ((WC _).out).mono ?_); rintro e w1 ⟨rfl, hb⟩; have K1 := sat.grown (show sat _ _ _ from by first | exact K.out | exact K.out.drew) hb; clear hb; have K2 := Lib.hid K1; clear K1 K; (try clear a0); (try clear l0); (try clear f0); (try clear a1); (try clear l1); (try clear f1); (try clear a2); (try clear l2); (try clear f2); (try clear a3); (try clear l3); (try clear f3); (try clear a4); (try clear l4); (try clear f4); (try clear a5); (try clear l5); (try clear f5); have K := K2; clear K2; (try have a0 := K.out.rd 0 rfl); (try have l0 := K.out.ltp 0 rfl); (try have f0 := K.out.fr 0 rfl); (try have a1 := K.out.rd 1 rfl); (try have l1 := K.out.ltp 1 rfl); (try have f1 := K.out.fr 1 rfl); (try have a2 := K.out.rd 2 rfl); (try have l2 := K.out.ltp 2 rfl); (try have f2 := K.out.fr 2 rfl); (try have a3 := K.out.rd 3 rfl); (try have l3 := K.out.ltp 3 rfl); (try have f3 := K.out.fr 3 rfl)) | (go_at_call 32; (with_reducible refine (PK _ _ ((show sat E _ _ from by first | exact K.out | exact K.out.drew).pick 1 rfl)).out.mono ?_); rintro e w1 ⟨rfl, rfl⟩))
  refine shown hkC _ _ (by (try dsimp only); (exact ⟨sat.rd 0 (by repeat (with_reducible first | exact K.out | apply sat.alloc_any | apply sat.drew | apply sat.drewN)) rfl, sat.rd 6 (by repeat (with_reducible first | exact K.out | apply sat.alloc_any | apply sat.drew | apply sat.drewN)) rfl⟩)) ?_; clear hkC kC hHeld; intro hHeld
  (try simp only [Act.put, p0, p1, p2])
  refine tk 11 (some 3) ?_
  (try simp only [Act.put, p0, p1, p2])
  refine wpAnyH_done (by kernel_rfl) (NoPanic.normal ?_) _
  all_goals
    go_wp2_with fail
    go_ret
    exact ⟨rfl, (yardA_shut (y := y) (show sat E _ _ from by first | exact K.out | exact K.out.drew)).swap⟩
theorem eachvalcl_calls (gb b : Nat) (y : YardM) (hc : y.conf.ok) (h : sat E w (boxY gb b :: yardA b y :: L)) :
    Calls Tryz.prog 58 #[.int .i64 y.conf.all, .func (.func 60) #[] #[.pointer (some ⟨gb, 0, none⟩)]] w fun e w' => ∃ p1 c1, e = .returned (.slice p1 y.conf.all.toNat c1) ∧ sat E w' (rowA (.slice p1 y.conf.all.toNat c1) 33 1 y.conf.all.toNat (u64s (peekN y.conf.value y.mem y.conf.all.toNat)) :: boxY gb b :: yardA b y :: L) := by
  have K := Lib.hid h
  clear h
  have CL := fun w' i i0 i1 (M : List SA) (h : sat E w' (boxY gb b :: yardA b y :: M)) => Lib.hid (valcl_calls gb b y hc i i0 i1 h)
  obtain ⟨al0, al1⟩ := hc.all_bd
  go_enter Tryz.func58, Tryz.ntmps58
  have KE := sat.row_nil 33 1 K.out
  clear K
  have K := Lib.hid KE
  clear KE
  go_wp2_with fail
  go_loopg [8, 5] y.conf.all.toNat (fun gk i v w' => ∃ (n : Nat) (p1 : Option Addr) (c1 : Nat), n + gk = y.conf.all.toNat ∧ v = .slice p1 n c1 ∧ i = .int .i64 n ∧ sat E w' (rowA (.slice p1 n c1) 33 1 n (u64s (peekN y.conf.value y.mem n)) :: boxY gb b :: yardA b y :: L))
  case atStart => exact ⟨0, _, _, by simp, rfl, rfl, K.out⟩
  case round =>
    obtain ⟨n, p1, c1, hn, rfl, rfl, hs⟩ := hrel
    clear K
    have K := Lib.hid hs
    clear hs
    have HN := Lib.hid hn
    by_cases h1 : (n : Int) < y.conf.all
    · have d1 : decide ((n : Int) < y.conf.all) = true := by simpa using h1
      have CN := fun w' (M : List SA) (h : sat E w' (boxY gb b :: yardA b y :: M)) => CL w' n (by omega) h1 M h
      obtain ⟨gk', rfl⟩ : ∃ g', gk = g' + 1 := ⟨gk - 1, by omega⟩
      have EN := Lib.hid (show u64s (peekN y.conf.value y.mem (n + 1)) = u64s (peekN y.conf.value y.mem n) ++ [.int .u64 (y.mem.peek (y.conf.value (n : Int)))] by rw [peekN_succ]; simp [u64s])
      generalize y.mem.peek (y.conf.value (n : Int)) = x at *
      have hn4 : n < 4096 := by omega
      clear hn h1 CL
      go_wp2_with (first | (go_at_call 60; (with_reducible refine (CN _ _ ((K.out.pick 2 rfl).pick 2 rfl)).out.mono ?_); rintro e w1 ⟨rfl, K1⟩; replace K1 := (K1.pick 2 rfl); have K2 := Lib.hid K1; clear K1 K; (try clear a0); (try clear l0); (try clear a1); (try clear l1); (try clear a2); (try clear l2); have K := K2; clear K2) | ((with_reducible refine at_append ?_); refine st_append_new 0 33 1 8 Tryz.underlying67 u64InfoY K.out rfl rfl rfl rfl ?_ Nat.one_pos ?_ ?_ ?_; (· simp [Value.oneCell']); (· simp only [maxLen]; omega); (· omega); intro p2 n2 c2 w1 K1; simp only [List.set] at K1; have K2 := Lib.hid K1; clear K1 K; (try clear a0); (try clear l0); (try clear a1); (try clear l1); (try clear a2); (try clear l2); have K := K2; clear K2))
      go_roundg gk'
      case measure => omega
      case rel => exact ⟨n + 1, p2, c2, by have := HN.out; omega, by obtain ⟨q, _⟩ := Go.SepYtegdhojhnmgjgaaGreat.row_len (show sat E _ (rowA (.slice p2 n2 c2) _ _ _ _ :: _) from K.out); subst q; rfl, by first | (simp; done) | (simp; exact w64 (by omega) (by omega)), by rw [EN.out]; obtain ⟨q, _⟩ := Go.SepYtegdhojhnmgjgaaGreat.row_len (show sat E _ (rowA (.slice p2 n2 c2) _ _ _ _ :: _) from K.out); subst q; exact K.out⟩
    · have d1 : decide ((n : Int) < y.conf.all) = false := by simpa using h1
      have E1 := Lib.hid (show n = y.conf.all.toNat by omega)
      clear hn h1
      go_wp2_with fail
      go_ret
      have q := E1.out
      subst q
      exact ⟨p1, c1, rfl, K.out⟩
theorem yValues_calls (b : Nat) (y : YardM) (hc : y.conf.ok) (h : sat E w (yardA b y :: L)) :
    Calls Tryz.prog 30 #[.pointer (some ⟨b, 0, none⟩)] w fun e w' => ∃ p1 c1, e = .returned (.slice p1 y.conf.all.toNat c1) ∧ sat E w' (rowA (.slice p1 y.conf.all.toNat c1) 33 1 y.conf.all.toNat (u64s (peekN y.conf.value y.mem y.conf.all.toNat)) :: yardA b y :: L) := by
  have K := Lib.hid h
  clear h
  have CF := fun w' (M : List SA) (h : sat E w' (yardA b y :: M)) => Lib.hid (yconf_calls b y h)
  have AL := fun w => Lib.hid (all_calls y.conf w hc)
  have EC := fun w' gb (M : List SA) (h : sat E w' (boxY gb b :: yardA b y :: M)) => Lib.hid (eachvalcl_calls gb b y hc h)
  go_enter Tryz.func30, Tryz.ntmps30
  go_wp2_with (first | ((with_reducible refine at_box ?_); refine st_boxf K.out rfl rfl (fun _ => rfl) ?_; intro gb w1 K1; have K2 := Lib.hid K1; clear K1 K; (try clear a0); (try clear l0); (try clear a1); (try clear l1); (try clear a2); (try clear l2); have K := K2; clear K2; have a0 := K.out.rd 0 rfl; have l0 := K.out.ltp 0 rfl) | (go_at_call 16; (with_reducible refine ((CF _ _ ((show sat E _ _ from by iterate 6 (try (with_reducible first | exact K.out | apply sat.alloc_any | apply sat.drew | apply sat.drewN))).pick 1 rfl)).out).mono ?_); rintro e w1 ⟨rfl, K1⟩; replace K1 := (show sat E w1 (boxY gb b :: yardA b y :: L) from K1.pick 1 rfl); have K2 := Lib.hid K1; clear K1 K; (try clear a0); (try clear l0); (try clear a1); (try clear l1); (try clear a2); (try clear l2); have K := K2; clear K2; have a0 := K.out.rd 0 rfl; have l0 := K.out.ltp 0 rfl) | (go_at_call 31; (with_reducible refine ((AL _).out).mono ?_); rintro e w1 ⟨rfl, hb⟩; have K1 := sat.grown (by repeat (with_reducible first | exact K.out | apply sat.alloc_any | apply sat.drew | apply sat.drewN)) hb; clear hb; have K2 := Lib.hid K1; clear K1 K; (try clear a0); (try clear l0); (try clear a1); (try clear l1); (try clear a2); (try clear l2); have K := K2; clear K2; have a0 := K.out.rd 0 rfl; have l0 := K.out.ltp 0 rfl) | (go_at_call 58; (with_reducible refine ((EC _ _ _ (show sat E _ _ from by iterate 6 (try (with_reducible first | exact K.out | apply sat.alloc_any | apply sat.drew | apply sat.drewN)))).out).mono ?_); rintro e w1 ⟨p1, c1, rfl, K1⟩; have K2 := Lib.hid K1; clear K1 K; (try clear a0); (try clear l0); (try clear a1); (try clear l1); (try clear a2); (try clear l2); have K := K2; clear K2; have a1 := K.out.rd 1 rfl; have l1 := K.out.ltp 1 rfl))
  go_ret
  exact ⟨p1, c1, rfl, (show sat E _ (rowA _ _ _ _ _ :: yardA b y :: L) from (K.out.pick 1 rfl).drop)⟩
end
end Go.Proofs.YtegdhojhnmgjgaaGreat
