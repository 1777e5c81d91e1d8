/- Of whatever is in the places, where nobody else does anything: what stands at the end, or nothing (GetAlone answers true at every input). No condition beyond the row's own. -/
import Derived.Test.YtlnfbfnccefcnaaGetHead
namespace Go.Proofs.Ytlnfbfnccefcnaa
open Go.RowKit Go.SepYtlnfbfnccefcnaa
set_option linter.unusedSimpArgs false
set_option linter.unusedVariables false
set_option maxRecDepth 100000
set_option maxHeartbeats 4000000
theorem cellsM_wf {c : ConfM} {l : List ThingM} (hwf : ∀ t ∈ l, t.wf) : ∀ n, (cellsN c l n).wf
  | 0 => MemM.new_wf _
  | n + 1 => by
    unfold cellsN
    refine MemM.touch_wf (MemM.touch_wf (cellsM_wf hwf n) _ _ _ _ _ (pack_bd _)) _ _ _ _ _ ?_
    rw [List.getD_eq_getElem?_getD]
    cases h : l[n]? with
    | none => exact ⟨by decide, by decide⟩
    | some t => exact hwf t (List.mem_of_getElem? h)
theorem cellsM_clen {c : ConfM} (hc : c.ok) (l : List ThingM) : ((cellsM c l).cells.length : Int) = c.cells := by
  have := cells_bd hc
  unfold cellsM
  rw [cellsM_len]
  omega
def thingK : List FK := [.int .i64, .int .i64, .int .i64, .int .i64, .bool, .int .u64]
theorem thing_row (r : List Value) (h : okAll thingK r) : ∃ t : ThingM, r = t.v ∧ t.wf := by
  unfold thingK at h
  obtain ⟨n0, v0, rfl, h0, k0⟩ := okAll_int h
  obtain ⟨n1, v1, rfl, h1, k1⟩ := okAll_int k0
  obtain ⟨n2, v2, rfl, h2, k2⟩ := okAll_int k1
  obtain ⟨n3, v3, rfl, h3, k3⟩ := okAll_int k2
  obtain ⟨n4, v4, rfl, k4⟩ := okAll_bool k3
  obtain ⟨n5, v5, rfl, h5, k5⟩ := okAll_int k4
  obtain rfl := okAll_nil k5
  exact ⟨⟨n0, n1, n2, n3, n4, n5⟩, rfl, lit_u64 h5⟩
theorem oldT_of {W : World} {a : Option Addr} {len cap : Nat} {rows : List (List Value)} (h : RowsAt W thingK a len cap rows) :
    ∃ l : List ThingM, l.length = len ∧ (∀ e ∈ l, e.wf) ∧ OldS ThingM.v 6 W a l :=
  oldS_of ThingM.v ThingM.wf h thing_row (fun v => ⟨_, rfl⟩)
theorem oldU_row1 {E w : World} {L : List SA} {p : Option Addr} {n c m : Nat} {l : List Int} (h : sat E w (rowA (.slice p n c) 43 1 m (u64s l) :: L)) : OldU w p l := by
  intro j hj
  obtain ⟨h0, ⟨h1, h2, _⟩ | ⟨g, cap, cur, h1, _, _, _, _, h5⟩⟩ := h.row_open
  · simp [u64s] at h0; omega
  · simp at h1
    obtain ⟨rfl, rfl, rfl⟩ := h1
    refine ⟨g, 0, rfl, h5.lt, ?_⟩
    rw [Nat.zero_add]
    exact h.row_rd 0 rfl j _ (by simp [u64s, hj])
theorem row_call {E w : World} {L : List SA} {p : Option Addr} {n c : Nat} {l : List Int} (hl : l.length = n) (hn : n ≤ 5000) (hw : wfs l) (h : sat E w (rowA (.slice p n c) 43 1 n (u64s l) :: L)) :
    Calls Try.prog 16 #[.slice p n c] w fun e w' => ∃ p1 c1, e = .returned (.slice p1 (orderM l).length c1) ∧ sat E w' (rowA (.slice p1 (orderM l).length c1) 3 1 (orderM l).length ((orderM l).map (Value.int .i64)) :: rowA (.slice p n c) 43 1 n (u64s l) :: L) := by
  subst hl
  refine (row_calls l p c w (oldU_row1 h) hw (by omega)).mono ?_
  rintro e w' ⟨v, rfl, K⟩
  obtain ⟨p1, c1, rfl⟩ := Go.SepYtlnfbfnccefcnaa.row_any K
  exact ⟨p1, c1, rfl, h.join K⟩
/-- A thread of a layout out of any number. -/
def whoS (c : ConfM) (who : Int) : Int := who % 65536 % c.th
theorem whoS_bd {c : ConfM} (hc : c.ok) (who : Int) : 0 ≤ whoS c who ∧ whoS c who < c.th := by
  have := hc.th1
  unfold whoS
  exact ⟨Int.emod_nonneg _ (by omega), Int.emod_lt_of_pos _ (by omega)⟩
/-- How many steps a get by itself takes. -/
def aloneN (c : ConfM) (m : MemM) (fin : Int) : Nat := if atM (wordsM c m) fin < 0 then 2 * c.all.toNat else 2 * c.all.toNat + 5
theorem alone_ends {c : ConfM} (hc : c.ok) {wh fin st : Int} (w0 : 0 ≤ wh) (w1 : wh < c.th) {m : MemM} (hw : m.wf) (hl : (m.cells.length : Int) = c.cells) (hlog : m.log.length ≤ 100000) : Ends (GetM.new c wh fin st) m (aloneN c m fin) := by
  have hal := hc.all_bd
  have ha := GetM.new_all hc w0 w1 fin st hw hl
  have h := get_alone hc (g := GetM.new c wh fin st) rfl w0 w1 (GetM.new_fresh _ _ _ _) hl
  have e : (GetM.new c wh fin st).fin = fin := rfl
  unfold aloneN
  split
  · rename_i hn
    obtain ⟨h1, h2, _⟩ := h.none hn
    exact ⟨ha, by omega, hlog, h1, by rw [h2]; decide⟩
  · rename_i hn
    obtain ⟨h1, h2, _⟩ := h.some (by rw [e]; omega)
    exact ⟨ha, by omega, hlog, h1, by rw [h2]; decide⟩
theorem cellsN_rest {c : ConfM} (hc : c.ok) (l : List ThingM) (i : Int) (hi : 2 * c.all ≤ i) : ∀ n : Nat, n ≤ c.all.toNat → getI (cellsN c l n).cells i = 0
  | 0, _ => by
    show getI (List.replicate _ 0) i = 0
    unfold getI
    rw [List.getD_eq_getElem?_getD, List.getElem?_replicate]
    split <;> rfl
  | n + 1, hn => by
    have hal := hc.all_bd
    have ih := cellsN_rest hc l i hi n (by omega)
    have hcl : c.all ≤ c.cells := by unfold ConfM.cells; have := hc.th1; omega
    have hcl2 : c.value n < c.cells := by unfold ConfM.cells ConfM.value; have := hc.th1; omega
    have hb := cells_bd hc
    have hlen : ((cellsN c l n).cells.length : Int) = c.cells := by rw [cellsM_len]; omega
    unfold cellsN
    rw [touch_in_cells (has_of (c := c) (by rw [MemM.touch_length]; exact hlen) (by unfold ConfM.value; omega) hcl2), getI_setI_ne _ _ _ _ (by unfold ConfM.value; omega) (by omega) (by unfold ConfM.value; omega),
      touch_in_cells (has_of hlen (by omega) (by omega)), getI_setI_ne _ _ _ _ (by omega) (by omega) (by omega)]
    exact ih
theorem order_ends {W : List Int} {fin : Int} (h : 0 ≤ atM W fin) : ∃ a, (orderM W)[0]? = some a ∧ 0 < (orderM W).length ∧ (fin = 0 → a = atM W fin) ∧ (fin ≠ 0 → (orderM W)[(orderM W).length - 1]? = some (atM W fin)) := by
  rcases atM_range W fin with ⟨e, e1⟩ | ⟨hne, _⟩
  · omega
  · cases hO : orderM W with
    | nil => exact (hne hO).elim
    | cons a l =>
      refine ⟨a, rfl, by simp, fun h0 => ?_, fun h0 => ?_⟩
      · subst h0; exact (atM_left hO).symm
      · obtain ⟨l', b, hl'⟩ := snoc_of (a :: l) (by simp)
        rw [hl'] at hO
        rw [atM_right h0 hO, hl']
        simp
theorem getAlone_main (t s who st : Int) (right : Bool) (p : Option Addr) (l : List ThingM) (cap : Nat) (E : World) (hwf : ∀ x ∈ l, x.wf) (ho : OldS ThingM.v 6 E p l) :
    Calls Try.prog 7 #[.int .i64 t, .int .i64 s, .int .i64 who, .int .i64 st, .bool right, .slice p l.length cap] E fun e w' => e = .returned (.bool true) ∧ Below E.heap.size E w' := by
  have K := Lib.hid (sat.start E)
  have HD := fun w => Lib.hid (head11_calls w)
  by_cases h64 : (l.length : Int) > 64
  · have c0 : decide ((l.length : Int) > 64) = true := by simpa using h64
    go_enter Try.func7, Try.ntmps7
    go_wp2_with (first | (go_at_call 13; (with_reducible refine ((HD _).out).mono ?_); rintro e w1 ⟨rfl, hb⟩; have K1 := sat.grown (by repeat (with_reducible first | exact K.out | apply sat.alloc_any | apply sat.drew | apply sat.drewN)) hb; clear hb; have K2 := Lib.hid K1; clear K1 K; (try clear a0); (try clear l0); (try clear a1); (try clear l1); (try clear a2); (try clear l2); have K := K2; clear K2))
    go_ret
    exact ⟨rfl, K.out.below⟩
  · have c0 : decide ((l.length : Int) > 64) = false := by simpa using h64
    have CF := fun w => Lib.hid (conf_calls t s 0 0 w)
    have hc := confS_ok t s 0 0
    have hsm := confS_small t s 0 0
    generalize confS t s 0 0 = c at *
    have H := Lib.hid ho
    have HC := Lib.hid hc
    have CE := fun w' (M : List SA) (h : sat E w' M) => Lib.hid (cells_calls c hc p l cap (by omega) hwf ho h)
    have hw := cellsM_wf (c := c) hwf (min c.all.toNat l.length)
    have hlog : (cellsM c l).log.length ≤ 200 := by have := cellsN_log c l (min c.all.toNat l.length); unfold cellsM; omega
    have hlen := cellsM_clen hc l
    rw [show cellsN c l (min c.all.toNat l.length) = cellsM c l from rfl] at hw
    have ea1 := and16 who
    obtain ⟨wh0, wh1⟩ := whoS_bd hc who
    have ea2 : Int.tmod (who % 65536) c.th = whoS c who := by unfold whoS; rw [Int.tmod_eq_emod_of_nonneg (by omega)]
    have z1 : (c.th == 0) = false := by have := hc.th1; simp; omega
    have z2 : ¬ c.th = 0 := by have := hc.th1; omega
    have z3 : IntKind.i64.wrap (whoS c who) = whoS c who := wi (by have := hc.th2; omega) (by have := hc.th2; omega)
    have WD := fun w' (gm : Nat) (M : List SA) (h : sat E w' (memA gm (cellsM c l) :: M)) => Lib.hid (words_calls c hc gm (cellsM c l) h)
    have GN := fun w' (M : List SA) (h : sat E w' M) => Lib.hid (getnew_calls c hc (whoS c who) (endM right) st h)
    have EN := fun w => Lib.hid (end_calls right w)
    have HP := Lib.hid (show (cellsM c l).peek (c.hazard (whoS c who)) = 0 from by
      have hb := (cellBd hc).hazard _ wh0 wh1
      rw [peek_in (has_of hlen hb.1 hb.2)]
      exact cellsN_rest hc l _ (by unfold ConfM.hazard; omega) _ (by omega))
    clear ho
    generalize whoS c who = wh at *
    generalize cellsM c l = m at *
    go_enter Try.func7, Try.ntmps7
    go_wp2_with (first | (go_at_call 13; (with_reducible refine ((HD _).out).mono ?_); rintro e w1 ⟨rfl, hb⟩; have K1 := sat.grown (by repeat (with_reducible first | exact K.out | apply sat.alloc_any | apply sat.drew | apply sat.drewN)) hb; clear hb; have K2 := Lib.hid K1; clear K1 K; (try clear a0); (try clear l0); (try clear a1); (try clear l1); (try clear a2); (try clear l2); have K := K2; clear K2) | (go_at_call 14; (with_reducible refine ((CF _).out).mono ?_); rintro e w1 ⟨rfl, hb⟩; have K1 := sat.grown (by repeat (with_reducible first | exact K.out | apply sat.alloc_any | apply sat.drew | apply sat.drewN)) hb; clear hb; have K2 := Lib.hid K1; clear K1 K; (try clear a0); (try clear l0); (try clear a1); (try clear l1); (try clear a2); (try clear l2); have K := K2; clear K2))
    have K1 := K.out.alloc (.cells #[.int .i64 c.th, .int .i64 c.sl, .int .i64 c.src, .int .i64 c.dl] 27)
    obtain ⟨gc, hgc⟩ : ∃ g, g = w1.heap.size := ⟨_, rfl⟩
    rw [← hgc] at K1 ⊢
    clear K hgc
    have K := Lib.hid K1
    clear K1
    have a0 := K.out.rd 0 rfl; have l0 := K.out.ltp 0 rfl
    have RC := fun w' (q : Option Addr) (k : Nat) (M : List SA) (h : sat E w' (rowA (.slice q c.all.toNat k) 43 1 c.all.toNat (u64s (wordsM c m)) :: M)) => Lib.hid (row_call (wordsM_len c m) (by have := hc.all_bd; omega) (wordsM_wf c hw) h)
    have CT := fun w' (gm : Nat) (M : List SA) (h : sat E w' (memA gm m :: M)) => Lib.hid (count_calls gm m h)
    have EE := Lib.hid (alone_ends hc (fin := endM right) (st := st) wh0 wh1 hw hlen (by omega))
    have AL := Lib.hid (get_alone hc (g := GetM.new c wh (endM right) st) rfl wh0 wh1 (GetM.new_fresh _ _ _ _) hlen)
    obtain ⟨W, hW⟩ : ∃ W, W = wordsM c m := ⟨_, rfl⟩
    have HW := Lib.hid hW
    rw [← hW] at WD RC
    clear hW
    go_wp2_with (first | (go_at_call 15; (with_reducible refine ((CE _ _ (show sat E _ _ from by iterate 6 (try (with_reducible first | exact K.out | apply sat.alloc_any | apply sat.drew | apply sat.drewN)))).out).mono ?_); rintro e w1 ⟨gm, rfl, K1⟩; have K2 := Lib.hid K1; clear K1 K; (try clear a0); (try clear l0); (try clear a1); (try clear l1); (try clear a2); (try clear l2); have K := K2; clear K2; have a1 := K.out.rd 1 rfl; have l1 := K.out.ltp 1 rfl) | (go_at_call 17; (with_reducible refine ((WD _ gm _ (show sat E _ _ from by iterate 6 (try (with_reducible first | exact K.out | apply sat.alloc_any | apply sat.drew | apply sat.drewN)))).out).mono ?_); rintro e w1 ⟨p1, c1, rfl, K1⟩; have K2 := Lib.hid K1; clear K1 K; (try clear a0); (try clear l0); (try clear a1); (try clear l1); (try clear a2); (try clear l2); have K := K2; clear K2; have a2 := K.out.rd 2 rfl; have l2 := K.out.ltp 2 rfl) | (go_at_call 16; (with_reducible refine ((RC _ p1 c1 _ (show sat E _ _ from by iterate 6 (try (with_reducible first | exact K.out | apply sat.alloc_any | apply sat.drew | apply sat.drewN)))).out).mono ?_); rintro e w1 ⟨p2, c2, rfl, K1⟩; have K2 := Lib.hid K1; clear K1 K; (try clear a0); (try clear l0); (try clear a1); (try clear l1); (try clear a2); (try clear l2); have K := K2; clear K2; have a3 := K.out.rd 3 rfl; have l3 := K.out.ltp 3 rfl) | (go_at_call 35; (with_reducible refine (CT _ gm _ (K.out.pick 2 rfl)).out.mono ?_); rintro e w1 ⟨rfl, rfl⟩))
    refine wp_region_noPanic ?_
    refine wp_region_held_drew (S := (fun w' => (∀ j, w'.cell? ⟨gc, j, none⟩ = ([.int .i64 c.th, .int .i64 c.sl, .int .i64 c.src, .int .i64 c.dl] : List Value)[j]?))) (by kernel_rfl) ?_ (fun hHeld => ?_)
    · ((try dsimp only); (first | exact sat.rd 3 (by repeat (with_reducible first | exact K.out | apply sat.alloc_any | apply sat.drew | apply sat.drewN)) rfl | exact sat.rd 4 (by repeat (with_reducible first | exact K.out | apply sat.alloc_any | apply sat.drew | apply sat.drewN)) rfl))
    refine tk 0 (some 46) ?_
    (try simp only [Act.put, p0, p1, p2])
    refine tk 1 (some 47) ?_
    (try simp only [Act.put, p0, p1, p2])
    refine tk 2 (some 48) ?_
    (try simp only [Act.put, p0, p1, p2])
    refine tk 4 (some 50) ?_
    (try simp only [Act.put, p0, p1, p2])
    refine wpAnyH_ready (rs := [3]) (by kernel_rfl) (by simp) ?_
    refine AllReadyH.cons (o := _) rfl (fun kC hkC => ?_) AllReadyH.nil
    go_simp
    (first | (go_at_call 19; (with_reducible refine ((EN _).out).mono ?_); rintro e w1 ⟨rfl, hb⟩; have K1 := sat.grown (show sat _ _ _ from by first | exact K.out | exact K.out.drew) hb; clear hb; have K2 := Lib.hid K1; clear K1 K; (try clear a0); (try clear l0); (try clear f0); (try clear a1); (try clear l1); (try clear f1); (try clear a2); (try clear l2); (try clear f2); (try clear a3); (try clear l3); (try clear f3); (try clear a4); (try clear l4); (try clear f4); (try clear a5); (try clear l5); (try clear f5); have K := K2; clear K2; (try have a0 := K.out.rd 0 rfl); (try have l0 := K.out.ltp 0 rfl); (try have f0 := K.out.fr 0 rfl); (try have a1 := K.out.rd 1 rfl); (try have l1 := K.out.ltp 1 rfl); (try have f1 := K.out.fr 1 rfl); (try have a2 := K.out.rd 2 rfl); (try have l2 := K.out.ltp 2 rfl); (try have f2 := K.out.fr 2 rfl); (try have a3 := K.out.rd 3 rfl); (try have l3 := K.out.ltp 3 rfl); (try have f3 := K.out.fr 3 rfl)) | (go_at_call 18; (with_reducible refine ((GN _ _ (show sat E _ _ from by first | exact K.out | exact K.out.drew)).out).mono ?_); rintro e w1 ⟨gg, rfl, K1⟩; have K2 := Lib.hid K1; clear K1 K; (try clear a0); (try clear l0); (try clear f0); (try clear a1); (try clear l1); (try clear f1); (try clear a2); (try clear l2); (try clear f2); (try clear a3); (try clear l3); (try clear f3); (try clear a4); (try clear l4); (try clear f4); (try clear a5); (try clear l5); (try clear f5); have K := K2; clear K2; (try have a0 := K.out.rd 0 rfl); (try have l0 := K.out.ltp 0 rfl); (try have f0 := K.out.fr 0 rfl); (try have a1 := K.out.rd 1 rfl); (try have l1 := K.out.ltp 1 rfl); (try have f1 := K.out.fr 1 rfl); (try have a2 := K.out.rd 2 rfl); (try have l2 := K.out.ltp 2 rfl); (try have f2 := K.out.fr 2 rfl); (try have a3 := K.out.rd 3 rfl); (try have l3 := K.out.ltp 3 rfl); (try have f3 := K.out.fr 3 rfl)))
    refine shown hkC _ _ (by (try dsimp only); (first | exact sat.rd 3 (by repeat (with_reducible first | exact K.out | apply sat.alloc_any | apply sat.drew | apply sat.drewN)) rfl | exact sat.rd 4 (by repeat (with_reducible first | exact K.out | apply sat.alloc_any | apply sat.drew | apply sat.drewN)) rfl)) ?_; clear hkC kC hHeld; intro hHeld
    (try simp only [Act.put, p0, p1, p2])
    refine wpAnyH_ready (rs := [5]) (by kernel_rfl) (by simp) ?_
    refine AllReadyH.cons (o := _) rfl (fun kC hkC => ?_) AllReadyH.nil
    go_simp
    (first | (go_at_call 19; (with_reducible refine ((EN _).out).mono ?_); rintro e w1 ⟨rfl, hb⟩; have K1 := sat.grown (show sat _ _ _ from by first | exact K.out | exact K.out.drew) hb; clear hb; have K2 := Lib.hid K1; clear K1 K; (try clear a0); (try clear l0); (try clear f0); (try clear a1); (try clear l1); (try clear f1); (try clear a2); (try clear l2); (try clear f2); (try clear a3); (try clear l3); (try clear f3); (try clear a4); (try clear l4); (try clear f4); (try clear a5); (try clear l5); (try clear f5); have K := K2; clear K2; (try have a0 := K.out.rd 0 rfl); (try have l0 := K.out.ltp 0 rfl); (try have f0 := K.out.fr 0 rfl); (try have a1 := K.out.rd 1 rfl); (try have l1 := K.out.ltp 1 rfl); (try have f1 := K.out.fr 1 rfl); (try have a2 := K.out.rd 2 rfl); (try have l2 := K.out.ltp 2 rfl); (try have f2 := K.out.fr 2 rfl); (try have a3 := K.out.rd 3 rfl); (try have l3 := K.out.ltp 3 rfl); (try have f3 := K.out.fr 3 rfl)) | (go_at_call 18; (with_reducible refine ((GN _ _ (show sat E _ _ from by first | exact K.out | exact K.out.drew)).out).mono ?_); rintro e w1 ⟨gg, rfl, K1⟩; have K2 := Lib.hid K1; clear K1 K; (try clear a0); (try clear l0); (try clear f0); (try clear a1); (try clear l1); (try clear f1); (try clear a2); (try clear l2); (try clear f2); (try clear a3); (try clear l3); (try clear f3); (try clear a4); (try clear l4); (try clear f4); (try clear a5); (try clear l5); (try clear f5); have K := K2; clear K2; (try have a0 := K.out.rd 0 rfl); (try have l0 := K.out.ltp 0 rfl); (try have f0 := K.out.fr 0 rfl); (try have a1 := K.out.rd 1 rfl); (try have l1 := K.out.ltp 1 rfl); (try have f1 := K.out.fr 1 rfl); (try have a2 := K.out.rd 2 rfl); (try have l2 := K.out.ltp 2 rfl); (try have f2 := K.out.fr 2 rfl); (try have a3 := K.out.rd 3 rfl); (try have l3 := K.out.ltp 3 rfl); (try have f3 := K.out.fr 3 rfl)))
    refine shown hkC _ _ (by (try dsimp only); (first | exact sat.rd 3 (by repeat (with_reducible first | exact K.out | apply sat.alloc_any | apply sat.drew | apply sat.drewN)) rfl | exact sat.rd 4 (by repeat (with_reducible first | exact K.out | apply sat.alloc_any | apply sat.drew | apply sat.drewN)) rfl)) ?_; clear hkC kC hHeld; intro hHeld
    (try simp only [Act.put, p0, p1, p2])
    refine tk 6 (some 18) ?_
    (try simp only [Act.put, p0, p1, p2])
    refine wpAnyH_done (by kernel_rfl) (NoPanic.normal ?_) _
    have K1 : sat E _ [getA gg (GetM.new c wh (endM right) st), memA gm m, rowA (.slice p2 (orderM W).length c2) 3 1 (orderM W).length ((orderM W).map (Value.int .i64)), rowA (.slice p1 c.all.toNat c1) 43 1 c.all.toNat (u64s W), pt gc (.cells #[.int .i64 c.th, .int .i64 c.sl, .int .i64 c.src, .int .i64 c.dl] 27 (0, 0))] := (K.out.pick 3 rfl).pick 1 rfl
    clear K
    have K := Lib.hid K1
    clear K1
    have GF := Lib.hid (show (GetM.new c wh (endM right) st).fin = endM right ∧ (GetM.new c wh (endM right) st).value = 0 ∧ (GetM.new c wh (endM right) st).tries = 0 ∧ (GetM.new c wh (endM right) st).who = wh from ⟨rfl, rfl, rfl, rfl⟩)
    have NB := Lib.hid (show aloneN c m (endM right) ≤ 37 from by
      have h1 : c.all ≤ 16 := by
        unfold ConfM.all
        have := Int.mul_le_mul hsm.1 hsm.2.1 (by have := hc.sl1; omega) (by decide)
        omega
      unfold aloneN; split <;> omega)
    have AN := Lib.hid (show aloneN c m (endM right) = if atM (wordsM c m) (endM right) < 0 then 2 * c.all.toNat else 2 * c.all.toNat + 5 from rfl)
    generalize GetM.new c wh (endM right) st = g0 at *
    generalize aloneN c m (endM right) = N at *
    go_wp2_with fail
    go_loopg [19] N (fun gk i w' => ∃ j : Nat, j + gk = N ∧ i = .int .i64 j ∧ sat E w' [getA gg (GetM.run g0 m j).1, memA gm (GetM.run g0 m j).2, rowA (.slice p2 (orderM W).length c2) 3 1 (orderM W).length ((orderM W).map (Value.int .i64)), rowA (.slice p1 c.all.toNat c1) 43 1 c.all.toNat (u64s W), pt gc (.cells #[.int .i64 c.th, .int .i64 c.sl, .int .i64 c.src, .int .i64 c.dl] 27 (0, 0))])
    case atStart => exact ⟨0, by simp, rfl, K.out⟩
    case round =>
      obtain ⟨j, hj, rfl, hs⟩ := hrel
      clear K
      have K := Lib.hid hs
      clear hs
      have a4 := K.out.rd 4 rfl
      have l4 := K.out.ltp 4 rfl
      have GQ := fun w' (M : List SA) (h : sat E w' (getA gg (GetM.run g0 m j).1 :: M)) => Lib.hid (gphase_calls gg (GetM.run g0 m j).1 h)
      have HJ := Lib.hid hj
      rcases Nat.lt_or_ge j N with q | q
      · have p0 := EE.out.before j q
        rw [p0] at GQ
        have GS := fun w' (M : List SA) (h : sat E w' (getA gg (GetM.run g0 m j).1 :: memA gm (GetM.run g0 m j).2 :: M)) => Lib.hid (ends_step EE.out gg gm j q h)
        clear p0 hj
        have q200 : decide ((j : Int) < 200) = true := by have := NB.out; simp; omega
        obtain ⟨gk', rfl⟩ : ∃ g', gk = g' + 1 := ⟨gk - 1, by have := HJ.out; omega⟩
        go_wp2_with (first | (go_at_call 22; (with_reducible refine (GQ _ _ K.out).out.mono ?_); rintro e w1 ⟨rfl, rfl⟩) | (go_at_call 21; (with_reducible refine ((GS _ _ (show sat E _ _ from by iterate 6 (try (with_reducible first | exact K.out | apply sat.alloc_any | apply sat.drew | apply sat.drewN)))).out).mono ?_); rintro e w1 ⟨rfl, K1⟩; have K2 := Lib.hid K1; clear K1 K; (try clear a0); (try clear l0); (try clear a1); (try clear l1); (try clear a2); (try clear l2); have K := K2; clear K2; have a4 := K.out.rd 4 rfl; have l4 := K.out.ltp 4 rfl))
        go_roundg gk'
        case measure => omega
        case rel => exact ⟨j + 1, by have := HJ.out; omega, by have := NB.out; first | (simp; done) | (simp; exact w64 (by omega) (by omega)), K.out⟩
      · have hjN : N = j := by omega
        subst hjN
        have RL := GetM.run_log EE.out.all (Int.le_refl _) N (by have := NB.out; omega) EE.out.before
        have hm' := (memA_open (K.out.pick 1 rfl)).1
        have CT2 := fun w' (M : List SA) (h : sat E w' (memA gm (GetM.run g0 m N).2 :: M)) => Lib.hid (count_calls gm (GetM.run g0 m N).2 h)
        rw [RL] at CT2
        have GT := fun w' (M : List SA) (h : sat E w' (getA gg (GetM.run g0 m N).1 :: M)) => Lib.hid (gtries_calls gg (GetM.run g0 m N).1 h)
        have GV := fun w' (M : List SA) (h : sat E w' (getA gg (GetM.run g0 m N).1 :: M)) => Lib.hid (gvalue_calls gg (GetM.run g0 m N).1 h)
        have PE := fun w' (M : List SA) (i : Int) (h : sat E w' (memA gm (GetM.run g0 m N).2 :: M)) => Lib.hid (peek_calls gm (GetM.run g0 m N).2 i h)
        have HZ := fun w => Lib.hid (hazard_calls c w hc wh wh0 wh1)
        have AA := fun w => Lib.hid (all_calls c w hc)
        have z5 : wrap64 ((m.log.length : Int) + (N : Int)) = (m.log.length : Int) + (N : Int) := w64 (by omega) (by have := NB.out; omega)
        have z6 : (((m.log.length + N : Nat) : Int) != (m.log.length : Int) + (N : Int)) = false := by simp
        have hal := hc.all_bd
        have z7 : wrap64 (2 * c.all) = 2 * c.all := w64 (by omega) (by omega)
        have z8 : wrap64 (2 * c.all + 5) = 2 * c.all + 5 := w64 (by omega) (by omega)
        have z7i : IntKind.i64.wrap (2 * c.all) = 2 * c.all := wi (by omega) (by omega)
        have z8i : IntKind.i64.wrap (2 * c.all + 5) = 2 * c.all + 5 := wi (by omega) (by omega)
        have AL0 := fun w => Lib.hid (alone_calls c w hc)
        rcases Int.lt_or_le (atM W (endM right)) 0 with hneg | hpos
        · have hO : orderM W = [] := by
            rcases atM_range W (endM right) with ⟨e, _⟩ | ⟨_, e, _⟩
            · exact e
            · omega
          have A := AL.out.none (by rw [GF.out.1, ← HW.out]; exact hneg)
          have hN : N = 2 * c.all.toNat := by rw [AN.out, ← HW.out, if_pos hneg]
          rw [← hN] at A
          obtain ⟨A1, A2, A3, A4, A5⟩ := A
          rw [A2] at GQ
          rw [A3, GF.out.2.1] at GV
          rw [A4, GF.out.2.2.1] at GT
          have PZ : (GetM.run g0 m N).2.peek (c.hazard wh) = 0 := by
            rw [peek_of_cells A5]
            exact HP.out
          have PZ' := Lib.hid PZ
          have PEz := fun w' (M : List SA) (h : sat E w' (memA gm (GetM.run g0 m N).2 :: M)) => PE w' M (c.hazard wh) h
          rw [PZ] at PEz
          have z9 : ((N : Int) == 2 * c.all) = true := by rw [hN]; simp; omega
          have HN := Lib.hid hN
          have zO : (((orderM W).length : Int) == 0) = true := by rw [hO]; rfl
          clear hN PZ PE A1 A2 A3 A4 A5 hO hneg hj q hm' RL
          generalize GetM.run g0 m N = gr at *
          go_wp2_with (first | (go_at_call 22; (with_reducible refine (GQ _ _ K.out).out.mono ?_); rintro e w1 ⟨rfl, rfl⟩) | (go_at_call 35; (with_reducible refine (CT2 _ _ (K.out.pick 1 rfl)).out.mono ?_); rintro e w1 ⟨rfl, rfl⟩) | (go_at_call 34; (with_reducible refine (GT _ _ K.out).out.mono ?_); rintro e w1 ⟨rfl, rfl⟩) | (go_at_call 23; (with_reducible refine (GV _ _ K.out).out.mono ?_); rintro e w1 ⟨rfl, rfl⟩) | (go_at_call 24; (with_reducible refine (PEz _ _ (K.out.pick 1 rfl)).out.mono ?_); rintro e w1 ⟨rfl, rfl⟩) | (go_at_call 28; (with_reducible refine ((HZ _).out).mono ?_); rintro e w1 ⟨rfl, hb⟩; have K1 := sat.grown (by repeat (with_reducible first | exact K.out | apply sat.alloc_any | apply sat.drew | apply sat.drewN)) hb; clear hb; have K2 := Lib.hid K1; clear K1 K; (try clear a0); (try clear l0); (try clear a1); (try clear l1); (try clear a2); (try clear l2); have K := K2; clear K2; have a4 := K.out.rd 4 rfl; have l4 := K.out.ltp 4 rfl) | (go_at_call 26; (with_reducible refine ((AA _).out).mono ?_); rintro e w1 ⟨rfl, hb⟩; have K1 := sat.grown (by repeat (with_reducible first | exact K.out | apply sat.alloc_any | apply sat.drew | apply sat.drewN)) hb; clear hb; have K2 := Lib.hid K1; clear K1 K; (try clear a0); (try clear l0); (try clear a1); (try clear l1); (try clear a2); (try clear l2); have K := K2; clear K2; have a4 := K.out.rd 4 rfl; have l4 := K.out.ltp 4 rfl))
          go_ret
          exact ⟨rfl, K.out.below⟩
        · -- SOME
          obtain ⟨o0, ho0, hol, hoL, hoR⟩ := order_ends hpos
          have A := AL.out.some (by rw [GF.out.1, ← HW.out]; exact hpos)
          have hN : N = 2 * c.all.toNat + 5 := by rw [AN.out, ← HW.out, if_neg (by omega)]
          rw [← hN, GF.out.1, ← HW.out] at A
          obtain ⟨A1, A2, A3, A4, A5⟩ := A
          rw [GF.out.2.2.2] at A5
          have hslt : atM W (endM right) < c.all := by
            rcases atM_range W (endM right) with ⟨_, e⟩ | ⟨_, _, e, _⟩
            · omega
            · rw [HW.out, wordsM_len, ← HW.out] at e; omega
          obtain ⟨ol, hol2, holR⟩ : ∃ ol, (orderM W)[(orderM W).length - 1]? = some ol ∧ (endM right ≠ 0 → ol = atM W (endM right)) := by
            have h1 : (orderM W).length - 1 < (orderM W).length := by omega
            refine ⟨_, List.getElem?_eq_getElem h1, fun h => ?_⟩
            have := hoR h
            rw [List.getElem?_eq_getElem h1] at this
            exact Option.some.inj this
          rw [A2] at GQ
          rw [A4, GF.out.2.2.1] at GT
          have hb := (cellBd hc).hazard wh wh0 wh1
          have hbv := (cellBd hc).value _ hpos hslt
          have PZ : (GetM.run g0 m N).2.peek (c.hazard wh) = 0 := by
            rw [took_peek hc wh0 wh1 hpos hslt hlen A5 _ hb.1 hb.2, if_pos rfl]
          have PV : (GetM.run g0 m N).2.peek (c.value (atM W (endM right))) = m.peek (c.value (atM W (endM right))) := by
            rw [took_peek hc wh0 wh1 hpos hslt hlen A5 _ hbv.1 hbv.2, if_neg (by unfold ConfM.value ConfM.hazard; omega), if_neg (by unfold ConfM.value; omega)]
          rw [A3, ← PV] at GV
          have W2 : wordsM c (GetM.run g0 m N).2 = setI W (atM W (endM right)) (unpack (m.peek (atM W (endM right)))).taken.pack := by
            rw [took_words hc wh0 wh1 hpos hslt hlen A5, ← HW.out]
          have hpk : getI W (atM W (endM right)) = m.peek (atM W (endM right)) := by rw [HW.out]; exact getI_words c m _ (by rw [← HW.out]; exact hpos) (by rw [← HW.out]; exact hslt)
          have hWl : W.length = c.all.toNat := by rw [HW.out]; exact wordsM_len c m
          have hUL : (u64s W).length = c.all.toNat := by simp [u64s, hWl]
          have HUL := Lib.hid hUL
          have hpb := MemM.peek_wf hw (atM W (endM right))
          obtain ⟨gu, hgu, _⟩ := Go.SepYtlnfbfnccefcnaa.row_some (K.out.pick 3 rfl) (by omega)
          obtain ⟨gi, hgi, _⟩ := Go.SepYtlnfbfnccefcnaa.row_some (K.out.pick 2 rfl) hol
          subst hgu hgi
          have WE := fun w' (M : List SA) (h : sat E w' (memA gm (GetM.run g0 m N).2 :: M)) => Lib.hid (words_calls c hc gm (GetM.run g0 m N).2 h)
          rw [W2] at WE
          have PEz := fun w' (M : List SA) (h : sat E w' (memA gm (GetM.run g0 m N).2 :: M)) => PE w' M (c.hazard wh) h
          rw [PZ] at PEz
          have PEv := fun w' (M : List SA) (h : sat E w' (memA gm (GetM.run g0 m N).2 :: M)) => PE w' M (c.value (atM W (endM right))) h
          have VL := fun w => Lib.hid (value_calls c w hc _ hpos hslt)
          have z9 : ((N : Int) == 2 * c.all + 5) = true := by rw [beq_iff_eq]; omega
          have z10 : ((2 * c.all + 5) == (N : Int)) = true := by rw [beq_iff_eq]; omega
          have HN := Lib.hid hN
          have zO : (((orderM W).length : Int) == 0) = false := by rw [beq_eq_false_iff_ne]; omega
          have zl : wrap64 (((orderM W).length : Int) - 1) = (((orderM W).length - 1 : Nat) : Int) := by
            have h1 := orderM_len W
            rw [w64 (by omega) (by omega)]; omega
          have UP : ∀ w, Hid (Tells 29 #[.int .u64 (m.peek (atM W (endM right)))] w (.agg #[.int .i64 (unpack (m.peek (atM W (endM right)))).state, .int .i64 (unpack (m.peek (atM W (endM right)))).fin, .int .i64 (unpack (m.peek (atM W (endM right)))).gen, .int .i64 (unpack (m.peek (atM W (endM right)))).stamp.lo, .int .i64 (unpack (m.peek (atM W (endM right)))).stamp.hi])) := fun w => Lib.hid (unpack_calls (m.peek (atM W (endM right))) hpb.1 hpb.2 w)
          have TK : ∀ w, Hid (Tells 32 #[.agg #[.int .i64 (unpack (m.peek (atM W (endM right)))).state, .int .i64 (unpack (m.peek (atM W (endM right)))).fin, .int .i64 (unpack (m.peek (atM W (endM right)))).gen, .int .i64 (unpack (m.peek (atM W (endM right)))).stamp.lo, .int .i64 (unpack (m.peek (atM W (endM right)))).stamp.hi]] w (.agg #[.int .i64 ((unpack (m.peek (atM W (endM right)))).taken).state, .int .i64 ((unpack (m.peek (atM W (endM right)))).taken).fin, .int .i64 ((unpack (m.peek (atM W (endM right)))).taken).gen, .int .i64 ((unpack (m.peek (atM W (endM right)))).taken).stamp.lo, .int .i64 ((unpack (m.peek (atM W (endM right)))).taken).stamp.hi])) := fun w => Lib.hid (taken_calls (unpack (m.peek (atM W (endM right)))) w)
          have PK := fun w => Lib.hid (pack_calls (unpack (m.peek (atM W (endM right)))).taken w)
          have HX0 := Lib.hid (show ((orderM W).map (Value.int .i64))[0]? = some (.int .i64 o0) by rw [List.getElem?_map, ho0]; rfl)
          have HX1 := Lib.hid (show ((orderM W).map (Value.int .i64))[(orderM W).length - 1]? = some (.int .i64 ol) by rw [List.getElem?_map, hol2]; rfl)
          have HX2 := Lib.hid (show (u64s W)[(atM W (endM right)).toNat]? = some (.int .u64 (m.peek (atM W (endM right)))) by rw [getD_cell hpos (by rw [hWl]; omega), hpk])
          have hW2l : (setI W (atM W (endM right)) (unpack (m.peek (atM W (endM right)))).taken.pack).length = c.all.toNat := by rw [setI_length]; exact hWl
          have hsn : (atM W (endM right)) < (c.all.toNat : Int) := by omega
          have hl1 : (orderM W).length - 1 < (orderM W).length := by omega
          clear hN PZ PV PE A1 A2 A3 A4 A5 hj q hm' RL W2 hpk hWl hUL hpb hb hbv hw hlen ho0 hol2 hoR
          generalize (unpack (m.peek (atM W (endM right)))).taken.pack = tkn at *
          generalize (unpack (m.peek (atM W (endM right)))).taken = tw at *
          generalize unpack (m.peek (atM W (endM right))) = uw at *
          generalize m.peek (atM W (endM right)) = pk at *
          generalize hsl : atM W (endM right) = sl at *
          have hsl0 : sl = sl := rfl
          generalize GetM.run g0 m N = gr at *
          have HS := Lib.hid hsl
          clear hsl
          have hval : gr.2.peek (c.value sl) = gr.2.peek (c.value sl) := rfl
          generalize gr.2.peek (c.value sl) = pv at *
          have x0 := K.out.row_rd 2 rfl 0 (.int .i64 o0) HX0.out; have x1 := K.out.row_rd 2 rfl ((orderM W).length - 1) (.int .i64 ol) HX1.out; have x2 := K.out.row_rd 3 rfl sl.toNat (.int .u64 pk) HX2.out
          rcases Bool.eq_false_or_eq_true right with hr | hr
          · have zr : ol = sl := holR (by rw [hr]; decide)
            have HR := Lib.hid hr
            have HX1' := Lib.hid (show ((orderM W).map (Value.int .i64))[(orderM W).length - 1]? = some (.int .i64 sl) by rw [← zr]; exact HX1.out)
            clear hoL holR HX1 zr x1
            have HX1 := HX1'
            clear HX1'
            go_wp2_with (first | (go_at_call 22; (with_reducible refine (GQ _ _ K.out).out.mono ?_); rintro e w1 ⟨rfl, rfl⟩) | (go_at_call 35; (with_reducible refine (CT2 _ _ (K.out.pick 1 rfl)).out.mono ?_); rintro e w1 ⟨rfl, rfl⟩) | (go_at_call 34; (with_reducible refine (GT _ _ K.out).out.mono ?_); rintro e w1 ⟨rfl, rfl⟩) | (go_at_call 23; (with_reducible refine (GV _ _ K.out).out.mono ?_); rintro e w1 ⟨rfl, rfl⟩) | (go_at_call 24; (with_reducible refine (PEz _ _ (K.out.pick 1 rfl)).out.mono ?_); rintro e w1 ⟨rfl, rfl⟩) | ((go_at_call 28; (with_reducible refine ((HZ _).out).mono ?_); rintro e w1 ⟨rfl, hb⟩; have K1 := sat.grown (by repeat (with_reducible first | exact K.out | apply sat.alloc_any | apply sat.drew | apply sat.drewN)) hb; clear hb; have K2 := Lib.hid K1; clear K1 K; (try clear a0); (try clear l0); (try clear a1); (try clear l1); (try clear a2); (try clear l2); have K := K2; clear K2; have a4 := K.out.rd 4 rfl; have l4 := K.out.ltp 4 rfl); (try clear x0); (try clear x1); (try clear x2); have x0 := K.out.row_rd 2 rfl 0 (.int .i64 o0) HX0.out; have x1 := K.out.row_rd 2 rfl ((orderM W).length - 1) (.int .i64 sl) HX1.out; have x2 := K.out.row_rd 3 rfl sl.toNat (.int .u64 pk) HX2.out) | ((go_at_call 26; (with_reducible refine ((AA _).out).mono ?_); rintro e w1 ⟨rfl, hb⟩; have K1 := sat.grown (by repeat (with_reducible first | exact K.out | apply sat.alloc_any | apply sat.drew | apply sat.drewN)) hb; clear hb; have K2 := Lib.hid K1; clear K1 K; (try clear a0); (try clear l0); (try clear a1); (try clear l1); (try clear a2); (try clear l2); have K := K2; clear K2; have a4 := K.out.rd 4 rfl; have l4 := K.out.ltp 4 rfl); (try clear x0); (try clear x1); (try clear x2); have x0 := K.out.row_rd 2 rfl 0 (.int .i64 o0) HX0.out; have x1 := K.out.row_rd 2 rfl ((orderM W).length - 1) (.int .i64 sl) HX1.out; have x2 := K.out.row_rd 3 rfl sl.toNat (.int .u64 pk) HX2.out) | (go_at_call 29; (with_reducible refine ((UP _).out).mono ?_); rintro e w1 ⟨rfl, hb⟩; have K1 := sat.grown (by repeat (with_reducible first | exact K.out | apply sat.alloc_any | apply sat.drew | apply sat.drewN)) hb; clear hb; have K2 := Lib.hid K1; clear K1 K; (try clear a0); (try clear l0); (try clear a1); (try clear l1); (try clear a2); (try clear l2); have K := K2; clear K2; have a4 := K.out.rd 4 rfl; have l4 := K.out.ltp 4 rfl) | (go_at_call 32; (with_reducible refine ((TK _).out).mono ?_); rintro e w1 ⟨rfl, hb⟩; have K1 := sat.grown (by repeat (with_reducible first | exact K.out | apply sat.alloc_any | apply sat.drew | apply sat.drewN)) hb; clear hb; have K2 := Lib.hid K1; clear K1 K; (try clear a0); (try clear l0); (try clear a1); (try clear l1); (try clear a2); (try clear l2); have K := K2; clear K2; have a4 := K.out.rd 4 rfl; have l4 := K.out.ltp 4 rfl) | (go_at_call 33; (with_reducible refine ((PK _).out).mono ?_); rintro e w1 ⟨rfl, hb⟩; have K1 := sat.grown (by repeat (with_reducible first | exact K.out | apply sat.alloc_any | apply sat.drew | apply sat.drewN)) hb; clear hb; have K2 := Lib.hid K1; clear K1 K; (try clear a0); (try clear l0); (try clear a1); (try clear l1); (try clear a2); (try clear l2); have K := K2; clear K2; have a4 := K.out.rd 4 rfl; have l4 := K.out.ltp 4 rfl) | ((with_reducible refine at_store ?_); refine st_store_row 3 K.out rfl rfl rfl rfl ?_ ?_ ?_ ?_; (· kernel_rfl); (· show _ + 1 ≤ _; rw [HUL.out]; omega); (· simp [Value.oneCell']); intro w1 K1; simp only [List.set, putL_one, u64s_set] at K1; have K2 := Lib.hid K1; clear K1 K; (try clear a0); (try clear l0); (try clear a1); (try clear l1); (try clear a2); (try clear l2); have K := K2; clear K2; have a4 := K.out.rd 4 rfl; have l4 := K.out.ltp 4 rfl) | (go_at_call 17; (with_reducible refine ((WE _ _ ((show sat E _ _ from by iterate 6 (try (with_reducible first | exact K.out | apply sat.alloc_any | apply sat.drew | apply sat.drewN))).pick 1 rfl)).out).mono ?_); rintro e w1 ⟨p3, c3, rfl, K1⟩; replace K1 := (show sat E _ _ from K1); have K2 := Lib.hid K1; clear K1 K; (try clear a0); (try clear l0); (try clear a1); (try clear l1); (try clear a2); (try clear l2); have K := K2; clear K2; have a5 := K.out.rd 5 rfl; have l5 := K.out.ltp 5 rfl))
            have K1 : sat E _ [rowA (.slice p3 c.all.toNat c3) 43 1 c.all.toNat (u64s (setI W sl tkn)), memA gm gr.2, getA gg gr.1, rowA (.slice (some ⟨gi, 0, none⟩) (orderM W).length c2) 3 1 (orderM W).length ((orderM W).map (Value.int .i64)), rowA (.slice (some ⟨gu, 0, none⟩) c.all.toNat c1) 43 1 c.all.toNat (u64s (setI W sl tkn)), pt gc (.cells #[.int .i64 c.th, .int .i64 c.sl, .int .i64 c.src, .int .i64 c.dl] 27 (0, 0))] := K.out
            obtain ⟨g3, hg3, _⟩ := Go.SepYtlnfbfnccefcnaa.row_some K1 (by omega)
            subst hg3
            clear K
            generalize setI W sl tkn = X at K1 hW2l
            have K := Lib.hid K1
            clear K1
            go_loopg [125] c.all.toNat (fun gk i w' => ∃ n : Nat, n + gk = c.all.toNat ∧ i = .int .i64 n ∧ sat E w' [rowA (.slice (some ⟨g3, 0, none⟩) c.all.toNat c3) 43 1 c.all.toNat (u64s X), memA gm gr.2, getA gg gr.1, rowA (.slice (some ⟨gi, 0, none⟩) (orderM W).length c2) 3 1 (orderM W).length ((orderM W).map (Value.int .i64)), rowA (.slice (some ⟨gu, 0, none⟩) c.all.toNat c1) 43 1 c.all.toNat (u64s X), pt gc (.cells #[.int .i64 c.th, .int .i64 c.sl, .int .i64 c.src, .int .i64 c.dl] 27 (0, 0))])
            case atStart => exact ⟨0, by simp, rfl, K.out⟩
            case round =>
              obtain ⟨n, hn, rfl, hs⟩ := hrel
              clear K
              have K := Lib.hid hs
              clear hs
              have a5 := K.out.rd 5 rfl
              have l5 := K.out.ltp 5 rfl
              have HK := Lib.hid hn
              by_cases hlt : n < c.all.toNat
              · have d0 : decide (n < c.all.toNat) = true := by simpa using hlt
                have hX : (u64s X)[n]? = some (.int .u64 X[n]) := by simp [u64s, hW2l, hlt]
                have y0 := K.out.row_rd 0 rfl n _ hX
                have y1 := K.out.row_rd 4 rfl n _ hX
                clear hX
                generalize X[n] = xv at *
                have cx : (xv != xv) = false := by simp
                have hn16 : n < 4096 := by omega
                obtain ⟨gk', rfl⟩ : ∃ g', gk = g' + 1 := ⟨gk - 1, by omega⟩
                clear hn
                go_wp2
                go_roundg gk'
                case measure => omega
                case rel => exact ⟨n + 1, by have := HK.out; omega, by first | (simp; done) | (simp; exact w64 (by omega) (by omega)), K.out⟩
              · have d0 : decide (n < c.all.toNat) = false := by simpa using hlt
                clear hn
                go_wp2_with fail
                refine wp_region_noPanic ?_
                refine wp_region_held_drew (S := (fun w' => (∀ j, w'.cell? ⟨gc, j, none⟩ = ([.int .i64 c.th, .int .i64 c.sl, .int .i64 c.src, .int .i64 c.dl] : List Value)[j]?))) (by kernel_rfl) ?_ (fun hHeld => ?_)
                · ((try dsimp only); (exact sat.rd 5 (by repeat (with_reducible first | exact K.out | apply sat.alloc_any | apply sat.drew | apply sat.drewN)) rfl))
                refine tk 0 (some 137) ?_
                (try simp only [Act.put, p0, p1, p2])
                refine wpAnyH_ready (rs := [1]) (by kernel_rfl) (by simp) ?_
                refine AllReadyH.cons (o := _) rfl (fun kC hkC => ?_) AllReadyH.nil
                go_simp
                (first | (go_at_call 22; (with_reducible refine (GQ _ _ ((show sat E _ _ from by first | exact K.out | exact K.out.drew).pick 2 rfl)).out.mono ?_); rintro e w1 ⟨rfl, rfl⟩) | (go_at_call 23; (with_reducible refine (GV _ _ ((show sat E _ _ from by first | exact K.out | exact K.out.drew).pick 2 rfl)).out.mono ?_); rintro e w1 ⟨rfl, rfl⟩) | (go_at_call 24; (with_reducible refine (PEv _ _ ((show sat E _ _ from by first | exact K.out | exact K.out.drew).pick 1 rfl)).out.mono ?_); rintro e w1 ⟨rfl, rfl⟩) | (go_at_call 26; (with_reducible refine ((AA _).out).mono ?_); rintro e w1 ⟨rfl, hb⟩; have K1 := sat.grown (show sat _ _ _ from by first | exact K.out | exact K.out.drew) hb; clear hb; have K2 := Lib.hid K1; clear K1 K; (try clear a0); (try clear l0); (try clear f0); (try clear a1); (try clear l1); (try clear f1); (try clear a2); (try clear l2); (try clear f2); (try clear a3); (try clear l3); (try clear f3); (try clear a4); (try clear l4); (try clear f4); (try clear a5); (try clear l5); (try clear f5); have K := K2; clear K2; (try have a0 := K.out.rd 0 rfl); (try have l0 := K.out.ltp 0 rfl); (try have f0 := K.out.fr 0 rfl); (try have a1 := K.out.rd 1 rfl); (try have l1 := K.out.ltp 1 rfl); (try have f1 := K.out.fr 1 rfl); (try have a2 := K.out.rd 2 rfl); (try have l2 := K.out.ltp 2 rfl); (try have f2 := K.out.fr 2 rfl); (try have a3 := K.out.rd 3 rfl); (try have l3 := K.out.ltp 3 rfl); (try have f3 := K.out.fr 3 rfl)) | (go_at_call 25; (with_reducible refine ((VL _).out).mono ?_); rintro e w1 ⟨rfl, hb⟩; have K1 := sat.grown (show sat _ _ _ from by first | exact K.out | exact K.out.drew) hb; clear hb; have K2 := Lib.hid K1; clear K1 K; (try clear a0); (try clear l0); (try clear f0); (try clear a1); (try clear l1); (try clear f1); (try clear a2); (try clear l2); (try clear f2); (try clear a3); (try clear l3); (try clear f3); (try clear a4); (try clear l4); (try clear f4); (try clear a5); (try clear l5); (try clear f5); have K := K2; clear K2; (try have a0 := K.out.rd 0 rfl); (try have l0 := K.out.ltp 0 rfl); (try have f0 := K.out.fr 0 rfl); (try have a1 := K.out.rd 1 rfl); (try have l1 := K.out.ltp 1 rfl); (try have f1 := K.out.fr 1 rfl); (try have a2 := K.out.rd 2 rfl); (try have l2 := K.out.ltp 2 rfl); (try have f2 := K.out.fr 2 rfl); (try have a3 := K.out.rd 3 rfl); (try have l3 := K.out.ltp 3 rfl); (try have f3 := K.out.fr 3 rfl)) | (go_at_call 20; (with_reducible refine ((AL0 _).out).mono ?_); rintro e w1 ⟨rfl, hb⟩; have K1 := sat.grown (show sat _ _ _ from by first | exact K.out | exact K.out.drew) hb; clear hb; have K2 := Lib.hid K1; clear K1 K; (try clear a0); (try clear l0); (try clear f0); (try clear a1); (try clear l1); (try clear f1); (try clear a2); (try clear l2); (try clear f2); (try clear a3); (try clear l3); (try clear f3); (try clear a4); (try clear l4); (try clear f4); (try clear a5); (try clear l5); (try clear f5); have K := K2; clear K2; (try have a0 := K.out.rd 0 rfl); (try have l0 := K.out.ltp 0 rfl); (try have f0 := K.out.fr 0 rfl); (try have a1 := K.out.rd 1 rfl); (try have l1 := K.out.ltp 1 rfl); (try have f1 := K.out.fr 1 rfl); (try have a2 := K.out.rd 2 rfl); (try have l2 := K.out.ltp 2 rfl); (try have f2 := K.out.fr 2 rfl); (try have a3 := K.out.rd 3 rfl); (try have l3 := K.out.ltp 3 rfl); (try have f3 := K.out.fr 3 rfl)))
                refine shown hkC _ _ (by (try dsimp only); (exact sat.rd 5 (by repeat (with_reducible first | exact K.out | apply sat.alloc_any | apply sat.drew | apply sat.drewN)) rfl)) ?_; clear hkC kC hHeld; intro hHeld
                (try simp only [Act.put, p0, p1, p2])
                refine tk 2 (some 139) ?_
                (try simp only [Act.put, p0, p1, p2])
                refine tk 3 (some 140) ?_
                (try simp only [Act.put, p0, p1, p2])
                refine tk 4 (some 141) ?_
                (try simp only [Act.put, p0, p1, p2])
                refine tk 5 (some 142) ?_
                (try simp only [Act.put, p0, p1, p2])
                refine wpAnyH_ready (rs := [6]) (by kernel_rfl) (by simp) ?_
                refine AllReadyH.cons (o := _) rfl (fun kC hkC => ?_) AllReadyH.nil
                go_simp
                (first | (go_at_call 22; (with_reducible refine (GQ _ _ ((show sat E _ _ from by first | exact K.out | exact K.out.drew).pick 2 rfl)).out.mono ?_); rintro e w1 ⟨rfl, rfl⟩) | (go_at_call 23; (with_reducible refine (GV _ _ ((show sat E _ _ from by first | exact K.out | exact K.out.drew).pick 2 rfl)).out.mono ?_); rintro e w1 ⟨rfl, rfl⟩) | (go_at_call 24; (with_reducible refine (PEv _ _ ((show sat E _ _ from by first | exact K.out | exact K.out.drew).pick 1 rfl)).out.mono ?_); rintro e w1 ⟨rfl, rfl⟩) | (go_at_call 26; (with_reducible refine ((AA _).out).mono ?_); rintro e w1 ⟨rfl, hb⟩; have K1 := sat.grown (show sat _ _ _ from by first | exact K.out | exact K.out.drew) hb; clear hb; have K2 := Lib.hid K1; clear K1 K; (try clear a0); (try clear l0); (try clear f0); (try clear a1); (try clear l1); (try clear f1); (try clear a2); (try clear l2); (try clear f2); (try clear a3); (try clear l3); (try clear f3); (try clear a4); (try clear l4); (try clear f4); (try clear a5); (try clear l5); (try clear f5); have K := K2; clear K2; (try have a0 := K.out.rd 0 rfl); (try have l0 := K.out.ltp 0 rfl); (try have f0 := K.out.fr 0 rfl); (try have a1 := K.out.rd 1 rfl); (try have l1 := K.out.ltp 1 rfl); (try have f1 := K.out.fr 1 rfl); (try have a2 := K.out.rd 2 rfl); (try have l2 := K.out.ltp 2 rfl); (try have f2 := K.out.fr 2 rfl); (try have a3 := K.out.rd 3 rfl); (try have l3 := K.out.ltp 3 rfl); (try have f3 := K.out.fr 3 rfl)) | (go_at_call 25; (with_reducible refine ((VL _).out).mono ?_); rintro e w1 ⟨rfl, hb⟩; have K1 := sat.grown (show sat _ _ _ from by first | exact K.out | exact K.out.drew) hb; clear hb; have K2 := Lib.hid K1; clear K1 K; (try clear a0); (try clear l0); (try clear f0); (try clear a1); (try clear l1); (try clear f1); (try clear a2); (try clear l2); (try clear f2); (try clear a3); (try clear l3); (try clear f3); (try clear a4); (try clear l4); (try clear f4); (try clear a5); (try clear l5); (try clear f5); have K := K2; clear K2; (try have a0 := K.out.rd 0 rfl); (try have l0 := K.out.ltp 0 rfl); (try have f0 := K.out.fr 0 rfl); (try have a1 := K.out.rd 1 rfl); (try have l1 := K.out.ltp 1 rfl); (try have f1 := K.out.fr 1 rfl); (try have a2 := K.out.rd 2 rfl); (try have l2 := K.out.ltp 2 rfl); (try have f2 := K.out.fr 2 rfl); (try have a3 := K.out.rd 3 rfl); (try have l3 := K.out.ltp 3 rfl); (try have f3 := K.out.fr 3 rfl)) | (go_at_call 20; (with_reducible refine ((AL0 _).out).mono ?_); rintro e w1 ⟨rfl, hb⟩; have K1 := sat.grown (show sat _ _ _ from by first | exact K.out | exact K.out.drew) hb; clear hb; have K2 := Lib.hid K1; clear K1 K; (try clear a0); (try clear l0); (try clear f0); (try clear a1); (try clear l1); (try clear f1); (try clear a2); (try clear l2); (try clear f2); (try clear a3); (try clear l3); (try clear f3); (try clear a4); (try clear l4); (try clear f4); (try clear a5); (try clear l5); (try clear f5); have K := K2; clear K2; (try have a0 := K.out.rd 0 rfl); (try have l0 := K.out.ltp 0 rfl); (try have f0 := K.out.fr 0 rfl); (try have a1 := K.out.rd 1 rfl); (try have l1 := K.out.ltp 1 rfl); (try have f1 := K.out.fr 1 rfl); (try have a2 := K.out.rd 2 rfl); (try have l2 := K.out.ltp 2 rfl); (try have f2 := K.out.fr 2 rfl); (try have a3 := K.out.rd 3 rfl); (try have l3 := K.out.ltp 3 rfl); (try have f3 := K.out.fr 3 rfl)))
                refine shown hkC _ _ (by (try dsimp only); (exact sat.rd 5 (by repeat (with_reducible first | exact K.out | apply sat.alloc_any | apply sat.drew | apply sat.drewN)) rfl)) ?_; clear hkC kC hHeld; intro hHeld
                (try simp only [Act.put, p0, p1, p2])
                refine tk 7 (some 144) ?_
                (try simp only [Act.put, p0, p1, p2])
                refine tk 8 (some 145) ?_
                (try simp only [Act.put, p0, p1, p2])
                refine tk 9 (some 146) ?_
                (try simp only [Act.put, p0, p1, p2])
                refine tk 10 (some 147) ?_
                (try simp only [Act.put, p0, p1, p2])
                refine tk 11 (some 148) ?_
                (try simp only [Act.put, p0, p1, p2])
                refine tk 12 (some 149) ?_
                (try simp only [Act.put, p0, p1, p2])
                refine tk 14 (some 151) ?_
                (try simp only [Act.put, p0, p1, p2])
                refine tk 15 (some 152) ?_
                (try simp only [Act.put, p0, p1, p2])
                refine tk 16 (some 153) ?_
                (try simp only [Act.put, p0, p1, p2])
                refine wpAnyH_ready (rs := [13]) (by kernel_rfl) (by simp) ?_
                refine AllReadyH.cons (o := _) rfl (fun kC hkC => ?_) AllReadyH.nil
                go_simp
                (first | (go_at_call 22; (with_reducible refine (GQ _ _ ((show sat E _ _ from by first | exact K.out | exact K.out.drew).pick 2 rfl)).out.mono ?_); rintro e w1 ⟨rfl, rfl⟩) | (go_at_call 23; (with_reducible refine (GV _ _ ((show sat E _ _ from by first | exact K.out | exact K.out.drew).pick 2 rfl)).out.mono ?_); rintro e w1 ⟨rfl, rfl⟩) | (go_at_call 24; (with_reducible refine (PEv _ _ ((show sat E _ _ from by first | exact K.out | exact K.out.drew).pick 1 rfl)).out.mono ?_); rintro e w1 ⟨rfl, rfl⟩) | (go_at_call 26; (with_reducible refine ((AA _).out).mono ?_); rintro e w1 ⟨rfl, hb⟩; have K1 := sat.grown (show sat _ _ _ from by first | exact K.out | exact K.out.drew) hb; clear hb; have K2 := Lib.hid K1; clear K1 K; (try clear a0); (try clear l0); (try clear f0); (try clear a1); (try clear l1); (try clear f1); (try clear a2); (try clear l2); (try clear f2); (try clear a3); (try clear l3); (try clear f3); (try clear a4); (try clear l4); (try clear f4); (try clear a5); (try clear l5); (try clear f5); have K := K2; clear K2; (try have a0 := K.out.rd 0 rfl); (try have l0 := K.out.ltp 0 rfl); (try have f0 := K.out.fr 0 rfl); (try have a1 := K.out.rd 1 rfl); (try have l1 := K.out.ltp 1 rfl); (try have f1 := K.out.fr 1 rfl); (try have a2 := K.out.rd 2 rfl); (try have l2 := K.out.ltp 2 rfl); (try have f2 := K.out.fr 2 rfl); (try have a3 := K.out.rd 3 rfl); (try have l3 := K.out.ltp 3 rfl); (try have f3 := K.out.fr 3 rfl)) | (go_at_call 25; (with_reducible refine ((VL _).out).mono ?_); rintro e w1 ⟨rfl, hb⟩; have K1 := sat.grown (show sat _ _ _ from by first | exact K.out | exact K.out.drew) hb; clear hb; have K2 := Lib.hid K1; clear K1 K; (try clear a0); (try clear l0); (try clear f0); (try clear a1); (try clear l1); (try clear f1); (try clear a2); (try clear l2); (try clear f2); (try clear a3); (try clear l3); (try clear f3); (try clear a4); (try clear l4); (try clear f4); (try clear a5); (try clear l5); (try clear f5); have K := K2; clear K2; (try have a0 := K.out.rd 0 rfl); (try have l0 := K.out.ltp 0 rfl); (try have f0 := K.out.fr 0 rfl); (try have a1 := K.out.rd 1 rfl); (try have l1 := K.out.ltp 1 rfl); (try have f1 := K.out.fr 1 rfl); (try have a2 := K.out.rd 2 rfl); (try have l2 := K.out.ltp 2 rfl); (try have f2 := K.out.fr 2 rfl); (try have a3 := K.out.rd 3 rfl); (try have l3 := K.out.ltp 3 rfl); (try have f3 := K.out.fr 3 rfl)) | (go_at_call 20; (with_reducible refine ((AL0 _).out).mono ?_); rintro e w1 ⟨rfl, hb⟩; have K1 := sat.grown (show sat _ _ _ from by first | exact K.out | exact K.out.drew) hb; clear hb; have K2 := Lib.hid K1; clear K1 K; (try clear a0); (try clear l0); (try clear f0); (try clear a1); (try clear l1); (try clear f1); (try clear a2); (try clear l2); (try clear f2); (try clear a3); (try clear l3); (try clear f3); (try clear a4); (try clear l4); (try clear f4); (try clear a5); (try clear l5); (try clear f5); have K := K2; clear K2; (try have a0 := K.out.rd 0 rfl); (try have l0 := K.out.ltp 0 rfl); (try have f0 := K.out.fr 0 rfl); (try have a1 := K.out.rd 1 rfl); (try have l1 := K.out.ltp 1 rfl); (try have f1 := K.out.fr 1 rfl); (try have a2 := K.out.rd 2 rfl); (try have l2 := K.out.ltp 2 rfl); (try have f2 := K.out.fr 2 rfl); (try have a3 := K.out.rd 3 rfl); (try have l3 := K.out.ltp 3 rfl); (try have f3 := K.out.fr 3 rfl)))
                refine shown hkC _ _ (by (try dsimp only); (exact sat.rd 5 (by repeat (with_reducible first | exact K.out | apply sat.alloc_any | apply sat.drew | apply sat.drewN)) rfl)) ?_; clear hkC kC hHeld; intro hHeld
                (try simp only [Act.put, p0, p1, p2])
                refine wpAnyH_ready (rs := [17]) (by kernel_rfl) (by simp) ?_
                refine AllReadyH.cons (o := _) rfl (fun kC hkC => ?_) AllReadyH.nil
                go_simp
                (first | (go_at_call 22; (with_reducible refine (GQ _ _ ((show sat E _ _ from by first | exact K.out | exact K.out.drew).pick 2 rfl)).out.mono ?_); rintro e w1 ⟨rfl, rfl⟩) | (go_at_call 23; (with_reducible refine (GV _ _ ((show sat E _ _ from by first | exact K.out | exact K.out.drew).pick 2 rfl)).out.mono ?_); rintro e w1 ⟨rfl, rfl⟩) | (go_at_call 24; (with_reducible refine (PEv _ _ ((show sat E _ _ from by first | exact K.out | exact K.out.drew).pick 1 rfl)).out.mono ?_); rintro e w1 ⟨rfl, rfl⟩) | (go_at_call 26; (with_reducible refine ((AA _).out).mono ?_); rintro e w1 ⟨rfl, hb⟩; have K1 := sat.grown (show sat _ _ _ from by first | exact K.out | exact K.out.drew) hb; clear hb; have K2 := Lib.hid K1; clear K1 K; (try clear a0); (try clear l0); (try clear f0); (try clear a1); (try clear l1); (try clear f1); (try clear a2); (try clear l2); (try clear f2); (try clear a3); (try clear l3); (try clear f3); (try clear a4); (try clear l4); (try clear f4); (try clear a5); (try clear l5); (try clear f5); have K := K2; clear K2; (try have a0 := K.out.rd 0 rfl); (try have l0 := K.out.ltp 0 rfl); (try have f0 := K.out.fr 0 rfl); (try have a1 := K.out.rd 1 rfl); (try have l1 := K.out.ltp 1 rfl); (try have f1 := K.out.fr 1 rfl); (try have a2 := K.out.rd 2 rfl); (try have l2 := K.out.ltp 2 rfl); (try have f2 := K.out.fr 2 rfl); (try have a3 := K.out.rd 3 rfl); (try have l3 := K.out.ltp 3 rfl); (try have f3 := K.out.fr 3 rfl)) | (go_at_call 25; (with_reducible refine ((VL _).out).mono ?_); rintro e w1 ⟨rfl, hb⟩; have K1 := sat.grown (show sat _ _ _ from by first | exact K.out | exact K.out.drew) hb; clear hb; have K2 := Lib.hid K1; clear K1 K; (try clear a0); (try clear l0); (try clear f0); (try clear a1); (try clear l1); (try clear f1); (try clear a2); (try clear l2); (try clear f2); (try clear a3); (try clear l3); (try clear f3); (try clear a4); (try clear l4); (try clear f4); (try clear a5); (try clear l5); (try clear f5); have K := K2; clear K2; (try have a0 := K.out.rd 0 rfl); (try have l0 := K.out.ltp 0 rfl); (try have f0 := K.out.fr 0 rfl); (try have a1 := K.out.rd 1 rfl); (try have l1 := K.out.ltp 1 rfl); (try have f1 := K.out.fr 1 rfl); (try have a2 := K.out.rd 2 rfl); (try have l2 := K.out.ltp 2 rfl); (try have f2 := K.out.fr 2 rfl); (try have a3 := K.out.rd 3 rfl); (try have l3 := K.out.ltp 3 rfl); (try have f3 := K.out.fr 3 rfl)) | (go_at_call 20; (with_reducible refine ((AL0 _).out).mono ?_); rintro e w1 ⟨rfl, hb⟩; have K1 := sat.grown (show sat _ _ _ from by first | exact K.out | exact K.out.drew) hb; clear hb; have K2 := Lib.hid K1; clear K1 K; (try clear a0); (try clear l0); (try clear f0); (try clear a1); (try clear l1); (try clear f1); (try clear a2); (try clear l2); (try clear f2); (try clear a3); (try clear l3); (try clear f3); (try clear a4); (try clear l4); (try clear f4); (try clear a5); (try clear l5); (try clear f5); have K := K2; clear K2; (try have a0 := K.out.rd 0 rfl); (try have l0 := K.out.ltp 0 rfl); (try have f0 := K.out.fr 0 rfl); (try have a1 := K.out.rd 1 rfl); (try have l1 := K.out.ltp 1 rfl); (try have f1 := K.out.fr 1 rfl); (try have a2 := K.out.rd 2 rfl); (try have l2 := K.out.ltp 2 rfl); (try have f2 := K.out.fr 2 rfl); (try have a3 := K.out.rd 3 rfl); (try have l3 := K.out.ltp 3 rfl); (try have f3 := K.out.fr 3 rfl)))
                refine shown hkC _ _ (by (try dsimp only); (exact sat.rd 5 (by repeat (with_reducible first | exact K.out | apply sat.alloc_any | apply sat.drew | apply sat.drewN)) rfl)) ?_; clear hkC kC hHeld; intro hHeld
                (try simp only [Act.put, p0, p1, p2])
                refine wpAnyH_ready (rs := [18]) (by kernel_rfl) (by simp) ?_
                refine AllReadyH.cons (o := _) rfl (fun kC hkC => ?_) AllReadyH.nil
                go_simp
                (first | (go_at_call 22; (with_reducible refine (GQ _ _ ((show sat E _ _ from by first | exact K.out | exact K.out.drew).pick 2 rfl)).out.mono ?_); rintro e w1 ⟨rfl, rfl⟩) | (go_at_call 23; (with_reducible refine (GV _ _ ((show sat E _ _ from by first | exact K.out | exact K.out.drew).pick 2 rfl)).out.mono ?_); rintro e w1 ⟨rfl, rfl⟩) | (go_at_call 24; (with_reducible refine (PEv _ _ ((show sat E _ _ from by first | exact K.out | exact K.out.drew).pick 1 rfl)).out.mono ?_); rintro e w1 ⟨rfl, rfl⟩) | (go_at_call 26; (with_reducible refine ((AA _).out).mono ?_); rintro e w1 ⟨rfl, hb⟩; have K1 := sat.grown (show sat _ _ _ from by first | exact K.out | exact K.out.drew) hb; clear hb; have K2 := Lib.hid K1; clear K1 K; (try clear a0); (try clear l0); (try clear f0); (try clear a1); (try clear l1); (try clear f1); (try clear a2); (try clear l2); (try clear f2); (try clear a3); (try clear l3); (try clear f3); (try clear a4); (try clear l4); (try clear f4); (try clear a5); (try clear l5); (try clear f5); have K := K2; clear K2; (try have a0 := K.out.rd 0 rfl); (try have l0 := K.out.ltp 0 rfl); (try have f0 := K.out.fr 0 rfl); (try have a1 := K.out.rd 1 rfl); (try have l1 := K.out.ltp 1 rfl); (try have f1 := K.out.fr 1 rfl); (try have a2 := K.out.rd 2 rfl); (try have l2 := K.out.ltp 2 rfl); (try have f2 := K.out.fr 2 rfl); (try have a3 := K.out.rd 3 rfl); (try have l3 := K.out.ltp 3 rfl); (try have f3 := K.out.fr 3 rfl)) | (go_at_call 25; (with_reducible refine ((VL _).out).mono ?_); rintro e w1 ⟨rfl, hb⟩; have K1 := sat.grown (show sat _ _ _ from by first | exact K.out | exact K.out.drew) hb; clear hb; have K2 := Lib.hid K1; clear K1 K; (try clear a0); (try clear l0); (try clear f0); (try clear a1); (try clear l1); (try clear f1); (try clear a2); (try clear l2); (try clear f2); (try clear a3); (try clear l3); (try clear f3); (try clear a4); (try clear l4); (try clear f4); (try clear a5); (try clear l5); (try clear f5); have K := K2; clear K2; (try have a0 := K.out.rd 0 rfl); (try have l0 := K.out.ltp 0 rfl); (try have f0 := K.out.fr 0 rfl); (try have a1 := K.out.rd 1 rfl); (try have l1 := K.out.ltp 1 rfl); (try have f1 := K.out.fr 1 rfl); (try have a2 := K.out.rd 2 rfl); (try have l2 := K.out.ltp 2 rfl); (try have f2 := K.out.fr 2 rfl); (try have a3 := K.out.rd 3 rfl); (try have l3 := K.out.ltp 3 rfl); (try have f3 := K.out.fr 3 rfl)) | (go_at_call 20; (with_reducible refine ((AL0 _).out).mono ?_); rintro e w1 ⟨rfl, hb⟩; have K1 := sat.grown (show sat _ _ _ from by first | exact K.out | exact K.out.drew) hb; clear hb; have K2 := Lib.hid K1; clear K1 K; (try clear a0); (try clear l0); (try clear f0); (try clear a1); (try clear l1); (try clear f1); (try clear a2); (try clear l2); (try clear f2); (try clear a3); (try clear l3); (try clear f3); (try clear a4); (try clear l4); (try clear f4); (try clear a5); (try clear l5); (try clear f5); have K := K2; clear K2; (try have a0 := K.out.rd 0 rfl); (try have l0 := K.out.ltp 0 rfl); (try have f0 := K.out.fr 0 rfl); (try have a1 := K.out.rd 1 rfl); (try have l1 := K.out.ltp 1 rfl); (try have f1 := K.out.fr 1 rfl); (try have a2 := K.out.rd 2 rfl); (try have l2 := K.out.ltp 2 rfl); (try have f2 := K.out.fr 2 rfl); (try have a3 := K.out.rd 3 rfl); (try have l3 := K.out.ltp 3 rfl); (try have f3 := K.out.fr 3 rfl)))
                refine shown hkC _ _ (by (try dsimp only); (exact sat.rd 5 (by repeat (with_reducible first | exact K.out | apply sat.alloc_any | apply sat.drew | apply sat.drewN)) rfl)) ?_; clear hkC kC hHeld; intro hHeld
                (try simp only [Act.put, p0, p1, p2])
                refine tk 19 (some 156) ?_
                (try simp only [Act.put, p0, p1, p2])
                refine tk 20 (some 157) ?_
                (try simp only [Act.put, p0, p1, p2])
                refine tk 21 (some 158) ?_
                (try simp only [Act.put, p0, p1, p2])
                refine tk 22 (some 159) ?_
                (try simp only [Act.put, p0, p1, p2])
                refine tk 24 (some 161) ?_
                (try simp only [Act.put, p0, p1, p2])
                refine wpAnyH_ready (rs := [23]) (by kernel_rfl) (by simp) ?_
                refine AllReadyH.cons (o := _) rfl (fun kC hkC => ?_) AllReadyH.nil
                go_simp
                (first | (go_at_call 22; (with_reducible refine (GQ _ _ ((show sat E _ _ from by first | exact K.out | exact K.out.drew).pick 2 rfl)).out.mono ?_); rintro e w1 ⟨rfl, rfl⟩) | (go_at_call 23; (with_reducible refine (GV _ _ ((show sat E _ _ from by first | exact K.out | exact K.out.drew).pick 2 rfl)).out.mono ?_); rintro e w1 ⟨rfl, rfl⟩) | (go_at_call 24; (with_reducible refine (PEv _ _ ((show sat E _ _ from by first | exact K.out | exact K.out.drew).pick 1 rfl)).out.mono ?_); rintro e w1 ⟨rfl, rfl⟩) | (go_at_call 26; (with_reducible refine ((AA _).out).mono ?_); rintro e w1 ⟨rfl, hb⟩; have K1 := sat.grown (show sat _ _ _ from by first | exact K.out | exact K.out.drew) hb; clear hb; have K2 := Lib.hid K1; clear K1 K; (try clear a0); (try clear l0); (try clear f0); (try clear a1); (try clear l1); (try clear f1); (try clear a2); (try clear l2); (try clear f2); (try clear a3); (try clear l3); (try clear f3); (try clear a4); (try clear l4); (try clear f4); (try clear a5); (try clear l5); (try clear f5); have K := K2; clear K2; (try have a0 := K.out.rd 0 rfl); (try have l0 := K.out.ltp 0 rfl); (try have f0 := K.out.fr 0 rfl); (try have a1 := K.out.rd 1 rfl); (try have l1 := K.out.ltp 1 rfl); (try have f1 := K.out.fr 1 rfl); (try have a2 := K.out.rd 2 rfl); (try have l2 := K.out.ltp 2 rfl); (try have f2 := K.out.fr 2 rfl); (try have a3 := K.out.rd 3 rfl); (try have l3 := K.out.ltp 3 rfl); (try have f3 := K.out.fr 3 rfl)) | (go_at_call 25; (with_reducible refine ((VL _).out).mono ?_); rintro e w1 ⟨rfl, hb⟩; have K1 := sat.grown (show sat _ _ _ from by first | exact K.out | exact K.out.drew) hb; clear hb; have K2 := Lib.hid K1; clear K1 K; (try clear a0); (try clear l0); (try clear f0); (try clear a1); (try clear l1); (try clear f1); (try clear a2); (try clear l2); (try clear f2); (try clear a3); (try clear l3); (try clear f3); (try clear a4); (try clear l4); (try clear f4); (try clear a5); (try clear l5); (try clear f5); have K := K2; clear K2; (try have a0 := K.out.rd 0 rfl); (try have l0 := K.out.ltp 0 rfl); (try have f0 := K.out.fr 0 rfl); (try have a1 := K.out.rd 1 rfl); (try have l1 := K.out.ltp 1 rfl); (try have f1 := K.out.fr 1 rfl); (try have a2 := K.out.rd 2 rfl); (try have l2 := K.out.ltp 2 rfl); (try have f2 := K.out.fr 2 rfl); (try have a3 := K.out.rd 3 rfl); (try have l3 := K.out.ltp 3 rfl); (try have f3 := K.out.fr 3 rfl)) | (go_at_call 20; (with_reducible refine ((AL0 _).out).mono ?_); rintro e w1 ⟨rfl, hb⟩; have K1 := sat.grown (show sat _ _ _ from by first | exact K.out | exact K.out.drew) hb; clear hb; have K2 := Lib.hid K1; clear K1 K; (try clear a0); (try clear l0); (try clear f0); (try clear a1); (try clear l1); (try clear f1); (try clear a2); (try clear l2); (try clear f2); (try clear a3); (try clear l3); (try clear f3); (try clear a4); (try clear l4); (try clear f4); (try clear a5); (try clear l5); (try clear f5); have K := K2; clear K2; (try have a0 := K.out.rd 0 rfl); (try have l0 := K.out.ltp 0 rfl); (try have f0 := K.out.fr 0 rfl); (try have a1 := K.out.rd 1 rfl); (try have l1 := K.out.ltp 1 rfl); (try have f1 := K.out.fr 1 rfl); (try have a2 := K.out.rd 2 rfl); (try have l2 := K.out.ltp 2 rfl); (try have f2 := K.out.fr 2 rfl); (try have a3 := K.out.rd 3 rfl); (try have l3 := K.out.ltp 3 rfl); (try have f3 := K.out.fr 3 rfl)))
                refine shown hkC _ _ (by (try dsimp only); (exact sat.rd 5 (by repeat (with_reducible first | exact K.out | apply sat.alloc_any | apply sat.drew | apply sat.drewN)) rfl)) ?_; clear hkC kC hHeld; intro hHeld
                (try simp only [Act.put, p0, p1, p2])
                refine tk 25 (some 162) ?_
                (try simp only [Act.put, p0, p1, p2])
                refine tk 26 (some 163) ?_
                (try simp only [Act.put, p0, p1, p2])
                refine tk 27 (some 12) ?_
                (try simp only [Act.put, p0, p1, p2])
                refine wpAnyH_done (by kernel_rfl) (NoPanic.normal ?_) _
                go_wp2
                go_ret
                exact ⟨rfl, (show sat E _ _ from (by repeat (with_reducible first | exact K.out | apply sat.alloc_any | apply sat.drew | apply sat.drewN))).below⟩
          · have zr : o0 = sl := (hoL (by rw [hr]; rfl)).trans hsl0
            have HR := Lib.hid hr
            have HX0' := Lib.hid (show ((orderM W).map (Value.int .i64))[0]? = some (.int .i64 sl) by rw [← zr]; exact HX0.out)
            clear hoL holR HX0 zr x0
            have HX0 := HX0'
            clear HX0'
            go_wp2_with (first | (go_at_call 22; (with_reducible refine (GQ _ _ K.out).out.mono ?_); rintro e w1 ⟨rfl, rfl⟩) | (go_at_call 35; (with_reducible refine (CT2 _ _ (K.out.pick 1 rfl)).out.mono ?_); rintro e w1 ⟨rfl, rfl⟩) | (go_at_call 34; (with_reducible refine (GT _ _ K.out).out.mono ?_); rintro e w1 ⟨rfl, rfl⟩) | (go_at_call 23; (with_reducible refine (GV _ _ K.out).out.mono ?_); rintro e w1 ⟨rfl, rfl⟩) | (go_at_call 24; (with_reducible refine (PEz _ _ (K.out.pick 1 rfl)).out.mono ?_); rintro e w1 ⟨rfl, rfl⟩) | ((go_at_call 28; (with_reducible refine ((HZ _).out).mono ?_); rintro e w1 ⟨rfl, hb⟩; have K1 := sat.grown (by repeat (with_reducible first | exact K.out | apply sat.alloc_any | apply sat.drew | apply sat.drewN)) hb; clear hb; have K2 := Lib.hid K1; clear K1 K; (try clear a0); (try clear l0); (try clear a1); (try clear l1); (try clear a2); (try clear l2); have K := K2; clear K2; have a4 := K.out.rd 4 rfl; have l4 := K.out.ltp 4 rfl); (try clear x0); (try clear x1); (try clear x2); have x0 := K.out.row_rd 2 rfl 0 (.int .i64 sl) HX0.out; have x1 := K.out.row_rd 2 rfl ((orderM W).length - 1) (.int .i64 ol) HX1.out; have x2 := K.out.row_rd 3 rfl sl.toNat (.int .u64 pk) HX2.out) | ((go_at_call 26; (with_reducible refine ((AA _).out).mono ?_); rintro e w1 ⟨rfl, hb⟩; have K1 := sat.grown (by repeat (with_reducible first | exact K.out | apply sat.alloc_any | apply sat.drew | apply sat.drewN)) hb; clear hb; have K2 := Lib.hid K1; clear K1 K; (try clear a0); (try clear l0); (try clear a1); (try clear l1); (try clear a2); (try clear l2); have K := K2; clear K2; have a4 := K.out.rd 4 rfl; have l4 := K.out.ltp 4 rfl); (try clear x0); (try clear x1); (try clear x2); have x0 := K.out.row_rd 2 rfl 0 (.int .i64 sl) HX0.out; have x1 := K.out.row_rd 2 rfl ((orderM W).length - 1) (.int .i64 ol) HX1.out; have x2 := K.out.row_rd 3 rfl sl.toNat (.int .u64 pk) HX2.out) | (go_at_call 29; (with_reducible refine ((UP _).out).mono ?_); rintro e w1 ⟨rfl, hb⟩; have K1 := sat.grown (by repeat (with_reducible first | exact K.out | apply sat.alloc_any | apply sat.drew | apply sat.drewN)) hb; clear hb; have K2 := Lib.hid K1; clear K1 K; (try clear a0); (try clear l0); (try clear a1); (try clear l1); (try clear a2); (try clear l2); have K := K2; clear K2; have a4 := K.out.rd 4 rfl; have l4 := K.out.ltp 4 rfl) | (go_at_call 32; (with_reducible refine ((TK _).out).mono ?_); rintro e w1 ⟨rfl, hb⟩; have K1 := sat.grown (by repeat (with_reducible first | exact K.out | apply sat.alloc_any | apply sat.drew | apply sat.drewN)) hb; clear hb; have K2 := Lib.hid K1; clear K1 K; (try clear a0); (try clear l0); (try clear a1); (try clear l1); (try clear a2); (try clear l2); have K := K2; clear K2; have a4 := K.out.rd 4 rfl; have l4 := K.out.ltp 4 rfl) | (go_at_call 33; (with_reducible refine ((PK _).out).mono ?_); rintro e w1 ⟨rfl, hb⟩; have K1 := sat.grown (by repeat (with_reducible first | exact K.out | apply sat.alloc_any | apply sat.drew | apply sat.drewN)) hb; clear hb; have K2 := Lib.hid K1; clear K1 K; (try clear a0); (try clear l0); (try clear a1); (try clear l1); (try clear a2); (try clear l2); have K := K2; clear K2; have a4 := K.out.rd 4 rfl; have l4 := K.out.ltp 4 rfl) | ((with_reducible refine at_store ?_); refine st_store_row 3 K.out rfl rfl rfl rfl ?_ ?_ ?_ ?_; (· kernel_rfl); (· show _ + 1 ≤ _; rw [HUL.out]; omega); (· simp [Value.oneCell']); intro w1 K1; simp only [List.set, putL_one, u64s_set] at K1; have K2 := Lib.hid K1; clear K1 K; (try clear a0); (try clear l0); (try clear a1); (try clear l1); (try clear a2); (try clear l2); have K := K2; clear K2; have a4 := K.out.rd 4 rfl; have l4 := K.out.ltp 4 rfl) | (go_at_call 17; (with_reducible refine ((WE _ _ ((show sat E _ _ from by iterate 6 (try (with_reducible first | exact K.out | apply sat.alloc_any | apply sat.drew | apply sat.drewN))).pick 1 rfl)).out).mono ?_); rintro e w1 ⟨p3, c3, rfl, K1⟩; replace K1 := (show sat E _ _ from K1); have K2 := Lib.hid K1; clear K1 K; (try clear a0); (try clear l0); (try clear a1); (try clear l1); (try clear a2); (try clear l2); have K := K2; clear K2; have a5 := K.out.rd 5 rfl; have l5 := K.out.ltp 5 rfl))
            have K1 : sat E _ [rowA (.slice p3 c.all.toNat c3) 43 1 c.all.toNat (u64s (setI W sl tkn)), memA gm gr.2, getA gg gr.1, rowA (.slice (some ⟨gi, 0, none⟩) (orderM W).length c2) 3 1 (orderM W).length ((orderM W).map (Value.int .i64)), rowA (.slice (some ⟨gu, 0, none⟩) c.all.toNat c1) 43 1 c.all.toNat (u64s (setI W sl tkn)), pt gc (.cells #[.int .i64 c.th, .int .i64 c.sl, .int .i64 c.src, .int .i64 c.dl] 27 (0, 0))] := K.out
            obtain ⟨g3, hg3, _⟩ := Go.SepYtlnfbfnccefcnaa.row_some K1 (by omega)
            subst hg3
            clear K
            generalize setI W sl tkn = X at K1 hW2l
            have K := Lib.hid K1
            clear K1
            go_loopg [125] c.all.toNat (fun gk i w' => ∃ n : Nat, n + gk = c.all.toNat ∧ i = .int .i64 n ∧ sat E w' [rowA (.slice (some ⟨g3, 0, none⟩) c.all.toNat c3) 43 1 c.all.toNat (u64s X), memA gm gr.2, getA gg gr.1, rowA (.slice (some ⟨gi, 0, none⟩) (orderM W).length c2) 3 1 (orderM W).length ((orderM W).map (Value.int .i64)), rowA (.slice (some ⟨gu, 0, none⟩) c.all.toNat c1) 43 1 c.all.toNat (u64s X), pt gc (.cells #[.int .i64 c.th, .int .i64 c.sl, .int .i64 c.src, .int .i64 c.dl] 27 (0, 0))])
            case atStart => exact ⟨0, by simp, rfl, K.out⟩
            case round =>
              obtain ⟨n, hn, rfl, hs⟩ := hrel
              clear K
              have K := Lib.hid hs
              clear hs
              have a5 := K.out.rd 5 rfl
              have l5 := K.out.ltp 5 rfl
              have HK := Lib.hid hn
              by_cases hlt : n < c.all.toNat
              · have d0 : decide (n < c.all.toNat) = true := by simpa using hlt
                have hX : (u64s X)[n]? = some (.int .u64 X[n]) := by simp [u64s, hW2l, hlt]
                have y0 := K.out.row_rd 0 rfl n _ hX
                have y1 := K.out.row_rd 4 rfl n _ hX
                clear hX
                generalize X[n] = xv at *
                have cx : (xv != xv) = false := by simp
                have hn16 : n < 4096 := by omega
                obtain ⟨gk', rfl⟩ : ∃ g', gk = g' + 1 := ⟨gk - 1, by omega⟩
                clear hn
                go_wp2
                go_roundg gk'
                case measure => omega
                case rel => exact ⟨n + 1, by have := HK.out; omega, by first | (simp; done) | (simp; exact w64 (by omega) (by omega)), K.out⟩
              · have d0 : decide (n < c.all.toNat) = false := by simpa using hlt
                clear hn
                go_wp2_with fail
                refine wp_region_noPanic ?_
                refine wp_region_held_drew (S := (fun w' => (∀ j, w'.cell? ⟨gc, j, none⟩ = ([.int .i64 c.th, .int .i64 c.sl, .int .i64 c.src, .int .i64 c.dl] : List Value)[j]?))) (by kernel_rfl) ?_ (fun hHeld => ?_)
                · ((try dsimp only); (exact sat.rd 5 (by repeat (with_reducible first | exact K.out | apply sat.alloc_any | apply sat.drew | apply sat.drewN)) rfl))
                refine tk 0 (some 137) ?_
                (try simp only [Act.put, p0, p1, p2])
                refine wpAnyH_ready (rs := [1]) (by kernel_rfl) (by simp) ?_
                refine AllReadyH.cons (o := _) rfl (fun kC hkC => ?_) AllReadyH.nil
                go_simp
                (first | (go_at_call 22; (with_reducible refine (GQ _ _ ((show sat E _ _ from by first | exact K.out | exact K.out.drew).pick 2 rfl)).out.mono ?_); rintro e w1 ⟨rfl, rfl⟩) | (go_at_call 23; (with_reducible refine (GV _ _ ((show sat E _ _ from by first | exact K.out | exact K.out.drew).pick 2 rfl)).out.mono ?_); rintro e w1 ⟨rfl, rfl⟩) | (go_at_call 24; (with_reducible refine (PEv _ _ ((show sat E _ _ from by first | exact K.out | exact K.out.drew).pick 1 rfl)).out.mono ?_); rintro e w1 ⟨rfl, rfl⟩) | (go_at_call 26; (with_reducible refine ((AA _).out).mono ?_); rintro e w1 ⟨rfl, hb⟩; have K1 := sat.grown (show sat _ _ _ from by first | exact K.out | exact K.out.drew) hb; clear hb; have K2 := Lib.hid K1; clear K1 K; (try clear a0); (try clear l0); (try clear f0); (try clear a1); (try clear l1); (try clear f1); (try clear a2); (try clear l2); (try clear f2); (try clear a3); (try clear l3); (try clear f3); (try clear a4); (try clear l4); (try clear f4); (try clear a5); (try clear l5); (try clear f5); have K := K2; clear K2; (try have a0 := K.out.rd 0 rfl); (try have l0 := K.out.ltp 0 rfl); (try have f0 := K.out.fr 0 rfl); (try have a1 := K.out.rd 1 rfl); (try have l1 := K.out.ltp 1 rfl); (try have f1 := K.out.fr 1 rfl); (try have a2 := K.out.rd 2 rfl); (try have l2 := K.out.ltp 2 rfl); (try have f2 := K.out.fr 2 rfl); (try have a3 := K.out.rd 3 rfl); (try have l3 := K.out.ltp 3 rfl); (try have f3 := K.out.fr 3 rfl)) | (go_at_call 25; (with_reducible refine ((VL _).out).mono ?_); rintro e w1 ⟨rfl, hb⟩; have K1 := sat.grown (show sat _ _ _ from by first | exact K.out | exact K.out.drew) hb; clear hb; have K2 := Lib.hid K1; clear K1 K; (try clear a0); (try clear l0); (try clear f0); (try clear a1); (try clear l1); (try clear f1); (try clear a2); (try clear l2); (try clear f2); (try clear a3); (try clear l3); (try clear f3); (try clear a4); (try clear l4); (try clear f4); (try clear a5); (try clear l5); (try clear f5); have K := K2; clear K2; (try have a0 := K.out.rd 0 rfl); (try have l0 := K.out.ltp 0 rfl); (try have f0 := K.out.fr 0 rfl); (try have a1 := K.out.rd 1 rfl); (try have l1 := K.out.ltp 1 rfl); (try have f1 := K.out.fr 1 rfl); (try have a2 := K.out.rd 2 rfl); (try have l2 := K.out.ltp 2 rfl); (try have f2 := K.out.fr 2 rfl); (try have a3 := K.out.rd 3 rfl); (try have l3 := K.out.ltp 3 rfl); (try have f3 := K.out.fr 3 rfl)) | (go_at_call 20; (with_reducible refine ((AL0 _).out).mono ?_); rintro e w1 ⟨rfl, hb⟩; have K1 := sat.grown (show sat _ _ _ from by first | exact K.out | exact K.out.drew) hb; clear hb; have K2 := Lib.hid K1; clear K1 K; (try clear a0); (try clear l0); (try clear f0); (try clear a1); (try clear l1); (try clear f1); (try clear a2); (try clear l2); (try clear f2); (try clear a3); (try clear l3); (try clear f3); (try clear a4); (try clear l4); (try clear f4); (try clear a5); (try clear l5); (try clear f5); have K := K2; clear K2; (try have a0 := K.out.rd 0 rfl); (try have l0 := K.out.ltp 0 rfl); (try have f0 := K.out.fr 0 rfl); (try have a1 := K.out.rd 1 rfl); (try have l1 := K.out.ltp 1 rfl); (try have f1 := K.out.fr 1 rfl); (try have a2 := K.out.rd 2 rfl); (try have l2 := K.out.ltp 2 rfl); (try have f2 := K.out.fr 2 rfl); (try have a3 := K.out.rd 3 rfl); (try have l3 := K.out.ltp 3 rfl); (try have f3 := K.out.fr 3 rfl)))
                refine shown hkC _ _ (by (try dsimp only); (exact sat.rd 5 (by repeat (with_reducible first | exact K.out | apply sat.alloc_any | apply sat.drew | apply sat.drewN)) rfl)) ?_; clear hkC kC hHeld; intro hHeld
                (try simp only [Act.put, p0, p1, p2])
                refine tk 2 (some 139) ?_
                (try simp only [Act.put, p0, p1, p2])
                refine tk 3 (some 140) ?_
                (try simp only [Act.put, p0, p1, p2])
                refine tk 4 (some 141) ?_
                (try simp only [Act.put, p0, p1, p2])
                refine tk 5 (some 142) ?_
                (try simp only [Act.put, p0, p1, p2])
                refine wpAnyH_ready (rs := [6]) (by kernel_rfl) (by simp) ?_
                refine AllReadyH.cons (o := _) rfl (fun kC hkC => ?_) AllReadyH.nil
                go_simp
                (first | (go_at_call 22; (with_reducible refine (GQ _ _ ((show sat E _ _ from by first | exact K.out | exact K.out.drew).pick 2 rfl)).out.mono ?_); rintro e w1 ⟨rfl, rfl⟩) | (go_at_call 23; (with_reducible refine (GV _ _ ((show sat E _ _ from by first | exact K.out | exact K.out.drew).pick 2 rfl)).out.mono ?_); rintro e w1 ⟨rfl, rfl⟩) | (go_at_call 24; (with_reducible refine (PEv _ _ ((show sat E _ _ from by first | exact K.out | exact K.out.drew).pick 1 rfl)).out.mono ?_); rintro e w1 ⟨rfl, rfl⟩) | (go_at_call 26; (with_reducible refine ((AA _).out).mono ?_); rintro e w1 ⟨rfl, hb⟩; have K1 := sat.grown (show sat _ _ _ from by first | exact K.out | exact K.out.drew) hb; clear hb; have K2 := Lib.hid K1; clear K1 K; (try clear a0); (try clear l0); (try clear f0); (try clear a1); (try clear l1); (try clear f1); (try clear a2); (try clear l2); (try clear f2); (try clear a3); (try clear l3); (try clear f3); (try clear a4); (try clear l4); (try clear f4); (try clear a5); (try clear l5); (try clear f5); have K := K2; clear K2; (try have a0 := K.out.rd 0 rfl); (try have l0 := K.out.ltp 0 rfl); (try have f0 := K.out.fr 0 rfl); (try have a1 := K.out.rd 1 rfl); (try have l1 := K.out.ltp 1 rfl); (try have f1 := K.out.fr 1 rfl); (try have a2 := K.out.rd 2 rfl); (try have l2 := K.out.ltp 2 rfl); (try have f2 := K.out.fr 2 rfl); (try have a3 := K.out.rd 3 rfl); (try have l3 := K.out.ltp 3 rfl); (try have f3 := K.out.fr 3 rfl)) | (go_at_call 25; (with_reducible refine ((VL _).out).mono ?_); rintro e w1 ⟨rfl, hb⟩; have K1 := sat.grown (show sat _ _ _ from by first | exact K.out | exact K.out.drew) hb; clear hb; have K2 := Lib.hid K1; clear K1 K; (try clear a0); (try clear l0); (try clear f0); (try clear a1); (try clear l1); (try clear f1); (try clear a2); (try clear l2); (try clear f2); (try clear a3); (try clear l3); (try clear f3); (try clear a4); (try clear l4); (try clear f4); (try clear a5); (try clear l5); (try clear f5); have K := K2; clear K2; (try have a0 := K.out.rd 0 rfl); (try have l0 := K.out.ltp 0 rfl); (try have f0 := K.out.fr 0 rfl); (try have a1 := K.out.rd 1 rfl); (try have l1 := K.out.ltp 1 rfl); (try have f1 := K.out.fr 1 rfl); (try have a2 := K.out.rd 2 rfl); (try have l2 := K.out.ltp 2 rfl); (try have f2 := K.out.fr 2 rfl); (try have a3 := K.out.rd 3 rfl); (try have l3 := K.out.ltp 3 rfl); (try have f3 := K.out.fr 3 rfl)) | (go_at_call 20; (with_reducible refine ((AL0 _).out).mono ?_); rintro e w1 ⟨rfl, hb⟩; have K1 := sat.grown (show sat _ _ _ from by first | exact K.out | exact K.out.drew) hb; clear hb; have K2 := Lib.hid K1; clear K1 K; (try clear a0); (try clear l0); (try clear f0); (try clear a1); (try clear l1); (try clear f1); (try clear a2); (try clear l2); (try clear f2); (try clear a3); (try clear l3); (try clear f3); (try clear a4); (try clear l4); (try clear f4); (try clear a5); (try clear l5); (try clear f5); have K := K2; clear K2; (try have a0 := K.out.rd 0 rfl); (try have l0 := K.out.ltp 0 rfl); (try have f0 := K.out.fr 0 rfl); (try have a1 := K.out.rd 1 rfl); (try have l1 := K.out.ltp 1 rfl); (try have f1 := K.out.fr 1 rfl); (try have a2 := K.out.rd 2 rfl); (try have l2 := K.out.ltp 2 rfl); (try have f2 := K.out.fr 2 rfl); (try have a3 := K.out.rd 3 rfl); (try have l3 := K.out.ltp 3 rfl); (try have f3 := K.out.fr 3 rfl)))
                refine shown hkC _ _ (by (try dsimp only); (exact sat.rd 5 (by repeat (with_reducible first | exact K.out | apply sat.alloc_any | apply sat.drew | apply sat.drewN)) rfl)) ?_; clear hkC kC hHeld; intro hHeld
                (try simp only [Act.put, p0, p1, p2])
                refine tk 7 (some 144) ?_
                (try simp only [Act.put, p0, p1, p2])
                refine tk 8 (some 145) ?_
                (try simp only [Act.put, p0, p1, p2])
                refine tk 9 (some 146) ?_
                (try simp only [Act.put, p0, p1, p2])
                refine tk 10 (some 147) ?_
                (try simp only [Act.put, p0, p1, p2])
                refine tk 11 (some 148) ?_
                (try simp only [Act.put, p0, p1, p2])
                refine tk 12 (some 149) ?_
                (try simp only [Act.put, p0, p1, p2])
                refine tk 14 (some 151) ?_
                (try simp only [Act.put, p0, p1, p2])
                refine tk 15 (some 152) ?_
                (try simp only [Act.put, p0, p1, p2])
                refine tk 16 (some 153) ?_
                (try simp only [Act.put, p0, p1, p2])
                refine wpAnyH_ready (rs := [13]) (by kernel_rfl) (by simp) ?_
                refine AllReadyH.cons (o := _) rfl (fun kC hkC => ?_) AllReadyH.nil
                go_simp
                (first | (go_at_call 22; (with_reducible refine (GQ _ _ ((show sat E _ _ from by first | exact K.out | exact K.out.drew).pick 2 rfl)).out.mono ?_); rintro e w1 ⟨rfl, rfl⟩) | (go_at_call 23; (with_reducible refine (GV _ _ ((show sat E _ _ from by first | exact K.out | exact K.out.drew).pick 2 rfl)).out.mono ?_); rintro e w1 ⟨rfl, rfl⟩) | (go_at_call 24; (with_reducible refine (PEv _ _ ((show sat E _ _ from by first | exact K.out | exact K.out.drew).pick 1 rfl)).out.mono ?_); rintro e w1 ⟨rfl, rfl⟩) | (go_at_call 26; (with_reducible refine ((AA _).out).mono ?_); rintro e w1 ⟨rfl, hb⟩; have K1 := sat.grown (show sat _ _ _ from by first | exact K.out | exact K.out.drew) hb; clear hb; have K2 := Lib.hid K1; clear K1 K; (try clear a0); (try clear l0); (try clear f0); (try clear a1); (try clear l1); (try clear f1); (try clear a2); (try clear l2); (try clear f2); (try clear a3); (try clear l3); (try clear f3); (try clear a4); (try clear l4); (try clear f4); (try clear a5); (try clear l5); (try clear f5); have K := K2; clear K2; (try have a0 := K.out.rd 0 rfl); (try have l0 := K.out.ltp 0 rfl); (try have f0 := K.out.fr 0 rfl); (try have a1 := K.out.rd 1 rfl); (try have l1 := K.out.ltp 1 rfl); (try have f1 := K.out.fr 1 rfl); (try have a2 := K.out.rd 2 rfl); (try have l2 := K.out.ltp 2 rfl); (try have f2 := K.out.fr 2 rfl); (try have a3 := K.out.rd 3 rfl); (try have l3 := K.out.ltp 3 rfl); (try have f3 := K.out.fr 3 rfl)) | (go_at_call 25; (with_reducible refine ((VL _).out).mono ?_); rintro e w1 ⟨rfl, hb⟩; have K1 := sat.grown (show sat _ _ _ from by first | exact K.out | exact K.out.drew) hb; clear hb; have K2 := Lib.hid K1; clear K1 K; (try clear a0); (try clear l0); (try clear f0); (try clear a1); (try clear l1); (try clear f1); (try clear a2); (try clear l2); (try clear f2); (try clear a3); (try clear l3); (try clear f3); (try clear a4); (try clear l4); (try clear f4); (try clear a5); (try clear l5); (try clear f5); have K := K2; clear K2; (try have a0 := K.out.rd 0 rfl); (try have l0 := K.out.ltp 0 rfl); (try have f0 := K.out.fr 0 rfl); (try have a1 := K.out.rd 1 rfl); (try have l1 := K.out.ltp 1 rfl); (try have f1 := K.out.fr 1 rfl); (try have a2 := K.out.rd 2 rfl); (try have l2 := K.out.ltp 2 rfl); (try have f2 := K.out.fr 2 rfl); (try have a3 := K.out.rd 3 rfl); (try have l3 := K.out.ltp 3 rfl); (try have f3 := K.out.fr 3 rfl)) | (go_at_call 20; (with_reducible refine ((AL0 _).out).mono ?_); rintro e w1 ⟨rfl, hb⟩; have K1 := sat.grown (show sat _ _ _ from by first | exact K.out | exact K.out.drew) hb; clear hb; have K2 := Lib.hid K1; clear K1 K; (try clear a0); (try clear l0); (try clear f0); (try clear a1); (try clear l1); (try clear f1); (try clear a2); (try clear l2); (try clear f2); (try clear a3); (try clear l3); (try clear f3); (try clear a4); (try clear l4); (try clear f4); (try clear a5); (try clear l5); (try clear f5); have K := K2; clear K2; (try have a0 := K.out.rd 0 rfl); (try have l0 := K.out.ltp 0 rfl); (try have f0 := K.out.fr 0 rfl); (try have a1 := K.out.rd 1 rfl); (try have l1 := K.out.ltp 1 rfl); (try have f1 := K.out.fr 1 rfl); (try have a2 := K.out.rd 2 rfl); (try have l2 := K.out.ltp 2 rfl); (try have f2 := K.out.fr 2 rfl); (try have a3 := K.out.rd 3 rfl); (try have l3 := K.out.ltp 3 rfl); (try have f3 := K.out.fr 3 rfl)))
                refine shown hkC _ _ (by (try dsimp only); (exact sat.rd 5 (by repeat (with_reducible first | exact K.out | apply sat.alloc_any | apply sat.drew | apply sat.drewN)) rfl)) ?_; clear hkC kC hHeld; intro hHeld
                (try simp only [Act.put, p0, p1, p2])
                refine wpAnyH_ready (rs := [17]) (by kernel_rfl) (by simp) ?_
                refine AllReadyH.cons (o := _) rfl (fun kC hkC => ?_) AllReadyH.nil
                go_simp
                (first | (go_at_call 22; (with_reducible refine (GQ _ _ ((show sat E _ _ from by first | exact K.out | exact K.out.drew).pick 2 rfl)).out.mono ?_); rintro e w1 ⟨rfl, rfl⟩) | (go_at_call 23; (with_reducible refine (GV _ _ ((show sat E _ _ from by first | exact K.out | exact K.out.drew).pick 2 rfl)).out.mono ?_); rintro e w1 ⟨rfl, rfl⟩) | (go_at_call 24; (with_reducible refine (PEv _ _ ((show sat E _ _ from by first | exact K.out | exact K.out.drew).pick 1 rfl)).out.mono ?_); rintro e w1 ⟨rfl, rfl⟩) | (go_at_call 26; (with_reducible refine ((AA _).out).mono ?_); rintro e w1 ⟨rfl, hb⟩; have K1 := sat.grown (show sat _ _ _ from by first | exact K.out | exact K.out.drew) hb; clear hb; have K2 := Lib.hid K1; clear K1 K; (try clear a0); (try clear l0); (try clear f0); (try clear a1); (try clear l1); (try clear f1); (try clear a2); (try clear l2); (try clear f2); (try clear a3); (try clear l3); (try clear f3); (try clear a4); (try clear l4); (try clear f4); (try clear a5); (try clear l5); (try clear f5); have K := K2; clear K2; (try have a0 := K.out.rd 0 rfl); (try have l0 := K.out.ltp 0 rfl); (try have f0 := K.out.fr 0 rfl); (try have a1 := K.out.rd 1 rfl); (try have l1 := K.out.ltp 1 rfl); (try have f1 := K.out.fr 1 rfl); (try have a2 := K.out.rd 2 rfl); (try have l2 := K.out.ltp 2 rfl); (try have f2 := K.out.fr 2 rfl); (try have a3 := K.out.rd 3 rfl); (try have l3 := K.out.ltp 3 rfl); (try have f3 := K.out.fr 3 rfl)) | (go_at_call 25; (with_reducible refine ((VL _).out).mono ?_); rintro e w1 ⟨rfl, hb⟩; have K1 := sat.grown (show sat _ _ _ from by first | exact K.out | exact K.out.drew) hb; clear hb; have K2 := Lib.hid K1; clear K1 K; (try clear a0); (try clear l0); (try clear f0); (try clear a1); (try clear l1); (try clear f1); (try clear a2); (try clear l2); (try clear f2); (try clear a3); (try clear l3); (try clear f3); (try clear a4); (try clear l4); (try clear f4); (try clear a5); (try clear l5); (try clear f5); have K := K2; clear K2; (try have a0 := K.out.rd 0 rfl); (try have l0 := K.out.ltp 0 rfl); (try have f0 := K.out.fr 0 rfl); (try have a1 := K.out.rd 1 rfl); (try have l1 := K.out.ltp 1 rfl); (try have f1 := K.out.fr 1 rfl); (try have a2 := K.out.rd 2 rfl); (try have l2 := K.out.ltp 2 rfl); (try have f2 := K.out.fr 2 rfl); (try have a3 := K.out.rd 3 rfl); (try have l3 := K.out.ltp 3 rfl); (try have f3 := K.out.fr 3 rfl)) | (go_at_call 20; (with_reducible refine ((AL0 _).out).mono ?_); rintro e w1 ⟨rfl, hb⟩; have K1 := sat.grown (show sat _ _ _ from by first | exact K.out | exact K.out.drew) hb; clear hb; have K2 := Lib.hid K1; clear K1 K; (try clear a0); (try clear l0); (try clear f0); (try clear a1); (try clear l1); (try clear f1); (try clear a2); (try clear l2); (try clear f2); (try clear a3); (try clear l3); (try clear f3); (try clear a4); (try clear l4); (try clear f4); (try clear a5); (try clear l5); (try clear f5); have K := K2; clear K2; (try have a0 := K.out.rd 0 rfl); (try have l0 := K.out.ltp 0 rfl); (try have f0 := K.out.fr 0 rfl); (try have a1 := K.out.rd 1 rfl); (try have l1 := K.out.ltp 1 rfl); (try have f1 := K.out.fr 1 rfl); (try have a2 := K.out.rd 2 rfl); (try have l2 := K.out.ltp 2 rfl); (try have f2 := K.out.fr 2 rfl); (try have a3 := K.out.rd 3 rfl); (try have l3 := K.out.ltp 3 rfl); (try have f3 := K.out.fr 3 rfl)))
                refine shown hkC _ _ (by (try dsimp only); (exact sat.rd 5 (by repeat (with_reducible first | exact K.out | apply sat.alloc_any | apply sat.drew | apply sat.drewN)) rfl)) ?_; clear hkC kC hHeld; intro hHeld
                (try simp only [Act.put, p0, p1, p2])
                refine wpAnyH_ready (rs := [18]) (by kernel_rfl) (by simp) ?_
                refine AllReadyH.cons (o := _) rfl (fun kC hkC => ?_) AllReadyH.nil
                go_simp
                (first | (go_at_call 22; (with_reducible refine (GQ _ _ ((show sat E _ _ from by first | exact K.out | exact K.out.drew).pick 2 rfl)).out.mono ?_); rintro e w1 ⟨rfl, rfl⟩) | (go_at_call 23; (with_reducible refine (GV _ _ ((show sat E _ _ from by first | exact K.out | exact K.out.drew).pick 2 rfl)).out.mono ?_); rintro e w1 ⟨rfl, rfl⟩) | (go_at_call 24; (with_reducible refine (PEv _ _ ((show sat E _ _ from by first | exact K.out | exact K.out.drew).pick 1 rfl)).out.mono ?_); rintro e w1 ⟨rfl, rfl⟩) | (go_at_call 26; (with_reducible refine ((AA _).out).mono ?_); rintro e w1 ⟨rfl, hb⟩; have K1 := sat.grown (show sat _ _ _ from by first | exact K.out | exact K.out.drew) hb; clear hb; have K2 := Lib.hid K1; clear K1 K; (try clear a0); (try clear l0); (try clear f0); (try clear a1); (try clear l1); (try clear f1); (try clear a2); (try clear l2); (try clear f2); (try clear a3); (try clear l3); (try clear f3); (try clear a4); (try clear l4); (try clear f4); (try clear a5); (try clear l5); (try clear f5); have K := K2; clear K2; (try have a0 := K.out.rd 0 rfl); (try have l0 := K.out.ltp 0 rfl); (try have f0 := K.out.fr 0 rfl); (try have a1 := K.out.rd 1 rfl); (try have l1 := K.out.ltp 1 rfl); (try have f1 := K.out.fr 1 rfl); (try have a2 := K.out.rd 2 rfl); (try have l2 := K.out.ltp 2 rfl); (try have f2 := K.out.fr 2 rfl); (try have a3 := K.out.rd 3 rfl); (try have l3 := K.out.ltp 3 rfl); (try have f3 := K.out.fr 3 rfl)) | (go_at_call 25; (with_reducible refine ((VL _).out).mono ?_); rintro e w1 ⟨rfl, hb⟩; have K1 := sat.grown (show sat _ _ _ from by first | exact K.out | exact K.out.drew) hb; clear hb; have K2 := Lib.hid K1; clear K1 K; (try clear a0); (try clear l0); (try clear f0); (try clear a1); (try clear l1); (try clear f1); (try clear a2); (try clear l2); (try clear f2); (try clear a3); (try clear l3); (try clear f3); (try clear a4); (try clear l4); (try clear f4); (try clear a5); (try clear l5); (try clear f5); have K := K2; clear K2; (try have a0 := K.out.rd 0 rfl); (try have l0 := K.out.ltp 0 rfl); (try have f0 := K.out.fr 0 rfl); (try have a1 := K.out.rd 1 rfl); (try have l1 := K.out.ltp 1 rfl); (try have f1 := K.out.fr 1 rfl); (try have a2 := K.out.rd 2 rfl); (try have l2 := K.out.ltp 2 rfl); (try have f2 := K.out.fr 2 rfl); (try have a3 := K.out.rd 3 rfl); (try have l3 := K.out.ltp 3 rfl); (try have f3 := K.out.fr 3 rfl)) | (go_at_call 20; (with_reducible refine ((AL0 _).out).mono ?_); rintro e w1 ⟨rfl, hb⟩; have K1 := sat.grown (show sat _ _ _ from by first | exact K.out | exact K.out.drew) hb; clear hb; have K2 := Lib.hid K1; clear K1 K; (try clear a0); (try clear l0); (try clear f0); (try clear a1); (try clear l1); (try clear f1); (try clear a2); (try clear l2); (try clear f2); (try clear a3); (try clear l3); (try clear f3); (try clear a4); (try clear l4); (try clear f4); (try clear a5); (try clear l5); (try clear f5); have K := K2; clear K2; (try have a0 := K.out.rd 0 rfl); (try have l0 := K.out.ltp 0 rfl); (try have f0 := K.out.fr 0 rfl); (try have a1 := K.out.rd 1 rfl); (try have l1 := K.out.ltp 1 rfl); (try have f1 := K.out.fr 1 rfl); (try have a2 := K.out.rd 2 rfl); (try have l2 := K.out.ltp 2 rfl); (try have f2 := K.out.fr 2 rfl); (try have a3 := K.out.rd 3 rfl); (try have l3 := K.out.ltp 3 rfl); (try have f3 := K.out.fr 3 rfl)))
                refine shown hkC _ _ (by (try dsimp only); (exact sat.rd 5 (by repeat (with_reducible first | exact K.out | apply sat.alloc_any | apply sat.drew | apply sat.drewN)) rfl)) ?_; clear hkC kC hHeld; intro hHeld
                (try simp only [Act.put, p0, p1, p2])
                refine tk 19 (some 156) ?_
                (try simp only [Act.put, p0, p1, p2])
                refine tk 20 (some 157) ?_
                (try simp only [Act.put, p0, p1, p2])
                refine tk 21 (some 158) ?_
                (try simp only [Act.put, p0, p1, p2])
                refine tk 22 (some 159) ?_
                (try simp only [Act.put, p0, p1, p2])
                refine tk 24 (some 161) ?_
                (try simp only [Act.put, p0, p1, p2])
                refine wpAnyH_ready (rs := [23]) (by kernel_rfl) (by simp) ?_
                refine AllReadyH.cons (o := _) rfl (fun kC hkC => ?_) AllReadyH.nil
                go_simp
                (first | (go_at_call 22; (with_reducible refine (GQ _ _ ((show sat E _ _ from by first | exact K.out | exact K.out.drew).pick 2 rfl)).out.mono ?_); rintro e w1 ⟨rfl, rfl⟩) | (go_at_call 23; (with_reducible refine (GV _ _ ((show sat E _ _ from by first | exact K.out | exact K.out.drew).pick 2 rfl)).out.mono ?_); rintro e w1 ⟨rfl, rfl⟩) | (go_at_call 24; (with_reducible refine (PEv _ _ ((show sat E _ _ from by first | exact K.out | exact K.out.drew).pick 1 rfl)).out.mono ?_); rintro e w1 ⟨rfl, rfl⟩) | (go_at_call 26; (with_reducible refine ((AA _).out).mono ?_); rintro e w1 ⟨rfl, hb⟩; have K1 := sat.grown (show sat _ _ _ from by first | exact K.out | exact K.out.drew) hb; clear hb; have K2 := Lib.hid K1; clear K1 K; (try clear a0); (try clear l0); (try clear f0); (try clear a1); (try clear l1); (try clear f1); (try clear a2); (try clear l2); (try clear f2); (try clear a3); (try clear l3); (try clear f3); (try clear a4); (try clear l4); (try clear f4); (try clear a5); (try clear l5); (try clear f5); have K := K2; clear K2; (try have a0 := K.out.rd 0 rfl); (try have l0 := K.out.ltp 0 rfl); (try have f0 := K.out.fr 0 rfl); (try have a1 := K.out.rd 1 rfl); (try have l1 := K.out.ltp 1 rfl); (try have f1 := K.out.fr 1 rfl); (try have a2 := K.out.rd 2 rfl); (try have l2 := K.out.ltp 2 rfl); (try have f2 := K.out.fr 2 rfl); (try have a3 := K.out.rd 3 rfl); (try have l3 := K.out.ltp 3 rfl); (try have f3 := K.out.fr 3 rfl)) | (go_at_call 25; (with_reducible refine ((VL _).out).mono ?_); rintro e w1 ⟨rfl, hb⟩; have K1 := sat.grown (show sat _ _ _ from by first | exact K.out | exact K.out.drew) hb; clear hb; have K2 := Lib.hid K1; clear K1 K; (try clear a0); (try clear l0); (try clear f0); (try clear a1); (try clear l1); (try clear f1); (try clear a2); (try clear l2); (try clear f2); (try clear a3); (try clear l3); (try clear f3); (try clear a4); (try clear l4); (try clear f4); (try clear a5); (try clear l5); (try clear f5); have K := K2; clear K2; (try have a0 := K.out.rd 0 rfl); (try have l0 := K.out.ltp 0 rfl); (try have f0 := K.out.fr 0 rfl); (try have a1 := K.out.rd 1 rfl); (try have l1 := K.out.ltp 1 rfl); (try have f1 := K.out.fr 1 rfl); (try have a2 := K.out.rd 2 rfl); (try have l2 := K.out.ltp 2 rfl); (try have f2 := K.out.fr 2 rfl); (try have a3 := K.out.rd 3 rfl); (try have l3 := K.out.ltp 3 rfl); (try have f3 := K.out.fr 3 rfl)) | (go_at_call 20; (with_reducible refine ((AL0 _).out).mono ?_); rintro e w1 ⟨rfl, hb⟩; have K1 := sat.grown (show sat _ _ _ from by first | exact K.out | exact K.out.drew) hb; clear hb; have K2 := Lib.hid K1; clear K1 K; (try clear a0); (try clear l0); (try clear f0); (try clear a1); (try clear l1); (try clear f1); (try clear a2); (try clear l2); (try clear f2); (try clear a3); (try clear l3); (try clear f3); (try clear a4); (try clear l4); (try clear f4); (try clear a5); (try clear l5); (try clear f5); have K := K2; clear K2; (try have a0 := K.out.rd 0 rfl); (try have l0 := K.out.ltp 0 rfl); (try have f0 := K.out.fr 0 rfl); (try have a1 := K.out.rd 1 rfl); (try have l1 := K.out.ltp 1 rfl); (try have f1 := K.out.fr 1 rfl); (try have a2 := K.out.rd 2 rfl); (try have l2 := K.out.ltp 2 rfl); (try have f2 := K.out.fr 2 rfl); (try have a3 := K.out.rd 3 rfl); (try have l3 := K.out.ltp 3 rfl); (try have f3 := K.out.fr 3 rfl)))
                refine shown hkC _ _ (by (try dsimp only); (exact sat.rd 5 (by repeat (with_reducible first | exact K.out | apply sat.alloc_any | apply sat.drew | apply sat.drewN)) rfl)) ?_; clear hkC kC hHeld; intro hHeld
                (try simp only [Act.put, p0, p1, p2])
                refine tk 25 (some 162) ?_
                (try simp only [Act.put, p0, p1, p2])
                refine tk 26 (some 163) ?_
                (try simp only [Act.put, p0, p1, p2])
                refine tk 27 (some 12) ?_
                (try simp only [Act.put, p0, p1, p2])
                refine wpAnyH_done (by kernel_rfl) (NoPanic.normal ?_) _
                go_wp2
                go_ret
                exact ⟨rfl, (show sat E _ _ from (by repeat (with_reducible first | exact K.out | apply sat.alloc_any | apply sat.drew | apply sat.drewN))).below⟩
theorem getAlone_calls (W : World) (t : Int) (_ : (Lit.int .i64 t).wf = true) (s : Int) (_ : (Lit.int .i64 s).wf = true) (who : Int) (_ : (Lit.int .i64 who).wf = true) (st : Int) (_ : (Lit.int .i64 st).wf = true) (right : Bool) (a : Option Addr) (len cap : Nat) (rows : List (List Value)) (h : RowsAt W thingK a len cap rows) :
    Calls Try.prog 7 #[.int .i64 t, .int .i64 s, .int .i64 who, .int .i64 st, .bool right, .slice a len cap] W fun e W' => e = .returned (.bool true) ∧ Below W.heap.size W W' := by
  obtain ⟨l, rfl, hwf, ho⟩ := oldT_of h
  exact getAlone_main t s who st right a l cap W hwf ho
end Go.Proofs.Ytlnfbfnccefcnaa
