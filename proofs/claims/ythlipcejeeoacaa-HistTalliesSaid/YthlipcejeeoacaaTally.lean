/- How often each value was put in, less how often it was had (hist.Tally). Conditions: the deeds lie in memory as told; numbers within their kinds; at most a million deeds. -/
import Derived.Test.YthlipcejeeoacaaDeed
import Derived.Test.YthlipcejeeoacaaTallyM
import Derived.Test.YthlipcejeeoacaaMapLen
namespace Go.Proofs.Ythlipcejeeoacaa
open Go.RowKit Go.SepYthlipcejeeoacaa Go.Maps
set_option linter.unusedSimpArgs false
set_option linter.unusedVariables false
set_option maxRecDepth 100000
set_option maxHeartbeats 4000000
theorem keyedU : Keyed Try.prog 24 := int_keyed Try.underlying24
theorem zeroG : ∀ w : World, (zeroValue 3).run Try.prog w = .ok (.int .i64 0) w := fun w => by kernel_rfl
abbrev tallyA (b n : Nat) (f : Lit → Option Int) : SA := mapI Try.prog 24 3 .i64 b n f
theorem keyU {v : Int} (h : u64P v) : keyOf Try.prog 24 (.int .u64 v) = some (.int .u64 v) := keyOf_int_mk Try.underlying24 (wfU h)
theorem keysU {kl : Lit} (h : KeysOf Try.prog 24 kl) : ∃ v, kl = .int .u64 v ∧ u64P v := by
  obtain ⟨x, hx⟩ := h
  obtain ⟨v, rfl, rfl, hw⟩ := Maps.keyOf_int_inv Try.underlying24 hx
  exact ⟨v, rfl, unwfU hw⟩
/-- What the first loop leaves. -/
def Tal (l : List DeedM) (f : Lit → Option Int) : Prop := ∀ v, f (.int .u64 v) = if touched v l then some (net v l) else none
theorem Tal.getD {l : List DeedM} {f : Lit → Option Int} (h : Tal l f) (v : Int) : (f (.int .u64 v)).getD 0 = net v l := by
  rw [h v]
  cases ht : touched v l with
  | true => rfl
  | false => rw [net_zero ht]; rfl
theorem Tal.skip {l : List DeedM} {f : Lit → Option Int} (h : Tal l f) {d : DeedM} (hd : d.reply.ok = false) : Tal (l ++ [d]) f := fun v => by
  rw [touched_snoc, net_snoc, show touchD v d = false by simp [touchD, hd], netD_zero (by simp [touchD, hd]), Bool.or_false, Int.add_zero]
  exact h v
theorem Tal.put {l : List DeedM} {f : Lit → Option Int} (h : Tal l f) {d : DeedM} (hd : d.reply.ok = true) {x v0 : Int} (hv : vOf d = v0) (hx : x = net v0 l + netD v0 d) : Tal (l ++ [d]) (updI f (.int .u64 v0) x) := fun v => by
  rw [touched_snoc, net_snoc]
  by_cases e : v = v0
  · subst e
    rw [updI_same, show touchD v d = true by simp [touchD, hd, hv], Bool.or_true, if_pos rfl, hx]
  · rw [updI_other _ _ _ (by intro hh; injection hh with _ hh; exact e hh), show touchD v d = false by simp [touchD, hd, hv]; exact fun q => e q.symm, netD_zero (by simp [touchD, hd, hv]; exact fun q => e q.symm), Bool.or_false, Int.add_zero]
    exact h v
def TallyEnd (w : World) (l : List DeedM) (e : Ending) (w' : World) : Prop := ∃ (b n : Nat) (f : Lit → Option Int), e = .returned (.map (some b)) ∧ sat w w' [tallyA b n f] ∧ ∀ v, f (.int .u64 v) = if net v l = 0 then none else some (net v l)
theorem nz_tal {l : List DeedM} {f : Lit → Option Int} (h : Tal l f) (v : Int) : nz f (.int .u64 v) = if net v l = 0 then none else some (net v l) := by
  unfold nz
  rw [h v]
  cases ht : touched v l with
  | true => by_cases h0 : net v l = 0 <;> simp [h0]
  | false => simp [net_zero ht]
theorem tally_calls (p : Option Addr) (l : List DeedM) (cap : Nat) (w : World) (hl : l.length ≤ 1000000) (hwf : ∀ e ∈ l, DeedM.wf e) (h : OldD w p l) :
    Calls Try.prog 20 #[.slice p l.length cap] w (TallyEnd w l) := by
  have K := Lib.hid (sat.start w)
  have H := Lib.hid h
  have HW := Lib.hid hwf
  clear h hwf
  go_enter Try.func20, Try.ntmps20
  go_wp2_with (first | ((with_reducible refine at_makeMap' ?_); refine st_makeMap 24 3 .i64 K.out ?_; intro g w1 K1; have K2 := Lib.hid K1; clear K1 K; (try clear a0); (try clear l0); (try clear a1); (try clear l1); (try clear a2); (try clear l2); have K := K2; clear K2))
  go_loopg [11] l.length (fun gk i w' => ∃ (n : Nat) (f : Lit → Option Int), n + gk = l.length ∧ i = .int .i64 n ∧ Tal (l.take n) f ∧ sat w w' [tallyA g n f])
  case atStart => exact ⟨0, _, by simp, rfl, fun v => rfl, K.out⟩
  case round =>
    obtain ⟨n, f, hn, rfl, hT, hs⟩ := hrel
    clear K
    have K := Lib.hid hs
    clear hs
    by_cases hlt : n < l.length
    · have d0 : decide (n < l.length) = true := by simpa using hlt
      obtain ⟨b, off, rfl, hb0, hx0⟩ := H.out n hlt
      have hx : ∀ i u, (DeedM.v l[n])[i]? = some u → wr.cell? ⟨b, off + n * 11 + i, none⟩ = some u := fun i u hi => (K.out.below.cell (p := ⟨b, off + n * 11 + i, none⟩) hb0).trans (hx0 i u hi)
      have y0 : wr.cell? ⟨b, off + n * 11, none⟩ = _ := hx 0 _ rfl
      have y1 := hx 1 _ rfl
      have y2 := hx 2 _ rfl
      have y3 := hx 3 _ rfl
      have y4 := hx 4 _ rfl
      have y5 := hx 5 _ rfl
      have y6 := hx 6 _ rfl
      have y7 := hx 7 _ rfl
      have y8 := hx 8 _ rfl
      have y9 := hx 9 _ rfl
      have y10 := hx 10 _ rfl
      have hwn := HW.out l[n] (List.getElem_mem hlt)
      have E1 := Lib.hid (List.take_succ_eq_append_getElem hlt)
      have hnb := fun v => net_bd v (l.take n)
      have hlen : (l.take n).length = n := by rw [List.length_take]; omega
      rw [hlen] at hnb
      have HN := Lib.hid hn
      have HT := Lib.hid hT
      clear hx hx0 hn hT hlen
      generalize l[n] = d at *
      obtain ⟨gk', rfl⟩ : ∃ g', gk = g' + 1 := ⟨gk - 1, by have := HN.out; omega⟩
      cases hok : d.reply.ok with
      | false =>
        have HK := Lib.hid hok
        clear hnb hwn
        go_wp2_with (first | ((with_reducible refine at_alloc ?_); refine st_allocf K.out (fun _ => rfl) ?_; intro gd w1 K1; have K2 := Lib.hid K1; clear K1 K; (try clear a0); (try clear l0); (try clear a1); (try clear l1); (try clear a2); (try clear l2); have K := K2; clear K2; have a0 := K.out.rd 0 rfl; have l0 := K.out.ltp 0 rfl) | ((with_reducible refine at_store ?_); refine st_store 0 K.out rfl rfl rfl rfl ?_ ?_ ?_ ?_; (· kernel_rfl); (· simp); (· simp [Value.oneCell']); intro w1 K1; simp only [List.set, putL] at K1; have K2 := Lib.hid K1; clear K1 K; (try clear a0); (try clear l0); (try clear a1); (try clear l1); (try clear a2); (try clear l2); have K := K2; clear K2; have a0 := K.out.rd 0 rfl; have l0 := K.out.ltp 0 rfl))
        go_roundg gk'
        case measure => omega
        case rel => exact ⟨n + 1, f, by have := HN.out; omega, by simp, by rw [E1.out]; exact HT.out.skip HK.out, K.out.drop.mapI_mono (Nat.le_succ n)⟩
      | true =>
        have HK := Lib.hid hok
        by_cases hk : d.call.kind = 0
        · have t0 : (d.call.kind == 0) = true := by simpa using hk
          have hv : vOf d = d.call.value := if_pos hk
          have hd : netD (d.call.value) d = 1 := by unfold netD; rw [if_pos ⟨HK.out, hv⟩, if_pos hk]
          have hb := hnb (d.call.value)
          have hg := HT.out.getD (d.call.value)
          have e1 : wrap64 ((f (.int .u64 (d.call.value))).getD 0 + 1) = net (d.call.value) (l.take n) + 1 := by rw [hg]; exact w64 (by omega) (by omega)
          have KU := Lib.hid (keyU hwn.value)
          have W1 := Lib.hid (show (Lit.int .i64 (wrap64 ((f (.int .u64 (d.call.value))).getD 0 + 1))).wf = true from by rw [e1]; exact wf64 (by unfold w64P; omega))
          have HP := Lib.hid (HT.out.put HK.out hv (show net (d.call.value) (l.take n) + 1 = net (d.call.value) (l.take n) + netD (d.call.value) d by rw [hd]))
          clear hk hv hd hb hg hnb hwn
          go_wp2_with (first | ((with_reducible refine at_alloc ?_); refine st_allocf K.out (fun _ => rfl) ?_; intro gd w1 K1; have K2 := Lib.hid K1; clear K1 K; (try clear a0); (try clear l0); (try clear a1); (try clear l1); (try clear a2); (try clear l2); have K := K2; clear K2; have a0 := K.out.rd 0 rfl; have l0 := K.out.ltp 0 rfl) | ((with_reducible refine at_store ?_); refine st_store 0 K.out rfl rfl rfl rfl ?_ ?_ ?_ ?_; (· kernel_rfl); (· simp); (· simp [Value.oneCell']); intro w1 K1; simp only [List.set, putL] at K1; have K2 := Lib.hid K1; clear K1 K; (try clear a0); (try clear l0); (try clear a1); (try clear l1); (try clear a2); (try clear l2); have K := K2; clear K2; have a0 := K.out.rd 0 rfl; have l0 := K.out.ltp 0 rfl) | ((with_reducible refine at_lookup' ?_); refine st_look 1 K.out rfl keyedU Try.underlying47 Try.underlying3 zeroG rfl rfl KU.out ?_) | ((with_reducible refine at_put' ?_); refine st_put 1 K.out rfl keyedU Try.underlying47 Try.underlying3 (by unfold maxLen; omega) rfl rfl KU.out rfl W1.out ?_; intro w1 K1; simp only [List.set, e1] at K1; have K2 := Lib.hid K1; clear K1 K; (try clear a0); (try clear l0); (try clear a1); (try clear l1); (try clear a2); (try clear l2); have K := K2; clear K2; have a0 := K.out.rd 0 rfl; have l0 := K.out.ltp 0 rfl))
          go_roundg gk'
          case measure => omega
          case rel => exact ⟨n + 1, _, by have := HN.out; omega, by simp, by rw [E1.out]; exact HP.out, K.out.drop⟩
        · have t0 : (d.call.kind == 0) = false := by simpa using hk
          have hv : vOf d = d.reply.value := if_neg hk
          have hd : netD (d.reply.value) d = -1 := by unfold netD; rw [if_pos ⟨HK.out, hv⟩, if_neg hk]
          have hb := hnb (d.reply.value)
          have hg := HT.out.getD (d.reply.value)
          have e1 : wrap64 ((f (.int .u64 (d.reply.value))).getD 0 - 1) = net (d.reply.value) (l.take n) - 1 := by rw [hg]; exact w64 (by omega) (by omega)
          have KU := Lib.hid (keyU hwn.rvalue)
          have W1 := Lib.hid (show (Lit.int .i64 (wrap64 ((f (.int .u64 (d.reply.value))).getD 0 - 1))).wf = true from by rw [e1]; exact wf64 (by unfold w64P; omega))
          have HP := Lib.hid (HT.out.put HK.out hv (show net (d.reply.value) (l.take n) - 1 = net (d.reply.value) (l.take n) + netD (d.reply.value) d by rw [hd]; omega))
          clear hk hv hd hb hg hnb hwn
          go_wp2_with (first | ((with_reducible refine at_alloc ?_); refine st_allocf K.out (fun _ => rfl) ?_; intro gd w1 K1; have K2 := Lib.hid K1; clear K1 K; (try clear a0); (try clear l0); (try clear a1); (try clear l1); (try clear a2); (try clear l2); have K := K2; clear K2; have a0 := K.out.rd 0 rfl; have l0 := K.out.ltp 0 rfl) | ((with_reducible refine at_store ?_); refine st_store 0 K.out rfl rfl rfl rfl ?_ ?_ ?_ ?_; (· kernel_rfl); (· simp); (· simp [Value.oneCell']); intro w1 K1; simp only [List.set, putL] at K1; have K2 := Lib.hid K1; clear K1 K; (try clear a0); (try clear l0); (try clear a1); (try clear l1); (try clear a2); (try clear l2); have K := K2; clear K2; have a0 := K.out.rd 0 rfl; have l0 := K.out.ltp 0 rfl) | ((with_reducible refine at_lookup' ?_); refine st_look 1 K.out rfl keyedU Try.underlying47 Try.underlying3 zeroG rfl rfl KU.out ?_) | ((with_reducible refine at_put' ?_); refine st_put 1 K.out rfl keyedU Try.underlying47 Try.underlying3 (by unfold maxLen; omega) rfl rfl KU.out rfl W1.out ?_; intro w1 K1; simp only [List.set, e1] at K1; have K2 := Lib.hid K1; clear K1 K; (try clear a0); (try clear l0); (try clear a1); (try clear l1); (try clear a2); (try clear l2); have K := K2; clear K2; have a0 := K.out.rd 0 rfl; have l0 := K.out.ltp 0 rfl))
          go_roundg gk'
          case measure => omega
          case rel => exact ⟨n + 1, _, by have := HN.out; omega, by simp, by rw [E1.out]; exact HP.out, K.out.drop⟩
    · have hnl : n = l.length := by omega
      subst hnl
      have d0 : decide (l.length < l.length) = false := by simp
      rw [List.take_length] at hT
      obtain ⟨o, D, hp, ho, hf⟩ := K.out.mapI_owns
      have HT := Lib.hid hT
      have HF := Lib.hid hf
      have HO := Lib.hid ho
      have HP := Lib.hid hp
      clear hT hf ho hp K hlt hn
      go_wp2_with (first | (at_range; refine wpList_range_own _ rfl _ 47 rfl 24 3 keyedU Try.underlying47 _ g l.length D rfl HO.out ?_; intro w0 hrg0 hg0 hs0))
      go_frame
      have HG := Lib.hid hg0
      have HR := Lib.hid hrg0
      clear hg0 hrg0
      have FIN := Lib.hid (fun (w' : World) (r : Nat) (left : Lit → Bool) (cnt : Nat) (D1 : DataW Unit) (hr : w'.ranges Try.prog 24 (plainElem (H := Unit) Try.prog 3) g r l.length D1 left cnt) (hh : Has Try.prog 24 .i64 D1 (flt f left)) (hgw : wr.grownBy w' (some g)) (hl : ∀ kl, left kl = false) =>
        (show TallyEnd w l (.returned (.map (some g))) w' from by
          have how := hr.owns
          obtain ⟨es, clock, hb, _⟩ := how
          exact ⟨g, l.length, nz f, rfl, sat.mapI_shut (HP.out.turn hgw hb) hr.owns (by rw [← flt_end hl]; exact hh), nz_tal HT.out⟩))
      clear HP HT HO
      go_loopw [6, 7] (fun _ _ w' => ∃ (left : Lit → Bool) (cnt : Nat) (D1 : DataW Unit), w'.ranges Try.prog 24 (plainElem (H := Unit) Try.prog 3) g wr.heap.size l.length D1 left cnt ∧ Has Try.prog 24 .i64 D1 (flt f left) ∧ wr.grownBy w' (some g))
        (fun _ _ w' => w'.rangeLeft g wr.heap.size)
      case atStart => exact ⟨_, _, D, HR.out, has_flt_start HF.out, HG.out.but _⟩
      case round =>
        obtain ⟨left, cnt, D1, hrg, hh, hgw⟩ := hrel
        have HR1 := Lib.hid hrg
        have HH := Lib.hid hh
        have HW1 := Lib.hid hgw
        clear hrg hh hgw
        go_wp2_with (first | (at_next; refine wpList_next_ranges_ii _ rfl _ rfl 24 3 .u64 .i64 keyedU Try.underlying24 Try.underlying3 g _ l.length _ _ _ rfl HR1.out ?_ ?_))
        · intro _ hl0
          have FF := Lib.hid (FIN.out _ _ left cnt D1 HR1.out HH.out HW1.out hl0)
          clear hl0
          go_wp2
          go_ret
          exact FF.out
        · intro x c w1 cnt1 hwx hwc hlx hat hrg1 hlt1 hg1 hs1 hen
          have hgw1 := HW1.out.andThen hg1 (fun j hj => by cases hj; exact Or.inl (Nat.le_refl _))
          have hfx := flt_came HH.out (kl := .int .u64 x) ⟨.int .u64 x, keyOf_int_mk Try.underlying24 hwx⟩ hat
          have HR2 := Lib.hid hrg1
          have HG1 := Lib.hid hgw1
          have HFX := Lib.hid hfx
          have HLT := Lib.hid hlt1
          have HWX := Lib.hid hwx
          clear hrg1 hgw1 hfx hlt1 hat hlx hg1 hs1 hwx hwc
          by_cases c0 : c = 0
          · have t0 : (c == 0) = true := by simpa using c0
            go_wp2_with (first | (at_delete; refine wpList_delete_ranges _ rfl _ _ 47 24 rfl 3 keyedU Try.underlying47 _ g _ l.length _ _ _ rfl HR2.out _ _ rfl (keyOf_int_mk Try.underlying24 HWX.out) ?_; intro w2 cnt2 hrg2 hle hturn; go_frame))
            rw [strike_twice] at hrg2
            go_roundw
            case rel => exact ⟨_, cnt2, _, hrg2, flt_struck HH.out trivial (by rw [HFX.out, c0]), HG1.out.andThen hturn.grown (fun j hj => by cases hj; exact Or.inr rfl)⟩
            case measure => rw [hrg2.left_eq, HR1.out.left_eq]; have := HLT.out; omega
          · have t0 : (c == 0) = false := by simpa using c0
            go_wp2
            go_roundw
            case rel => exact ⟨_, cnt1, _, HR2.out, flt_stays HH.out HFX.out c0, HG1.out⟩
            case measure => rw [HR2.out.left_eq, HR1.out.left_eq]; exact HLT.out
end Go.Proofs.Ythlipcejeeoacaa
