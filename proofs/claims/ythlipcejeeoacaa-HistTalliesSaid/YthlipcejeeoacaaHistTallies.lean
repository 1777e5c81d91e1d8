/- How often each value was put in, less how often it was had, of whatever deeds (HistTallies answers true at every input). No condition beyond the row's own. -/
import Derived.Test.YthlipcejeeoacaaTally
import Derived.Test.YthlipcejeeoacaaHistB
namespace Go.Proofs.Ythlipcejeeoacaa
open Go.RowKit Go.SepYthlipcejeeoacaa Go.Maps
set_option linter.unusedSimpArgs false
set_option linter.unusedVariables false
set_option maxRecDepth 100000
set_option maxHeartbeats 4000000
theorem _root_.Go.SepYthlipcejeeoacaa.sat.rebase {E w w1 : World} {L : List SA} (h : sat w w1 L) (b : Below E.heap.size E w) : sat E w1 L := by
  obtain ⟨bl, g, x, y⟩ := h
  exact ⟨b.trans (bl.mono b.size), g, x, fun c q e => ⟨(y c q e).1, Nat.le_trans b.size (y c q e).2⟩⟩
abbrev u64L (l : List Int) : List Value := l.map (Value.int .u64)
theorem u64Info : ∃ q z, Try.prog.info? 24 = some q ∧ q.zero = some z ∧ q.size = 1 ∧ q.bytes = 8 ∧ z.cells.size = 1 := ⟨_, _, rfl, rfl, rfl, rfl, rfl⟩
abbrev seenR (p : Option Addr) (n c : Nat) (S : List Int) : SA := rowA (.slice p n c) 24 1 S.length (u64L S)
theorem vOf_bd {d : DeedM} (h : d.wf) : u64P (vOf d) := by unfold vOf; split; exact h.value; exact h.rvalue
theorem kinds_le (L : List DeedM) (S : List Int) : kinds L S ≤ S.length := List.length_filter_le _ _
theorem cont_snoc (S : List Int) (k : Nat) (hlt : k < S.length) (v : Int) : (S.take (k + 1)).contains v = ((S.take k).contains v || S[k] == v) := by
  rw [List.take_succ_eq_append_getElem hlt]
  simp only [List.contains_append, List.contains_cons, List.contains_nil, Bool.or_false]
  rw [BEq.comm (a := v)]
/-- The keys that the map has at the end. -/
def keysE (l : List DeedM) : List Lit := ((dist l).filter fun v => net v l != 0).map (Lit.int .u64)
theorem keysE_nodup (l : List DeedM) : (keysE l).Nodup := by
  unfold keysE
  refine List.pairwise_map.2 (((dist_nodup l).filter _).imp ?_)
  intro a b hab hh
  injection hh with _ hh
  exact hab hh
theorem net_dist {v : Int} {l : List DeedM} (h : net v l ≠ 0) : v ∈ dist l := by
  rw [dist_mem]
  cases ht : touched v l with
  | false => exact absurd (net_zero ht) h
  | true =>
    unfold touched at ht
    rw [List.any_eq_true] at ht
    obtain ⟨d, hd, h2⟩ := ht
    simp only [touchD, Bool.and_eq_true, beq_iff_eq] at h2
    exact ⟨d, hd, h2.2⟩
theorem keysE_mem (l : List DeedM) (v : Int) : Lit.int .u64 v ∈ keysE l ↔ net v l ≠ 0 := by
  unfold keysE
  rw [List.mem_map]
  constructor
  · rintro ⟨x, hx, e⟩
    injection e with _ e
    subst e
    simpa using (List.mem_filter.1 hx).2
  · intro h
    exact ⟨v, List.mem_filter.2 ⟨net_dist h, by simpa using h⟩, rfl⟩
theorem at_len' {P : Program} {w : World} {ops : Array Oper} {rest : List Oper} {a : Act} {Q : Exit → Act → World → Prop} {dst : Option Tmp} {m : Operand} {t : TypeId} {oty : TypeId} {pos : String} {af : Array Edge}
    (h : wpList P ops Q (⟨dst, .call { callee := .builtin .len, args := #[m], argTypes := #[t] }, oty, pos, af, none⟩ :: rest) a w) : wpList P ops Q (⟨dst, .call { callee := .builtin .len, args := #[m], argTypes := #[t] }, oty, pos, af, none⟩ :: rest) a w := h
theorem st_len (i : Nat) {P : Program} {E w : World} {L : List SA} {A : SA} {ops : Array Oper} {rest : List Oper} {a : Act} {Q : Exit → Act → World → Prop} {dst : Option Tmp} {m : Operand} {t : TypeId} {oty : TypeId} {pos : String} {af : Array Edge}
    (h : sat E w L) (hL : L[i]? = some A) {b : Nat} {n : Int} (hr : (Builtin.len_ #[t] oty #[.map (some b)]).run P w = .ok (.int .i64 n) w) (hm : Go.SepYthlipcejeeoacaa.look a m = some (.map (some b)))
    (r : wpList P ops Q rest (a.put dst (.int .i64 n)) w) : wpList P ops Q (⟨dst, .call { callee := .builtin .len, args := #[m], argTypes := #[t] }, oty, pos, af, none⟩ :: rest) a w := by
  refine wpList_plain rfl fun K' hK' => ?_
  unfold Oper.wp execOp
  simp only [resolve, invoke, builtin, Sem.run_bind, Sem.run_pure, Result.andThen_ok, List.map_toArray, List.map_cons, List.map_nil, Go.SepYthlipcejeeoacaa.look_eval hm, hr]
  exact hK' _ _ r
theorem hist_calls (W : World) (p : Option Addr) (l : List DeedM) (cap : Nat) (hwf : ∀ e ∈ l, DeedM.wf e) (h : OldD W p l) :
    Tells 8 #[.slice p l.length cap] W (.bool true) := by
  have K := Lib.hid (sat.start W)
  have HD := fun w => Lib.hid (head14_calls w)
  by_cases h60 : l.length > 60
  · have t1 : decide ((l.length : Int) > 60) = true := by simp; omega
    clear h60 h hwf
    go_enter Try.func8, Try.ntmps8
    go_wp2_with (first | (go_at_call 9; (with_reducible refine ((HD _).out).mono ?_); rintro e w1 ⟨rfl, hb⟩; have K1 := sat.grown (by repeat (with_reducible first | exact K.out | apply sat.alloc_any | apply sat.drew | apply sat.drewN)) hb; clear hb; have K2 := Lib.hid K1; clear K1 K; (try clear a0); (try clear l0); (try clear a1); (try clear l1); (try clear a2); (try clear l2); have K := K2; clear K2))
    go_ret
    exact ⟨rfl, K.out.below⟩
  have t1 : decide ((l.length : Int) > 60) = false := by simp; omega
  have n60 : l.length ≤ 60 := by omega
  have TC := fun w' (hb : Below W.heap.size W w') => Lib.hid (tally_calls p l cap w' (by omega) hwf (h.grown hb))
  have H := Lib.hid h
  have HW := Lib.hid hwf
  clear h60 h hwf
  go_enter Try.func8, Try.ntmps8
  go_wp2_with (first | (go_at_call 9; (with_reducible refine ((HD _).out).mono ?_); rintro e w1 ⟨rfl, hb⟩; have K1 := sat.grown (by repeat (with_reducible first | exact K.out | apply sat.alloc_any | apply sat.drew | apply sat.drewN)) hb; clear hb; have K2 := Lib.hid K1; clear K1 K; (try clear a0); (try clear l0); (try clear a1); (try clear l1); (try clear a2); (try clear l2); have K := K2; clear K2) | (go_at_call 20; (with_reducible refine ((TC _ (RowKit.Hid.out K).below).out).mono ?_); intro r w1 hT; obtain ⟨gb, nb, f, rfl, K1, hf⟩ := hT; have K3 := K1.rebase K.out.below; have HF := Lib.hid hf; clear K1 hf; have K1 := K3; clear K3; have K2 := Lib.hid K1; clear K1 K; (try clear a0); (try clear l0); (try clear a1); (try clear l1); (try clear a2); (try clear l2); have K := K2; clear K2))
  have K1 : sat W _ [seenR _ 0 0 [], tallyA gb nb f] := sat.row_empty (e := 24) (size := 1) K.out
  clear K
  have K := Lib.hid K1
  clear K1
  go_loopg [27, 4, 5] l.length (fun gk i kn sn w' => ∃ (n : Nat) (ps : Option Addr) (ns cs : Nat), n + gk = l.length ∧ i = .int .i64 n ∧ kn = .int .i64 (kinds l (dist (l.take n)) : Nat) ∧ sn = .slice ps ns cs ∧ sat W w' [seenR ps ns cs (dist (l.take n)), tallyA gb nb f])
  case atStart => exact ⟨0, _, _, _, by simp, rfl, rfl, rfl, K.out⟩
  case round =>
    obtain ⟨n, ps, ns, cs, hn, rfl, rfl, rfl, hs⟩ := hrel
    clear K
    have K := Lib.hid hs
    clear hs
    have hsl : (dist (l.take n)).length ≤ 60 := by have := dist_len (l.take n); rw [List.length_take] at this; omega
    have hkl := kinds_le l (dist (l.take n))
    obtain ⟨rfl, _⟩ := row_len K.out
    by_cases hlt : n < l.length
    · have d0 : decide (n < l.length) = true := by simpa using hlt
      obtain ⟨b, off, rfl, hb0, hx0⟩ := H.out n hlt; have hx : ∀ i u, (DeedM.v l[n])[i]? = some u → wr.cell? ⟨b, off + n * 11 + i, none⟩ = some u := fun i u hi => (K.out.below.cell (p := ⟨b, off + n * 11 + i, none⟩) hb0).trans (hx0 i u hi); have y0 : wr.cell? ⟨b, off + n * 11, none⟩ = _ := hx 0 _ rfl; have y1 := hx 1 _ rfl; have y2 := hx 2 _ rfl; have y3 := hx 3 _ rfl; have y4 := hx 4 _ rfl; have y5 := hx 5 _ rfl; have y6 := hx 6 _ rfl; have y7 := hx 7 _ rfl; have y8 := hx 8 _ rfl; have y9 := hx 9 _ rfl; have y10 := hx 10 _ rfl; clear hx hx0 hb0
      have hwn := HW.out l[n] (List.getElem_mem hlt)
      have E1 := Lib.hid (show dist (l.take (n + 1)) = if vOf l[n] ∈ dist (l.take n) then dist (l.take n) else dist (l.take n) ++ [vOf l[n]] from by rw [List.take_succ_eq_append_getElem hlt, dist_snoc])
      have HN := Lib.hid hn
      have HV := Lib.hid (vOf_bd hwn)
      have hn0 : n < 1000000 := by omega
      clear hn hwn
      generalize l[n] = d at *
      generalize dist (l.take n) = S at *
      obtain ⟨gk', rfl⟩ : ∃ g', gk = g' + 1 := ⟨gk - 1, by have := HN.out; omega⟩
      by_cases hk : d.call.kind = 0
      · have tk : (d.call.kind == 0) = true := by simpa using hk
        have hv : vOf d = d.call.value := if_pos hk
        rw [hv] at E1 HV
        clear hk hv
        go_wp2_with (first | ((with_reducible refine at_alloc ?_); refine st_allocf K.out (fun _ => rfl) ?_; intro gd w1 K1; have K2 := Lib.hid K1; clear K1 K; (try clear a0); (try clear l0); (try clear a1); (try clear l1); (try clear a2); (try clear l2); have K := K2; clear K2; have a0 := K.out.rd 0 rfl; have l0 := K.out.ltp 0 rfl) | ((with_reducible refine at_store ?_); refine st_store 0 K.out rfl rfl rfl rfl ?_ ?_ ?_ ?_; (· kernel_rfl); (· simp); (· simp [Value.oneCell']); intro w1 K1; simp only [List.set, putL] at K1; have K2 := Lib.hid K1; clear K1 K; (try clear a0); (try clear l0); (try clear a1); (try clear l1); (try clear a2); (try clear l2); have K := K2; clear K2; have a0 := K.out.rd 0 rfl; have l0 := K.out.ltp 0 rfl))
        obtain ⟨v, hv⟩ : ∃ v, v = d.call.value := ⟨_, rfl⟩
        rw [← hv] at E1 HV
        have HVV := Lib.hid hv
        clear hv
        clear y0 y1 y2 y3 y4 y5 y6 y7 y8 y9 y10 hlt d0
        go_loopg [43, 9] S.length (fun gk i fr w' => ∃ k : Nat, k + gk = S.length ∧ i = .int .i64 k ∧ fr = .bool (!(S.take k).contains v) ∧ sat W w' [deedA gd d, seenR ps S.length cs S, tallyA gb nb f])
        case atStart => exact ⟨0, by simp, rfl, by simp, K.out⟩
        case round =>
          obtain ⟨k, hk, rfl, rfl, hs⟩ := hrel
          clear K a0 l0
          have K := Lib.hid hs
          clear hs
          by_cases hlt : k < S.length
          · have d0 : decide (k < S.length) = true := by simpa using hlt
            obtain ⟨g5, rfl, _⟩ := row_some (K.out.pick 1 rfl) (by omega)
            have z0 : wr.cell? ⟨g5, k, none⟩ = some (.int .u64 S[k]) := K.out.row_rd 1 rfl k _ (by simp [List.getElem?_map, List.getElem?_eq_getElem hlt])
            have E2 := Lib.hid (show (S.take (k + 1)).contains v = ((S.take k).contains v || S[k] == v) from cont_snoc S k hlt v)
            have HK := Lib.hid hk
            clear hk
            generalize S[k] = x at *
            generalize (S.take k).contains v = ct at *
            have HVX := Lib.hid (HVV.out)
            obtain ⟨gk2', rfl⟩ : ∃ g', gk = g' + 1 := ⟨gk - 1, by have := HK.out; omega⟩
            rw [HVV.out] at E2
            cases ct
            · by_cases c0 : x = d.call.value
              · have t0 : (x != d.call.value) = false := by simp [c0]
                have t9 : (x == d.call.value) = true := by simp [c0]
                clear c0
                go_wp2
                go_roundg gk2'
                case measure => omega
                case rel => exact ⟨k + 1, by have := HK.out; omega, by simp, by rw [HVV.out, E2.out, t9]; rfl, K.out⟩
              · have t0 : (x != d.call.value) = true := by simpa using c0
                have t9 : (x == d.call.value) = false := by simpa using c0
                clear c0
                go_wp2
                go_roundg gk2'
                case measure => omega
                case rel => exact ⟨k + 1, by have := HK.out; omega, by simp, by rw [HVV.out, E2.out, t9]; rfl, K.out⟩
            · go_wp2
              go_roundg gk2'
              case measure => omega
              case rel => exact ⟨k + 1, by have := HK.out; omega, by simp, by rw [HVV.out, E2.out]; simp, K.out⟩
          · have hkl : k = S.length := by omega
            subst hkl
            have d0 : decide (S.length < S.length) = false := by simp
            clear hlt hk
            rw [List.take_length]
            have a0 := K.out.rd 0 rfl
            have l0 := K.out.ltp 0 rfl
            by_cases hm : v ∈ S
            · have hc : S.contains v = true := by simpa using hm
              rw [if_pos hm] at E1
              rw [hc]
              clear hm hc
              go_wp2
              go_roundg gk'
              case measure => omega
              case rel => exact ⟨n + 1, _, _, _, by have := HN.out; omega, by simp, by rw [E1.out], rfl, by rw [E1.out]; exact K.out.drop⟩
            · have hc : S.contains v = false := by simpa using hm
              rw [if_neg hm] at E1
              rw [hc]
              clear hm hc
              go_wp2_with (first | ((with_reducible refine at_append ?_); refine st_append_new 1 24 1 8 Try.underlying49 u64Info K.out rfl rfl (news := [.int .u64 (d.call.value)]) rfl rfl ?_ (by decide) ?_ ?_ ?_; (· simp [Value.oneCell']); (· simp only [maxLen]; omega); (· omega); intro p5 n5 k5 w1 K1; simp only [List.set] at K1; obtain ⟨hn5, _⟩ := row_len (K1.pick 1 rfl); subst hn5; have K2 := Lib.hid K1; clear K1 K; (try clear a0); (try clear l0); (try clear a1); (try clear l1); (try clear a2); (try clear l2); have K := K2; clear K2; have a0 := K.out.rd 0 rfl; have l0 := K.out.ltp 0 rfl))
              have K1 : sat W w1 [deedA gd d, seenR p5 (S.length + 1) k5 (S ++ [v]), tallyA gb nb f] := by
                have := K.out
                unfold seenR u64L
                rw [List.length_append, List.map_append, List.map_cons, List.map_nil, HVV.out]
                exact this
              clear K a0 l0
              have K := Lib.hid K1
              clear K1
              have a0 := K.out.rd 0 rfl
              have l0 := K.out.ltp 0 rfl
              go_loopg [62, 12] l.length (fun gk i m w' => ∃ k : Nat, k + gk = l.length ∧ i = .int .i64 k ∧ m = .int .i64 (net v (l.take k)) ∧ sat W w' [deedA gd d, seenR p5 (S.length + 1) k5 (S ++ [v]), tallyA gb nb f])
              case atStart => exact ⟨0, by simp, rfl, rfl, K.out⟩
              case round =>
                obtain ⟨k, hk, rfl, rfl, hs⟩ := hrel
                clear K a0 l0
                have K := Lib.hid hs
                clear hs
                by_cases hlt : k < l.length
                · have d0 : decide (k < l.length) = true := by simpa using hlt
                  obtain ⟨b_2, o_2, he_, hb0, hx0⟩ := H.out k hlt; simp only [Option.some.injEq, Addr.mk.injEq, and_true] at he_; obtain ⟨rfl, rfl⟩ := he_; have hx : ∀ i u, (DeedM.v l[k])[i]? = some u → wr.cell? ⟨b, off + k * 11 + i, none⟩ = some u := fun i u hi => (K.out.below.cell (p := ⟨b, off + k * 11 + i, none⟩) hb0).trans (hx0 i u hi); have y0 : wr.cell? ⟨b, off + k * 11, none⟩ = _ := hx 0 _ rfl; have y1 := hx 1 _ rfl; have y2 := hx 2 _ rfl; have y3 := hx 3 _ rfl; have y4 := hx 4 _ rfl; have y5 := hx 5 _ rfl; have y6 := hx 6 _ rfl; have y7 := hx 7 _ rfl; have y8 := hx 8 _ rfl; have y9 := hx 9 _ rfl; have y10 := hx 10 _ rfl; clear hx hx0 hb0
                  have E3 := Lib.hid (show net v (l.take (k + 1)) = net v (l.take k) + netD v l[k] from by rw [List.take_succ_eq_append_getElem hlt, net_snoc])
                  have hb := net_bd v (l.take k)
                  rw [List.length_take] at hb
                  have hb0 : -60 ≤ net v (l.take k) := by omega
                  have hb1 : net v (l.take k) ≤ 60 := by omega
                  have HK := Lib.hid hk
                  clear hk hb
                  generalize l[k] = o at *
                  generalize net v (l.take k) = c0 at *
                  unfold netD vOf at E3
                  rw [HVV.out] at E3
                  obtain ⟨gk2', rfl⟩ : ∃ g', gk = g' + 1 := ⟨gk - 1, by have := HK.out; omega⟩
                  cases ok : o.reply.ok with
                  | false =>
                    rw [ok] at E3
                    go_wp2_with (first | ((with_reducible refine at_alloc ?_); refine st_allocf K.out (fun _ => rfl) ?_; intro go w1 K1; have K2 := Lib.hid K1; clear K1 K; (try clear a0); (try clear l0); (try clear a1); (try clear l1); (try clear a2); (try clear l2); have K := K2; clear K2; have a0 := K.out.rd 0 rfl; have l0 := K.out.ltp 0 rfl) | ((with_reducible refine at_store ?_); refine st_store 0 K.out rfl rfl rfl rfl ?_ ?_ ?_ ?_; (· kernel_rfl); (· simp); (· simp [Value.oneCell']); intro w1 K1; simp only [List.set, putL] at K1; have K2 := Lib.hid K1; clear K1 K; (try clear a0); (try clear l0); (try clear a1); (try clear l1); (try clear a2); (try clear l2); have K := K2; clear K2; have a0 := K.out.rd 0 rfl; have l0 := K.out.ltp 0 rfl))
                    go_roundg gk2'
                    case measure => omega
                    case rel => exact ⟨k + 1, by have := HK.out; omega, by simp, by rw [HVV.out, E3.out]; simp, K.out.drop⟩
                  | true =>
                    rw [ok] at E3
                    by_cases q1 : o.call.kind = 0
                    · have t1 : (o.call.kind == 0) = true := by simp [q1]
                      have t2 : (o.call.kind != 0) = false := by simp [q1]
                      rw [if_pos q1] at E3
                      by_cases q2 : o.call.value = d.call.value
                      · have t3 : (o.call.value == d.call.value) = true := by simp [q2]
                        rw [if_pos ⟨rfl, q2⟩, if_pos q1] at E3
                        clear q1 q2
                        go_wp2_with (first | ((with_reducible refine at_alloc ?_); refine st_allocf K.out (fun _ => rfl) ?_; intro go w1 K1; have K2 := Lib.hid K1; clear K1 K; (try clear a0); (try clear l0); (try clear a1); (try clear l1); (try clear a2); (try clear l2); have K := K2; clear K2; have a0 := K.out.rd 0 rfl; have l0 := K.out.ltp 0 rfl) | ((with_reducible refine at_store ?_); refine st_store 0 K.out rfl rfl rfl rfl ?_ ?_ ?_ ?_; (· kernel_rfl); (· simp); (· simp [Value.oneCell']); intro w1 K1; simp only [List.set, putL] at K1; have K2 := Lib.hid K1; clear K1 K; (try clear a0); (try clear l0); (try clear a1); (try clear l1); (try clear a2); (try clear l2); have K := K2; clear K2; have a0 := K.out.rd 0 rfl; have l0 := K.out.ltp 0 rfl))
                        go_roundg gk2'
                        case measure => omega
                        case rel => exact ⟨k + 1, by have := HK.out; omega, by simp, by rw [HVV.out, E3.out], K.out.drop⟩
                      · have t3 : (o.call.value == d.call.value) = false := by simpa using q2
                        rw [if_neg (fun h => q2 h.2)] at E3
                        clear q1 q2
                        go_wp2_with (first | ((with_reducible refine at_alloc ?_); refine st_allocf K.out (fun _ => rfl) ?_; intro go w1 K1; have K2 := Lib.hid K1; clear K1 K; (try clear a0); (try clear l0); (try clear a1); (try clear l1); (try clear a2); (try clear l2); have K := K2; clear K2; have a0 := K.out.rd 0 rfl; have l0 := K.out.ltp 0 rfl) | ((with_reducible refine at_store ?_); refine st_store 0 K.out rfl rfl rfl rfl ?_ ?_ ?_ ?_; (· kernel_rfl); (· simp); (· simp [Value.oneCell']); intro w1 K1; simp only [List.set, putL] at K1; have K2 := Lib.hid K1; clear K1 K; (try clear a0); (try clear l0); (try clear a1); (try clear l1); (try clear a2); (try clear l2); have K := K2; clear K2; have a0 := K.out.rd 0 rfl; have l0 := K.out.ltp 0 rfl))
                        go_roundg gk2'
                        case measure => omega
                        case rel => exact ⟨k + 1, by have := HK.out; omega, by simp, by rw [HVV.out, E3.out, Int.add_zero], K.out.drop⟩
                    · have t1 : (o.call.kind == 0) = false := by simpa using q1
                      have t2 : (o.call.kind != 0) = true := by simpa using q1
                      rw [if_neg q1] at E3
                      by_cases q2 : o.reply.value = d.call.value
                      · have t3 : (o.reply.value == d.call.value) = true := by simp [q2]
                        rw [if_pos ⟨rfl, q2⟩, if_neg q1] at E3
                        clear q1 q2
                        go_wp2_with (first | ((with_reducible refine at_alloc ?_); refine st_allocf K.out (fun _ => rfl) ?_; intro go w1 K1; have K2 := Lib.hid K1; clear K1 K; (try clear a0); (try clear l0); (try clear a1); (try clear l1); (try clear a2); (try clear l2); have K := K2; clear K2; have a0 := K.out.rd 0 rfl; have l0 := K.out.ltp 0 rfl) | ((with_reducible refine at_store ?_); refine st_store 0 K.out rfl rfl rfl rfl ?_ ?_ ?_ ?_; (· kernel_rfl); (· simp); (· simp [Value.oneCell']); intro w1 K1; simp only [List.set, putL] at K1; have K2 := Lib.hid K1; clear K1 K; (try clear a0); (try clear l0); (try clear a1); (try clear l1); (try clear a2); (try clear l2); have K := K2; clear K2; have a0 := K.out.rd 0 rfl; have l0 := K.out.ltp 0 rfl))
                        go_roundg gk2'
                        case measure => omega
                        case rel => exact ⟨k + 1, by have := HK.out; omega, by simp, by rw [HVV.out, E3.out]; rfl, K.out.drop⟩
                      · have t3 : (o.reply.value == d.call.value) = false := by simpa using q2
                        rw [if_neg (fun h => q2 h.2)] at E3
                        clear q1 q2
                        go_wp2_with (first | ((with_reducible refine at_alloc ?_); refine st_allocf K.out (fun _ => rfl) ?_; intro go w1 K1; have K2 := Lib.hid K1; clear K1 K; (try clear a0); (try clear l0); (try clear a1); (try clear l1); (try clear a2); (try clear l2); have K := K2; clear K2; have a0 := K.out.rd 0 rfl; have l0 := K.out.ltp 0 rfl) | ((with_reducible refine at_store ?_); refine st_store 0 K.out rfl rfl rfl rfl ?_ ?_ ?_ ?_; (· kernel_rfl); (· simp); (· simp [Value.oneCell']); intro w1 K1; simp only [List.set, putL] at K1; have K2 := Lib.hid K1; clear K1 K; (try clear a0); (try clear l0); (try clear a1); (try clear l1); (try clear a2); (try clear l2); have K := K2; clear K2; have a0 := K.out.rd 0 rfl; have l0 := K.out.ltp 0 rfl))
                        go_roundg gk2'
                        case measure => omega
                        case rel => exact ⟨k + 1, by have := HK.out; omega, by simp, by rw [HVV.out, E3.out, Int.add_zero], K.out.drop⟩
                · have hkl : k = l.length := by omega
                  subst hkl
                  have d0 : decide (l.length < l.length) = false := by simp
                  clear hlt hk
                  rw [List.take_length]
                  have hb := net_bd v l
                  have KU := Lib.hid (keyU HV.out)
                  have hfv := HF.out v
                  have E4 := Lib.hid (kinds_snoc l S v)
                  rw [HVV.out] at KU
                  by_cases hz : net v l = 0
                  · rw [if_pos hz] at hfv E4
                    rw [hz]
                    rw [HVV.out] at hfv
                    have HFV := Lib.hid hfv
                    clear hz hb hfv
                    go_wp2_with (first | ((with_reducible refine at_lookup' ?_); refine st_look_ok 2 K.out rfl keyedU Try.underlying47 Try.underlying3 zeroG rfl rfl KU.out ?_; rw [HFV.out]))
                    go_roundg gk'
                    case measure => omega
                    case rel => exact ⟨n + 1, _, _, _, by have := HN.out; omega, by simp, by rw [E1.out, E4.out]; simp, rfl, by rw [E1.out]; exact K.out.drop⟩
                  · have t4 : (net v l != 0) = true := by simpa using hz
                    rw [if_neg hz] at hfv E4
                    have hb0 : -60 ≤ net v l := by omega
                    have hb1 : net v l ≤ 60 := by omega
                    clear hz hb
                    generalize net v l = c0 at *
                    rw [HVV.out] at hfv
                    have HFV := Lib.hid hfv
                    clear hfv
                    have t5 : (c0 != c0) = false := by simp
                    go_wp2_with (first | ((with_reducible refine at_lookup' ?_); refine st_look_ok 2 K.out rfl keyedU Try.underlying47 Try.underlying3 zeroG rfl rfl KU.out ?_; rw [HFV.out]))
                    go_roundg gk'
                    case measure => omega
                    case rel => exact ⟨n + 1, _, _, _, by have := HN.out; omega, by simp, by rw [E1.out, E4.out]; simp, rfl, by rw [E1.out]; exact K.out.drop⟩
      · have tk : (d.call.kind == 0) = false := by simpa using hk
        have hv : vOf d = d.reply.value := if_neg hk
        rw [hv] at E1 HV
        clear hk hv
        go_wp2_with (first | ((with_reducible refine at_alloc ?_); refine st_allocf K.out (fun _ => rfl) ?_; intro gd w1 K1; have K2 := Lib.hid K1; clear K1 K; (try clear a0); (try clear l0); (try clear a1); (try clear l1); (try clear a2); (try clear l2); have K := K2; clear K2; have a0 := K.out.rd 0 rfl; have l0 := K.out.ltp 0 rfl) | ((with_reducible refine at_store ?_); refine st_store 0 K.out rfl rfl rfl rfl ?_ ?_ ?_ ?_; (· kernel_rfl); (· simp); (· simp [Value.oneCell']); intro w1 K1; simp only [List.set, putL] at K1; have K2 := Lib.hid K1; clear K1 K; (try clear a0); (try clear l0); (try clear a1); (try clear l1); (try clear a2); (try clear l2); have K := K2; clear K2; have a0 := K.out.rd 0 rfl; have l0 := K.out.ltp 0 rfl))
        obtain ⟨v, hv⟩ : ∃ v, v = d.reply.value := ⟨_, rfl⟩
        rw [← hv] at E1 HV
        have HVV := Lib.hid hv
        clear hv
        clear y0 y1 y2 y3 y4 y5 y6 y7 y8 y9 y10 hlt d0
        go_loopg [43, 9] S.length (fun gk i fr w' => ∃ k : Nat, k + gk = S.length ∧ i = .int .i64 k ∧ fr = .bool (!(S.take k).contains v) ∧ sat W w' [deedA gd d, seenR ps S.length cs S, tallyA gb nb f])
        case atStart => exact ⟨0, by simp, rfl, by simp, K.out⟩
        case round =>
          obtain ⟨k, hk, rfl, rfl, hs⟩ := hrel
          clear K a0 l0
          have K := Lib.hid hs
          clear hs
          by_cases hlt : k < S.length
          · have d0 : decide (k < S.length) = true := by simpa using hlt
            obtain ⟨g5, rfl, _⟩ := row_some (K.out.pick 1 rfl) (by omega)
            have z0 : wr.cell? ⟨g5, k, none⟩ = some (.int .u64 S[k]) := K.out.row_rd 1 rfl k _ (by simp [List.getElem?_map, List.getElem?_eq_getElem hlt])
            have E2 := Lib.hid (show (S.take (k + 1)).contains v = ((S.take k).contains v || S[k] == v) from cont_snoc S k hlt v)
            have HK := Lib.hid hk
            clear hk
            generalize S[k] = x at *
            generalize (S.take k).contains v = ct at *
            have HVX := Lib.hid (HVV.out)
            obtain ⟨gk2', rfl⟩ : ∃ g', gk = g' + 1 := ⟨gk - 1, by have := HK.out; omega⟩
            rw [HVV.out] at E2
            cases ct
            · by_cases c0 : x = d.reply.value
              · have t0 : (x != d.reply.value) = false := by simp [c0]
                have t9 : (x == d.reply.value) = true := by simp [c0]
                clear c0
                go_wp2
                go_roundg gk2'
                case measure => omega
                case rel => exact ⟨k + 1, by have := HK.out; omega, by simp, by rw [HVV.out, E2.out, t9]; rfl, K.out⟩
              · have t0 : (x != d.reply.value) = true := by simpa using c0
                have t9 : (x == d.reply.value) = false := by simpa using c0
                clear c0
                go_wp2
                go_roundg gk2'
                case measure => omega
                case rel => exact ⟨k + 1, by have := HK.out; omega, by simp, by rw [HVV.out, E2.out, t9]; rfl, K.out⟩
            · go_wp2
              go_roundg gk2'
              case measure => omega
              case rel => exact ⟨k + 1, by have := HK.out; omega, by simp, by rw [HVV.out, E2.out]; simp, K.out⟩
          · have hkl : k = S.length := by omega
            subst hkl
            have d0 : decide (S.length < S.length) = false := by simp
            clear hlt hk
            rw [List.take_length]
            have a0 := K.out.rd 0 rfl
            have l0 := K.out.ltp 0 rfl
            by_cases hm : v ∈ S
            · have hc : S.contains v = true := by simpa using hm
              rw [if_pos hm] at E1
              rw [hc]
              clear hm hc
              go_wp2
              go_roundg gk'
              case measure => omega
              case rel => exact ⟨n + 1, _, _, _, by have := HN.out; omega, by simp, by rw [E1.out], rfl, by rw [E1.out]; exact K.out.drop⟩
            · have hc : S.contains v = false := by simpa using hm
              rw [if_neg hm] at E1
              rw [hc]
              clear hm hc
              go_wp2_with (first | ((with_reducible refine at_append ?_); refine st_append_new 1 24 1 8 Try.underlying49 u64Info K.out rfl rfl (news := [.int .u64 (d.reply.value)]) rfl rfl ?_ (by decide) ?_ ?_ ?_; (· simp [Value.oneCell']); (· simp only [maxLen]; omega); (· omega); intro p5 n5 k5 w1 K1; simp only [List.set] at K1; obtain ⟨hn5, _⟩ := row_len (K1.pick 1 rfl); subst hn5; have K2 := Lib.hid K1; clear K1 K; (try clear a0); (try clear l0); (try clear a1); (try clear l1); (try clear a2); (try clear l2); have K := K2; clear K2; have a0 := K.out.rd 0 rfl; have l0 := K.out.ltp 0 rfl))
              have K1 : sat W w1 [deedA gd d, seenR p5 (S.length + 1) k5 (S ++ [v]), tallyA gb nb f] := by
                have := K.out
                unfold seenR u64L
                rw [List.length_append, List.map_append, List.map_cons, List.map_nil, HVV.out]
                exact this
              clear K a0 l0
              have K := Lib.hid K1
              clear K1
              have a0 := K.out.rd 0 rfl
              have l0 := K.out.ltp 0 rfl
              go_loopg [62, 12] l.length (fun gk i m w' => ∃ k : Nat, k + gk = l.length ∧ i = .int .i64 k ∧ m = .int .i64 (net v (l.take k)) ∧ sat W w' [deedA gd d, seenR p5 (S.length + 1) k5 (S ++ [v]), tallyA gb nb f])
              case atStart => exact ⟨0, by simp, rfl, rfl, K.out⟩
              case round =>
                obtain ⟨k, hk, rfl, rfl, hs⟩ := hrel
                clear K a0 l0
                have K := Lib.hid hs
                clear hs
                by_cases hlt : k < l.length
                · have d0 : decide (k < l.length) = true := by simpa using hlt
                  obtain ⟨b_2, o_2, he_, hb0, hx0⟩ := H.out k hlt; simp only [Option.some.injEq, Addr.mk.injEq, and_true] at he_; obtain ⟨rfl, rfl⟩ := he_; have hx : ∀ i u, (DeedM.v l[k])[i]? = some u → wr.cell? ⟨b, off + k * 11 + i, none⟩ = some u := fun i u hi => (K.out.below.cell (p := ⟨b, off + k * 11 + i, none⟩) hb0).trans (hx0 i u hi); have y0 : wr.cell? ⟨b, off + k * 11, none⟩ = _ := hx 0 _ rfl; have y1 := hx 1 _ rfl; have y2 := hx 2 _ rfl; have y3 := hx 3 _ rfl; have y4 := hx 4 _ rfl; have y5 := hx 5 _ rfl; have y6 := hx 6 _ rfl; have y7 := hx 7 _ rfl; have y8 := hx 8 _ rfl; have y9 := hx 9 _ rfl; have y10 := hx 10 _ rfl; clear hx hx0 hb0
                  have E3 := Lib.hid (show net v (l.take (k + 1)) = net v (l.take k) + netD v l[k] from by rw [List.take_succ_eq_append_getElem hlt, net_snoc])
                  have hb := net_bd v (l.take k)
                  rw [List.length_take] at hb
                  have hb0 : -60 ≤ net v (l.take k) := by omega
                  have hb1 : net v (l.take k) ≤ 60 := by omega
                  have HK := Lib.hid hk
                  clear hk hb
                  generalize l[k] = o at *
                  generalize net v (l.take k) = c0 at *
                  unfold netD vOf at E3
                  rw [HVV.out] at E3
                  obtain ⟨gk2', rfl⟩ : ∃ g', gk = g' + 1 := ⟨gk - 1, by have := HK.out; omega⟩
                  cases ok : o.reply.ok with
                  | false =>
                    rw [ok] at E3
                    go_wp2_with (first | ((with_reducible refine at_alloc ?_); refine st_allocf K.out (fun _ => rfl) ?_; intro go w1 K1; have K2 := Lib.hid K1; clear K1 K; (try clear a0); (try clear l0); (try clear a1); (try clear l1); (try clear a2); (try clear l2); have K := K2; clear K2; have a0 := K.out.rd 0 rfl; have l0 := K.out.ltp 0 rfl) | ((with_reducible refine at_store ?_); refine st_store 0 K.out rfl rfl rfl rfl ?_ ?_ ?_ ?_; (· kernel_rfl); (· simp); (· simp [Value.oneCell']); intro w1 K1; simp only [List.set, putL] at K1; have K2 := Lib.hid K1; clear K1 K; (try clear a0); (try clear l0); (try clear a1); (try clear l1); (try clear a2); (try clear l2); have K := K2; clear K2; have a0 := K.out.rd 0 rfl; have l0 := K.out.ltp 0 rfl))
                    go_roundg gk2'
                    case measure => omega
                    case rel => exact ⟨k + 1, by have := HK.out; omega, by simp, by rw [HVV.out, E3.out]; simp, K.out.drop⟩
                  | true =>
                    rw [ok] at E3
                    by_cases q1 : o.call.kind = 0
                    · have t1 : (o.call.kind == 0) = true := by simp [q1]
                      have t2 : (o.call.kind != 0) = false := by simp [q1]
                      rw [if_pos q1] at E3
                      by_cases q2 : o.call.value = d.reply.value
                      · have t3 : (o.call.value == d.reply.value) = true := by simp [q2]
                        rw [if_pos ⟨rfl, q2⟩, if_pos q1] at E3
                        clear q1 q2
                        go_wp2_with (first | ((with_reducible refine at_alloc ?_); refine st_allocf K.out (fun _ => rfl) ?_; intro go w1 K1; have K2 := Lib.hid K1; clear K1 K; (try clear a0); (try clear l0); (try clear a1); (try clear l1); (try clear a2); (try clear l2); have K := K2; clear K2; have a0 := K.out.rd 0 rfl; have l0 := K.out.ltp 0 rfl) | ((with_reducible refine at_store ?_); refine st_store 0 K.out rfl rfl rfl rfl ?_ ?_ ?_ ?_; (· kernel_rfl); (· simp); (· simp [Value.oneCell']); intro w1 K1; simp only [List.set, putL] at K1; have K2 := Lib.hid K1; clear K1 K; (try clear a0); (try clear l0); (try clear a1); (try clear l1); (try clear a2); (try clear l2); have K := K2; clear K2; have a0 := K.out.rd 0 rfl; have l0 := K.out.ltp 0 rfl))
                        go_roundg gk2'
                        case measure => omega
                        case rel => exact ⟨k + 1, by have := HK.out; omega, by simp, by rw [HVV.out, E3.out], K.out.drop⟩
                      · have t3 : (o.call.value == d.reply.value) = false := by simpa using q2
                        rw [if_neg (fun h => q2 h.2)] at E3
                        clear q1 q2
                        go_wp2_with (first | ((with_reducible refine at_alloc ?_); refine st_allocf K.out (fun _ => rfl) ?_; intro go w1 K1; have K2 := Lib.hid K1; clear K1 K; (try clear a0); (try clear l0); (try clear a1); (try clear l1); (try clear a2); (try clear l2); have K := K2; clear K2; have a0 := K.out.rd 0 rfl; have l0 := K.out.ltp 0 rfl) | ((with_reducible refine at_store ?_); refine st_store 0 K.out rfl rfl rfl rfl ?_ ?_ ?_ ?_; (· kernel_rfl); (· simp); (· simp [Value.oneCell']); intro w1 K1; simp only [List.set, putL] at K1; have K2 := Lib.hid K1; clear K1 K; (try clear a0); (try clear l0); (try clear a1); (try clear l1); (try clear a2); (try clear l2); have K := K2; clear K2; have a0 := K.out.rd 0 rfl; have l0 := K.out.ltp 0 rfl))
                        go_roundg gk2'
                        case measure => omega
                        case rel => exact ⟨k + 1, by have := HK.out; omega, by simp, by rw [HVV.out, E3.out, Int.add_zero], K.out.drop⟩
                    · have t1 : (o.call.kind == 0) = false := by simpa using q1
                      have t2 : (o.call.kind != 0) = true := by simpa using q1
                      rw [if_neg q1] at E3
                      by_cases q2 : o.reply.value = d.reply.value
                      · have t3 : (o.reply.value == d.reply.value) = true := by simp [q2]
                        rw [if_pos ⟨rfl, q2⟩, if_neg q1] at E3
                        clear q1 q2
                        go_wp2_with (first | ((with_reducible refine at_alloc ?_); refine st_allocf K.out (fun _ => rfl) ?_; intro go w1 K1; have K2 := Lib.hid K1; clear K1 K; (try clear a0); (try clear l0); (try clear a1); (try clear l1); (try clear a2); (try clear l2); have K := K2; clear K2; have a0 := K.out.rd 0 rfl; have l0 := K.out.ltp 0 rfl) | ((with_reducible refine at_store ?_); refine st_store 0 K.out rfl rfl rfl rfl ?_ ?_ ?_ ?_; (· kernel_rfl); (· simp); (· simp [Value.oneCell']); intro w1 K1; simp only [List.set, putL] at K1; have K2 := Lib.hid K1; clear K1 K; (try clear a0); (try clear l0); (try clear a1); (try clear l1); (try clear a2); (try clear l2); have K := K2; clear K2; have a0 := K.out.rd 0 rfl; have l0 := K.out.ltp 0 rfl))
                        go_roundg gk2'
                        case measure => omega
                        case rel => exact ⟨k + 1, by have := HK.out; omega, by simp, by rw [HVV.out, E3.out]; rfl, K.out.drop⟩
                      · have t3 : (o.reply.value == d.reply.value) = false := by simpa using q2
                        rw [if_neg (fun h => q2 h.2)] at E3
                        clear q1 q2
                        go_wp2_with (first | ((with_reducible refine at_alloc ?_); refine st_allocf K.out (fun _ => rfl) ?_; intro go w1 K1; have K2 := Lib.hid K1; clear K1 K; (try clear a0); (try clear l0); (try clear a1); (try clear l1); (try clear a2); (try clear l2); have K := K2; clear K2; have a0 := K.out.rd 0 rfl; have l0 := K.out.ltp 0 rfl) | ((with_reducible refine at_store ?_); refine st_store 0 K.out rfl rfl rfl rfl ?_ ?_ ?_ ?_; (· kernel_rfl); (· simp); (· simp [Value.oneCell']); intro w1 K1; simp only [List.set, putL] at K1; have K2 := Lib.hid K1; clear K1 K; (try clear a0); (try clear l0); (try clear a1); (try clear l1); (try clear a2); (try clear l2); have K := K2; clear K2; have a0 := K.out.rd 0 rfl; have l0 := K.out.ltp 0 rfl))
                        go_roundg gk2'
                        case measure => omega
                        case rel => exact ⟨k + 1, by have := HK.out; omega, by simp, by rw [HVV.out, E3.out, Int.add_zero], K.out.drop⟩
                · have hkl : k = l.length := by omega
                  subst hkl
                  have d0 : decide (l.length < l.length) = false := by simp
                  clear hlt hk
                  rw [List.take_length]
                  have hb := net_bd v l
                  have KU := Lib.hid (keyU HV.out)
                  have hfv := HF.out v
                  have E4 := Lib.hid (kinds_snoc l S v)
                  rw [HVV.out] at KU
                  by_cases hz : net v l = 0
                  · rw [if_pos hz] at hfv E4
                    rw [hz]
                    rw [HVV.out] at hfv
                    have HFV := Lib.hid hfv
                    clear hz hb hfv
                    go_wp2_with (first | ((with_reducible refine at_lookup' ?_); refine st_look_ok 2 K.out rfl keyedU Try.underlying47 Try.underlying3 zeroG rfl rfl KU.out ?_; rw [HFV.out]))
                    go_roundg gk'
                    case measure => omega
                    case rel => exact ⟨n + 1, _, _, _, by have := HN.out; omega, by simp, by rw [E1.out, E4.out]; simp, rfl, by rw [E1.out]; exact K.out.drop⟩
                  · have t4 : (net v l != 0) = true := by simpa using hz
                    rw [if_neg hz] at hfv E4
                    have hb0 : -60 ≤ net v l := by omega
                    have hb1 : net v l ≤ 60 := by omega
                    clear hz hb
                    generalize net v l = c0 at *
                    rw [HVV.out] at hfv
                    have HFV := Lib.hid hfv
                    clear hfv
                    have t5 : (c0 != c0) = false := by simp
                    go_wp2_with (first | ((with_reducible refine at_lookup' ?_); refine st_look_ok 2 K.out rfl keyedU Try.underlying47 Try.underlying3 zeroG rfl rfl KU.out ?_; rw [HFV.out]))
                    go_roundg gk'
                    case measure => omega
                    case rel => exact ⟨n + 1, _, _, _, by have := HN.out; omega, by simp, by rw [E1.out, E4.out]; simp, rfl, by rw [E1.out]; exact K.out.drop⟩
    · have hnl : n = l.length := by omega
      subst hnl
      have d0 : decide (l.length < l.length) = false := by simp
      have KL := Lib.hid (fun (w : World) (L : List SA) (h : sat W w (tallyA gb nb f :: L)) => sat.mapI_len h keyedU Try.underlying47 (keysE l) (keysE_nodup l) (fun kl hkl => by
        obtain ⟨v, hv, rfl⟩ := List.mem_map.1 hkl
        obtain ⟨d, hd, rfl⟩ := (dist_mem l v).1 (List.mem_filter.1 hv).1
        exact ⟨_, keyU (vOf_bd (HW.out d hd))⟩) (fun kl hkl => by
        obtain ⟨v, rfl, hv⟩ := keysU hkl
        rw [keysE_mem, HF.out v]
        by_cases hz : net v l = 0 <;> simp [hz]) 3)
      have hlen : (keysE l).length = kinds l (dist l) := by unfold keysE kinds; rw [List.length_map]
      have HL := Lib.hid (fun (w : World) (L : List SA) h => (KL.out w L h).trans (by rw [hlen]))
      rw [List.take_length]
      rw [List.take_length] at K
      clear hlen KL
      generalize kinds l (dist l) = kk at *
      have t9 : ((kk : Int) == (kk : Int)) = true := by simp
      go_wp2_with (first | ((with_reducible refine at_len' ?_); refine st_len 1 K.out rfl (HL.out _ _ (K.out.pick 1 rfl)) rfl ?_))
      go_ret
      exact ⟨rfl, K.out.below⟩
theorem histTallies_calls (W : World) (p : Option Addr) (len cap : Nat) (rows : List (List Value)) (hr : RowsAt W deedK p len cap rows) :
    Calls Try.prog 8 #[.slice p len cap] W fun e W' => e = .returned (.bool true) ∧ Below W.heap.size W W' := by
  obtain ⟨l, rfl, hwf, ho⟩ := oldD_of hr
  exact hist_calls W p l cap hwf ho
end Go.Proofs.Ythlipcejeeoacaa
