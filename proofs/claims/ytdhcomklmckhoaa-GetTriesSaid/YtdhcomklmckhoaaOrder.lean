/- The places in which something is, from left to right (pick.Order). Conditions: words within their kind, at most a million of them. -/
import Derived.Test.YtdhcomklmckhoaaOrderT
import Derived.Test.YtdhcomklmckhoaaSortAny
import Derived.Test.YtdhcomklmckhoaaPickKit
namespace Go.Proofs.Ytdhcomklmckhoaa
open Go.RowKit Go.SepYtdhcomklmckhoaa
set_option linter.unusedSimpArgs false
set_option linter.unusedVariables false
set_option maxRecDepth 100000
set_option maxHeartbeats 1000000
theorem leftT_len (words : List Int) : ∀ n, (leftT words n).length ≤ n
  | 0 => Nat.le_refl _
  | n + 1 => by have := leftT_len words n; unfold leftT; split <;> simp <;> omega
theorem rightT_len (words : List Int) : ∀ n, (rightT words n).length ≤ n
  | 0 => Nat.le_refl _
  | n + 1 => by have := rightT_len words n; unfold rightT; split <;> simp <;> omega
def ordRel (w0 : World) (words : List Int) (gk : Nat) (l r i : Value) (w' : World) : Prop :=
  ∃ n : Nat, n + gk = words.length ∧ i = .int .i64 n ∧ sat w0 w' [rowA l 134 6 (leftT words n).length ((leftT words n).flatMap thingC), rowA r 134 6 (rightT words n).length ((rightT words n).flatMap thingC)]
def ordRel2 (w0 : World) (T : List Thing) (p : Option Addr) (c : Nat) (gk : Nat) (o i : Value) (w' : World) : Prop :=
  ∃ n : Nat, n + gk = T.length ∧ i = .int .i64 n ∧ sat w0 w' [rowA o 3 1 n (((T.take n).map Prod.fst).map (Value.int .i64)), rowA (.slice p T.length c) 134 6 T.length (T.flatMap thingC)]
theorem order_any (words : List Int) (p : Option Addr) (cap : Nat) (w : World) (hc : OldU w p words) (hwf : ∀ x ∈ words, 0 ≤ x ∧ x < 18446744073709551616) (hn : words.length ≤ 1000000) :
    Calls Try.prog 72 #[.slice p words.length cap] w fun e w' => ∃ v, e = .returned v ∧ sat w w' [rowA v 3 1 (orderM words).length ((orderM words).map (Value.int .i64))] := by
  have K := Lib.hid (sat.start w)
  have H := Lib.hid hc
  clear hc
  go_enter Try.func72, Try.ntmps72
  go_wp2_with fail
  go_loopg [3, 4, 13] words.length (fun gk l r i w' => ordRel w words gk l r i w')
  case atStart => exact ⟨0, by simp, rfl, (K.out.row_nil _ _).row_nil _ _⟩
  case round =>
    obtain ⟨n, hn, rfl, hs⟩ := hrel
    clear K
    have K := Lib.hid hs
    clear hs
    by_cases c : n < words.length
    · have c0 : decide ((n : Int) < (words.length : Int)) = true := by simpa using c
      obtain ⟨bw, off, rfl, hb, hx0⟩ := H.out n c
      have hx : wr.cell? ⟨bw, off + n, none⟩ = some (.int .u64 words[n]) := (K.out.below.cell (p := ⟨bw, off + n, none⟩) hb).trans hx0
      clear hx0
      have hxw := hwf words[n] (List.getElem_mem c)
      have U := fun w => Lib.hid (unpack_calls words[n] hxw.1 hxw.2 w)
      have e : unpack (getI words n) = unpack words[n] := by simp [getI, c]
      have E1 := Lib.hid e
      have HN := Lib.hid hn
      clear e hn hxw hwf
      generalize unpack words[n] = x at *
      unfold WordM.v at U
      have q1 := leftT_len words n
      have q2 := rightT_len words n
      obtain ⟨p1, m1, k1, rfl⟩ := K.out.row_slice
      obtain ⟨p2, m2, k2, rfl⟩ := K.out.swap.row_slice
      generalize hL : (leftT words n).flatMap thingC = XL at *
      generalize hR : (rightT words n).flatMap thingC = XR at *
      generalize hl : (leftT words n).length = nl at *
      generalize hr : (rightT words n).length = nr at *
      have HL := Lib.hid (And.intro hL (And.intro hR (And.intro hl hr)))
      clear hL hR hl hr
      by_cases s1 : x.state = 1
      · have b1 : (x.state != 1) = false := by simpa using s1
        by_cases s2 : x.fin = 0
        · have b2 : (x.fin == 0) = true := by simpa using s2
          have S := Lib.hid (And.intro s1 s2)
          clear s1 s2
          go_wp2_with (first | (go_at_call 22; (with_reducible refine ((U _).out).mono ?_); rintro e w1 ⟨rfl, hb⟩; have K1 := sat.grown (by repeat (with_reducible first | exact K.out | apply sat.alloc_any | apply sat.drew | apply sat.drewN)) hb; clear hb; have K2 := Lib.hid K1; clear K1 K; (try clear a0); (try clear l0); (try clear a1); (try clear l1); (try clear a2); (try clear l2); have K := K2; clear K2) | ((with_reducible refine at_append ?_); refine st_append 0 134 6 48 Try.underlying132 thingInfo (by repeat (with_reducible first | exact K.out | apply sat.alloc_any | apply sat.drew | apply sat.drewN)) rfl rfl rfl rfl (box2_at _ _ [_, _, _, _, _, _] _) ?_ Nat.one_pos ?_ ?_ ?_; (· simp [Value.oneCell']); (· simp only [maxLen]; omega); (· omega); intro p1 n1 c1 w1 K1; simp only [List.set] at K1; have K2 := Lib.hid K1; clear K1 K; have K := K2; clear K2))
          obtain ⟨gk', rfl⟩ : ∃ g', gk = g' + 1 := ⟨gk - 1, by have := HN.out; omega⟩
          go_roundg gk'
          case measure => omega
          case rel =>
            obtain ⟨e1, e2, e3, e4⟩ := HL.out
            have eL : leftT words (n + 1) = leftT words n ++ [((n : Int), x)] := by simp [leftT, E1.out, S.out.1, S.out.2]
            have eR : rightT words (n + 1) = rightT words n := by simp [rightT, E1.out, S.out.1, S.out.2]
            refine ⟨n + 1, by have := HN.out; omega, by simp, ?_⟩
            rw [eL, eR]
            simp only [List.length_append, List.length_cons, List.length_nil, List.flatMap_append, List.flatMap_cons, List.flatMap_nil, List.append_nil, e1, e2, e3, e4]
            exact K.out
        · have b2 : (x.fin == 0) = false := by simpa using s2
          have S := Lib.hid (And.intro s1 s2)
          clear s1 s2
          go_wp2_with (first | (go_at_call 22; (with_reducible refine ((U _).out).mono ?_); rintro e w1 ⟨rfl, hb⟩; have K1 := sat.grown (by repeat (with_reducible first | exact K.out | apply sat.alloc_any | apply sat.drew | apply sat.drewN)) hb; clear hb; have K2 := Lib.hid K1; clear K1 K; (try clear a0); (try clear l0); (try clear a1); (try clear l1); (try clear a2); (try clear l2); have K := K2; clear K2) | ((with_reducible refine at_append ?_); refine st_append 1 134 6 48 Try.underlying132 thingInfo (by repeat (with_reducible first | exact K.out | apply sat.alloc_any | apply sat.drew | apply sat.drewN)) rfl rfl rfl rfl (box2_at _ _ [_, _, _, _, _, _] _) ?_ Nat.one_pos ?_ ?_ ?_; (· simp [Value.oneCell']); (· simp only [maxLen]; omega); (· omega); intro p1 n1 c1 w1 K1; simp only [List.set] at K1; have K2 := Lib.hid K1; clear K1 K; have K := K2; clear K2))
          obtain ⟨gk', rfl⟩ : ∃ g', gk = g' + 1 := ⟨gk - 1, by have := HN.out; omega⟩
          go_roundg gk'
          case measure => omega
          case rel =>
            obtain ⟨e1, e2, e3, e4⟩ := HL.out
            have eL : leftT words (n + 1) = leftT words n := by simp [leftT, E1.out, S.out.1, S.out.2]
            have eR : rightT words (n + 1) = rightT words n ++ [((n : Int), x)] := by simp [rightT, E1.out, S.out.1, S.out.2]
            refine ⟨n + 1, by have := HN.out; omega, by simp, ?_⟩
            rw [eL, eR]
            simp only [List.length_append, List.length_cons, List.length_nil, List.flatMap_append, List.flatMap_cons, List.flatMap_nil, List.append_nil, e1, e2, e3, e4]
            exact K.out
      · have b1 : (x.state != 1) = true := by simpa using s1
        have S := Lib.hid s1
        clear s1
        go_wp2_with (first | (go_at_call 22; (with_reducible refine ((U _).out).mono ?_); rintro e w1 ⟨rfl, hb⟩; have K1 := sat.grown (by repeat (with_reducible first | exact K.out | apply sat.alloc_any | apply sat.drew | apply sat.drewN)) hb; clear hb; have K2 := Lib.hid K1; clear K1 K; (try clear a0); (try clear l0); (try clear a1); (try clear l1); (try clear a2); (try clear l2); have K := K2; clear K2) | ((with_reducible refine at_append ?_); refine st_append 0 134 6 48 Try.underlying132 thingInfo (by repeat (with_reducible first | exact K.out | apply sat.alloc_any | apply sat.drew | apply sat.drewN)) rfl rfl rfl rfl (box2_at _ _ [_, _, _, _, _, _] _) ?_ Nat.one_pos ?_ ?_ ?_; (· simp [Value.oneCell']); (· simp only [maxLen]; omega); (· omega); intro p1 n1 c1 w1 K1; simp only [List.set] at K1; have K2 := Lib.hid K1; clear K1 K; have K := K2; clear K2))
        obtain ⟨gk', rfl⟩ : ∃ g', gk = g' + 1 := ⟨gk - 1, by have := HN.out; omega⟩
        go_roundg gk'
        case measure => omega
        case rel =>
          obtain ⟨e1, e2, e3, e4⟩ := HL.out
          have eL : leftT words (n + 1) = leftT words n := by simp [leftT, E1.out, S.out]
          have eR : rightT words (n + 1) = rightT words n := by simp [rightT, E1.out, S.out]
          refine ⟨n + 1, by have := HN.out; omega, by simp, ?_⟩
          rw [eL, eR]
          simp only [List.length_append, List.length_cons, List.length_nil, List.flatMap_append, List.flatMap_cons, List.flatMap_nil, List.append_nil, e1, e2, e3, e4]
          exact (by repeat (with_reducible first | exact K.out | apply sat.alloc_any | apply sat.drew | apply sat.drewN))
    · have hnl : n = words.length := by omega
      subst hnl
      have c0 : decide ((words.length : Int) < (words.length : Int)) = false := by simp
      clear c hn
      have q1 := leftT_len words words.length
      have q2 := rightT_len words words.length
      have e22 : ∀ args w, (callFunc 83 args).run Try.prog w = .ok (.enter 83 args) w := enters_of Try.func83 (by kernel_rfl) rfl
      have e23 : ∀ args w, (callFunc 84 args).run Try.prog w = .ok (.enter 84 args) w := enters_of Try.func84 (by kernel_rfl) rfl
      obtain ⟨p1, m1, k1, rfl⟩ := K.out.row_slice
      obtain ⟨p2, m2, k2, rfl⟩ := K.out.swap.row_slice
      have SL := fun w' (h : sat w w' [rowA (.slice p1 m1 k1) 134 6 (leftT words words.length).length ((leftT words words.length).flatMap thingC), rowA (.slice p2 m2 k2) 134 6 (rightT words words.length).length ((rightT words words.length).flatMap thingC)]) => Lib.hid (sort_any 83 (fun a b => tcmp b a) rcmp_swo e22 rev_lays (leftT words words.length) rfl (by omega) h)
      have SR := fun w' X (h : sat w w' [rowA (.slice p2 m2 k2) 134 6 (rightT words words.length).length ((rightT words words.length).flatMap thingC), X]) => Lib.hid (sort_any 84 tcmp tcmp_swo e23 cmp_lays (rightT words words.length) rfl (by omega) h)
      clear e22 e23
      go_wp2_with (first | (go_at_call 82; (with_reducible refine (SL _ K.out).out.mono ?_); rintro e w1 ⟨rfl, ll, pl, sl, K1⟩; have PL := Lib.hid (And.intro pl sl); clear pl sl; have K2 := Lib.hid K1; clear K1 K; have K := K2; clear K2) | (go_at_call 82; (with_reducible refine (SR _ _ K.out.swap).out.mono ?_); rintro e w1 ⟨rfl, lr, pr, sr, K1⟩; have PR := Lib.hid (And.intro pr sr); clear pr sr; have K2 := Lib.hid K1; clear K1 K; have K := K2; clear K2) | ((with_reducible refine at_append ?_); refine st_append_row 1 0 134 6 48 Try.underlying132 thingInfo (by repeat (with_reducible first | exact K.out | apply sat.alloc_any | apply sat.drew | apply sat.drewN)) rfl rfl rfl rfl (thing_one _) ?_ ?_ ?_; (· simp only [maxLen]; omega); (· omega); intro p3 n3 c3 w3 K1; simp only [List.set] at K1; have K2 := Lib.hid K1.drop; clear K1 K; have K := K2; clear K2))
      have R := order_row words ll lr PL.out.1 PR.out.1 PL.out.2 PR.out.2
      have eT : (ll ++ lr).length = (leftT words words.length).length + (rightT words words.length).length := by rw [List.length_append, PL.out.1.length_eq, PR.out.1.length_eq]
      have K1 := K.out
      rw [← List.flatMap_append, ← eT] at K1
      clear K PL PR SL SR
      have qT : (ll ++ lr).length ≤ 2000000 := by omega
      clear eT q1 q2
      have RR := Lib.hid R
      clear R
      generalize ll ++ lr = T at *
      obtain ⟨rfl, -⟩ := row_len K1
      have K := Lib.hid K1
      clear K1
      go_loopg [8, 49] T.length (fun gk o i w' => ordRel2 w T p3 c3 gk o i w')
      case atStart => exact ⟨0, by simp, rfl, K.out.row_nil _ _⟩
      case round =>
        obtain ⟨n, hn', rfl, hs⟩ := hrel
        clear K
        have K := Lib.hid hs
        clear hs
        by_cases c : n < T.length
        · have c0' : decide ((n : Int) < (T.length : Int)) = true := by simpa using c
          obtain ⟨_, ⟨_, h0⟩ | ⟨g, rfl⟩⟩ := row_len K.out.swap
          · omega
          obtain ⟨p4, m4, c4, rfl⟩ := K.out.row_slice
          have X := thing_at K.out.swap n c
          obtain ⟨x0, x1, x2, x3, x4, x5⟩ := X
          have e : (T.take (n + 1)).map Prod.fst = (T.take n).map Prod.fst ++ [T[n].1] := by rw [List.take_succ_eq_append_getElem c, List.map_append]; rfl
          have E := Lib.hid e
          have HN := Lib.hid hn'
          clear e hn'
          generalize T[n] = x at *
          obtain ⟨xs, xw⟩ := x
          go_wp2_with (first | ((with_reducible refine at_append ?_); refine st_append 0 3 1 8 Try.underlying24 intInfo (by repeat (with_reducible first | exact K.out | apply sat.alloc_any | apply sat.drew | apply sat.drewN)) rfl rfl rfl rfl (box2_at _ _ [_] _) ?_ Nat.one_pos ?_ ?_ ?_; (· simp [Value.oneCell']); (· simp only [maxLen]; omega); (· omega); intro p1 n1 c1 w1 K1; simp only [List.set] at K1; have K2 := Lib.hid K1; clear K1 K; have K := K2; clear K2))
          obtain ⟨gk', rfl⟩ : ∃ g', gk = g' + 1 := ⟨gk - 1, by have := HN.out; omega⟩
          go_roundg gk'
          case measure => omega
          case rel =>
            refine ⟨n + 1, by have := HN.out; omega, by simp, ?_⟩
            rw [E.out, List.map_append]
            exact K.out
        · have hnl : n = T.length := by omega
          subst hnl
          have c0' : decide ((T.length : Int) < (T.length : Int)) = false := by simp
          clear c hn'
          have K1 := K.out.swap.drop
          rw [List.take_length, RR.out] at K1
          have el : T.length = (orderM words).length := by rw [← RR.out]; simp
          rw [el] at K1
          have K2 := Lib.hid K1
          clear K1 K RR el
          obtain ⟨p4, m4, c4, rfl⟩ := K2.out.row_slice
          go_wp2
          go_ret
          exact ⟨_, rfl, K2.out⟩
end Go.Proofs.Ytdhcomklmckhoaa
