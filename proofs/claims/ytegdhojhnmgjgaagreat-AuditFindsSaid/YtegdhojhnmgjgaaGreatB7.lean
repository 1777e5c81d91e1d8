/- Several texts in one: SortAny Order PickAt. Each says ahead of it what it shows. -/
import Derived.Test.YtegdhojhnmgjgaaGreatB6
import Derived.Shelf.SlSortCmp.NoneTotal
set_option linter.unusedVariables false
set_option linter.unusedSimpArgs false
/- The library's sort at whatever row of one's own of things. Conditions: fewer than 2^62 things. -/
namespace Go.Proofs.YtegdhojhnmgjgaaGreat
open Go.Shelf Go.RowKit Go.Lib Go.Sort Go.SepYtegdhojhnmgjgaaGreat
theorem sort_any {E w : World} {L : List SA} {v : Value} {n : Nat} (f : Nat) (cf : Thing → Thing → Int) (hO : SWO (ltOf cf)) (eg : ∀ args w, (callFunc f args).run Tryz.prog w = .ok (.enter f args) w)
    (hc : ∀ blk off size w, CmpLays Tryz.prog f #[] thingC 6 cf blk off size w) (l : List Thing) (hn : l.length = n) (hlt : n < 4611686018427387904)
    (h : sat E w (rowA v 175 6 n (l.flatMap thingC) :: L)) :
    Calls Tryz.prog 116 #[v, .func (.func f) #[] #[]] w fun e w' =>
      e = .returned (.tuple #[]) ∧ ∃ l' : List Thing, l'.Perm l ∧ l'.Pairwise (fun a b => ltOf cf b a = false) ∧ sat E w' (rowA v 175 6 n (l'.flatMap thingC) :: L) := by
  obtain ⟨_, ⟨rfl, rfl, _⟩ | ⟨g, cap, cur, rfl, _, _, _, _, h5⟩⟩ := h.row_open
  · obtain rfl := List.length_eq_zero_iff.1 hn
    have hcon := AnyF.slices_SortFunc_none Tryz.sortThing none 0 (.func (.func f) #[] #[]) w
    change Calls Tryz.prog 116 _ _ _ at hcon
    refine hcon.mono fun e w' ⟨he, hw⟩ => ⟨he, [], List.Perm.refl _, List.Pairwise.nil, ?_⟩
    subst hw
    exact h
  · exact sort_some f cf hO eg hc l hn hlt h h5.lt
end Go.Proofs.YtegdhojhnmgjgaaGreat
/- The places in which something is, from left to right (pick.Order). Conditions: words within their kind, at most a million of them. -/
namespace Go.Proofs.YtegdhojhnmgjgaaGreat
open Go.RowKit Go.SepYtegdhojhnmgjgaaGreat
set_option maxRecDepth 100000
set_option maxHeartbeats 1000000
theorem leftT_len (words : List Int) : ∀ n, (leftT words n).length ≤ n
  | 0 => Nat.le_refl _
  | n + 1 => by have := leftT_len words n; unfold leftT; split <;> simp <;> omega
theorem rightT_len (words : List Int) : ∀ n, (rightT words n).length ≤ n
  | 0 => Nat.le_refl _
  | n + 1 => by have := rightT_len words n; unfold rightT; split <;> simp <;> omega
def ordRel (w0 : World) (words : List Int) (gk : Nat) (l r i : Value) (w' : World) : Prop :=
  ∃ n : Nat, n + gk = words.length ∧ i = .int .i64 n ∧ sat w0 w' [rowA l 175 6 (leftT words n).length ((leftT words n).flatMap thingC), rowA r 175 6 (rightT words n).length ((rightT words n).flatMap thingC)]
def ordRel2 (w0 : World) (T : List Thing) (p : Option Addr) (c : Nat) (gk : Nat) (o i : Value) (w' : World) : Prop :=
  ∃ n : Nat, n + gk = T.length ∧ i = .int .i64 n ∧ sat w0 w' [rowA o 3 1 n (((T.take n).map Prod.fst).map (Value.int .i64)), rowA (.slice p T.length c) 175 6 T.length (T.flatMap thingC)]
theorem order_any (words : List Int) (p : Option Addr) (cap : Nat) (w : World) (hc : OldU w p words) (hwf : ∀ x ∈ words, 0 ≤ x ∧ x < 18446744073709551616) (hn : words.length ≤ 1000000) :
    Calls Tryz.prog 115 #[.slice p words.length cap] w fun e w' => ∃ v, e = .returned v ∧ sat w w' [rowA v 3 1 (orderM words).length ((orderM words).map (Value.int .i64))] := by
  have K := Lib.hid (sat.start w)
  have H := Lib.hid hc
  clear hc
  go_enter Tryz.func115, Tryz.ntmps115
  go_wp2_with fail
  go_loopg [3, 4, 13] words.length (fun gk l r i w' => ordRel w words gk l r i w')
  case atStart => exact ⟨0, by simp, rfl, (K.out.row_nil _ _).row_nil _ _⟩
  case round =>
    obtain ⟨n, hn, rfl, hs⟩ := hrel
    clear K
    have K := Lib.hid hs
    clear hs
    by_cases c : n < words.length
    · have c0 : decide ((n : Int) < (words.length : Int)) = true := by simpa using c
      obtain ⟨bw, off, rfl, hb, hx0⟩ := H.out n c
      have hx : wr.cell? ⟨bw, off + n, none⟩ = some (.int .u64 words[n]) := (K.out.below.cell (p := ⟨bw, off + n, none⟩) hb).trans hx0
      clear hx0
      have hxw := hwf words[n] (List.getElem_mem c)
      have U := fun w => Lib.hid (unpack_calls words[n] hxw.1 hxw.2 w)
      have e : unpack (getI words n) = unpack words[n] := by simp [getI, c]
      have E1 := Lib.hid e
      have HN := Lib.hid hn
      clear e hn hxw hwf
      generalize unpack words[n] = x at *
      unfold WordM.v at U
      have q1 := leftT_len words n
      have q2 := rightT_len words n
      obtain ⟨p1, m1, k1, rfl⟩ := K.out.row_slice
      obtain ⟨p2, m2, k2, rfl⟩ := K.out.swap.row_slice
      generalize hL : (leftT words n).flatMap thingC = XL at *
      generalize hR : (rightT words n).flatMap thingC = XR at *
      generalize hl : (leftT words n).length = nl at *
      generalize hr : (rightT words n).length = nr at *
      have HL := Lib.hid (And.intro hL (And.intro hR (And.intro hl hr)))
      clear hL hR hl hr
      by_cases s1 : x.state = 1
      · have b1 : (x.state != 1) = false := by simpa using s1
        by_cases s2 : x.fin = 0
        · have b2 : (x.fin == 0) = true := by simpa using s2
          have S := Lib.hid (And.intro s1 s2)
          clear s1 s2
          go_wp2_with (first | (go_at_call 91; (with_reducible refine ((U _).out).mono ?_); rintro e w1 ⟨rfl, hb⟩; have K1 := sat.grown (by repeat (with_reducible first | exact K.out | apply sat.alloc_any | apply sat.drew | apply sat.drewN)) hb; clear hb; have K2 := Lib.hid K1; clear K1 K; (try clear a0); (try clear l0); (try clear a1); (try clear l1); (try clear a2); (try clear l2); have K := K2; clear K2) | ((with_reducible refine at_append ?_); refine st_append 0 175 6 48 Tryz.underlying173 thingInfo (by repeat (with_reducible first | exact K.out | apply sat.alloc_any | apply sat.drew | apply sat.drewN)) rfl rfl rfl rfl (box2_at _ _ [_, _, _, _, _, _] _) ?_ Nat.one_pos ?_ ?_ ?_; (· simp [Value.oneCell']); (· simp only [maxLen]; omega); (· omega); intro p1 n1 c1 w1 K1; simp only [List.set] at K1; have K2 := Lib.hid K1; clear K1 K; have K := K2; clear K2))
          obtain ⟨gk', rfl⟩ : ∃ g', gk = g' + 1 := ⟨gk - 1, by have := HN.out; omega⟩
          go_roundg gk'
          case measure => omega
          case rel =>
            obtain ⟨e1, e2, e3, e4⟩ := HL.out
            have eL : leftT words (n + 1) = leftT words n ++ [((n : Int), x)] := by simp [leftT, E1.out, S.out.1, S.out.2]
            have eR : rightT words (n + 1) = rightT words n := by simp [rightT, E1.out, S.out.1, S.out.2]
            refine ⟨n + 1, by have := HN.out; omega, by simp, ?_⟩
            rw [eL, eR]
            simp only [List.length_append, List.length_cons, List.length_nil, List.flatMap_append, List.flatMap_cons, List.flatMap_nil, List.append_nil, e1, e2, e3, e4]
            exact K.out
        · have b2 : (x.fin == 0) = false := by simpa using s2
          have S := Lib.hid (And.intro s1 s2)
          clear s1 s2
          go_wp2_with (first | (go_at_call 91; (with_reducible refine ((U _).out).mono ?_); rintro e w1 ⟨rfl, hb⟩; have K1 := sat.grown (by repeat (with_reducible first | exact K.out | apply sat.alloc_any | apply sat.drew | apply sat.drewN)) hb; clear hb; have K2 := Lib.hid K1; clear K1 K; (try clear a0); (try clear l0); (try clear a1); (try clear l1); (try clear a2); (try clear l2); have K := K2; clear K2) | ((with_reducible refine at_append ?_); refine st_append 1 175 6 48 Tryz.underlying173 thingInfo (by repeat (with_reducible first | exact K.out | apply sat.alloc_any | apply sat.drew | apply sat.drewN)) rfl rfl rfl rfl (box2_at _ _ [_, _, _, _, _, _] _) ?_ Nat.one_pos ?_ ?_ ?_; (· simp [Value.oneCell']); (· simp only [maxLen]; omega); (· omega); intro p1 n1 c1 w1 K1; simp only [List.set] at K1; have K2 := Lib.hid K1; clear K1 K; have K := K2; clear K2))
          obtain ⟨gk', rfl⟩ : ∃ g', gk = g' + 1 := ⟨gk - 1, by have := HN.out; omega⟩
          go_roundg gk'
          case measure => omega
          case rel =>
            obtain ⟨e1, e2, e3, e4⟩ := HL.out
            have eL : leftT words (n + 1) = leftT words n := by simp [leftT, E1.out, S.out.1, S.out.2]
            have eR : rightT words (n + 1) = rightT words n ++ [((n : Int), x)] := by simp [rightT, E1.out, S.out.1, S.out.2]
            refine ⟨n + 1, by have := HN.out; omega, by simp, ?_⟩
            rw [eL, eR]
            simp only [List.length_append, List.length_cons, List.length_nil, List.flatMap_append, List.flatMap_cons, List.flatMap_nil, List.append_nil, e1, e2, e3, e4]
            exact K.out
      · have b1 : (x.state != 1) = true := by simpa using s1
        have S := Lib.hid s1
        clear s1
        go_wp2_with (first | (go_at_call 91; (with_reducible refine ((U _).out).mono ?_); rintro e w1 ⟨rfl, hb⟩; have K1 := sat.grown (by repeat (with_reducible first | exact K.out | apply sat.alloc_any | apply sat.drew | apply sat.drewN)) hb; clear hb; have K2 := Lib.hid K1; clear K1 K; (try clear a0); (try clear l0); (try clear a1); (try clear l1); (try clear a2); (try clear l2); have K := K2; clear K2) | ((with_reducible refine at_append ?_); refine st_append 0 175 6 48 Tryz.underlying173 thingInfo (by repeat (with_reducible first | exact K.out | apply sat.alloc_any | apply sat.drew | apply sat.drewN)) rfl rfl rfl rfl (box2_at _ _ [_, _, _, _, _, _] _) ?_ Nat.one_pos ?_ ?_ ?_; (· simp [Value.oneCell']); (· simp only [maxLen]; omega); (· omega); intro p1 n1 c1 w1 K1; simp only [List.set] at K1; have K2 := Lib.hid K1; clear K1 K; have K := K2; clear K2))
        obtain ⟨gk', rfl⟩ : ∃ g', gk = g' + 1 := ⟨gk - 1, by have := HN.out; omega⟩
        go_roundg gk'
        case measure => omega
        case rel =>
          obtain ⟨e1, e2, e3, e4⟩ := HL.out
          have eL : leftT words (n + 1) = leftT words n := by simp [leftT, E1.out, S.out]
          have eR : rightT words (n + 1) = rightT words n := by simp [rightT, E1.out, S.out]
          refine ⟨n + 1, by have := HN.out; omega, by simp, ?_⟩
          rw [eL, eR]
          simp only [List.length_append, List.length_cons, List.length_nil, List.flatMap_append, List.flatMap_cons, List.flatMap_nil, List.append_nil, e1, e2, e3, e4]
          exact (by repeat (with_reducible first | exact K.out | apply sat.alloc_any | apply sat.drew | apply sat.drewN))
    · have hnl : n = words.length := by omega
      subst hnl
      have c0 : decide ((words.length : Int) < (words.length : Int)) = false := by simp
      clear c hn
      have q1 := leftT_len words words.length
      have q2 := rightT_len words words.length
      have e22 : ∀ args w, (callFunc 117 args).run Tryz.prog w = .ok (.enter 117 args) w := enters_of Tryz.func117 (by kernel_rfl) rfl
      have e23 : ∀ args w, (callFunc 118 args).run Tryz.prog w = .ok (.enter 118 args) w := enters_of Tryz.func118 (by kernel_rfl) rfl
      obtain ⟨p1, m1, k1, rfl⟩ := K.out.row_slice
      obtain ⟨p2, m2, k2, rfl⟩ := K.out.swap.row_slice
      have SL := fun w' (h : sat w w' [rowA (.slice p1 m1 k1) 175 6 (leftT words words.length).length ((leftT words words.length).flatMap thingC), rowA (.slice p2 m2 k2) 175 6 (rightT words words.length).length ((rightT words words.length).flatMap thingC)]) => Lib.hid (sort_any 117 (fun a b => tcmp b a) rcmp_swo e22 rev_lays (leftT words words.length) rfl (by omega) h)
      have SR := fun w' X (h : sat w w' [rowA (.slice p2 m2 k2) 175 6 (rightT words words.length).length ((rightT words words.length).flatMap thingC), X]) => Lib.hid (sort_any 118 tcmp tcmp_swo e23 cmp_lays (rightT words words.length) rfl (by omega) h)
      clear e22 e23
      go_wp2_with (first | (go_at_call 116; (with_reducible refine (SL _ K.out).out.mono ?_); rintro e w1 ⟨rfl, ll, pl, sl, K1⟩; have PL := Lib.hid (And.intro pl sl); clear pl sl; have K2 := Lib.hid K1; clear K1 K; have K := K2; clear K2) | (go_at_call 116; (with_reducible refine (SR _ _ K.out.swap).out.mono ?_); rintro e w1 ⟨rfl, lr, pr, sr, K1⟩; have PR := Lib.hid (And.intro pr sr); clear pr sr; have K2 := Lib.hid K1; clear K1 K; have K := K2; clear K2) | ((with_reducible refine at_append ?_); refine st_append_row 1 0 175 6 48 Tryz.underlying173 thingInfo (by repeat (with_reducible first | exact K.out | apply sat.alloc_any | apply sat.drew | apply sat.drewN)) rfl rfl rfl rfl (thing_one _) ?_ ?_ ?_; (· simp only [maxLen]; omega); (· omega); intro p3 n3 c3 w3 K1; simp only [List.set] at K1; have K2 := Lib.hid K1.drop; clear K1 K; have K := K2; clear K2))
      have R := order_row words ll lr PL.out.1 PR.out.1 PL.out.2 PR.out.2
      have eT : (ll ++ lr).length = (leftT words words.length).length + (rightT words words.length).length := by rw [List.length_append, PL.out.1.length_eq, PR.out.1.length_eq]
      have K1 := K.out
      rw [← List.flatMap_append, ← eT] at K1
      clear K PL PR SL SR
      have qT : (ll ++ lr).length ≤ 2000000 := by omega
      clear eT q1 q2
      have RR := Lib.hid R
      clear R
      generalize ll ++ lr = T at *
      obtain ⟨rfl, -⟩ := row_len K1
      have K := Lib.hid K1
      clear K1
      go_loopg [8, 49] T.length (fun gk o i w' => ordRel2 w T p3 c3 gk o i w')
      case atStart => exact ⟨0, by simp, rfl, K.out.row_nil _ _⟩
      case round =>
        obtain ⟨n, hn', rfl, hs⟩ := hrel
        clear K
        have K := Lib.hid hs
        clear hs
        by_cases c : n < T.length
        · have c0' : decide ((n : Int) < (T.length : Int)) = true := by simpa using c
          obtain ⟨_, ⟨_, h0⟩ | ⟨g, rfl⟩⟩ := row_len K.out.swap
          · omega
          obtain ⟨p4, m4, c4, rfl⟩ := K.out.row_slice
          have X := thing_at K.out.swap n c
          obtain ⟨x0, x1, x2, x3, x4, x5⟩ := X
          have e : (T.take (n + 1)).map Prod.fst = (T.take n).map Prod.fst ++ [T[n].1] := by rw [List.take_succ_eq_append_getElem c, List.map_append]; rfl
          have E := Lib.hid e
          have HN := Lib.hid hn'
          clear e hn'
          generalize T[n] = x at *
          obtain ⟨xs, xw⟩ := x
          go_wp2_with (first | ((with_reducible refine at_append ?_); refine st_append 0 3 1 8 Tryz.underlying58 intInfo (by repeat (with_reducible first | exact K.out | apply sat.alloc_any | apply sat.drew | apply sat.drewN)) rfl rfl rfl rfl (box2_at _ _ [_] _) ?_ Nat.one_pos ?_ ?_ ?_; (· simp [Value.oneCell']); (· simp only [maxLen]; omega); (· omega); intro p1 n1 c1 w1 K1; simp only [List.set] at K1; have K2 := Lib.hid K1; clear K1 K; have K := K2; clear K2))
          obtain ⟨gk', rfl⟩ : ∃ g', gk = g' + 1 := ⟨gk - 1, by have := HN.out; omega⟩
          go_roundg gk'
          case measure => omega
          case rel =>
            refine ⟨n + 1, by have := HN.out; omega, by simp, ?_⟩
            rw [E.out, List.map_append]
            exact K.out
        · have hnl : n = T.length := by omega
          subst hnl
          have c0' : decide ((T.length : Int) < (T.length : Int)) = false := by simp
          clear c hn'
          have K1 := K.out.swap.drop
          rw [List.take_length, RR.out] at K1
          have el : T.length = (orderM words).length := by rw [← RR.out]; simp
          rw [el] at K1
          have K2 := Lib.hid K1
          clear K1 K RR el
          obtain ⟨p4, m4, c4, rfl⟩ := K2.out.row_slice
          go_wp2
          go_ret
          exact ⟨_, rfl, K2.out⟩
end Go.Proofs.YtegdhojhnmgjgaaGreat
/- What stands at an end (pick.At). Conditions: words within their kind, at most a million of them. -/
namespace Go.Proofs.YtegdhojhnmgjgaaGreat
open Go.RowKit Go.SepYtegdhojhnmgjgaaGreat
set_option maxRecDepth 100000
theorem at_calls (words : List Int) (p : Option Addr) (cap : Nat) (en : Int) (w : World) (hc : OldU w p words) (hwf : ∀ x ∈ words, 0 ≤ x ∧ x < 18446744073709551616) (hn : words.length ≤ 1000000) :
    Tells 107 #[.slice p words.length cap, .int .i64 en] w (.int .i64 (atM words en)) := by
  have O := fun w' (b : Below w.heap.size w w') => Lib.hid (order_any words p cap w' (hc.grown b) hwf hn)
  have K := Lib.hid (sat.start w)
  have q := orderM_len words
  clear hc hwf
  by_cases h : orderM words = []
  · rw [atM_nil en h]
    simp only [h, List.length_nil, List.map_nil] at O
    clear h
    go_enter Tryz.func107, Tryz.ntmps107
    go_wp2_with (go_at_call 115; (with_reducible refine (O _ K.out.below).out.mono ?_); rintro e w1 ⟨v, rfl, K1⟩; obtain ⟨p1, c1, rfl⟩ := row_any K1; have K2 := Lib.hid (K.out.join K1); clear K1 K; have K := K2; clear K2)
    go_ret
    exact ⟨rfl, K.out.below⟩
  · by_cases he : en = 0
    · subst he
      cases h' : orderM words with
      | nil => exact (h h').elim
      | cons a l =>
        rw [atM_left h']
        have hl : 0 < (orderM words).length := by rw [h']; simp
        have c0 : (((orderM words).length : Int) == 0) = false := by simp; omega
        have O0 : (orderM words)[0]? = some a := by rw [h']; rfl
        generalize orderM words = M at *
        have HH := Lib.hid h'
        clear h h'
        go_enter Tryz.func107, Tryz.ntmps107
        go_wp2_with (go_at_call 115; (with_reducible refine (O _ K.out.below).out.mono ?_); rintro e w1 ⟨v, rfl, K1⟩; obtain ⟨g, c1, rfl⟩ := row_pos K1 hl; have K2 := Lib.hid (K.out.join K1); clear K1 K; have K := K2; clear K2; have x0 := K.out.row_rd 0 rfl 0 (.int .i64 a) (by rw [List.getElem?_map, O0]; rfl))
        go_ret
        exact ⟨rfl, K.out.below⟩
    · obtain ⟨l, a, h'⟩ := snoc_of _ h
      rw [atM_right he h']
      have hl : 0 < (orderM words).length := by rw [h']; simp
      have c0 : (((orderM words).length : Int) == 0) = false := by simp; omega
      have ce : (en == 0) = false := by simpa using he
      have e1 : wrap64 (((orderM words).length : Int) - 1) = (((orderM words).length - 1 : Nat) : Int) := by rw [w64 (by omega) (by omega)]; omega
      have O0 : (orderM words)[(orderM words).length - 1]? = some a := by rw [h']; simp
      generalize orderM words = M at *
      have HH := Lib.hid h'
      clear h h' he
      go_enter Tryz.func107, Tryz.ntmps107
      go_wp2_with (go_at_call 115; (with_reducible refine (O _ K.out.below).out.mono ?_); rintro e w1 ⟨v, rfl, K1⟩; obtain ⟨g, c1, rfl⟩ := row_pos K1 hl; have K2 := Lib.hid (K.out.join K1); clear K1 K; have K := K2; clear K2; have x0 := K.out.row_rd 0 rfl (M.length - 1) (.int .i64 a) (by rw [List.getElem?_map, O0]; rfl))
      go_ret
      exact ⟨rfl, K.out.below⟩
end Go.Proofs.YtegdhojhnmgjgaaGreat
