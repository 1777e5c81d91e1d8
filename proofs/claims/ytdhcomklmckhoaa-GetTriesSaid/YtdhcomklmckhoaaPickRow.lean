/- The places in which something is, put in one by one (Row, as the statements of pick have it). Conditions: words within their kind, at most a million of them. -/
import Derived.Test.YtdhcomklmckhoaaPickAhead
import Derived.Test.YtdhcomklmckhoaaAppendV
namespace Go.Proofs.Ytdhcomklmckhoaa
open Go.RowKit Go.SepYtdhcomklmckhoaa
set_option linter.unusedSimpArgs false
set_option linter.unusedVariables false
set_option maxRecDepth 100000
attribute [local go_sem] field_state field_end field_stamp
theorem box1_at (w : World) (l : List Value) (t : TypeId) (j : Nat) (u : Value) (h : l[j]? = some u) : (w.alloc (.cells l.toArray t)).cell? ⟨w.heap.size, 0 + j, none⟩ = some u := by
  rw [Nat.zero_add]; exact box_at2 w l t j u h
theorem take_get {l : List Int} {m j : Nat} {u : Value} (h : ((l.take m).map (Value.int .i64))[j]? = some u) : (l.map (Value.int .i64))[j]? = some u := by
  rw [List.map_take, List.getElem?_take] at h
  split at h
  · exact h
  · cases h
theorem drop_get {l : List Int} {m j : Nat} {u : Value} (h : ((l.drop m).map (Value.int .i64))[j]? = some u) : (l.map (Value.int .i64))[m + j]? = some u := by
  rw [List.map_drop, List.getElem?_drop] at h
  exact h
theorem int_one (l : List Int) : ∀ u ∈ l.map (Value.int .i64), u.oneCell' = true := by
  intro u hu
  obtain ⟨x, _, rfl⟩ := List.mem_map.1 hu
  rfl
theorem row_cap {E w : World} {L : List SA} {p : Option Addr} {m c e size n : Nat} {xs : List Value} (h : sat E w (rowA (.slice p m c) e size n xs :: L)) : n ≤ c ∧ c ≤ maxLen := by
  obtain ⟨_, ⟨h0, h1, _⟩ | ⟨g, cap, cur, h0, h1, h2, _⟩⟩ := h.row_open
  · simp at h0; obtain ⟨_, _, rfl⟩ := h0; exact ⟨by omega, Nat.zero_le _⟩
  · simp at h0; obtain ⟨_, _, rfl⟩ := h0; exact ⟨h1, h2⟩
def rowRel (w0 : World) (words : List Int) (gk : Nat) (o i : Value) (w' : World) : Prop :=
  ∃ n : Nat, n + gk = words.length ∧ i = .int .i64 n ∧ ∃ g c, o = .slice (some ⟨g, 0, none⟩) (rowM words n).length c ∧ sat w0 w' [rowA o 3 1 (rowM words n).length ((rowM words n).map (Value.int .i64))]
def kRel (w0 : World) (words l : List Int) (n : Nat) (o : Value) (gk : Nat) (k : Value) (w' : World) : Prop :=
  ∃ m : Nat, m + gk = l.length ∧ k = .int .i64 m ∧ (∀ j, j < m → aheadB words (l.getD j 0) n = true) ∧ sat w0 w' [rowA o 3 1 l.length (l.map (Value.int .i64))]
theorem row_calls (words : List Int) (p : Option Addr) (cap : Nat) (w : World) (hc : OldU w p words) (hwf : ∀ x ∈ words, 0 ≤ x ∧ x < 18446744073709551616) (hn : words.length ≤ 1000000) :
    Calls Try.prog 11 #[.slice p words.length cap] w fun e w' => ∃ v, e = .returned v ∧ sat w w' [rowA v 3 1 (orderM words).length ((orderM words).map (Value.int .i64))] := by
  have K := Lib.hid (sat.start w)
  have H := Lib.hid hc
  have A := fun w' (b : Below w.heap.size w w') a b' ha hb => Lib.hid (ahead_calls words p cap w' (hc.grown b) hwf a b' ha hb)
  clear hc
  go_enter Try.func11, Try.ntmps11
  go_wp2_with fail
  go_loopg [3, 11] words.length (fun gk o i w' => rowRel w words gk o i w')
  case atStart => exact ⟨0, by simp, rfl, _, _, rfl, sat.row_empty K.out⟩
  case round =>
    obtain ⟨n, hn', rfl, g, c, rfl, hs⟩ := hrel
    clear K
    have K := Lib.hid hs
    clear hs
    by_cases hlt : n < words.length
    · have c0 : decide (n < words.length) = true := by simpa using hlt
      obtain ⟨bw, off, rfl, hb, hx0⟩ := H.out n hlt
      have hx : wr.cell? ⟨bw, off + n, none⟩ = some (.int .u64 words[n]) := (K.out.below.cell (p := ⟨bw, off + n, none⟩) hb).trans hx0
      clear hx0
      have hxw := hwf words[n] (List.getElem_mem hlt)
      have U := fun w => Lib.hid (unpack_calls words[n] hxw.1 hxw.2 w)
      have e : unpack (getI words n) = unpack words[n] := by simp [getI, hlt]
      have HN := Lib.hid (And.intro hn' hlt)
      have eM : rowM words (n + 1) = if (unpack words[n]).state = 1 then insB words n (rowM words n) else rowM words n := by rw [← e]; rfl
      have hmem := fun a ha => liveM_lt words n a ((rowM_perm words n).mem_iff.1 ha)
      have hlen := rowM_len words n
      clear e hn' hxw
      generalize unpack words[n] = x at *
      generalize words[n] = xn at *
      unfold WordM.v at U
      generalize rowM words n = l at *
      by_cases hs1 : x.state = 1
      · have c1 : (x.state != 1) = false := by simpa using hs1
        rw [if_pos hs1] at eM
        have E1 := Lib.hid eM
        have AN := fun w' (b : Below w.heap.size w w') (a : Nat) (ha : a < words.length) => A w' b a n ha HN.out.2
        have MM := Lib.hid hmem
        clear eM hs1 hmem
        obtain ⟨hcap, hcm⟩ := row_cap K.out
        go_wp2_with (first | (go_at_call 22; (with_reducible refine ((U _).out).mono ?_); rintro e w1 ⟨rfl, hb⟩; have K1 := sat.grown (by repeat (with_reducible first | exact K.out | apply sat.alloc_any | apply sat.drew | apply sat.drewN)) hb; clear hb; have K2 := Lib.hid K1; clear K1 K; (try clear a0); (try clear l0); (try clear a1); (try clear l1); (try clear a2); (try clear l2); have K := K2; clear K2))
        obtain ⟨gk0, rfl⟩ : ∃ g', gk = g' + 1 := ⟨gk - 1, by have := HN.out; omega⟩
        go_loopg [6] l.length (fun gk k w' => kRel w words l n (.slice (some ⟨g, 0, none⟩) l.length c) gk k w')
        case atStart => exact ⟨0, by simp, rfl, fun j hj => by omega, K.out⟩
        case round =>
          obtain ⟨m, hm', rfl, hj, hs⟩ := hrel
          clear K
          have K := Lib.hid hs
          clear hs
          by_cases hml : m < l.length
          · have d0 : decide (m < l.length) = true := by simpa using hml
            obtain ⟨a0, a1, _⟩ := MM.out l[m] (List.getElem_mem hml)
            have hlm : n < words.length := HN.out.2
            obtain ⟨a, ea⟩ : ∃ a : Nat, l[m] = (a : Int) := ⟨l[m].toNat, by omega⟩
            have y0 := K.out.row_rd 0 rfl m (.int .i64 a) (by rw [List.getElem?_map, List.getElem?_eq_getElem hml, ea]; rfl)
            have B := fun w' (b : Below w.heap.size w w') => AN w' b a (by omega)
            have eg : l.getD m 0 = (a : Int) := by rw [List.getD_eq_getElem?_getD, List.getElem?_eq_getElem hml, ea]; rfl
            have J := Lib.hid hj
            have HM := Lib.hid (And.intro hm' hml)
            have EG := Lib.hid eg
            clear hj hm' eg ea a0 a1
            by_cases ha : aheadB words (a : Int) n = true
            · rw [ha] at B
              have HA := Lib.hid ha
              clear ha
              go_wp2_with (first | (go_at_call 46; (with_reducible refine ((B _ (RowKit.Hid.out K).below).out).mono ?_); rintro e w1 ⟨rfl, hb⟩; have K1 := sat.grown (by repeat (with_reducible first | exact K.out | apply sat.alloc_any | apply sat.drew | apply sat.drewN)) hb; clear hb; have K2 := Lib.hid K1; clear K1 K; (try clear a0); (try clear l0); (try clear a1); (try clear l1); (try clear a2); (try clear l2); have K := K2; clear K2))
              obtain ⟨gk', rfl⟩ : ∃ g', gk = g' + 1 := ⟨gk - 1, by have := HM.out; omega⟩
              go_roundg gk'
              case measure => omega
              case rel =>
                refine ⟨m + 1, by have := HM.out; omega, by simp, fun j hj => ?_, K.out⟩
                rcases Nat.lt_or_ge j m with h | h
                · exact J.out j h
                · obtain rfl : j = m := by omega
                  rw [EG.out]; exact HA.out
            · have ha' : aheadB words (a : Int) n = false := by simpa using ha
              rw [ha'] at B
              have HX : m = l.length ∨ aheadB words (l.getD m 0) n = false := .inr (by rw [EG.out]; exact ha')
              clear ha ha'
              have HZ := Lib.hid (insB_split words n l m (by omega) J.out HX)
              clear HX
              go_wp2_with (first | (go_at_call 46; (with_reducible refine ((B _ (RowKit.Hid.out K).below).out).mono ?_); rintro e w1 ⟨rfl, hb⟩; have K1 := sat.grown (by repeat (with_reducible first | exact K.out | apply sat.alloc_any | apply sat.drew | apply sat.drewN)) hb; clear hb; have K2 := Lib.hid K1; clear K1 K; (try clear a0); (try clear l0); (try clear a1); (try clear l1); (try clear a2); (try clear l2); have K := K2; clear K2) | (first | ((with_reducible refine at_append ?_); refine st_append_part 0 3 1 8 Try.underlying24 intInfo (sat.row_empty K.out) rfl rfl (news := (l.take m).map (Value.int .i64)) rfl ?_ ?_ ?_ ?_ ?_ ?_; (· simp only [List.length_map, List.length_take]; omega); (· intro _; refine ⟨g, 0, rfl, fun j u hj => ?_⟩; rw [Nat.zero_add]; exact (sat.row_empty (e := 3) (size := 1) K.out).row_rd 1 rfl j u (take_get hj)); (· exact int_one _); (· simp only [maxLen]; omega); (· omega); intro p1 n1 c1 w1 K1; simp only [List.set] at K1; have K2 := Lib.hid K1; clear K1 K; have K := K2; clear K2) | ((with_reducible refine at_append ?_); refine st_append 0 3 1 8 Try.underlying24 intInfo (by repeat (with_reducible first | exact K.out | apply sat.alloc_any | apply sat.drew | apply sat.drewN)) rfl rfl rfl rfl (box1_at _ [_] _) ?_ Nat.one_pos ?_ ?_ ?_; (· simp [Value.oneCell']); (· simp only [maxLen]; omega); (· omega); intro p2 n2 c2 w1 K1; simp only [List.set] at K1; have K2 := Lib.hid K1; clear K1 K; have K := K2; clear K2) | ((with_reducible refine at_append ?_); refine st_append_part 0 3 1 8 Try.underlying24 intInfo K.out rfl rfl (news := (l.drop m).map (Value.int .i64)) rfl ?_ ?_ ?_ ?_ ?_ ?_; (· simp only [List.length_map, List.length_drop]; omega); (· intro h0; first | omega | (refine ⟨g, m, rfl, fun j u hj => ?_⟩; exact K.out.row_rd 1 rfl (m + j) u (drop_get hj))); (· exact int_one _); (· simp only [maxLen]; omega); (· omega); intro p3 n3 c3 w1 K1; simp only [List.set] at K1; have K2 := Lib.hid K1; clear K1 K; have K := K2; clear K2)))
              all_goals
                go_roundg gk0
                case measure => omega
                case rel =>
                  have e1 : 0 + m + 1 + (l.length - m) = (insB words n l).length := by rw [HZ.out]; simp; omega
                  have e2 : ([] : List Value) ++ List.map (Value.int .i64) (List.take m l) ++ [Value.int .i64 n] ++ List.map (Value.int .i64) (List.drop m l) = (insB words n l).map (Value.int .i64) := by rw [HZ.out]; simp
                  have K1 := K.out.swap.drop
                  rw [e1, e2] at K1
                  obtain ⟨g1, c4, hv⟩ := row_pos K1 (by rw [← e1]; omega)
                  rw [hv] at K1 ⊢
                  refine ⟨n + 1, by have := HN.out.1; omega, by simp, ?_⟩
                  rw [E1.out]
                  exact ⟨g1, c4, rfl, K1⟩
          · have d0 : decide (m < l.length) = false := by simpa using hml
            have HX : m = l.length ∨ aheadB words (l.getD m 0) n = false := .inl (by omega)
            have J := Lib.hid hj
            clear hj
            have HZ := Lib.hid (insB_split words n l m (by omega) J.out HX)
            clear HX
            go_wp2_with (first | (go_at_call 46; (with_reducible refine ((B _ (RowKit.Hid.out K).below).out).mono ?_); rintro e w1 ⟨rfl, hb⟩; have K1 := sat.grown (by repeat (with_reducible first | exact K.out | apply sat.alloc_any | apply sat.drew | apply sat.drewN)) hb; clear hb; have K2 := Lib.hid K1; clear K1 K; (try clear a0); (try clear l0); (try clear a1); (try clear l1); (try clear a2); (try clear l2); have K := K2; clear K2) | (first | ((with_reducible refine at_append ?_); refine st_append_part 0 3 1 8 Try.underlying24 intInfo (sat.row_empty K.out) rfl rfl (news := (l.take m).map (Value.int .i64)) rfl ?_ ?_ ?_ ?_ ?_ ?_; (· simp only [List.length_map, List.length_take]; omega); (· intro _; refine ⟨g, 0, rfl, fun j u hj => ?_⟩; rw [Nat.zero_add]; exact (sat.row_empty (e := 3) (size := 1) K.out).row_rd 1 rfl j u (take_get hj)); (· exact int_one _); (· simp only [maxLen]; omega); (· omega); intro p1 n1 c1 w1 K1; simp only [List.set] at K1; have K2 := Lib.hid K1; clear K1 K; have K := K2; clear K2) | ((with_reducible refine at_append ?_); refine st_append 0 3 1 8 Try.underlying24 intInfo (by repeat (with_reducible first | exact K.out | apply sat.alloc_any | apply sat.drew | apply sat.drewN)) rfl rfl rfl rfl (box1_at _ [_] _) ?_ Nat.one_pos ?_ ?_ ?_; (· simp [Value.oneCell']); (· simp only [maxLen]; omega); (· omega); intro p2 n2 c2 w1 K1; simp only [List.set] at K1; have K2 := Lib.hid K1; clear K1 K; have K := K2; clear K2) | ((with_reducible refine at_append ?_); refine st_append_part 0 3 1 8 Try.underlying24 intInfo K.out rfl rfl (news := (l.drop m).map (Value.int .i64)) rfl ?_ ?_ ?_ ?_ ?_ ?_; (· simp only [List.length_map, List.length_drop]; omega); (· intro h0; first | omega | (refine ⟨g, m, rfl, fun j u hj => ?_⟩; exact K.out.row_rd 1 rfl (m + j) u (drop_get hj))); (· exact int_one _); (· simp only [maxLen]; omega); (· omega); intro p3 n3 c3 w1 K1; simp only [List.set] at K1; have K2 := Lib.hid K1; clear K1 K; have K := K2; clear K2)))
            all_goals
              go_roundg gk0
              case measure => omega
              case rel =>
                have e1 : 0 + m + 1 + (l.length - m) = (insB words n l).length := by rw [HZ.out]; simp; omega
                have e2 : ([] : List Value) ++ List.map (Value.int .i64) (List.take m l) ++ [Value.int .i64 n] ++ List.map (Value.int .i64) (List.drop m l) = (insB words n l).map (Value.int .i64) := by rw [HZ.out]; simp
                have K1 := K.out.swap.drop
                rw [e1, e2] at K1
                obtain ⟨g1, c4, hv⟩ := row_pos K1 (by rw [← e1]; omega)
                rw [hv] at K1 ⊢
                refine ⟨n + 1, by have := HN.out.1; omega, by simp, ?_⟩
                rw [E1.out]
                exact ⟨g1, c4, rfl, K1⟩
      · have c1 : (x.state != 1) = true := by simpa using hs1
        rw [if_neg hs1] at eM
        have E1 := Lib.hid eM
        clear eM hs1
        go_wp2_with (first | (go_at_call 22; (with_reducible refine ((U _).out).mono ?_); rintro e w1 ⟨rfl, hb⟩; have K1 := sat.grown (by repeat (with_reducible first | exact K.out | apply sat.alloc_any | apply sat.drew | apply sat.drewN)) hb; clear hb; have K2 := Lib.hid K1; clear K1 K; (try clear a0); (try clear l0); (try clear a1); (try clear l1); (try clear a2); (try clear l2); have K := K2; clear K2))
        obtain ⟨gk', rfl⟩ : ∃ g', gk = g' + 1 := ⟨gk - 1, by have := HN.out; omega⟩
        go_roundg gk'
        case measure => omega
        case rel =>
          refine ⟨n + 1, by have := HN.out.1; omega, by simp, g, c, ?_⟩
          rw [E1.out]
          exact ⟨rfl, (by repeat (with_reducible first | exact K.out | apply sat.alloc_any | apply sat.drew | apply sat.drewN))⟩
    · have hnl : n = words.length := by omega
      subst hnl
      have c0 : decide (words.length < words.length) = false := by simp
      clear hlt hn'
      go_wp2
      go_ret
      exact ⟨_, rfl, K.out⟩
end Go.Proofs.Ytdhcomklmckhoaa
