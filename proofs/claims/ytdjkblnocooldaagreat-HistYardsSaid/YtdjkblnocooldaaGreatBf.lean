/- Several texts in one: RightM HistB MapV Right. Each says ahead of it what it shows. -/
import Derived.Test.YtdjkblnocooldaaGreatB1
import Derived.Test.YtdjkblnocooldaaGreatB8
/- Whether calls may have been done so: plain Lean, no program. -/
namespace Go.Proofs.YtdjkblnocooldaaGreat
set_option linter.unusedSimpArgs false
set_option linter.unusedVariables false
def overB (a b : DeedM) : Bool := decide (a.stop ≥ 0) && decide (a.stop < b.start)
def lastOf (pre : List DeedM) (who : Int) : Option DeedM := pre.foldl (fun o d => if d.who = who then some d else o) none
def lastFrom (pre : List DeedM) : Int := pre.foldl (fun _ d => d.start) (-1)
def inT (pre : List DeedM) (t : Int) : Bool := pre.any fun o => o.start == t || o.stop == t
theorem lastOf_snoc (pre : List DeedM) (d : DeedM) (who : Int) : lastOf (pre ++ [d]) who = if d.who = who then some d else lastOf pre who := by
  unfold lastOf; rw [List.foldl_append]; rfl
theorem lastFrom_snoc (pre : List DeedM) (d : DeedM) : lastFrom (pre ++ [d]) = d.start := by
  unfold lastFrom; rw [List.foldl_append]; rfl
theorem inT_snoc (pre : List DeedM) (d : DeedM) (t : Int) : inT (pre ++ [d]) t = (inT pre t || (d.start == t || d.stop == t)) := by
  simp [inT, List.any_append]
def okHead (pre : List DeedM) (d : DeedM) : Bool := decide (lastFrom pre < d.start) && (decide (d.stop < 0) || decide (d.start < d.stop)) && d.call.right
def okOwn (pre : List DeedM) (d : DeedM) : Bool := match lastOf pre d.who with | none => true | some o => overB o d
def okT (pre : List DeedM) (t : Int) : Bool := decide (t < 0) || !inT pre t
def okD (pre : List DeedM) (d : DeedM) : Bool := okHead pre d && okOwn pre d && okT pre d.start && (okT pre d.stop && (decide (d.stop < 0) || d.start != d.stop))
/-- .. as the program looks. -/
def rightM : List DeedM → List DeedM → Bool
  | _, [] => true
  | pre, d :: l => okD pre d && rightM (pre ++ [d]) l
def lokHead (pre : List DeedM) (d : DeedM) : Bool := decide (0 ≤ d.start) && (decide (pre = []) || decide (lastFrom pre < d.start)) && (decide (d.stop < 0) || decide (d.start < d.stop)) && d.call.right
def lokO (d o : DeedM) : Bool := !(d.start == o.stop || (decide (0 ≤ d.stop) && (d.stop == o.stop || d.stop == o.start)))
def lokD (pre : List DeedM) (d : DeedM) : Bool := lokHead pre d && pre.all (lokO d) && okOwn pre d
/-- .. as the statement looks. -/
def lrightM : List DeedM → List DeedM → Bool
  | _, [] => true
  | pre, d :: l => lokD pre d && lrightM (pre ++ [d]) l
structure Inv (pre : List DeedM) : Prop where
  starts : ∀ o ∈ pre, 0 ≤ o.start ∧ o.start ≤ lastFrom pre
  last : -1 ≤ lastFrom pre
  some : pre ≠ [] → 0 ≤ lastFrom pre
theorem inT_iff (pre : List DeedM) (t : Int) : inT pre t = true ↔ ∃ o ∈ pre, o.start = t ∨ o.stop = t := by
  simp [inT, List.any_eq_true]
theorem ok_eq {pre : List DeedM} (h : Inv pre) (d : DeedM) : okD pre d = lokD pre d := by
  have hh : okHead pre d = lokHead pre d := by
    unfold okHead lokHead
    rw [Bool.eq_iff_iff]
    simp only [Bool.and_eq_true, decide_eq_true_eq, Bool.or_eq_true]
    constructor
    · rintro ⟨⟨h1, h2⟩, h3⟩
      exact ⟨⟨⟨by have := h.last; omega, .inr h1⟩, h2⟩, h3⟩
    · rintro ⟨⟨⟨h1, h2⟩, h3⟩, h4⟩
      refine ⟨⟨?_, h3⟩, h4⟩
      rcases h2 with h2 | h2
      · subst h2; show (-1 : Int) < d.start; omega
      · exact h2
  unfold okD lokD
  rw [hh]
  cases hl : lokHead pre d with
  | false => simp
  | true =>
    rw [← hh] at hl
    simp only [okHead, Bool.and_eq_true, decide_eq_true_eq, Bool.or_eq_true] at hl
    obtain ⟨⟨h1, h2⟩, h3⟩ := hl
    have h0 : 0 ≤ d.start := by have := h.last; omega
    rw [Bool.true_and, Bool.true_and]
    have key : (okT pre d.start && (okT pre d.stop && (decide (d.stop < 0) || d.start != d.stop))) = pre.all (lokO d) := by
      rw [Bool.eq_iff_iff]
      simp only [okT, lokO, Bool.and_eq_true, Bool.or_eq_true, decide_eq_true_eq, List.all_eq_true, Bool.not_eq_true', Bool.or_eq_false_iff, Bool.and_eq_false_iff, beq_eq_false_iff_ne, bne_iff_ne, decide_eq_false_iff_not]
      have e1 : ∀ t, inT pre t = false ↔ ∀ o ∈ pre, o.start ≠ t ∧ o.stop ≠ t := fun t => by
        rw [← Bool.not_eq_true, inT_iff]
        constructor
        · intro hh o ho; exact ⟨fun q => hh ⟨o, ho, .inl q⟩, fun q => hh ⟨o, ho, .inr q⟩⟩
        · rintro hh ⟨o, ho, q | q⟩
          · exact (hh o ho).1 q
          · exact (hh o ho).2 q
      rw [e1, e1]
      constructor
      · rintro ⟨a, b, c⟩ o ho
        refine ⟨?_, ?_⟩
        · rcases a with a | a
          · omega
          · exact fun q => (a o ho).2 q.symm
        · rcases b with b | b
          · left; omega
          · right; exact ⟨fun q => (b o ho).2 q.symm, fun q => (b o ho).1 q.symm⟩
      · intro hh
        refine ⟨.inr fun o ho => ⟨?_, fun q => (hh o ho).1 q.symm⟩, ?_, ?_⟩
        · have := (h.starts o ho).2; omega
        · by_cases hs : d.stop < 0
          · exact .inl hs
          · right
            intro o ho
            rcases (hh o ho).2 with q | q
            · omega
            · exact ⟨fun r => q.2 r.symm, fun r => q.1 r.symm⟩
        · by_cases hs : d.stop < 0
          · exact .inl hs
          · right; omega
    rw [← key]
    cases okOwn pre d <;> simp
theorem Inv.step {pre : List DeedM} (h : Inv pre) {d : DeedM} (hd : okD pre d = true) : Inv (pre ++ [d]) := by
  simp only [okD, okHead, Bool.and_eq_true, decide_eq_true_eq] at hd
  have h1 := hd.1.1.1.1.1
  have h0 := h.last
  refine ⟨fun o ho => ?_, by rw [lastFrom_snoc]; omega, fun _ => by rw [lastFrom_snoc]; omega⟩
  rw [lastFrom_snoc]
  rcases List.mem_append.1 ho with ho | ho
  · have := h.starts o ho; omega
  · simp at ho; subst ho; omega
theorem right_eq : ∀ (l pre : List DeedM), Inv pre → rightM pre l = lrightM pre l
  | [], _, _ => rfl
  | d :: l, pre, h => by
    rw [rightM, lrightM, ok_eq h d]
    cases hd : lokD pre d with
    | false => rfl
    | true => rw [right_eq l (pre ++ [d]) (h.step (by rw [ok_eq h d]; exact hd))]
theorem Inv.nil : Inv [] := ⟨(fun o ho => by cases ho), by decide, (fun h => absurd rfl h)⟩
theorem rightM_append : ∀ (a b pre : List DeedM), rightM pre (a ++ b) = (rightM pre a && rightM (pre ++ a) b)
  | [], b, pre => by simp [rightM]
  | d :: a, b, pre => by
    rw [List.cons_append, rightM, rightM, rightM_append a b (pre ++ [d]), Bool.and_assoc]
    simp
end Go.Proofs.YtdjkblnocooldaaGreat
/- Which of two calls was over ahead of the other; how many are under way at one time (hist.Before, hist.Most). Conditions: the deeds lie in memory as told; at most a million deeds. -/
namespace Go.Proofs.YtdjkblnocooldaaGreat
open Go.RowKit Go.SepYtdjkblnocooldaaGreat Go.Maps
set_option linter.unusedSimpArgs false
set_option linter.unusedVariables false
set_option maxRecDepth 100000
set_option maxHeartbeats 4000000
attribute [local go_sem] min2_w max2_w min_w max_w
def beforeD (a b : DeedM) : Bool := decide (a.stop ≥ 0) && decide (a.stop < b.start)
abbrev deedV (d : DeedM) : Value := .agg #[.int .i64 d.who, .int .i64 d.call.kind, .int .i64 d.call.fin, .int .u64 d.call.value, .int .i64 d.call.start, .int .i64 d.start, .int .i64 d.stop, .bool d.reply.ok, .int .u64 d.reply.value, .int .i64 d.reply.stamp.lo, .int .i64 d.reply.stamp.hi]
def underB (d o : DeedM) : Bool := decide (o.start ≤ d.start) && !beforeD o d
def underN (L : List DeedM) (d : DeedM) : Nat := (L.filter (underB d)).length
def mostM (L : List DeedM) : List DeedM → Int
  | [] => 0
  | d :: l => max (mostM L l) (underN L d)
theorem mostM_snoc (L : List DeedM) (d : DeedM) : ∀ l : List DeedM, mostM L (l ++ [d]) = max (mostM L l) (underN L d)
  | [] => by simp [mostM]
  | x :: l => by
    rw [List.cons_append, mostM, mostM_snoc L d l, mostM]
    omega
theorem underN_le (L : List DeedM) (d : DeedM) : underN L d ≤ L.length := List.length_filter_le _ _
theorem mostM_bd (L : List DeedM) : ∀ l : List DeedM, 0 ≤ mostM L l ∧ mostM L l ≤ L.length
  | [] => by simp [mostM]
  | d :: l => by
    have := mostM_bd L l
    have := underN_le L d
    rw [mostM]
    omega
theorem underN_snoc (l : List DeedM) (d o : DeedM) : underN (l ++ [o]) d = underN l d + if underB d o then 1 else 0 := by
  unfold underN
  rw [List.filter_append, List.length_append]
  cases h : underB d o <;> simp [h]
theorem before_calls (x y : DeedM) (w : World) : Tells 81 #[deedV x, deedV y] w (.bool (beforeD x y)) := by
  have K := Lib.hid (sat.start w)
  unfold beforeD
  go_enter Tryz.func81, Tryz.ntmps81
  go_wp2_with (first | (have _hp := gx; ((with_reducible refine at_box ?_); refine st_boxf K.out rfl rfl (fun _ => rfl) ?_; intro gy w1 K1; have K2 := Lib.hid K1; clear K1 K; (try clear a0); (try clear l0); (try clear a1); (try clear l1); (try clear a2); (try clear l2); have K := K2; clear K2; have a0 := K.out.rd 0 rfl; have l0 := K.out.ltp 0 rfl; have a1 := K.out.rd 1 rfl; have l1 := K.out.ltp 1 rfl)) | ((with_reducible refine at_box ?_); refine st_boxf K.out rfl rfl (fun _ => rfl) ?_; intro gx w1 K1; have K2 := Lib.hid K1; clear K1 K; (try clear a0); (try clear l0); (try clear a1); (try clear l1); (try clear a2); (try clear l2); have K := K2; clear K2; have a0 := K.out.rd 0 rfl; have l0 := K.out.ltp 0 rfl))
  all_goals (go_ret; exact ⟨ret_b (by simp_all <;> omega), K.out.below⟩)
theorem lbefore_calls (x y : DeedM) (w : World) : Tells 82 #[deedV x, deedV y] w (.bool (beforeD x y)) := by
  have K := Lib.hid (sat.start w)
  unfold beforeD
  go_enter Tryz.func82, Tryz.ntmps82
  go_wp2_with (first | (have _hp := gx; ((with_reducible refine at_box ?_); refine st_boxf K.out rfl rfl (fun _ => rfl) ?_; intro gy w1 K1; have K2 := Lib.hid K1; clear K1 K; (try clear a0); (try clear l0); (try clear a1); (try clear l1); (try clear a2); (try clear l2); have K := K2; clear K2; have a0 := K.out.rd 0 rfl; have l0 := K.out.ltp 0 rfl; have a1 := K.out.rd 1 rfl; have l1 := K.out.ltp 1 rfl)) | ((with_reducible refine at_box ?_); refine st_boxf K.out rfl rfl (fun _ => rfl) ?_; intro gx w1 K1; have K2 := Lib.hid K1; clear K1 K; (try clear a0); (try clear l0); (try clear a1); (try clear l1); (try clear a2); (try clear l2); have K := K2; clear K2; have a0 := K.out.rd 0 rfl; have l0 := K.out.ltp 0 rfl))
  all_goals (go_ret; exact ⟨ret_b (by simp_all <;> omega), K.out.below⟩)
theorem most_calls (p : Option Addr) (l : List DeedM) (cap : Nat) (w : World) (hl : l.length ≤ 1000000) (h : OldD w p l) :
    Tells 46 #[.slice p l.length cap] w (.int .i64 (mostM l l)) := by
  have K := Lib.hid (sat.start w)
  have H := Lib.hid h
  clear h
  go_enter Tryz.func46, Tryz.ntmps46
  go_wp2
  go_loopg [11, 3] l.length (fun gk i m w' => ∃ n : Nat, n + gk = l.length ∧ i = .int .i64 n ∧ m = .int .i64 (mostM l (l.take n)) ∧ Below w.heap.size w w')
  case atStart => exact ⟨0, by simp, rfl, rfl, Below.refl _ _⟩
  case round =>
    obtain ⟨n, hn, rfl, rfl, hb⟩ := hrel
    have K1 : sat w wr [] := sat.nil hb
    clear K hb
    have K := Lib.hid K1
    clear K1
    by_cases hlt : n < l.length
    · have d0 : decide (n < l.length) = true := by simpa using hlt
      obtain ⟨b, off, rfl, hb0, hx0⟩ := H.out n hlt; have hx : ∀ i u, (DeedM.v l[n])[i]? = some u → wr.cell? ⟨b, off + n * 11 + i, none⟩ = some u := fun i u hi => (K.out.below.cell (p := ⟨b, off + n * 11 + i, none⟩) hb0).trans (hx0 i u hi); have y0 : wr.cell? ⟨b, off + n * 11, none⟩ = _ := hx 0 _ rfl; have y1 := hx 1 _ rfl; have y2 := hx 2 _ rfl; have y3 := hx 3 _ rfl; have y4 := hx 4 _ rfl; have y5 := hx 5 _ rfl; have y6 := hx 6 _ rfl; have y7 := hx 7 _ rfl; have y8 := hx 8 _ rfl; have y9 := hx 9 _ rfl; have y10 := hx 10 _ rfl; clear hx hx0 hb0
      have E1 := Lib.hid (show mostM l (l.take (n + 1)) = max (mostM l (l.take n)) (underN l l[n]) from by rw [List.take_succ_eq_append_getElem hlt, mostM_snoc])
      have HN := Lib.hid hn
      have hm := mostM_bd l (l.take n)
      generalize mostM l (l.take n) = m0 at *
      clear hn
      generalize l[n] = d at *
      obtain ⟨gk', rfl⟩ : ∃ g', gk = g' + 1 := ⟨gk - 1, by have := HN.out; omega⟩
      go_wp2_with (first | ((with_reducible refine at_alloc ?_); refine st_allocf K.out (fun _ => rfl) ?_; intro gd w1 K1; have K2 := Lib.hid K1; clear K1 K; (try clear a0); (try clear l0); (try clear a1); (try clear l1); (try clear a2); (try clear l2); have K := K2; clear K2; have a0 := K.out.rd 0 rfl; have l0 := K.out.ltp 0 rfl) | ((with_reducible refine at_store ?_); refine st_store 0 K.out rfl rfl rfl rfl ?_ ?_ ?_ ?_; (· kernel_rfl); (· simp); (· simp [Value.oneCell']); intro w1 K1; simp only [List.set, putL] at K1; have K2 := Lib.hid K1; clear K1 K; (try clear a0); (try clear l0); (try clear a1); (try clear l1); (try clear a2); (try clear l2); have K := K2; clear K2; have a0 := K.out.rd 0 rfl; have l0 := K.out.ltp 0 rfl))
      clear y0 y1 y2 y3 y4 y5 y6 y7 y8 y9 y10
      have hn0 : n < 1000000 := by omega
      go_loopg [17, 6] l.length (fun gk i m w' => ∃ k : Nat, k + gk = l.length ∧ i = .int .i64 k ∧ m = .int .i64 (underN (l.take k) d : Nat) ∧ sat w w' [deedA gd d])
      case atStart => exact ⟨0, by simp, rfl, rfl, K.out⟩
      case round =>
        obtain ⟨k, hk, rfl, rfl, hs⟩ := hrel
        clear K a0 l0
        have K := Lib.hid hs
        clear hs
        have a0 := K.out.rd 0 rfl
        have l0 := K.out.ltp 0 rfl
        clear hlt d0
        by_cases hlt : k < l.length
        · have d0 : decide (k < l.length) = true := by simpa using hlt
          obtain ⟨b_2, o_2, he_, hb0, hx0⟩ := H.out k hlt; simp only [Option.some.injEq, Addr.mk.injEq, and_true] at he_; obtain ⟨rfl, rfl⟩ := he_; have hx : ∀ i u, (DeedM.v l[k])[i]? = some u → wr.cell? ⟨b, off + k * 11 + i, none⟩ = some u := fun i u hi => (K.out.below.cell (p := ⟨b, off + k * 11 + i, none⟩) hb0).trans (hx0 i u hi); have y0 : wr.cell? ⟨b, off + k * 11, none⟩ = _ := hx 0 _ rfl; have y1 := hx 1 _ rfl; have y2 := hx 2 _ rfl; have y3 := hx 3 _ rfl; have y4 := hx 4 _ rfl; have y5 := hx 5 _ rfl; have y6 := hx 6 _ rfl; have y7 := hx 7 _ rfl; have y8 := hx 8 _ rfl; have y9 := hx 9 _ rfl; have y10 := hx 10 _ rfl; clear hx hx0 hb0
          have E2 := Lib.hid (show underN (l.take (k + 1)) d = underN (l.take k) d + if underB d l[k] then 1 else 0 from by rw [List.take_succ_eq_append_getElem hlt, underN_snoc])
          have hu : underN (l.take k) d ≤ k := by have := underN_le (l.take k) d; rw [List.length_take] at this; omega
          have HK := Lib.hid hk
          clear hk
          generalize underN (l.take k) d = u0 at *
          have BF := fun w' => Lib.hid (before_calls l[k] d w')
          unfold underB at E2
          generalize l[k] = o at *
          generalize beforeD o d = bf at *
          obtain ⟨gk2', rfl⟩ : ∃ g', gk = g' + 1 := ⟨gk - 1, by have := HK.out; omega⟩
          by_cases c0 : o.start ≤ d.start
          · have t0 : decide (o.start ≤ d.start) = true := by simpa using c0
            rw [t0, Bool.true_and] at E2
            clear c0
            cases bf
            all_goals
              go_wp2_with (first | ((with_reducible refine at_alloc ?_); refine st_allocf K.out (fun _ => rfl) ?_; intro go w1 K1; have K2 := Lib.hid K1; clear K1 K; (try clear a0); (try clear l0); (try clear a1); (try clear l1); (try clear a2); (try clear l2); have K := K2; clear K2; have a0 := K.out.rd 0 rfl; have l0 := K.out.ltp 0 rfl; have a1 := K.out.rd 1 rfl; have l1 := K.out.ltp 1 rfl) | ((with_reducible refine at_store ?_); refine st_store 0 K.out rfl rfl rfl rfl ?_ ?_ ?_ ?_; (· kernel_rfl); (· simp); (· simp [Value.oneCell']); intro w1 K1; simp only [List.set, putL] at K1; have K2 := Lib.hid K1; clear K1 K; (try clear a0); (try clear l0); (try clear a1); (try clear l1); (try clear a2); (try clear l2); have K := K2; clear K2; have a0 := K.out.rd 0 rfl; have l0 := K.out.ltp 0 rfl; have a1 := K.out.rd 1 rfl; have l1 := K.out.ltp 1 rfl) | (go_at_call 81; (with_reducible refine ((BF _).out).mono ?_); rintro e w1 ⟨rfl, hb⟩; have K1 := sat.grown (by repeat (with_reducible first | exact K.out | apply sat.alloc_any | apply sat.drew | apply sat.drewN)) hb; clear hb; have K2 := Lib.hid K1; clear K1 K; (try clear a0); (try clear l0); (try clear a1); (try clear l1); (try clear a2); (try clear l2); have K := K2; clear K2; have a0 := K.out.rd 0 rfl; have l0 := K.out.ltp 0 rfl; have a1 := K.out.rd 1 rfl; have l1 := K.out.ltp 1 rfl))
              go_roundg gk2'
              case measure => omega
              case rel => exact ⟨k + 1, by have := HK.out; omega, by simp, by rw [E2.out]; simp, K.out.drop⟩
          · have t0 : decide (o.start ≤ d.start) = false := by simpa using c0
            rw [t0, Bool.false_and] at E2
            clear c0
            go_wp2_with (first | ((with_reducible refine at_alloc ?_); refine st_allocf K.out (fun _ => rfl) ?_; intro go w1 K1; have K2 := Lib.hid K1; clear K1 K; (try clear a0); (try clear l0); (try clear a1); (try clear l1); (try clear a2); (try clear l2); have K := K2; clear K2; have a0 := K.out.rd 0 rfl; have l0 := K.out.ltp 0 rfl; have a1 := K.out.rd 1 rfl; have l1 := K.out.ltp 1 rfl) | ((with_reducible refine at_store ?_); refine st_store 0 K.out rfl rfl rfl rfl ?_ ?_ ?_ ?_; (· kernel_rfl); (· simp); (· simp [Value.oneCell']); intro w1 K1; simp only [List.set, putL] at K1; have K2 := Lib.hid K1; clear K1 K; (try clear a0); (try clear l0); (try clear a1); (try clear l1); (try clear a2); (try clear l2); have K := K2; clear K2; have a0 := K.out.rd 0 rfl; have l0 := K.out.ltp 0 rfl; have a1 := K.out.rd 1 rfl; have l1 := K.out.ltp 1 rfl))
            go_roundg gk2'
            case measure => omega
            case rel => exact ⟨k + 1, by have := HK.out; omega, by simp, by rw [E2.out]; simp, K.out.drop⟩
        · have hkl : k = l.length := by omega
          subst hkl
          have d0 : decide (l.length < l.length) = false := by simp
          clear hlt hk
          rw [List.take_length]
          have hu := underN_le l d
          generalize underN l d = u0 at *
          go_wp2
          go_roundg gk'
          case measure => omega
          case rel => exact ⟨n + 1, by have := HN.out; omega, by simp, by rw [E1.out], K.out.below⟩
    · have hnl : n = l.length := by omega
      subst hnl
      have d0 : decide (l.length < l.length) = false := by simp
      rw [List.take_length]
      go_wp2
      go_ret
      exact ⟨rfl, K.out.below⟩
/-- Two deeds of one's own. -/
theorem oldD_two {E w : World} {L : List SA} {g t : Nat} {f : Nat × Nat} {x y : DeedM} (h : sat E w (pt g (.cells (x.v ++ y.v).toArray t f) :: L)) : OldD w (some ⟨g, 0, none⟩) [x, y] := fun j hj => by
  have hr := h.rd 0 rfl
  match j, hj with
  | 0, _ =>
    refine ⟨g, 0, rfl, h.lt, fun i u hi => ?_⟩
    rw [show 0 + 0 * 11 + i = i by omega, hr i, List.getElem?_append_left (by
      have := (List.getElem?_eq_some_iff.1 hi).1
      simpa using this)]
    exact hi
  | 1, _ =>
    refine ⟨g, 0, rfl, h.lt, fun i u hi => ?_⟩
    rw [show 0 + 1 * 11 + i = 11 + i by omega, hr (11 + i), List.getElem?_append_right (by simp)]
    simpa using hi
def dz (a b : Int) : DeedM := ⟨0, ⟨0, 0, 0, 0⟩, a, b, ⟨false, 0, ⟨0, 0⟩⟩⟩
theorem head14_calls (w : World) : Tells 42 #[] w (.bool true) := by
  have K := Lib.hid (sat.start w)
  have B1 := fun w' => Lib.hid (show Tells 81 #[(.agg #[.int .i64 0, .int .i64 0, .int .i64 0, .int .u64 0, .int .i64 0, .int .i64 0, .int .i64 4, .bool false, .int .u64 0, .int .i64 0, .int .i64 0]), (.agg #[.int .i64 0, .int .i64 0, .int .i64 0, .int .u64 0, .int .i64 0, .int .i64 5, .int .i64 (-1), .bool false, .int .u64 0, .int .i64 0, .int .i64 0])] w' (.bool true) from before_calls (dz 0 4) (dz 5 (-1)) w')
  have B2 := fun w' => Lib.hid (show Tells 81 #[(.agg #[.int .i64 0, .int .i64 0, .int .i64 0, .int .u64 0, .int .i64 0, .int .i64 0, .int .i64 4, .bool false, .int .u64 0, .int .i64 0, .int .i64 0]), (.agg #[.int .i64 0, .int .i64 0, .int .i64 0, .int .u64 0, .int .i64 0, .int .i64 3, .int .i64 7, .bool false, .int .u64 0, .int .i64 0, .int .i64 0])] w' (.bool false) from before_calls (dz 0 4) (dz 3 7) w')
  have M1 := fun w' p (h : OldD w' p [dz 0 4, dz 0 4]) => Lib.hid (show Tells 46 #[.slice p 2 2] w' (.int .i64 2) from most_calls p [dz 0 4, dz 0 4] 2 w' (by decide) h)
  go_enter Tryz.func42, Tryz.ntmps42
  go_wp2_with (first | ((with_reducible refine at_alloc ?_); refine st_allocf K.out (fun _ => rfl) ?_; intro gd w1 K1; have K2 := Lib.hid K1; clear K1 K; (try clear a0); (try clear l0); (try clear a1); (try clear l1); (try clear a2); (try clear l2); have K := K2; clear K2; have a0 := K.out.rd 0 rfl; have l0 := K.out.ltp 0 rfl) | ((with_reducible refine at_store ?_); refine st_store 0 K.out rfl rfl rfl rfl ?_ ?_ ?_ ?_; (· kernel_rfl); (· simp); (· simp [Value.oneCell']); intro w1 K1; simp only [List.set, putL] at K1; have K2 := Lib.hid K1; clear K1 K; (try clear a0); (try clear l0); (try clear a1); (try clear l1); (try clear a2); (try clear l2); have K := K2; clear K2; have a0 := K.out.rd 0 rfl; have l0 := K.out.ltp 0 rfl) | (go_at_call 81; (with_reducible refine ((B1 _).out).mono ?_); rintro e w1 ⟨rfl, hb⟩; have K1 := sat.grown (by repeat (with_reducible first | exact K.out | apply sat.alloc_any | apply sat.drew | apply sat.drewN)) hb; clear hb; have K2 := Lib.hid K1; clear K1 K; (try clear a0); (try clear l0); (try clear a1); (try clear l1); (try clear a2); (try clear l2); have K := K2; clear K2; have a0 := K.out.rd 0 rfl; have l0 := K.out.ltp 0 rfl) | (go_at_call 81; (with_reducible refine ((B2 _).out).mono ?_); rintro e w1 ⟨rfl, hb⟩; have K1 := sat.grown (by repeat (with_reducible first | exact K.out | apply sat.alloc_any | apply sat.drew | apply sat.drewN)) hb; clear hb; have K2 := Lib.hid K1; clear K1 K; (try clear a0); (try clear l0); (try clear a1); (try clear l1); (try clear a2); (try clear l2); have K := K2; clear K2; have a0 := K.out.rd 0 rfl; have l0 := K.out.ltp 0 rfl) | (have KA : sat w (World.alloc _ (.cells #[.int .i64 0, .int .i64 0, .int .i64 0, .int .u64 0, .int .i64 0, .int .i64 0, .int .i64 4, .bool false, .int .u64 0, .int .i64 0, .int .i64 0, .int .i64 0, .int .i64 0, .int .i64 0, .int .u64 0, .int .i64 0, .int .i64 0, .int .i64 4, .bool false, .int .u64 0, .int .i64 0, .int .i64 0] 47)) _ := K.out.alloc _; have o1 := oldD_two (x := dz 0 4) (y := dz 0 4) KA; go_at_call 46; (with_reducible refine ((M1 _ _ o1).out).mono ?_); rintro r w1 ⟨rfl, hb⟩; have K1 := (sat.grown KA hb).drop; clear KA o1 hb; have K2 := Lib.hid K1; clear K1 K; (try clear a0); (try clear l0); (try clear a1); (try clear l1); (try clear a2); (try clear l2); have K := K2; clear K2; have a0 := K.out.rd 0 rfl; have l0 := K.out.ltp 0 rfl))
  go_ret
  exact ⟨rfl, K.out.below⟩
end Go.Proofs.YtdjkblnocooldaaGreat
/- A map with structs of numbers and bools (or of nothing) as elements, made by the call. Plain lemmas over any program; no condition. -/
namespace Go.SepYtdjkblnocooldaaGreat
open Go.RowKit Go.Maps Go.WideElems
set_option linter.unusedVariables false
def encC : Value → DataW Unit
  | .int k n => .lit (.int k n)
  | .bool b => .lit (.bool b)
  | _ => .nil
def okC : Value → Bool
  | .int _ _ => true
  | .bool _ => true
  | _ => false
def encV : Value → DataW Unit
  | .agg cs => .agg (cs.toList.map encC)
  | _ => .nil
def okV : Value → Bool
  | .agg cs => cs.toList.all okC
  | _ => false
def readV (v : Value) : Option (DataW Unit × List MemPlace) := if okV v then some (encV v, []) else none
theorem encC_inj {u v : Value} (hu : okC u = true) (hv : okC v = true) (h : encC u = encC v) : u = v := by
  cases u <;> simp [okC] at hu <;> cases v <;> simp [okC] at hv <;> simp_all [encC]
theorem encL_inj : ∀ (a b : List Value), a.all okC = true → b.all okC = true → a.map encC = b.map encC → a = b
  | [], [], _, _, _ => rfl
  | [], _ :: _, _, _, h => by simp at h
  | _ :: _, [], _, _, h => by simp at h
  | x :: a, y :: b, ha, hb, h => by
    simp only [List.all_cons, Bool.and_eq_true] at ha hb
    simp only [List.map_cons, List.cons.injEq] at h
    rw [encC_inj ha.1 hb.1 h.1, encL_inj a b ha.2 hb.2 h.2]
theorem encV_inj {u v : Value} (hu : okV u = true) (hv : okV v = true) (h : encV u = encV v) : u = v := by
  cases u <;> simp only [okV] at hu <;> first | (cases hu; done) | skip
  cases v <;> simp only [okV] at hv <;> first | (cases hv; done) | skip
  rename_i cs ds
  simp only [encV, DataW.agg.injEq] at h
  have := encL_inj _ _ hu hv h
  have e : cs = ds := by rw [← Array.toArray_toList (xs := cs), this]
  rw [e]
theorem readV_inv {v : Value} {z : DataW Unit × List MemPlace} (h : readV v = some z) : okV v = true ∧ z = (encV v, []) := by
  unfold readV at h
  split at h
  · exact ⟨by assumption, (Option.some.inj h).symm⟩
  · cases h
def HasV (P : Program) (k : TypeId) (D : DataW Unit) (f : Lit → Option Value) : Prop :=
  IsMap D ∧ ∀ kl, KeysOf P k kl → (f kl = none → Maps.has D kl = false) ∧ ∀ u, f kl = some u → okV u = true ∧ Maps.has D kl = true ∧ ∀ z, D.atKey kl z = encV u
/-- Block b is a map of at most n entries; what it has under each key is f. -/
def mapV (P : Program) (k : TypeId) (b n : Nat) (f : Lit → Option Value) : SA := fun h =>
  ∃ es clock, h b = some (.map es clock) ∧ Fit P k readV es clock ∧ es.size ≤ n ∧ HasV P k (.map ((es.toList.map (rg P k readV)).foldr DataW.insert [])) f
section
variable {E w : World} {L : List SA} {P : Program}
theorem sat.mapV_owns {k : TypeId} {b n : Nat} {f : Lit → Option Value} (h : sat E w (mapV P k b n f :: L)) :
    ∃ o D, sat E w (pt b o :: L) ∧ w.ownsMap P k readV b n D ∧ HasV P k D f := by
  obtain ⟨es, h1⟩ := sat.ex h
  obtain ⟨clock, h2⟩ := sat.ex h1
  have h3 : sat E w ((fun g => (Fit P k readV es clock ∧ es.size ≤ n ∧ HasV P k (.map ((es.toList.map (rg P k readV)).foldr DataW.insert [])) f) ∧ pt b (.map es clock) g) :: L) :=
    sat.imp (fun g hg => ⟨hg.2, hg.1⟩) h2
  obtain ⟨⟨F, hs, hf⟩, h4⟩ := sat.pure h3
  exact ⟨_, _, h4, ⟨es, clock, h4.at, F, hs, rfl⟩, hf⟩
theorem sat.mapV_shut {k : TypeId} {b n : Nat} {f : Lit → Option Value} {D : DataW Unit} {o : Obj} (h : sat E w (pt b o :: L)) (ho : w.ownsMap P k readV b n D) (hf : HasV P k D f) : sat E w (mapV P k b n f :: L) := by
  obtain ⟨es, clock, hb, F, hs, rfl⟩ := ho
  have hat := h.at
  rw [hb] at hat
  obtain rfl := Option.some.inj hat
  exact sat.imp (fun g hg => ⟨es, clock, hg, F, hs, hf⟩) h
theorem sat.mapV_new {k : TypeId} (h : sat E w L) : sat E (w.alloc (.map #[] 0)) (mapV P k w.heap.size 0 (fun _ => none) :: L) :=
  sat.mapV_shut (h.alloc _) (World.ownsMap_made w P k _) ⟨isMap_empty, fun kl _ => ⟨fun _ => rfl, fun c hc => by cases hc⟩⟩
theorem sat.mapV_mono {k : TypeId} {b n m : Nat} {f : Lit → Option Value} (h : sat E w (mapV P k b n f :: L)) (hn : n ≤ m) : sat E w (mapV P k b m f :: L) :=
  sat.imp (fun g ⟨es, clock, h1, h2, h3, h4⟩ => ⟨es, clock, h1, h2, Nat.le_trans h3 hn, h4⟩) h
open Classical in
noncomputable def updV (f : Lit → Option Value) (kl : Lit) (c : Value) : Lit → Option Value := fun x => if x = kl then some c else f x
theorem updV_same (f : Lit → Option Value) (kl : Lit) (c : Value) : updV f kl c kl = some c := by unfold updV; rw [if_pos rfl]
theorem updV_other (f : Lit → Option Value) (kl : Lit) (c : Value) {x : Lit} (h : x ≠ kl) : updV f kl c x = f x := by unfold updV; rw [if_neg h]
/-- 'v, ok := m[k]'. -/
theorem sat.mapV_look {t k e : TypeId} {b n : Nat} {f : Lit → Option Value} (h : sat E w (mapV P k b n f :: L)) (K : Keyed P k) (ht : P.underlying t = some (.map k e)) {z : Value} (hz : ∀ w : World, (zeroValue e).run P w = .ok z w) (hzo : okV z = true)
    {key : Value} {kl : Lit} (hkey : keyOf P k key = some kl) : (Instr.lookup t (.map (some b)) key true).run P w = .ok (.tuple #[(f kl).getD z, .bool (f kl).isSome]) w := by
  obtain ⟨o, D, hp, ho, hm, hf⟩ := h.mapV_owns
  obtain ⟨v, ps, hrun, hv⟩ := ho.look_ok K ht (hz w) (show readV z = some (encV z, []) by unfold readV; rw [if_pos hzo]) hkey
  obtain ⟨hvo, he⟩ := readV_inv hv
  have he := congrArg Prod.fst he
  dsimp only at he
  have hk := hf kl ⟨key, hkey⟩
  cases hfk : f kl with
  | none =>
    have h0 := hk.1 hfk
    rw [atKey_of_not_has h0] at he
    rw [h0, ← encV_inj hzo hvo he] at hrun
    exact hrun
  | some u =>
    obtain ⟨h1, h2, h3⟩ := hk.2 u hfk
    rw [h3] at he
    rw [h2, ← encV_inj h1 hvo he] at hrun
    exact hrun
/-- 'm[k] = v'. -/
theorem sat.mapV_put {t k e : TypeId} {b n : Nat} {f : Lit → Option Value} (h : sat E w (mapV P k b n f :: L)) (K : Keyed P k) (ht : P.underlying t = some (.map k e)) (hn : n < maxLen)
    {key : Value} {kl : Lit} (hkey : keyOf P k key = some kl) {c : Value} (hc : okV c = true) :
    ∃ w', (Instr.mapUpdate t (.map (some b)) key c).run P w = .ok () w' ∧ sat E w' (mapV P k b (n + 1) (updV f kl c) :: L) := by
  obtain ⟨o, D, hp, ho, hm, hf⟩ := h.mapV_owns
  obtain ⟨w', hrun, ho', hg⟩ := ho.update K ht hn hkey (show readV c = some (encV c, []) by unfold readV; rw [if_pos hc])
  obtain ⟨es, clock, hb, F, hs, hD⟩ := ho'
  refine ⟨w', hrun, sat.mapV_shut (hp.turn hg hb) ⟨es, clock, hb, F, hs, hD⟩ ⟨hm.put _ _, fun x hx => ?_⟩⟩
  have hk := K.key hkey
  by_cases e1 : x = kl
  · subst e1
    rw [updV_same]
    refine ⟨fun h0 => (by cases h0), fun c' hc' => ?_⟩
    obtain rfl := Option.some.inj hc'
    exact ⟨hc, has_put_same hm hk _, fun z => atKey_put_same hm hk _ z⟩
  · rw [updV_other _ _ _ e1]
    obtain ⟨h1, h2⟩ := hf x hx
    refine ⟨fun h0 => by rw [has_put_other e1]; exact h1 h0, fun c' hc' => ?_⟩
    obtain ⟨h3, h4, h5⟩ := h2 c' hc'
    exact ⟨h3, by rw [has_put_other e1]; exact h4, fun z => by rw [atKey_put_other e1]; exact h5 z⟩
theorem st_lookV (i : Nat) {ops : Array Oper} {rest : List Oper} {a : Act} {Q : Exit → Act → World → Prop} {dst : Option Tmp} {m x : Operand} {t : TypeId} {oty : TypeId} {pos : String} {af : Array Edge}
    {k e : TypeId} {b n : Nat} {f : Lit → Option Value} (h : sat E w L) (hL : L[i]? = some (mapV P k b n f)) (K : Keyed P k) (ht : P.underlying t = some (.map k e)) {z : Value} (hz : ∀ w : World, (zeroValue e).run P w = .ok z w) (hzo : okV z = true)
    (hm : look a m = some (.map (some b))) {key : Value} {kl : Lit} (hx : look a x = some key) (hkey : keyOf P k key = some kl)
    {v : Value} {c : Bool} (hv : (f kl).getD z = v) (hb : (f kl).isSome = c) (r : wpList P ops Q rest (a.put dst (.tuple #[v, .bool c])) w) : wpList P ops Q (⟨dst, .lookup t m x true, oty, pos, af, none⟩ :: rest) a w := by
  subst hv hb
  refine wpList_plain rfl fun K' hK' => ?_
  have hr := sat.mapV_look (h.pick i hL) K ht hz hzo hkey
  unfold Oper.wp execOp
  simp only [look_eval hm, look_eval hx, Sem.run_bind, Sem.run_pure, Result.andThen_ok, hr]
  exact hK' _ _ r
theorem st_putV (i : Nat) {ops : Array Oper} {rest : List Oper} {a : Act} {Q : Exit → Act → World → Prop} {dst : Option Tmp} {m x v : Operand} {t : TypeId} {oty : TypeId} {pos : String} {af : Array Edge}
    {k e : TypeId} {b n : Nat} {f : Lit → Option Value} (h : sat E w L) (hL : L[i]? = some (mapV P k b n f)) (K : Keyed P k) (ht : P.underlying t = some (.map k e)) (hn : n < maxLen)
    (hm : look a m = some (.map (some b))) {key : Value} {kl : Lit} (hx : look a x = some key) (hkey : keyOf P k key = some kl) {c : Value} (hv : look a v = some c) (hc : okV c = true)
    (r : ∀ w', sat E w' (L.set i (mapV P k b (n + 1) (updV f kl c))) → wpList P ops Q rest (a.put dst undef) w') : wpList P ops Q (⟨dst, .mapUpdate t m x v, oty, pos, af, none⟩ :: rest) a w := by
  refine wpList_plain rfl fun K' hK' => ?_
  obtain ⟨w', hr, hs⟩ := sat.mapV_put (h.pick i hL) K ht hn hkey hc
  unfold Oper.wp execOp
  simp only [look_eval hm, look_eval hx, look_eval hv, Sem.run_bind, Sem.run_pure, Result.andThen_ok, hr]
  exact hK' _ _ (r w' (hs.perm (set_perm i L hL).symm))
theorem st_makeV {ops : Array Oper} {rest : List Oper} {a : Act} {Q : Exit → Act → World → Prop} {dst : Option Tmp} {t : TypeId} {oty : TypeId} {pos : String} {af : Array Edge}
    (k : TypeId) (h : sat E w L) (r : ∀ g w', sat E w' (mapV P k g 0 (fun _ => none) :: L) → wpList P ops Q rest (a.put dst (.map (some g))) w') : wpList P ops Q (⟨dst, .makeMap t none, oty, pos, af, none⟩ :: rest) a w := by
  refine wpList_plain rfl fun K' hK' => ?_
  have hr := run_makeMap (P := P) t w
  unfold Oper.wp execOp
  simp only [Sem.run_bind, Sem.run_pure, Result.andThen_ok, Option.map_none, hr]
  exact hK' _ _ (r _ _ h.mapV_new)
end
end Go.SepYtdjkblnocooldaaGreat
/- Whether calls may have been done so (hist.Right). Conditions: the deeds lie in memory as told; numbers within their kinds; at most a million deeds. -/
namespace Go.Proofs.YtdjkblnocooldaaGreat
open Go.RowKit Go.SepYtdjkblnocooldaaGreat Go.Maps
set_option linter.unusedSimpArgs false
set_option linter.unusedVariables false
set_option maxRecDepth 100000
set_option maxHeartbeats 4000000
theorem keyedJ : Keyed Tryz.prog 3 := int_keyed Tryz.underlying3
theorem keyJ {v : Int} (h : w64P v) : keyOf Tryz.prog 3 (.int .i64 v) = some (.int .i64 v) := keyOf_int_mk Tryz.underlying3 (wf64 h)
abbrev deedZ : Value := .agg #[.int .i64 0, .int .i64 0, .int .i64 0, .int .u64 0, .int .i64 0, .int .i64 0, .int .i64 0, .bool false, .int .u64 0, .int .i64 0, .int .i64 0]
theorem zeroD : ∀ w : World, (zeroValue 47).run Tryz.prog w = .ok deedZ w := fun w => by kernel_rfl
theorem zeroUn : ∀ w : World, (zeroValue 145).run Tryz.prog w = .ok (.agg #[]) w := fun w => by kernel_rfl
theorem okDeed (d : DeedM) : okV (deedV d) = true := rfl
abbrev timeA (b n : Nat) (f : Lit → Option Value) : SA := mapV Tryz.prog 3 b n f
theorem callr_calls (c : CallM) (w : World) : Tells 68 #[.agg #[.int .i64 c.kind, .int .i64 c.fin, .int .u64 c.value, .int .i64 c.start]] w (.bool c.right) := by
  have K := Lib.hid (sat.start w)
  unfold CallM.right
  go_enter Tryz.func68, Tryz.ntmps68
  go_wp2_with (first | ((with_reducible refine at_box ?_); refine st_boxf K.out rfl rfl (fun _ => rfl) ?_; intro gc w1 K1; have K2 := Lib.hid K1; clear K1 K; (try clear a0); (try clear l0); (try clear a1); (try clear l1); (try clear a2); (try clear l2); have K := K2; clear K2; have a0 := K.out.rd 0 rfl; have l0 := K.out.ltp 0 rfl))
  all_goals (go_ret; exact ⟨ret_b (by rw [Bool.eq_iff_iff]; simp_all), K.out.below⟩)
/-- The times that were seen. -/
def Seen (f : Lit → Option Value) (s : Int → Bool) : Prop := ∀ t, f (.int .i64 t) = if s t then some (.agg #[]) else none
theorem Seen.put {f : Lit → Option Value} {s : Int → Bool} (h : Seen f s) (x : Int) : Seen (updV f (.int .i64 x) (.agg #[])) (fun t => s t || x == t) := fun t => by
  by_cases e : t = x
  · subst e; rw [updV_same]; simp
  · rw [updV_other _ _ _ (by intro hh; injection hh with _ hh; exact e hh), h t]
    show _ = if (s t || x == t) = true then _ else _
    rw [show (x == t) = false by simp; exact fun q => e q.symm, Bool.or_false]
theorem Seen.hit {f : Lit → Option Value} {s : Int → Bool} (h : Seen f s) {x : Int} (hx : s x = true) : (f (.int .i64 x)).getD (.agg #[]) = .agg #[] ∧ (f (.int .i64 x)).isSome = true := by rw [h x, hx]; exact ⟨rfl, rfl⟩
theorem Seen.miss {f : Lit → Option Value} {s : Int → Bool} (h : Seen f s) {x : Int} (hx : s x = false) : (f (.int .i64 x)).getD (.agg #[]) = .agg #[] ∧ (f (.int .i64 x)).isSome = false := by rw [h x, hx]; exact ⟨rfl, rfl⟩
def okS (pre : List DeedM) (d : DeedM) : Bool := okT pre d.stop && (decide (d.stop < 0) || d.start != d.stop)
theorem okT_neg {pre : List DeedM} {t : Int} (h : ¬ 0 ≤ t) : okT pre t = true := by unfold okT; simp; left; omega
theorem okT_not {pre : List DeedM} {t : Int} (h : inT pre t = false) : okT pre t = true := by unfold okT; rw [h]; simp
theorem okT_bad {pre : List DeedM} {t : Int} (h : inT pre t = true) (h0 : 0 ≤ t) : okT pre t = false := by unfold okT; rw [h]; simp; omega
theorem okS_neg {pre : List DeedM} {d : DeedM} (h : ¬ 0 ≤ d.stop) : okS pre d = true := by unfold okS; rw [okT_neg h]; simp; left; omega
theorem okS_not {pre : List DeedM} {d : DeedM} (h : (inT pre d.stop || d.start == d.stop) = false) : okS pre d = true := by
  obtain ⟨h1, h2⟩ := Bool.or_eq_false_iff.1 h
  unfold okS; rw [okT_not h1, show (d.start != d.stop) = true by simpa using h2]; simp
theorem okS_bad {pre : List DeedM} {d : DeedM} (h : (inT pre d.stop || d.start == d.stop) = true) (h0 : 0 ≤ d.stop) : okS pre d = false := by
  unfold okS
  rcases Bool.or_eq_true_iff.1 h with h | h
  · rw [okT_bad h h0]; rfl
  · rw [show (d.start != d.stop) = false by simpa using h, show decide (d.stop < 0) = false by simp; omega]; simp
theorem okD_eq (pre : List DeedM) (d : DeedM) : okD pre d = (okHead pre d && okOwn pre d && okT pre d.start && okS pre d) := rfl
theorem Seen.congr {f : Lit → Option Value} {s s' : Int → Bool} (h : Seen f s) (e : ∀ t, s t = s' t) : Seen f s' := fun t => by rw [← e t]; exact h t
/-- Each thread's last deed. -/
def Lasts (f : Lit → Option Value) (l : List DeedM) : Prop := ∀ who, f (.int .i64 who) = (lastOf l who).map deedV
theorem Lasts.put {f : Lit → Option Value} {l : List DeedM} (h : Lasts f l) (d : DeedM) : Lasts (updV f (.int .i64 d.who) (deedV d)) (l ++ [d]) := fun who => by
  rw [lastOf_snoc]
  by_cases e : who = d.who
  · subst e; rw [updV_same]; simp
  · rw [updV_other _ _ _ (by intro hh; injection hh with _ hh; exact e hh), h who, if_neg (fun q => e q.symm)]
theorem over_before (a b : DeedM) : beforeD a b = overB a b := rfl
theorem hright_calls (p : Option Addr) (l : List DeedM) (cap : Nat) (w : World) (hl : l.length ≤ 100000) (hwf : ∀ e ∈ l, DeedM.wf e) (h : OldD w p l) :
    Tells 44 #[.slice p l.length cap] w (.bool (rightM [] l)) := by
  have K := Lib.hid (sat.start w)
  have H := Lib.hid h
  have HW := Lib.hid hwf
  clear h hwf
  go_enter Tryz.func44, Tryz.ntmps44
  go_wp2_with (first | ((with_reducible refine at_makeMap' ?_); (first | (have _hp := gs; refine st_makeV 3 K.out ?_; intro gl w1 K1; have K2 := Lib.hid K1; clear K1 K; (try clear a0); (try clear l0); (try clear a1); (try clear l1); (try clear a2); (try clear l2); have K := K2; clear K2) | (refine st_makeV 3 K.out ?_; intro gs w1 K1; have K2 := Lib.hid K1; clear K1 K; (try clear a0); (try clear l0); (try clear a1); (try clear l1); (try clear a2); (try clear l2); have K := K2; clear K2))))
  go_loopg [18, 5] l.length (fun gk i fr w' => ∃ (n : Nat) (fs fl : Lit → Option Value), n + gk = l.length ∧ i = .int .i64 n ∧ fr = .int .i64 (lastFrom (l.take n)) ∧ rightM [] l = rightM (l.take n) (l.drop n) ∧ Seen fs (inT (l.take n)) ∧ Lasts fl (l.take n) ∧ sat w w' [timeA gl (2 * n) fl, timeA gs (2 * n) fs])
  case atStart => exact ⟨0, _, _, by simp, rfl, rfl, by simp, fun t => rfl, fun who => rfl, K.out⟩
  case round =>
    obtain ⟨n, fs, fl, hn, rfl, rfl, hr, hS, hL, hs⟩ := hrel
    clear K
    have K := Lib.hid hs
    clear hs
    by_cases hlt : n < l.length
    · have d0 : decide (n < l.length) = true := by simpa using hlt
      obtain ⟨b, off, rfl, hb0, hx0⟩ := H.out n hlt; have hx : ∀ i u, (DeedM.v l[n])[i]? = some u → wr.cell? ⟨b, off + n * 11 + i, none⟩ = some u := fun i u hi => (K.out.below.cell (p := ⟨b, off + n * 11 + i, none⟩) hb0).trans (hx0 i u hi); have y0 : wr.cell? ⟨b, off + n * 11, none⟩ = _ := hx 0 _ rfl; have y1 := hx 1 _ rfl; have y2 := hx 2 _ rfl; have y3 := hx 3 _ rfl; have y4 := hx 4 _ rfl; have y5 := hx 5 _ rfl; have y6 := hx 6 _ rfl; have y7 := hx 7 _ rfl; have y8 := hx 8 _ rfl; have y9 := hx 9 _ rfl; have y10 := hx 10 _ rfl; clear hx hx0 hb0
      have hwn := HW.out l[n] (List.getElem_mem hlt)
      have E1 := Lib.hid (List.take_succ_eq_append_getElem hlt)
      have E2 := Lib.hid (show rightM [] l = (okD (l.take n) l[n] && rightM (l.take (n + 1)) (l.drop (n + 1))) from by
        rw [hr, List.drop_eq_getElem_cons hlt, rightM, ← List.take_succ_eq_append_getElem hlt])
      have HN := Lib.hid hn
      have hn0 : n < 100000 := by omega
      have HS := Lib.hid hS
      have HL := Lib.hid hL
      clear hn hr hS hL
      generalize l[n] = d at *
      have CR := fun w' => Lib.hid (callr_calls d.call w')
      generalize hpre : l.take n = pre at *
      clear hpre
      obtain ⟨gk', rfl⟩ : ∃ g', gk = g' + 1 := ⟨gk - 1, by have := HN.out; omega⟩
      by_cases q1 : d.start ≤ lastFrom pre
      · have t1 : decide (d.start ≤ lastFrom pre) = true := by simpa using q1
        have E3 := Lib.hid (show rightM [] l = false from by
          rw [E2.out]; have : okD pre d = false := by unfold okD okHead; rw [show decide (lastFrom pre < d.start) = false by simp; omega]; simp
          rw [this]; rfl)
        clear q1 hwn
        go_wp2_with (first | ((with_reducible refine at_alloc ?_); refine st_allocf K.out (fun _ => rfl) ?_; intro gd w1 K1; have K2 := Lib.hid K1; clear K1 K; (try clear a0); (try clear l0); (try clear a1); (try clear l1); (try clear a2); (try clear l2); have K := K2; clear K2; have a0 := K.out.rd 0 rfl; have l0 := K.out.ltp 0 rfl) | ((with_reducible refine at_store ?_); refine st_store 0 K.out rfl rfl rfl rfl ?_ ?_ ?_ ?_; (· kernel_rfl); (· simp); (· simp [Value.oneCell']); intro w1 K1; simp only [List.set, putL] at K1; have K2 := Lib.hid K1; clear K1 K; (try clear a0); (try clear l0); (try clear a1); (try clear l1); (try clear a2); (try clear l2); have K := K2; clear K2; have a0 := K.out.rd 0 rfl; have l0 := K.out.ltp 0 rfl))
        go_ret
        exact ⟨ret_b E3.out.symm, K.out.below⟩
      have t1 : decide (d.start ≤ lastFrom pre) = false := by simpa using q1
      by_cases q2 : 0 ≤ d.stop ∧ d.stop ≤ d.start
      · obtain ⟨q2, q3⟩ := q2
        have t2 : decide (d.stop ≥ 0) = true := by simpa using q2
        have t3 : decide (d.stop ≤ d.start) = true := by simpa using q3
        have E3 := Lib.hid (show rightM [] l = false from by
          rw [E2.out]; have : okD pre d = false := by unfold okD okHead; rw [show decide (d.stop < 0) = false by simp; omega, show decide (d.start < d.stop) = false by simp; omega]; simp
          rw [this]; rfl)
        clear q1 q2 q3 hwn
        go_wp2_with (first | ((with_reducible refine at_alloc ?_); refine st_allocf K.out (fun _ => rfl) ?_; intro gd w1 K1; have K2 := Lib.hid K1; clear K1 K; (try clear a0); (try clear l0); (try clear a1); (try clear l1); (try clear a2); (try clear l2); have K := K2; clear K2; have a0 := K.out.rd 0 rfl; have l0 := K.out.ltp 0 rfl) | ((with_reducible refine at_store ?_); refine st_store 0 K.out rfl rfl rfl rfl ?_ ?_ ?_ ?_; (· kernel_rfl); (· simp); (· simp [Value.oneCell']); intro w1 K1; simp only [List.set, putL] at K1; have K2 := Lib.hid K1; clear K1 K; (try clear a0); (try clear l0); (try clear a1); (try clear l1); (try clear a2); (try clear l2); have K := K2; clear K2; have a0 := K.out.rd 0 rfl; have l0 := K.out.ltp 0 rfl))
        go_ret
        exact ⟨ret_b E3.out.symm, K.out.below⟩
      cases q4 : d.call.right with
      | false =>
        have E3 := Lib.hid (show rightM [] l = false from by
          rw [E2.out]; have : okD pre d = false := by unfold okD okHead; rw [q4]; simp
          rw [this]; rfl)
        rw [q4] at CR
        clear q1 hwn
        by_cases q5 : 0 ≤ d.stop
        · have t2 : decide (d.stop ≥ 0) = true := by simpa using q5
          have t3 : decide (d.stop ≤ d.start) = false := by simp; omega
          clear q2 q5
          go_wp2_with (first | ((with_reducible refine at_alloc ?_); refine st_allocf K.out (fun _ => rfl) ?_; intro gd w1 K1; have K2 := Lib.hid K1; clear K1 K; (try clear a0); (try clear l0); (try clear a1); (try clear l1); (try clear a2); (try clear l2); have K := K2; clear K2; have a0 := K.out.rd 0 rfl; have l0 := K.out.ltp 0 rfl) | ((with_reducible refine at_store ?_); refine st_store 0 K.out rfl rfl rfl rfl ?_ ?_ ?_ ?_; (· kernel_rfl); (· simp); (· simp [Value.oneCell']); intro w1 K1; simp only [List.set, putL] at K1; have K2 := Lib.hid K1; clear K1 K; (try clear a0); (try clear l0); (try clear a1); (try clear l1); (try clear a2); (try clear l2); have K := K2; clear K2; have a0 := K.out.rd 0 rfl; have l0 := K.out.ltp 0 rfl) | (go_at_call 68; (with_reducible refine ((CR _).out).mono ?_); rintro e w1 ⟨rfl, hb⟩; have K1 := sat.grown (by repeat (with_reducible first | exact K.out | apply sat.alloc_any | apply sat.drew | apply sat.drewN)) hb; clear hb; have K2 := Lib.hid K1; clear K1 K; (try clear a0); (try clear l0); (try clear a1); (try clear l1); (try clear a2); (try clear l2); have K := K2; clear K2; have a0 := K.out.rd 0 rfl; have l0 := K.out.ltp 0 rfl))
          go_ret
          exact ⟨ret_b E3.out.symm, K.out.below⟩
        · have t2 : decide (d.stop ≥ 0) = false := by simpa using q5
          clear q2 q5
          go_wp2_with (first | ((with_reducible refine at_alloc ?_); refine st_allocf K.out (fun _ => rfl) ?_; intro gd w1 K1; have K2 := Lib.hid K1; clear K1 K; (try clear a0); (try clear l0); (try clear a1); (try clear l1); (try clear a2); (try clear l2); have K := K2; clear K2; have a0 := K.out.rd 0 rfl; have l0 := K.out.ltp 0 rfl) | ((with_reducible refine at_store ?_); refine st_store 0 K.out rfl rfl rfl rfl ?_ ?_ ?_ ?_; (· kernel_rfl); (· simp); (· simp [Value.oneCell']); intro w1 K1; simp only [List.set, putL] at K1; have K2 := Lib.hid K1; clear K1 K; (try clear a0); (try clear l0); (try clear a1); (try clear l1); (try clear a2); (try clear l2); have K := K2; clear K2; have a0 := K.out.rd 0 rfl; have l0 := K.out.ltp 0 rfl) | (go_at_call 68; (with_reducible refine ((CR _).out).mono ?_); rintro e w1 ⟨rfl, hb⟩; have K1 := sat.grown (by repeat (with_reducible first | exact K.out | apply sat.alloc_any | apply sat.drew | apply sat.drewN)) hb; clear hb; have K2 := Lib.hid K1; clear K1 K; (try clear a0); (try clear l0); (try clear a1); (try clear l1); (try clear a2); (try clear l2); have K := K2; clear K2; have a0 := K.out.rd 0 rfl; have l0 := K.out.ltp 0 rfl))
          go_ret
          exact ⟨ret_b E3.out.symm, K.out.below⟩
      | true =>
        rw [q4] at CR
        have EH := Lib.hid (show okHead pre d = true from by
          unfold okHead
          rw [q4, show decide (lastFrom pre < d.start) = true by simp; omega]
          by_cases q5 : d.stop < 0
          · simp [q5]
          · rw [show decide (d.start < d.stop) = true by simp; omega]; simp)
        have KW := Lib.hid (keyJ hwn.who)
        have hfl := HL.out d.who
        rcases Int.lt_or_le d.stop 0 with q5 | q5
        · have t2 : decide (d.stop ≥ 0) = false := by simp; omega
          have q6 : d.start = d.start := rfl
          clear q1 q2
          cases ho : lastOf pre d.who with
          | none =>
            rw [ho] at hfl
            have HFL := Lib.hid (show (fl (.int .i64 d.who)).getD deedZ = deedZ from by rw [hfl]; rfl)
            have HFB0 := Lib.hid (show (fl (.int .i64 d.who)).isSome = false from by rw [hfl]; rfl)
            have HO := Lib.hid ho
            clear hfl ho
            go_upto_region 14 with (first | (go_at_call 68; (with_reducible refine ((CR _).out).mono ?_); rintro e w1 ⟨rfl, hb⟩; have K1 := sat.grown (by repeat (with_reducible first | exact K.out | apply sat.alloc_any | apply sat.drew | apply sat.drewN)) hb; clear hb; have K2 := Lib.hid K1; clear K1 K; (try clear a0); (try clear l0); (try clear a1); (try clear l1); (try clear a2); (try clear l2); have K := K2; clear K2; have a0 := K.out.rd 0 rfl; have l0 := K.out.ltp 0 rfl) | ((with_reducible refine at_lookup' ?_); refine st_lookV 1 K.out rfl keyedJ Tryz.underlying143 zeroD rfl rfl rfl KW.out HFL.out HFB0.out ?_) | (have _hp := gw; ((with_reducible refine at_store ?_); refine st_store 0 K.out rfl rfl rfl rfl ?_ ?_ ?_ ?_; (· kernel_rfl); (· simp); (· simp [Value.oneCell']); intro w1 K1; simp only [List.set, putL] at K1; have K2 := Lib.hid K1; clear K1 K; (try clear a0); (try clear l0); (try clear a1); (try clear l1); (try clear a2); (try clear l2); have K := K2; clear K2; have a0 := K.out.rd 0 rfl; have l0 := K.out.ltp 0 rfl; have a1 := K.out.rd 1 rfl; have l1 := K.out.ltp 1 rfl)) | (have _hp := gw; (go_at_call 81; (with_reducible refine ((BF _).out).mono ?_); rintro e w1 ⟨rfl, hb⟩; have K1 := sat.grown (by repeat (with_reducible first | exact K.out | apply sat.alloc_any | apply sat.drew | apply sat.drewN)) hb; clear hb; have K2 := Lib.hid K1; clear K1 K; (try clear a0); (try clear l0); (try clear a1); (try clear l1); (try clear a2); (try clear l2); have K := K2; clear K2; have a0 := K.out.rd 0 rfl; have l0 := K.out.ltp 0 rfl; have a1 := K.out.rd 1 rfl; have l1 := K.out.ltp 1 rfl)) | (have _hp := gw; ((with_reducible refine at_put' ?_); refine st_putV 2 K.out rfl keyedJ Tryz.underlying143 (by unfold maxLen; omega) rfl rfl KW.out rfl (okDeed d) ?_; intro w1 K1; simp only [List.set] at K1; have K2 := Lib.hid K1; clear K1 K; (try clear a0); (try clear l0); (try clear a1); (try clear l1); (try clear a2); (try clear l2); have K := K2; clear K2; have a0 := K.out.rd 0 rfl; have l0 := K.out.ltp 0 rfl; have a1 := K.out.rd 1 rfl; have l1 := K.out.ltp 1 rfl)) | (have _hp := gd; ((with_reducible refine at_alloc ?_); refine st_allocf K.out (fun _ => rfl) ?_; intro gw w1 K1; have K2 := Lib.hid K1; clear K1 K; (try clear a0); (try clear l0); (try clear a1); (try clear l1); (try clear a2); (try clear l2); have K := K2; clear K2; have a0 := K.out.rd 0 rfl; have l0 := K.out.ltp 0 rfl; have a1 := K.out.rd 1 rfl; have l1 := K.out.ltp 1 rfl)) | ((with_reducible refine at_alloc ?_); refine st_allocf K.out (fun _ => rfl) ?_; intro gd w1 K1; have K2 := Lib.hid K1; clear K1 K; (try clear a0); (try clear l0); (try clear a1); (try clear l1); (try clear a2); (try clear l2); have K := K2; clear K2; have a0 := K.out.rd 0 rfl; have l0 := K.out.ltp 0 rfl) | ((with_reducible refine at_store ?_); refine st_store 0 K.out rfl rfl rfl rfl ?_ ?_ ?_ ?_; (· kernel_rfl); (· simp); (· simp [Value.oneCell']); intro w1 K1; simp only [List.set, putL] at K1; have K2 := Lib.hid K1; clear K1 K; (try clear a0); (try clear l0); (try clear a1); (try clear l1); (try clear a2); (try clear l2); have K := K2; clear K2; have a0 := K.out.rd 0 rfl; have l0 := K.out.ltp 0 rfl))
            go_wp2_with fail
            have K1 := K.out.alloc (.cells #[.int .i64 d.start, .int .i64 d.stop] 3)
            obtain ⟨gt, hgt⟩ : ∃ g, g = w1.heap.size := ⟨_, rfl⟩
            rw [← hgt] at K1 ⊢
            clear K a0 l0 a1 l1 hgt
            have K := Lib.hid K1
            clear K1
            have OW := Lib.hid (show okOwn pre d = true from by unfold okOwn; rw [HO.out])
            go_loopg [70] 2 (fun gk i w' => ∃ (k : Nat) (fs2 : Lit → Option Value), k + gk = 2 ∧ i = .int .i64 k ∧ (1 ≤ k → okT pre d.start = true) ∧ (2 ≤ k → okS pre d = true) ∧ Seen fs2 (fun t => inT pre t || (decide (1 ≤ k) && d.start == t) || (decide (2 ≤ k) && d.stop == t)) ∧ sat w w' [pt gt (.cells #[.int .i64 d.start, .int .i64 d.stop] 3 (0, 0)), pt gw (.cells #[.int .i64 0, .int .i64 0, .int .i64 0, .int .u64 0, .int .i64 0, .int .i64 0, .int .i64 0, .bool false, .int .u64 0, .int .i64 0, .int .i64 0] 47 (0, 0)), deedA gd d, timeA gl (2 * n + 1) (updV fl (.int .i64 d.who) (deedV d)), timeA gs (2 * n + k) fs2])
            case atStart => exact ⟨0, fs, by simp, rfl, fun h => by omega, fun h => by omega, HS.out.congr (fun t => by simp), K.out⟩
            case round =>
              obtain ⟨k, fs2, hk, rfl, h1, h2, hSE, hs⟩ := hrel
              clear K
              have K := Lib.hid hs
              clear hs
              have a0 := K.out.rd 0 rfl
              have l0 := K.out.ltp 0 rfl
              have HK := Lib.hid hk
              have hk3 : k = 0 ∨ k = 1 ∨ k = 2 := by omega
              have H1 := Lib.hid h1
              have H2 := Lib.hid h2
              clear h1 h2
              rcases hk3 with rfl | rfl | rfl
              · obtain ⟨gk2', rfl⟩ : ∃ g', gk = g' + 1 := ⟨gk - 1, by omega⟩
                clear hk
                have KX := Lib.hid (keyJ hwn.start)
                have hs1 : Seen fs2 (fun t => inT pre t) := hSE.congr (fun t => by simp)
                have HSP := Lib.hid (hs1.put d.start)
                clear hSE
                have z1 : wr.cell? ⟨gt, 0, none⟩ = some (.int .i64 d.start) := a0 0
                cases q7 : inT pre d.start with
                | true =>
                  have HFX := Lib.hid (hs1.hit (x := d.start) q7)
                  clear hs1
                  by_cases q8 : 0 ≤ d.start
                  · have t8 : decide (d.start ≥ 0) = true := by simpa using q8
                    have E3 := Lib.hid (show rightM [] l = false from by rw [E2.out, okD_eq, okT_bad q7 q8]; simp)
                    clear q7 q8
                    go_wp2_with (first | ((with_reducible refine at_lookup' ?_); refine st_lookV 4 K.out rfl keyedJ Tryz.underlying142 zeroUn rfl rfl rfl KX.out HFX.out.1 HFX.out.2 ?_) | (have _hp := gz; ((with_reducible refine at_put' ?_); refine st_putV 5 K.out rfl keyedJ Tryz.underlying142 (by unfold maxLen; omega) rfl rfl KX.out rfl rfl ?_; intro w1 K1; simp only [List.set] at K1; have K2 := Lib.hid K1; clear K1 K; (try clear a0); (try clear l0); (try clear a1); (try clear l1); (try clear a2); (try clear l2); have K := K2; clear K2; have a0 := K.out.rd 0 rfl; have l0 := K.out.ltp 0 rfl; have a1 := K.out.rd 1 rfl; have l1 := K.out.ltp 1 rfl)) | (have _hp := gz; ((with_reducible refine at_store ?_); refine st_store 0 K.out rfl rfl rfl rfl ?_ ?_ ?_ ?_; (· kernel_rfl); (· simp); (· simp [Value.oneCell']); intro w1 K1; simp only [List.set, putL] at K1; have K2 := Lib.hid K1; clear K1 K; (try clear a0); (try clear l0); (try clear a1); (try clear l1); (try clear a2); (try clear l2); have K := K2; clear K2; have a0 := K.out.rd 0 rfl; have l0 := K.out.ltp 0 rfl; have a1 := K.out.rd 1 rfl; have l1 := K.out.ltp 1 rfl)) | ((with_reducible refine at_alloc ?_); refine st_allocf K.out (fun _ => rfl) ?_; intro gz w1 K1; have K2 := Lib.hid K1; clear K1 K; (try clear a0); (try clear l0); (try clear a1); (try clear l1); (try clear a2); (try clear l2); have K := K2; clear K2; have a0 := K.out.rd 0 rfl; have l0 := K.out.ltp 0 rfl; have a1 := K.out.rd 1 rfl; have l1 := K.out.ltp 1 rfl))
                    go_ret
                    exact ⟨ret_b E3.out.symm, K.out.below⟩
                  · have t8 : decide (d.start ≥ 0) = false := by simpa using q8
                    have HCK := Lib.hid (show okT pre d.start = true from okT_neg q8)
                    clear q7 q8
                    go_wp2_with (first | ((with_reducible refine at_lookup' ?_); refine st_lookV 4 K.out rfl keyedJ Tryz.underlying142 zeroUn rfl rfl rfl KX.out HFX.out.1 HFX.out.2 ?_) | (have _hp := gz; ((with_reducible refine at_put' ?_); refine st_putV 5 K.out rfl keyedJ Tryz.underlying142 (by unfold maxLen; omega) rfl rfl KX.out rfl rfl ?_; intro w1 K1; simp only [List.set] at K1; have K2 := Lib.hid K1; clear K1 K; (try clear a0); (try clear l0); (try clear a1); (try clear l1); (try clear a2); (try clear l2); have K := K2; clear K2; have a0 := K.out.rd 0 rfl; have l0 := K.out.ltp 0 rfl; have a1 := K.out.rd 1 rfl; have l1 := K.out.ltp 1 rfl)) | (have _hp := gz; ((with_reducible refine at_store ?_); refine st_store 0 K.out rfl rfl rfl rfl ?_ ?_ ?_ ?_; (· kernel_rfl); (· simp); (· simp [Value.oneCell']); intro w1 K1; simp only [List.set, putL] at K1; have K2 := Lib.hid K1; clear K1 K; (try clear a0); (try clear l0); (try clear a1); (try clear l1); (try clear a2); (try clear l2); have K := K2; clear K2; have a0 := K.out.rd 0 rfl; have l0 := K.out.ltp 0 rfl; have a1 := K.out.rd 1 rfl; have l1 := K.out.ltp 1 rfl)) | ((with_reducible refine at_alloc ?_); refine st_allocf K.out (fun _ => rfl) ?_; intro gz w1 K1; have K2 := Lib.hid K1; clear K1 K; (try clear a0); (try clear l0); (try clear a1); (try clear l1); (try clear a2); (try clear l2); have K := K2; clear K2; have a0 := K.out.rd 0 rfl; have l0 := K.out.ltp 0 rfl; have a1 := K.out.rd 1 rfl; have l1 := K.out.ltp 1 rfl))
                    go_roundg gk2'
                    case measure => omega
                    case rel => exact ⟨1, _, by have := HK.out; omega, by simp, (fun _ => HCK.out), (fun h => by omega), HSP.out.congr (fun t => by simp), K.out.drop⟩
                | false =>
                  have HFX := Lib.hid (hs1.miss (x := d.start) q7)
                  have HCK := Lib.hid (show okT pre d.start = true from okT_not q7)
                  clear hs1
                  by_cases q8 : 0 ≤ d.start
                  · have t8 : decide (d.start ≥ 0) = true := by simpa using q8
                    clear q7 q8
                    go_wp2_with (first | ((with_reducible refine at_lookup' ?_); refine st_lookV 4 K.out rfl keyedJ Tryz.underlying142 zeroUn rfl rfl rfl KX.out HFX.out.1 HFX.out.2 ?_) | (have _hp := gz; ((with_reducible refine at_put' ?_); refine st_putV 5 K.out rfl keyedJ Tryz.underlying142 (by unfold maxLen; omega) rfl rfl KX.out rfl rfl ?_; intro w1 K1; simp only [List.set] at K1; have K2 := Lib.hid K1; clear K1 K; (try clear a0); (try clear l0); (try clear a1); (try clear l1); (try clear a2); (try clear l2); have K := K2; clear K2; have a0 := K.out.rd 0 rfl; have l0 := K.out.ltp 0 rfl; have a1 := K.out.rd 1 rfl; have l1 := K.out.ltp 1 rfl)) | (have _hp := gz; ((with_reducible refine at_store ?_); refine st_store 0 K.out rfl rfl rfl rfl ?_ ?_ ?_ ?_; (· kernel_rfl); (· simp); (· simp [Value.oneCell']); intro w1 K1; simp only [List.set, putL] at K1; have K2 := Lib.hid K1; clear K1 K; (try clear a0); (try clear l0); (try clear a1); (try clear l1); (try clear a2); (try clear l2); have K := K2; clear K2; have a0 := K.out.rd 0 rfl; have l0 := K.out.ltp 0 rfl; have a1 := K.out.rd 1 rfl; have l1 := K.out.ltp 1 rfl)) | ((with_reducible refine at_alloc ?_); refine st_allocf K.out (fun _ => rfl) ?_; intro gz w1 K1; have K2 := Lib.hid K1; clear K1 K; (try clear a0); (try clear l0); (try clear a1); (try clear l1); (try clear a2); (try clear l2); have K := K2; clear K2; have a0 := K.out.rd 0 rfl; have l0 := K.out.ltp 0 rfl; have a1 := K.out.rd 1 rfl; have l1 := K.out.ltp 1 rfl))
                    go_roundg gk2'
                    case measure => omega
                    case rel => exact ⟨1, _, by have := HK.out; omega, by simp, (fun _ => HCK.out), (fun h => by omega), HSP.out.congr (fun t => by simp), K.out.drop⟩
                  · have t8 : decide (d.start ≥ 0) = false := by simpa using q8
                    clear q7 q8
                    go_wp2_with (first | ((with_reducible refine at_lookup' ?_); refine st_lookV 4 K.out rfl keyedJ Tryz.underlying142 zeroUn rfl rfl rfl KX.out HFX.out.1 HFX.out.2 ?_) | (have _hp := gz; ((with_reducible refine at_put' ?_); refine st_putV 5 K.out rfl keyedJ Tryz.underlying142 (by unfold maxLen; omega) rfl rfl KX.out rfl rfl ?_; intro w1 K1; simp only [List.set] at K1; have K2 := Lib.hid K1; clear K1 K; (try clear a0); (try clear l0); (try clear a1); (try clear l1); (try clear a2); (try clear l2); have K := K2; clear K2; have a0 := K.out.rd 0 rfl; have l0 := K.out.ltp 0 rfl; have a1 := K.out.rd 1 rfl; have l1 := K.out.ltp 1 rfl)) | (have _hp := gz; ((with_reducible refine at_store ?_); refine st_store 0 K.out rfl rfl rfl rfl ?_ ?_ ?_ ?_; (· kernel_rfl); (· simp); (· simp [Value.oneCell']); intro w1 K1; simp only [List.set, putL] at K1; have K2 := Lib.hid K1; clear K1 K; (try clear a0); (try clear l0); (try clear a1); (try clear l1); (try clear a2); (try clear l2); have K := K2; clear K2; have a0 := K.out.rd 0 rfl; have l0 := K.out.ltp 0 rfl; have a1 := K.out.rd 1 rfl; have l1 := K.out.ltp 1 rfl)) | ((with_reducible refine at_alloc ?_); refine st_allocf K.out (fun _ => rfl) ?_; intro gz w1 K1; have K2 := Lib.hid K1; clear K1 K; (try clear a0); (try clear l0); (try clear a1); (try clear l1); (try clear a2); (try clear l2); have K := K2; clear K2; have a0 := K.out.rd 0 rfl; have l0 := K.out.ltp 0 rfl; have a1 := K.out.rd 1 rfl; have l1 := K.out.ltp 1 rfl))
                    go_roundg gk2'
                    case measure => omega
                    case rel => exact ⟨1, _, by have := HK.out; omega, by simp, (fun _ => HCK.out), (fun h => by omega), HSP.out.congr (fun t => by simp), K.out.drop⟩
              · obtain ⟨gk2', rfl⟩ : ∃ g', gk = g' + 1 := ⟨gk - 1, by omega⟩
                clear hk
                have KX := Lib.hid (keyJ hwn.stop)
                have hs1 : Seen fs2 (fun t => inT pre t || d.start == t) := hSE.congr (fun t => by simp)
                have HSP := Lib.hid (hs1.put d.stop)
                clear hSE
                have z1 : wr.cell? ⟨gt, 1, none⟩ = some (.int .i64 d.stop) := a0 1
                cases q7 : (inT pre d.stop || d.start == d.stop) with
                | true =>
                  have HFX := Lib.hid (hs1.hit (x := d.stop) q7)
                  clear hs1
                  have q8 : ¬ 0 ≤ d.stop := by omega
                  have t8 : decide (d.stop ≥ 0) = false := by simpa using q8
                  have HCK := Lib.hid (show okS pre d = true from okS_neg q8)
                  clear q7 q8
                  go_wp2_with (first | ((with_reducible refine at_lookup' ?_); refine st_lookV 4 K.out rfl keyedJ Tryz.underlying142 zeroUn rfl rfl rfl KX.out HFX.out.1 HFX.out.2 ?_) | (have _hp := gz; ((with_reducible refine at_put' ?_); refine st_putV 5 K.out rfl keyedJ Tryz.underlying142 (by unfold maxLen; omega) rfl rfl KX.out rfl rfl ?_; intro w1 K1; simp only [List.set] at K1; have K2 := Lib.hid K1; clear K1 K; (try clear a0); (try clear l0); (try clear a1); (try clear l1); (try clear a2); (try clear l2); have K := K2; clear K2; have a0 := K.out.rd 0 rfl; have l0 := K.out.ltp 0 rfl; have a1 := K.out.rd 1 rfl; have l1 := K.out.ltp 1 rfl)) | (have _hp := gz; ((with_reducible refine at_store ?_); refine st_store 0 K.out rfl rfl rfl rfl ?_ ?_ ?_ ?_; (· kernel_rfl); (· simp); (· simp [Value.oneCell']); intro w1 K1; simp only [List.set, putL] at K1; have K2 := Lib.hid K1; clear K1 K; (try clear a0); (try clear l0); (try clear a1); (try clear l1); (try clear a2); (try clear l2); have K := K2; clear K2; have a0 := K.out.rd 0 rfl; have l0 := K.out.ltp 0 rfl; have a1 := K.out.rd 1 rfl; have l1 := K.out.ltp 1 rfl)) | ((with_reducible refine at_alloc ?_); refine st_allocf K.out (fun _ => rfl) ?_; intro gz w1 K1; have K2 := Lib.hid K1; clear K1 K; (try clear a0); (try clear l0); (try clear a1); (try clear l1); (try clear a2); (try clear l2); have K := K2; clear K2; have a0 := K.out.rd 0 rfl; have l0 := K.out.ltp 0 rfl; have a1 := K.out.rd 1 rfl; have l1 := K.out.ltp 1 rfl))
                  go_roundg gk2'
                  case measure => omega
                  case rel => exact ⟨2, _, by have := HK.out; omega, by simp, (fun _ => H1.out (by omega)), (fun _ => HCK.out), HSP.out.congr (fun t => by simp), K.out.drop⟩
                | false =>
                  have HFX := Lib.hid (hs1.miss (x := d.stop) q7)
                  have HCK := Lib.hid (show okS pre d = true from okS_not q7)
                  clear hs1
                  have q8 : ¬ 0 ≤ d.stop := by omega
                  have t8 : decide (d.stop ≥ 0) = false := by simpa using q8
                  clear q7 q8
                  go_wp2_with (first | ((with_reducible refine at_lookup' ?_); refine st_lookV 4 K.out rfl keyedJ Tryz.underlying142 zeroUn rfl rfl rfl KX.out HFX.out.1 HFX.out.2 ?_) | (have _hp := gz; ((with_reducible refine at_put' ?_); refine st_putV 5 K.out rfl keyedJ Tryz.underlying142 (by unfold maxLen; omega) rfl rfl KX.out rfl rfl ?_; intro w1 K1; simp only [List.set] at K1; have K2 := Lib.hid K1; clear K1 K; (try clear a0); (try clear l0); (try clear a1); (try clear l1); (try clear a2); (try clear l2); have K := K2; clear K2; have a0 := K.out.rd 0 rfl; have l0 := K.out.ltp 0 rfl; have a1 := K.out.rd 1 rfl; have l1 := K.out.ltp 1 rfl)) | (have _hp := gz; ((with_reducible refine at_store ?_); refine st_store 0 K.out rfl rfl rfl rfl ?_ ?_ ?_ ?_; (· kernel_rfl); (· simp); (· simp [Value.oneCell']); intro w1 K1; simp only [List.set, putL] at K1; have K2 := Lib.hid K1; clear K1 K; (try clear a0); (try clear l0); (try clear a1); (try clear l1); (try clear a2); (try clear l2); have K := K2; clear K2; have a0 := K.out.rd 0 rfl; have l0 := K.out.ltp 0 rfl; have a1 := K.out.rd 1 rfl; have l1 := K.out.ltp 1 rfl)) | ((with_reducible refine at_alloc ?_); refine st_allocf K.out (fun _ => rfl) ?_; intro gz w1 K1; have K2 := Lib.hid K1; clear K1 K; (try clear a0); (try clear l0); (try clear a1); (try clear l1); (try clear a2); (try clear l2); have K := K2; clear K2; have a0 := K.out.rd 0 rfl; have l0 := K.out.ltp 0 rfl; have a1 := K.out.rd 1 rfl; have l1 := K.out.ltp 1 rfl))
                  go_roundg gk2'
                  case measure => omega
                  case rel => exact ⟨2, _, by have := HK.out; omega, by simp, (fun _ => H1.out (by omega)), (fun _ => HCK.out), HSP.out.congr (fun t => by simp), K.out.drop⟩
              · have d1 : decide (2 < 2) = false := rfl
                clear hk
                have E4 := Lib.hid (show okD pre d = true from by rw [okD_eq, EH.out, OW.out, H1.out (by omega), H2.out (by omega)]; rfl)
                have HSE := Lib.hid hSE
                clear hSE
                go_wp2
                go_roundg gk'
                case measure => omega
                case rel => exact ⟨n + 1, _, _, by have := HN.out; omega, by simp, by rw [E1.out, lastFrom_snoc], by rw [E2.out, E4.out, E1.out]; rfl, by rw [E1.out]; exact HSE.out.congr (fun t => by rw [inT_snoc]; simp [Bool.or_assoc]), by rw [E1.out]; exact HL.out.put d, (((K.out.drop.drop.drop.mapV_mono (by omega)).swap).mapV_mono (by omega)).swap⟩
          | some o =>
            rw [ho] at hfl
            have HFL := Lib.hid (show (fl (.int .i64 d.who)).getD deedZ = deedV o from by rw [hfl]; rfl)
            have HFB0 := Lib.hid (show (fl (.int .i64 d.who)).isSome = true from by rw [hfl]; rfl)
            have HO := Lib.hid ho
            have BF := fun w' => Lib.hid (before_calls o d w')
            clear hfl ho
            cases hbf : beforeD o d with
            | true =>
              rw [hbf] at BF
              have HBF := Lib.hid hbf
              clear hbf
              go_upto_region 14 with (first | (go_at_call 68; (with_reducible refine ((CR _).out).mono ?_); rintro e w1 ⟨rfl, hb⟩; have K1 := sat.grown (by repeat (with_reducible first | exact K.out | apply sat.alloc_any | apply sat.drew | apply sat.drewN)) hb; clear hb; have K2 := Lib.hid K1; clear K1 K; (try clear a0); (try clear l0); (try clear a1); (try clear l1); (try clear a2); (try clear l2); have K := K2; clear K2; have a0 := K.out.rd 0 rfl; have l0 := K.out.ltp 0 rfl) | ((with_reducible refine at_lookup' ?_); refine st_lookV 1 K.out rfl keyedJ Tryz.underlying143 zeroD rfl rfl rfl KW.out HFL.out HFB0.out ?_) | (have _hp := gw; ((with_reducible refine at_store ?_); refine st_store 0 K.out rfl rfl rfl rfl ?_ ?_ ?_ ?_; (· kernel_rfl); (· simp); (· simp [Value.oneCell']); intro w1 K1; simp only [List.set, putL] at K1; have K2 := Lib.hid K1; clear K1 K; (try clear a0); (try clear l0); (try clear a1); (try clear l1); (try clear a2); (try clear l2); have K := K2; clear K2; have a0 := K.out.rd 0 rfl; have l0 := K.out.ltp 0 rfl; have a1 := K.out.rd 1 rfl; have l1 := K.out.ltp 1 rfl)) | (have _hp := gw; (go_at_call 81; (with_reducible refine ((BF _).out).mono ?_); rintro e w1 ⟨rfl, hb⟩; have K1 := sat.grown (by repeat (with_reducible first | exact K.out | apply sat.alloc_any | apply sat.drew | apply sat.drewN)) hb; clear hb; have K2 := Lib.hid K1; clear K1 K; (try clear a0); (try clear l0); (try clear a1); (try clear l1); (try clear a2); (try clear l2); have K := K2; clear K2; have a0 := K.out.rd 0 rfl; have l0 := K.out.ltp 0 rfl; have a1 := K.out.rd 1 rfl; have l1 := K.out.ltp 1 rfl)) | (have _hp := gw; ((with_reducible refine at_put' ?_); refine st_putV 2 K.out rfl keyedJ Tryz.underlying143 (by unfold maxLen; omega) rfl rfl KW.out rfl (okDeed d) ?_; intro w1 K1; simp only [List.set] at K1; have K2 := Lib.hid K1; clear K1 K; (try clear a0); (try clear l0); (try clear a1); (try clear l1); (try clear a2); (try clear l2); have K := K2; clear K2; have a0 := K.out.rd 0 rfl; have l0 := K.out.ltp 0 rfl; have a1 := K.out.rd 1 rfl; have l1 := K.out.ltp 1 rfl)) | (have _hp := gd; ((with_reducible refine at_alloc ?_); refine st_allocf K.out (fun _ => rfl) ?_; intro gw w1 K1; have K2 := Lib.hid K1; clear K1 K; (try clear a0); (try clear l0); (try clear a1); (try clear l1); (try clear a2); (try clear l2); have K := K2; clear K2; have a0 := K.out.rd 0 rfl; have l0 := K.out.ltp 0 rfl; have a1 := K.out.rd 1 rfl; have l1 := K.out.ltp 1 rfl)) | ((with_reducible refine at_alloc ?_); refine st_allocf K.out (fun _ => rfl) ?_; intro gd w1 K1; have K2 := Lib.hid K1; clear K1 K; (try clear a0); (try clear l0); (try clear a1); (try clear l1); (try clear a2); (try clear l2); have K := K2; clear K2; have a0 := K.out.rd 0 rfl; have l0 := K.out.ltp 0 rfl) | ((with_reducible refine at_store ?_); refine st_store 0 K.out rfl rfl rfl rfl ?_ ?_ ?_ ?_; (· kernel_rfl); (· simp); (· simp [Value.oneCell']); intro w1 K1; simp only [List.set, putL] at K1; have K2 := Lib.hid K1; clear K1 K; (try clear a0); (try clear l0); (try clear a1); (try clear l1); (try clear a2); (try clear l2); have K := K2; clear K2; have a0 := K.out.rd 0 rfl; have l0 := K.out.ltp 0 rfl))
              go_wp2_with fail
              have K1 := K.out.alloc (.cells #[.int .i64 d.start, .int .i64 d.stop] 3)
              obtain ⟨gt, hgt⟩ : ∃ g, g = w1.heap.size := ⟨_, rfl⟩
              rw [← hgt] at K1 ⊢
              clear K a0 l0 a1 l1 hgt
              have K := Lib.hid K1
              clear K1
              have OW := Lib.hid (show okOwn pre d = true from by unfold okOwn; rw [HO.out]; exact HBF.out)
              go_loopg [70] 2 (fun gk i w' => ∃ (k : Nat) (fs2 : Lit → Option Value), k + gk = 2 ∧ i = .int .i64 k ∧ (1 ≤ k → okT pre d.start = true) ∧ (2 ≤ k → okS pre d = true) ∧ Seen fs2 (fun t => inT pre t || (decide (1 ≤ k) && d.start == t) || (decide (2 ≤ k) && d.stop == t)) ∧ sat w w' [pt gt (.cells #[.int .i64 d.start, .int .i64 d.stop] 3 (0, 0)), deedA gw o, deedA gd d, timeA gl (2 * n + 1) (updV fl (.int .i64 d.who) (deedV d)), timeA gs (2 * n + k) fs2])
              case atStart => exact ⟨0, fs, by simp, rfl, fun h => by omega, fun h => by omega, HS.out.congr (fun t => by simp), K.out⟩
              case round =>
                obtain ⟨k, fs2, hk, rfl, h1, h2, hSE, hs⟩ := hrel
                clear K
                have K := Lib.hid hs
                clear hs
                have a0 := K.out.rd 0 rfl
                have l0 := K.out.ltp 0 rfl
                have HK := Lib.hid hk
                have hk3 : k = 0 ∨ k = 1 ∨ k = 2 := by omega
                have H1 := Lib.hid h1
                have H2 := Lib.hid h2
                clear h1 h2
                rcases hk3 with rfl | rfl | rfl
                · obtain ⟨gk2', rfl⟩ : ∃ g', gk = g' + 1 := ⟨gk - 1, by omega⟩
                  clear hk
                  have KX := Lib.hid (keyJ hwn.start)
                  have hs1 : Seen fs2 (fun t => inT pre t) := hSE.congr (fun t => by simp)
                  have HSP := Lib.hid (hs1.put d.start)
                  clear hSE
                  have z1 : wr.cell? ⟨gt, 0, none⟩ = some (.int .i64 d.start) := a0 0
                  cases q7 : inT pre d.start with
                  | true =>
                    have HFX := Lib.hid (hs1.hit (x := d.start) q7)
                    clear hs1
                    by_cases q8 : 0 ≤ d.start
                    · have t8 : decide (d.start ≥ 0) = true := by simpa using q8
                      have E3 := Lib.hid (show rightM [] l = false from by rw [E2.out, okD_eq, okT_bad q7 q8]; simp)
                      clear q7 q8
                      go_wp2_with (first | ((with_reducible refine at_lookup' ?_); refine st_lookV 4 K.out rfl keyedJ Tryz.underlying142 zeroUn rfl rfl rfl KX.out HFX.out.1 HFX.out.2 ?_) | (have _hp := gz; ((with_reducible refine at_put' ?_); refine st_putV 5 K.out rfl keyedJ Tryz.underlying142 (by unfold maxLen; omega) rfl rfl KX.out rfl rfl ?_; intro w1 K1; simp only [List.set] at K1; have K2 := Lib.hid K1; clear K1 K; (try clear a0); (try clear l0); (try clear a1); (try clear l1); (try clear a2); (try clear l2); have K := K2; clear K2; have a0 := K.out.rd 0 rfl; have l0 := K.out.ltp 0 rfl; have a1 := K.out.rd 1 rfl; have l1 := K.out.ltp 1 rfl)) | (have _hp := gz; ((with_reducible refine at_store ?_); refine st_store 0 K.out rfl rfl rfl rfl ?_ ?_ ?_ ?_; (· kernel_rfl); (· simp); (· simp [Value.oneCell']); intro w1 K1; simp only [List.set, putL] at K1; have K2 := Lib.hid K1; clear K1 K; (try clear a0); (try clear l0); (try clear a1); (try clear l1); (try clear a2); (try clear l2); have K := K2; clear K2; have a0 := K.out.rd 0 rfl; have l0 := K.out.ltp 0 rfl; have a1 := K.out.rd 1 rfl; have l1 := K.out.ltp 1 rfl)) | ((with_reducible refine at_alloc ?_); refine st_allocf K.out (fun _ => rfl) ?_; intro gz w1 K1; have K2 := Lib.hid K1; clear K1 K; (try clear a0); (try clear l0); (try clear a1); (try clear l1); (try clear a2); (try clear l2); have K := K2; clear K2; have a0 := K.out.rd 0 rfl; have l0 := K.out.ltp 0 rfl; have a1 := K.out.rd 1 rfl; have l1 := K.out.ltp 1 rfl))
                      go_ret
                      exact ⟨ret_b E3.out.symm, K.out.below⟩
                    · have t8 : decide (d.start ≥ 0) = false := by simpa using q8
                      have HCK := Lib.hid (show okT pre d.start = true from okT_neg q8)
                      clear q7 q8
                      go_wp2_with (first | ((with_reducible refine at_lookup' ?_); refine st_lookV 4 K.out rfl keyedJ Tryz.underlying142 zeroUn rfl rfl rfl KX.out HFX.out.1 HFX.out.2 ?_) | (have _hp := gz; ((with_reducible refine at_put' ?_); refine st_putV 5 K.out rfl keyedJ Tryz.underlying142 (by unfold maxLen; omega) rfl rfl KX.out rfl rfl ?_; intro w1 K1; simp only [List.set] at K1; have K2 := Lib.hid K1; clear K1 K; (try clear a0); (try clear l0); (try clear a1); (try clear l1); (try clear a2); (try clear l2); have K := K2; clear K2; have a0 := K.out.rd 0 rfl; have l0 := K.out.ltp 0 rfl; have a1 := K.out.rd 1 rfl; have l1 := K.out.ltp 1 rfl)) | (have _hp := gz; ((with_reducible refine at_store ?_); refine st_store 0 K.out rfl rfl rfl rfl ?_ ?_ ?_ ?_; (· kernel_rfl); (· simp); (· simp [Value.oneCell']); intro w1 K1; simp only [List.set, putL] at K1; have K2 := Lib.hid K1; clear K1 K; (try clear a0); (try clear l0); (try clear a1); (try clear l1); (try clear a2); (try clear l2); have K := K2; clear K2; have a0 := K.out.rd 0 rfl; have l0 := K.out.ltp 0 rfl; have a1 := K.out.rd 1 rfl; have l1 := K.out.ltp 1 rfl)) | ((with_reducible refine at_alloc ?_); refine st_allocf K.out (fun _ => rfl) ?_; intro gz w1 K1; have K2 := Lib.hid K1; clear K1 K; (try clear a0); (try clear l0); (try clear a1); (try clear l1); (try clear a2); (try clear l2); have K := K2; clear K2; have a0 := K.out.rd 0 rfl; have l0 := K.out.ltp 0 rfl; have a1 := K.out.rd 1 rfl; have l1 := K.out.ltp 1 rfl))
                      go_roundg gk2'
                      case measure => omega
                      case rel => exact ⟨1, _, by have := HK.out; omega, by simp, (fun _ => HCK.out), (fun h => by omega), HSP.out.congr (fun t => by simp), K.out.drop⟩
                  | false =>
                    have HFX := Lib.hid (hs1.miss (x := d.start) q7)
                    have HCK := Lib.hid (show okT pre d.start = true from okT_not q7)
                    clear hs1
                    by_cases q8 : 0 ≤ d.start
                    · have t8 : decide (d.start ≥ 0) = true := by simpa using q8
                      clear q7 q8
                      go_wp2_with (first | ((with_reducible refine at_lookup' ?_); refine st_lookV 4 K.out rfl keyedJ Tryz.underlying142 zeroUn rfl rfl rfl KX.out HFX.out.1 HFX.out.2 ?_) | (have _hp := gz; ((with_reducible refine at_put' ?_); refine st_putV 5 K.out rfl keyedJ Tryz.underlying142 (by unfold maxLen; omega) rfl rfl KX.out rfl rfl ?_; intro w1 K1; simp only [List.set] at K1; have K2 := Lib.hid K1; clear K1 K; (try clear a0); (try clear l0); (try clear a1); (try clear l1); (try clear a2); (try clear l2); have K := K2; clear K2; have a0 := K.out.rd 0 rfl; have l0 := K.out.ltp 0 rfl; have a1 := K.out.rd 1 rfl; have l1 := K.out.ltp 1 rfl)) | (have _hp := gz; ((with_reducible refine at_store ?_); refine st_store 0 K.out rfl rfl rfl rfl ?_ ?_ ?_ ?_; (· kernel_rfl); (· simp); (· simp [Value.oneCell']); intro w1 K1; simp only [List.set, putL] at K1; have K2 := Lib.hid K1; clear K1 K; (try clear a0); (try clear l0); (try clear a1); (try clear l1); (try clear a2); (try clear l2); have K := K2; clear K2; have a0 := K.out.rd 0 rfl; have l0 := K.out.ltp 0 rfl; have a1 := K.out.rd 1 rfl; have l1 := K.out.ltp 1 rfl)) | ((with_reducible refine at_alloc ?_); refine st_allocf K.out (fun _ => rfl) ?_; intro gz w1 K1; have K2 := Lib.hid K1; clear K1 K; (try clear a0); (try clear l0); (try clear a1); (try clear l1); (try clear a2); (try clear l2); have K := K2; clear K2; have a0 := K.out.rd 0 rfl; have l0 := K.out.ltp 0 rfl; have a1 := K.out.rd 1 rfl; have l1 := K.out.ltp 1 rfl))
                      go_roundg gk2'
                      case measure => omega
                      case rel => exact ⟨1, _, by have := HK.out; omega, by simp, (fun _ => HCK.out), (fun h => by omega), HSP.out.congr (fun t => by simp), K.out.drop⟩
                    · have t8 : decide (d.start ≥ 0) = false := by simpa using q8
                      clear q7 q8
                      go_wp2_with (first | ((with_reducible refine at_lookup' ?_); refine st_lookV 4 K.out rfl keyedJ Tryz.underlying142 zeroUn rfl rfl rfl KX.out HFX.out.1 HFX.out.2 ?_) | (have _hp := gz; ((with_reducible refine at_put' ?_); refine st_putV 5 K.out rfl keyedJ Tryz.underlying142 (by unfold maxLen; omega) rfl rfl KX.out rfl rfl ?_; intro w1 K1; simp only [List.set] at K1; have K2 := Lib.hid K1; clear K1 K; (try clear a0); (try clear l0); (try clear a1); (try clear l1); (try clear a2); (try clear l2); have K := K2; clear K2; have a0 := K.out.rd 0 rfl; have l0 := K.out.ltp 0 rfl; have a1 := K.out.rd 1 rfl; have l1 := K.out.ltp 1 rfl)) | (have _hp := gz; ((with_reducible refine at_store ?_); refine st_store 0 K.out rfl rfl rfl rfl ?_ ?_ ?_ ?_; (· kernel_rfl); (· simp); (· simp [Value.oneCell']); intro w1 K1; simp only [List.set, putL] at K1; have K2 := Lib.hid K1; clear K1 K; (try clear a0); (try clear l0); (try clear a1); (try clear l1); (try clear a2); (try clear l2); have K := K2; clear K2; have a0 := K.out.rd 0 rfl; have l0 := K.out.ltp 0 rfl; have a1 := K.out.rd 1 rfl; have l1 := K.out.ltp 1 rfl)) | ((with_reducible refine at_alloc ?_); refine st_allocf K.out (fun _ => rfl) ?_; intro gz w1 K1; have K2 := Lib.hid K1; clear K1 K; (try clear a0); (try clear l0); (try clear a1); (try clear l1); (try clear a2); (try clear l2); have K := K2; clear K2; have a0 := K.out.rd 0 rfl; have l0 := K.out.ltp 0 rfl; have a1 := K.out.rd 1 rfl; have l1 := K.out.ltp 1 rfl))
                      go_roundg gk2'
                      case measure => omega
                      case rel => exact ⟨1, _, by have := HK.out; omega, by simp, (fun _ => HCK.out), (fun h => by omega), HSP.out.congr (fun t => by simp), K.out.drop⟩
                · obtain ⟨gk2', rfl⟩ : ∃ g', gk = g' + 1 := ⟨gk - 1, by omega⟩
                  clear hk
                  have KX := Lib.hid (keyJ hwn.stop)
                  have hs1 : Seen fs2 (fun t => inT pre t || d.start == t) := hSE.congr (fun t => by simp)
                  have HSP := Lib.hid (hs1.put d.stop)
                  clear hSE
                  have z1 : wr.cell? ⟨gt, 1, none⟩ = some (.int .i64 d.stop) := a0 1
                  cases q7 : (inT pre d.stop || d.start == d.stop) with
                  | true =>
                    have HFX := Lib.hid (hs1.hit (x := d.stop) q7)
                    clear hs1
                    have q8 : ¬ 0 ≤ d.stop := by omega
                    have t8 : decide (d.stop ≥ 0) = false := by simpa using q8
                    have HCK := Lib.hid (show okS pre d = true from okS_neg q8)
                    clear q7 q8
                    go_wp2_with (first | ((with_reducible refine at_lookup' ?_); refine st_lookV 4 K.out rfl keyedJ Tryz.underlying142 zeroUn rfl rfl rfl KX.out HFX.out.1 HFX.out.2 ?_) | (have _hp := gz; ((with_reducible refine at_put' ?_); refine st_putV 5 K.out rfl keyedJ Tryz.underlying142 (by unfold maxLen; omega) rfl rfl KX.out rfl rfl ?_; intro w1 K1; simp only [List.set] at K1; have K2 := Lib.hid K1; clear K1 K; (try clear a0); (try clear l0); (try clear a1); (try clear l1); (try clear a2); (try clear l2); have K := K2; clear K2; have a0 := K.out.rd 0 rfl; have l0 := K.out.ltp 0 rfl; have a1 := K.out.rd 1 rfl; have l1 := K.out.ltp 1 rfl)) | (have _hp := gz; ((with_reducible refine at_store ?_); refine st_store 0 K.out rfl rfl rfl rfl ?_ ?_ ?_ ?_; (· kernel_rfl); (· simp); (· simp [Value.oneCell']); intro w1 K1; simp only [List.set, putL] at K1; have K2 := Lib.hid K1; clear K1 K; (try clear a0); (try clear l0); (try clear a1); (try clear l1); (try clear a2); (try clear l2); have K := K2; clear K2; have a0 := K.out.rd 0 rfl; have l0 := K.out.ltp 0 rfl; have a1 := K.out.rd 1 rfl; have l1 := K.out.ltp 1 rfl)) | ((with_reducible refine at_alloc ?_); refine st_allocf K.out (fun _ => rfl) ?_; intro gz w1 K1; have K2 := Lib.hid K1; clear K1 K; (try clear a0); (try clear l0); (try clear a1); (try clear l1); (try clear a2); (try clear l2); have K := K2; clear K2; have a0 := K.out.rd 0 rfl; have l0 := K.out.ltp 0 rfl; have a1 := K.out.rd 1 rfl; have l1 := K.out.ltp 1 rfl))
                    go_roundg gk2'
                    case measure => omega
                    case rel => exact ⟨2, _, by have := HK.out; omega, by simp, (fun _ => H1.out (by omega)), (fun _ => HCK.out), HSP.out.congr (fun t => by simp), K.out.drop⟩
                  | false =>
                    have HFX := Lib.hid (hs1.miss (x := d.stop) q7)
                    have HCK := Lib.hid (show okS pre d = true from okS_not q7)
                    clear hs1
                    have q8 : ¬ 0 ≤ d.stop := by omega
                    have t8 : decide (d.stop ≥ 0) = false := by simpa using q8
                    clear q7 q8
                    go_wp2_with (first | ((with_reducible refine at_lookup' ?_); refine st_lookV 4 K.out rfl keyedJ Tryz.underlying142 zeroUn rfl rfl rfl KX.out HFX.out.1 HFX.out.2 ?_) | (have _hp := gz; ((with_reducible refine at_put' ?_); refine st_putV 5 K.out rfl keyedJ Tryz.underlying142 (by unfold maxLen; omega) rfl rfl KX.out rfl rfl ?_; intro w1 K1; simp only [List.set] at K1; have K2 := Lib.hid K1; clear K1 K; (try clear a0); (try clear l0); (try clear a1); (try clear l1); (try clear a2); (try clear l2); have K := K2; clear K2; have a0 := K.out.rd 0 rfl; have l0 := K.out.ltp 0 rfl; have a1 := K.out.rd 1 rfl; have l1 := K.out.ltp 1 rfl)) | (have _hp := gz; ((with_reducible refine at_store ?_); refine st_store 0 K.out rfl rfl rfl rfl ?_ ?_ ?_ ?_; (· kernel_rfl); (· simp); (· simp [Value.oneCell']); intro w1 K1; simp only [List.set, putL] at K1; have K2 := Lib.hid K1; clear K1 K; (try clear a0); (try clear l0); (try clear a1); (try clear l1); (try clear a2); (try clear l2); have K := K2; clear K2; have a0 := K.out.rd 0 rfl; have l0 := K.out.ltp 0 rfl; have a1 := K.out.rd 1 rfl; have l1 := K.out.ltp 1 rfl)) | ((with_reducible refine at_alloc ?_); refine st_allocf K.out (fun _ => rfl) ?_; intro gz w1 K1; have K2 := Lib.hid K1; clear K1 K; (try clear a0); (try clear l0); (try clear a1); (try clear l1); (try clear a2); (try clear l2); have K := K2; clear K2; have a0 := K.out.rd 0 rfl; have l0 := K.out.ltp 0 rfl; have a1 := K.out.rd 1 rfl; have l1 := K.out.ltp 1 rfl))
                    go_roundg gk2'
                    case measure => omega
                    case rel => exact ⟨2, _, by have := HK.out; omega, by simp, (fun _ => H1.out (by omega)), (fun _ => HCK.out), HSP.out.congr (fun t => by simp), K.out.drop⟩
                · have d1 : decide (2 < 2) = false := rfl
                  clear hk
                  have E4 := Lib.hid (show okD pre d = true from by rw [okD_eq, EH.out, OW.out, H1.out (by omega), H2.out (by omega)]; rfl)
                  have HSE := Lib.hid hSE
                  clear hSE
                  go_wp2
                  go_roundg gk'
                  case measure => omega
                  case rel => exact ⟨n + 1, _, _, by have := HN.out; omega, by simp, by rw [E1.out, lastFrom_snoc], by rw [E2.out, E4.out, E1.out]; rfl, by rw [E1.out]; exact HSE.out.congr (fun t => by rw [inT_snoc]; simp [Bool.or_assoc]), by rw [E1.out]; exact HL.out.put d, (((K.out.drop.drop.drop.mapV_mono (by omega)).swap).mapV_mono (by omega)).swap⟩
            | false =>
              rw [hbf] at BF
              have E3 := Lib.hid (show rightM [] l = false from by
                rw [E2.out]; have : okD pre d = false := by unfold okD okOwn; rw [HO.out]; dsimp only; rw [← over_before, hbf]; simp
                rw [this]; rfl)
              clear hbf
              go_wp2_with (first | (go_at_call 68; (with_reducible refine ((CR _).out).mono ?_); rintro e w1 ⟨rfl, hb⟩; have K1 := sat.grown (by repeat (with_reducible first | exact K.out | apply sat.alloc_any | apply sat.drew | apply sat.drewN)) hb; clear hb; have K2 := Lib.hid K1; clear K1 K; (try clear a0); (try clear l0); (try clear a1); (try clear l1); (try clear a2); (try clear l2); have K := K2; clear K2; have a0 := K.out.rd 0 rfl; have l0 := K.out.ltp 0 rfl) | ((with_reducible refine at_lookup' ?_); refine st_lookV 1 K.out rfl keyedJ Tryz.underlying143 zeroD rfl rfl rfl KW.out HFL.out HFB0.out ?_) | (have _hp := gw; ((with_reducible refine at_store ?_); refine st_store 0 K.out rfl rfl rfl rfl ?_ ?_ ?_ ?_; (· kernel_rfl); (· simp); (· simp [Value.oneCell']); intro w1 K1; simp only [List.set, putL] at K1; have K2 := Lib.hid K1; clear K1 K; (try clear a0); (try clear l0); (try clear a1); (try clear l1); (try clear a2); (try clear l2); have K := K2; clear K2; have a0 := K.out.rd 0 rfl; have l0 := K.out.ltp 0 rfl; have a1 := K.out.rd 1 rfl; have l1 := K.out.ltp 1 rfl)) | (have _hp := gw; (go_at_call 81; (with_reducible refine ((BF _).out).mono ?_); rintro e w1 ⟨rfl, hb⟩; have K1 := sat.grown (by repeat (with_reducible first | exact K.out | apply sat.alloc_any | apply sat.drew | apply sat.drewN)) hb; clear hb; have K2 := Lib.hid K1; clear K1 K; (try clear a0); (try clear l0); (try clear a1); (try clear l1); (try clear a2); (try clear l2); have K := K2; clear K2; have a0 := K.out.rd 0 rfl; have l0 := K.out.ltp 0 rfl; have a1 := K.out.rd 1 rfl; have l1 := K.out.ltp 1 rfl)) | (have _hp := gw; ((with_reducible refine at_put' ?_); refine st_putV 2 K.out rfl keyedJ Tryz.underlying143 (by unfold maxLen; omega) rfl rfl KW.out rfl (okDeed d) ?_; intro w1 K1; simp only [List.set] at K1; have K2 := Lib.hid K1; clear K1 K; (try clear a0); (try clear l0); (try clear a1); (try clear l1); (try clear a2); (try clear l2); have K := K2; clear K2; have a0 := K.out.rd 0 rfl; have l0 := K.out.ltp 0 rfl; have a1 := K.out.rd 1 rfl; have l1 := K.out.ltp 1 rfl)) | (have _hp := gd; ((with_reducible refine at_alloc ?_); refine st_allocf K.out (fun _ => rfl) ?_; intro gw w1 K1; have K2 := Lib.hid K1; clear K1 K; (try clear a0); (try clear l0); (try clear a1); (try clear l1); (try clear a2); (try clear l2); have K := K2; clear K2; have a0 := K.out.rd 0 rfl; have l0 := K.out.ltp 0 rfl; have a1 := K.out.rd 1 rfl; have l1 := K.out.ltp 1 rfl)) | ((with_reducible refine at_alloc ?_); refine st_allocf K.out (fun _ => rfl) ?_; intro gd w1 K1; have K2 := Lib.hid K1; clear K1 K; (try clear a0); (try clear l0); (try clear a1); (try clear l1); (try clear a2); (try clear l2); have K := K2; clear K2; have a0 := K.out.rd 0 rfl; have l0 := K.out.ltp 0 rfl) | ((with_reducible refine at_store ?_); refine st_store 0 K.out rfl rfl rfl rfl ?_ ?_ ?_ ?_; (· kernel_rfl); (· simp); (· simp [Value.oneCell']); intro w1 K1; simp only [List.set, putL] at K1; have K2 := Lib.hid K1; clear K1 K; (try clear a0); (try clear l0); (try clear a1); (try clear l1); (try clear a2); (try clear l2); have K := K2; clear K2; have a0 := K.out.rd 0 rfl; have l0 := K.out.ltp 0 rfl))
              go_ret
              exact ⟨ret_b E3.out.symm, K.out.below⟩
        · have t2 : decide (d.stop ≥ 0) = true := by simpa using q5
          have t3 : decide (d.stop ≤ d.start) = false := by simp; omega
          clear q1 q2
          cases ho : lastOf pre d.who with
          | none =>
            rw [ho] at hfl
            have HFL := Lib.hid (show (fl (.int .i64 d.who)).getD deedZ = deedZ from by rw [hfl]; rfl)
            have HFB0 := Lib.hid (show (fl (.int .i64 d.who)).isSome = false from by rw [hfl]; rfl)
            have HO := Lib.hid ho
            clear hfl ho
            go_upto_region 14 with (first | (go_at_call 68; (with_reducible refine ((CR _).out).mono ?_); rintro e w1 ⟨rfl, hb⟩; have K1 := sat.grown (by repeat (with_reducible first | exact K.out | apply sat.alloc_any | apply sat.drew | apply sat.drewN)) hb; clear hb; have K2 := Lib.hid K1; clear K1 K; (try clear a0); (try clear l0); (try clear a1); (try clear l1); (try clear a2); (try clear l2); have K := K2; clear K2; have a0 := K.out.rd 0 rfl; have l0 := K.out.ltp 0 rfl) | ((with_reducible refine at_lookup' ?_); refine st_lookV 1 K.out rfl keyedJ Tryz.underlying143 zeroD rfl rfl rfl KW.out HFL.out HFB0.out ?_) | (have _hp := gw; ((with_reducible refine at_store ?_); refine st_store 0 K.out rfl rfl rfl rfl ?_ ?_ ?_ ?_; (· kernel_rfl); (· simp); (· simp [Value.oneCell']); intro w1 K1; simp only [List.set, putL] at K1; have K2 := Lib.hid K1; clear K1 K; (try clear a0); (try clear l0); (try clear a1); (try clear l1); (try clear a2); (try clear l2); have K := K2; clear K2; have a0 := K.out.rd 0 rfl; have l0 := K.out.ltp 0 rfl; have a1 := K.out.rd 1 rfl; have l1 := K.out.ltp 1 rfl)) | (have _hp := gw; (go_at_call 81; (with_reducible refine ((BF _).out).mono ?_); rintro e w1 ⟨rfl, hb⟩; have K1 := sat.grown (by repeat (with_reducible first | exact K.out | apply sat.alloc_any | apply sat.drew | apply sat.drewN)) hb; clear hb; have K2 := Lib.hid K1; clear K1 K; (try clear a0); (try clear l0); (try clear a1); (try clear l1); (try clear a2); (try clear l2); have K := K2; clear K2; have a0 := K.out.rd 0 rfl; have l0 := K.out.ltp 0 rfl; have a1 := K.out.rd 1 rfl; have l1 := K.out.ltp 1 rfl)) | (have _hp := gw; ((with_reducible refine at_put' ?_); refine st_putV 2 K.out rfl keyedJ Tryz.underlying143 (by unfold maxLen; omega) rfl rfl KW.out rfl (okDeed d) ?_; intro w1 K1; simp only [List.set] at K1; have K2 := Lib.hid K1; clear K1 K; (try clear a0); (try clear l0); (try clear a1); (try clear l1); (try clear a2); (try clear l2); have K := K2; clear K2; have a0 := K.out.rd 0 rfl; have l0 := K.out.ltp 0 rfl; have a1 := K.out.rd 1 rfl; have l1 := K.out.ltp 1 rfl)) | (have _hp := gd; ((with_reducible refine at_alloc ?_); refine st_allocf K.out (fun _ => rfl) ?_; intro gw w1 K1; have K2 := Lib.hid K1; clear K1 K; (try clear a0); (try clear l0); (try clear a1); (try clear l1); (try clear a2); (try clear l2); have K := K2; clear K2; have a0 := K.out.rd 0 rfl; have l0 := K.out.ltp 0 rfl; have a1 := K.out.rd 1 rfl; have l1 := K.out.ltp 1 rfl)) | ((with_reducible refine at_alloc ?_); refine st_allocf K.out (fun _ => rfl) ?_; intro gd w1 K1; have K2 := Lib.hid K1; clear K1 K; (try clear a0); (try clear l0); (try clear a1); (try clear l1); (try clear a2); (try clear l2); have K := K2; clear K2; have a0 := K.out.rd 0 rfl; have l0 := K.out.ltp 0 rfl) | ((with_reducible refine at_store ?_); refine st_store 0 K.out rfl rfl rfl rfl ?_ ?_ ?_ ?_; (· kernel_rfl); (· simp); (· simp [Value.oneCell']); intro w1 K1; simp only [List.set, putL] at K1; have K2 := Lib.hid K1; clear K1 K; (try clear a0); (try clear l0); (try clear a1); (try clear l1); (try clear a2); (try clear l2); have K := K2; clear K2; have a0 := K.out.rd 0 rfl; have l0 := K.out.ltp 0 rfl))
            go_wp2_with fail
            have K1 := K.out.alloc (.cells #[.int .i64 d.start, .int .i64 d.stop] 3)
            obtain ⟨gt, hgt⟩ : ∃ g, g = w1.heap.size := ⟨_, rfl⟩
            rw [← hgt] at K1 ⊢
            clear K a0 l0 a1 l1 hgt
            have K := Lib.hid K1
            clear K1
            have OW := Lib.hid (show okOwn pre d = true from by unfold okOwn; rw [HO.out])
            go_loopg [70] 2 (fun gk i w' => ∃ (k : Nat) (fs2 : Lit → Option Value), k + gk = 2 ∧ i = .int .i64 k ∧ (1 ≤ k → okT pre d.start = true) ∧ (2 ≤ k → okS pre d = true) ∧ Seen fs2 (fun t => inT pre t || (decide (1 ≤ k) && d.start == t) || (decide (2 ≤ k) && d.stop == t)) ∧ sat w w' [pt gt (.cells #[.int .i64 d.start, .int .i64 d.stop] 3 (0, 0)), pt gw (.cells #[.int .i64 0, .int .i64 0, .int .i64 0, .int .u64 0, .int .i64 0, .int .i64 0, .int .i64 0, .bool false, .int .u64 0, .int .i64 0, .int .i64 0] 47 (0, 0)), deedA gd d, timeA gl (2 * n + 1) (updV fl (.int .i64 d.who) (deedV d)), timeA gs (2 * n + k) fs2])
            case atStart => exact ⟨0, fs, by simp, rfl, fun h => by omega, fun h => by omega, HS.out.congr (fun t => by simp), K.out⟩
            case round =>
              obtain ⟨k, fs2, hk, rfl, h1, h2, hSE, hs⟩ := hrel
              clear K
              have K := Lib.hid hs
              clear hs
              have a0 := K.out.rd 0 rfl
              have l0 := K.out.ltp 0 rfl
              have HK := Lib.hid hk
              have hk3 : k = 0 ∨ k = 1 ∨ k = 2 := by omega
              have H1 := Lib.hid h1
              have H2 := Lib.hid h2
              clear h1 h2
              rcases hk3 with rfl | rfl | rfl
              · obtain ⟨gk2', rfl⟩ : ∃ g', gk = g' + 1 := ⟨gk - 1, by omega⟩
                clear hk
                have KX := Lib.hid (keyJ hwn.start)
                have hs1 : Seen fs2 (fun t => inT pre t) := hSE.congr (fun t => by simp)
                have HSP := Lib.hid (hs1.put d.start)
                clear hSE
                have z1 : wr.cell? ⟨gt, 0, none⟩ = some (.int .i64 d.start) := a0 0
                cases q7 : inT pre d.start with
                | true =>
                  have HFX := Lib.hid (hs1.hit (x := d.start) q7)
                  clear hs1
                  by_cases q8 : 0 ≤ d.start
                  · have t8 : decide (d.start ≥ 0) = true := by simpa using q8
                    have E3 := Lib.hid (show rightM [] l = false from by rw [E2.out, okD_eq, okT_bad q7 q8]; simp)
                    clear q7 q8
                    go_wp2_with (first | ((with_reducible refine at_lookup' ?_); refine st_lookV 4 K.out rfl keyedJ Tryz.underlying142 zeroUn rfl rfl rfl KX.out HFX.out.1 HFX.out.2 ?_) | (have _hp := gz; ((with_reducible refine at_put' ?_); refine st_putV 5 K.out rfl keyedJ Tryz.underlying142 (by unfold maxLen; omega) rfl rfl KX.out rfl rfl ?_; intro w1 K1; simp only [List.set] at K1; have K2 := Lib.hid K1; clear K1 K; (try clear a0); (try clear l0); (try clear a1); (try clear l1); (try clear a2); (try clear l2); have K := K2; clear K2; have a0 := K.out.rd 0 rfl; have l0 := K.out.ltp 0 rfl; have a1 := K.out.rd 1 rfl; have l1 := K.out.ltp 1 rfl)) | (have _hp := gz; ((with_reducible refine at_store ?_); refine st_store 0 K.out rfl rfl rfl rfl ?_ ?_ ?_ ?_; (· kernel_rfl); (· simp); (· simp [Value.oneCell']); intro w1 K1; simp only [List.set, putL] at K1; have K2 := Lib.hid K1; clear K1 K; (try clear a0); (try clear l0); (try clear a1); (try clear l1); (try clear a2); (try clear l2); have K := K2; clear K2; have a0 := K.out.rd 0 rfl; have l0 := K.out.ltp 0 rfl; have a1 := K.out.rd 1 rfl; have l1 := K.out.ltp 1 rfl)) | ((with_reducible refine at_alloc ?_); refine st_allocf K.out (fun _ => rfl) ?_; intro gz w1 K1; have K2 := Lib.hid K1; clear K1 K; (try clear a0); (try clear l0); (try clear a1); (try clear l1); (try clear a2); (try clear l2); have K := K2; clear K2; have a0 := K.out.rd 0 rfl; have l0 := K.out.ltp 0 rfl; have a1 := K.out.rd 1 rfl; have l1 := K.out.ltp 1 rfl))
                    go_ret
                    exact ⟨ret_b E3.out.symm, K.out.below⟩
                  · have t8 : decide (d.start ≥ 0) = false := by simpa using q8
                    have HCK := Lib.hid (show okT pre d.start = true from okT_neg q8)
                    clear q7 q8
                    go_wp2_with (first | ((with_reducible refine at_lookup' ?_); refine st_lookV 4 K.out rfl keyedJ Tryz.underlying142 zeroUn rfl rfl rfl KX.out HFX.out.1 HFX.out.2 ?_) | (have _hp := gz; ((with_reducible refine at_put' ?_); refine st_putV 5 K.out rfl keyedJ Tryz.underlying142 (by unfold maxLen; omega) rfl rfl KX.out rfl rfl ?_; intro w1 K1; simp only [List.set] at K1; have K2 := Lib.hid K1; clear K1 K; (try clear a0); (try clear l0); (try clear a1); (try clear l1); (try clear a2); (try clear l2); have K := K2; clear K2; have a0 := K.out.rd 0 rfl; have l0 := K.out.ltp 0 rfl; have a1 := K.out.rd 1 rfl; have l1 := K.out.ltp 1 rfl)) | (have _hp := gz; ((with_reducible refine at_store ?_); refine st_store 0 K.out rfl rfl rfl rfl ?_ ?_ ?_ ?_; (· kernel_rfl); (· simp); (· simp [Value.oneCell']); intro w1 K1; simp only [List.set, putL] at K1; have K2 := Lib.hid K1; clear K1 K; (try clear a0); (try clear l0); (try clear a1); (try clear l1); (try clear a2); (try clear l2); have K := K2; clear K2; have a0 := K.out.rd 0 rfl; have l0 := K.out.ltp 0 rfl; have a1 := K.out.rd 1 rfl; have l1 := K.out.ltp 1 rfl)) | ((with_reducible refine at_alloc ?_); refine st_allocf K.out (fun _ => rfl) ?_; intro gz w1 K1; have K2 := Lib.hid K1; clear K1 K; (try clear a0); (try clear l0); (try clear a1); (try clear l1); (try clear a2); (try clear l2); have K := K2; clear K2; have a0 := K.out.rd 0 rfl; have l0 := K.out.ltp 0 rfl; have a1 := K.out.rd 1 rfl; have l1 := K.out.ltp 1 rfl))
                    go_roundg gk2'
                    case measure => omega
                    case rel => exact ⟨1, _, by have := HK.out; omega, by simp, (fun _ => HCK.out), (fun h => by omega), HSP.out.congr (fun t => by simp), K.out.drop⟩
                | false =>
                  have HFX := Lib.hid (hs1.miss (x := d.start) q7)
                  have HCK := Lib.hid (show okT pre d.start = true from okT_not q7)
                  clear hs1
                  by_cases q8 : 0 ≤ d.start
                  · have t8 : decide (d.start ≥ 0) = true := by simpa using q8
                    clear q7 q8
                    go_wp2_with (first | ((with_reducible refine at_lookup' ?_); refine st_lookV 4 K.out rfl keyedJ Tryz.underlying142 zeroUn rfl rfl rfl KX.out HFX.out.1 HFX.out.2 ?_) | (have _hp := gz; ((with_reducible refine at_put' ?_); refine st_putV 5 K.out rfl keyedJ Tryz.underlying142 (by unfold maxLen; omega) rfl rfl KX.out rfl rfl ?_; intro w1 K1; simp only [List.set] at K1; have K2 := Lib.hid K1; clear K1 K; (try clear a0); (try clear l0); (try clear a1); (try clear l1); (try clear a2); (try clear l2); have K := K2; clear K2; have a0 := K.out.rd 0 rfl; have l0 := K.out.ltp 0 rfl; have a1 := K.out.rd 1 rfl; have l1 := K.out.ltp 1 rfl)) | (have _hp := gz; ((with_reducible refine at_store ?_); refine st_store 0 K.out rfl rfl rfl rfl ?_ ?_ ?_ ?_; (· kernel_rfl); (· simp); (· simp [Value.oneCell']); intro w1 K1; simp only [List.set, putL] at K1; have K2 := Lib.hid K1; clear K1 K; (try clear a0); (try clear l0); (try clear a1); (try clear l1); (try clear a2); (try clear l2); have K := K2; clear K2; have a0 := K.out.rd 0 rfl; have l0 := K.out.ltp 0 rfl; have a1 := K.out.rd 1 rfl; have l1 := K.out.ltp 1 rfl)) | ((with_reducible refine at_alloc ?_); refine st_allocf K.out (fun _ => rfl) ?_; intro gz w1 K1; have K2 := Lib.hid K1; clear K1 K; (try clear a0); (try clear l0); (try clear a1); (try clear l1); (try clear a2); (try clear l2); have K := K2; clear K2; have a0 := K.out.rd 0 rfl; have l0 := K.out.ltp 0 rfl; have a1 := K.out.rd 1 rfl; have l1 := K.out.ltp 1 rfl))
                    go_roundg gk2'
                    case measure => omega
                    case rel => exact ⟨1, _, by have := HK.out; omega, by simp, (fun _ => HCK.out), (fun h => by omega), HSP.out.congr (fun t => by simp), K.out.drop⟩
                  · have t8 : decide (d.start ≥ 0) = false := by simpa using q8
                    clear q7 q8
                    go_wp2_with (first | ((with_reducible refine at_lookup' ?_); refine st_lookV 4 K.out rfl keyedJ Tryz.underlying142 zeroUn rfl rfl rfl KX.out HFX.out.1 HFX.out.2 ?_) | (have _hp := gz; ((with_reducible refine at_put' ?_); refine st_putV 5 K.out rfl keyedJ Tryz.underlying142 (by unfold maxLen; omega) rfl rfl KX.out rfl rfl ?_; intro w1 K1; simp only [List.set] at K1; have K2 := Lib.hid K1; clear K1 K; (try clear a0); (try clear l0); (try clear a1); (try clear l1); (try clear a2); (try clear l2); have K := K2; clear K2; have a0 := K.out.rd 0 rfl; have l0 := K.out.ltp 0 rfl; have a1 := K.out.rd 1 rfl; have l1 := K.out.ltp 1 rfl)) | (have _hp := gz; ((with_reducible refine at_store ?_); refine st_store 0 K.out rfl rfl rfl rfl ?_ ?_ ?_ ?_; (· kernel_rfl); (· simp); (· simp [Value.oneCell']); intro w1 K1; simp only [List.set, putL] at K1; have K2 := Lib.hid K1; clear K1 K; (try clear a0); (try clear l0); (try clear a1); (try clear l1); (try clear a2); (try clear l2); have K := K2; clear K2; have a0 := K.out.rd 0 rfl; have l0 := K.out.ltp 0 rfl; have a1 := K.out.rd 1 rfl; have l1 := K.out.ltp 1 rfl)) | ((with_reducible refine at_alloc ?_); refine st_allocf K.out (fun _ => rfl) ?_; intro gz w1 K1; have K2 := Lib.hid K1; clear K1 K; (try clear a0); (try clear l0); (try clear a1); (try clear l1); (try clear a2); (try clear l2); have K := K2; clear K2; have a0 := K.out.rd 0 rfl; have l0 := K.out.ltp 0 rfl; have a1 := K.out.rd 1 rfl; have l1 := K.out.ltp 1 rfl))
                    go_roundg gk2'
                    case measure => omega
                    case rel => exact ⟨1, _, by have := HK.out; omega, by simp, (fun _ => HCK.out), (fun h => by omega), HSP.out.congr (fun t => by simp), K.out.drop⟩
              · obtain ⟨gk2', rfl⟩ : ∃ g', gk = g' + 1 := ⟨gk - 1, by omega⟩
                clear hk
                have KX := Lib.hid (keyJ hwn.stop)
                have hs1 : Seen fs2 (fun t => inT pre t || d.start == t) := hSE.congr (fun t => by simp)
                have HSP := Lib.hid (hs1.put d.stop)
                clear hSE
                have z1 : wr.cell? ⟨gt, 1, none⟩ = some (.int .i64 d.stop) := a0 1
                cases q7 : (inT pre d.stop || d.start == d.stop) with
                | true =>
                  have HFX := Lib.hid (hs1.hit (x := d.stop) q7)
                  clear hs1
                  have q8 : 0 ≤ d.stop := q5
                  have t8 : decide (d.stop ≥ 0) = true := by simpa using q8
                  have E3 := Lib.hid (show rightM [] l = false from by rw [E2.out, okD_eq, okS_bad q7 q8]; simp)
                  clear q7 q8
                  go_wp2_with (first | ((with_reducible refine at_lookup' ?_); refine st_lookV 4 K.out rfl keyedJ Tryz.underlying142 zeroUn rfl rfl rfl KX.out HFX.out.1 HFX.out.2 ?_) | (have _hp := gz; ((with_reducible refine at_put' ?_); refine st_putV 5 K.out rfl keyedJ Tryz.underlying142 (by unfold maxLen; omega) rfl rfl KX.out rfl rfl ?_; intro w1 K1; simp only [List.set] at K1; have K2 := Lib.hid K1; clear K1 K; (try clear a0); (try clear l0); (try clear a1); (try clear l1); (try clear a2); (try clear l2); have K := K2; clear K2; have a0 := K.out.rd 0 rfl; have l0 := K.out.ltp 0 rfl; have a1 := K.out.rd 1 rfl; have l1 := K.out.ltp 1 rfl)) | (have _hp := gz; ((with_reducible refine at_store ?_); refine st_store 0 K.out rfl rfl rfl rfl ?_ ?_ ?_ ?_; (· kernel_rfl); (· simp); (· simp [Value.oneCell']); intro w1 K1; simp only [List.set, putL] at K1; have K2 := Lib.hid K1; clear K1 K; (try clear a0); (try clear l0); (try clear a1); (try clear l1); (try clear a2); (try clear l2); have K := K2; clear K2; have a0 := K.out.rd 0 rfl; have l0 := K.out.ltp 0 rfl; have a1 := K.out.rd 1 rfl; have l1 := K.out.ltp 1 rfl)) | ((with_reducible refine at_alloc ?_); refine st_allocf K.out (fun _ => rfl) ?_; intro gz w1 K1; have K2 := Lib.hid K1; clear K1 K; (try clear a0); (try clear l0); (try clear a1); (try clear l1); (try clear a2); (try clear l2); have K := K2; clear K2; have a0 := K.out.rd 0 rfl; have l0 := K.out.ltp 0 rfl; have a1 := K.out.rd 1 rfl; have l1 := K.out.ltp 1 rfl))
                  go_ret
                  exact ⟨ret_b E3.out.symm, K.out.below⟩
                | false =>
                  have HFX := Lib.hid (hs1.miss (x := d.stop) q7)
                  have HCK := Lib.hid (show okS pre d = true from okS_not q7)
                  clear hs1
                  have q8 : 0 ≤ d.stop := q5
                  have t8 : decide (d.stop ≥ 0) = true := by simpa using q8
                  clear q7 q8
                  go_wp2_with (first | ((with_reducible refine at_lookup' ?_); refine st_lookV 4 K.out rfl keyedJ Tryz.underlying142 zeroUn rfl rfl rfl KX.out HFX.out.1 HFX.out.2 ?_) | (have _hp := gz; ((with_reducible refine at_put' ?_); refine st_putV 5 K.out rfl keyedJ Tryz.underlying142 (by unfold maxLen; omega) rfl rfl KX.out rfl rfl ?_; intro w1 K1; simp only [List.set] at K1; have K2 := Lib.hid K1; clear K1 K; (try clear a0); (try clear l0); (try clear a1); (try clear l1); (try clear a2); (try clear l2); have K := K2; clear K2; have a0 := K.out.rd 0 rfl; have l0 := K.out.ltp 0 rfl; have a1 := K.out.rd 1 rfl; have l1 := K.out.ltp 1 rfl)) | (have _hp := gz; ((with_reducible refine at_store ?_); refine st_store 0 K.out rfl rfl rfl rfl ?_ ?_ ?_ ?_; (· kernel_rfl); (· simp); (· simp [Value.oneCell']); intro w1 K1; simp only [List.set, putL] at K1; have K2 := Lib.hid K1; clear K1 K; (try clear a0); (try clear l0); (try clear a1); (try clear l1); (try clear a2); (try clear l2); have K := K2; clear K2; have a0 := K.out.rd 0 rfl; have l0 := K.out.ltp 0 rfl; have a1 := K.out.rd 1 rfl; have l1 := K.out.ltp 1 rfl)) | ((with_reducible refine at_alloc ?_); refine st_allocf K.out (fun _ => rfl) ?_; intro gz w1 K1; have K2 := Lib.hid K1; clear K1 K; (try clear a0); (try clear l0); (try clear a1); (try clear l1); (try clear a2); (try clear l2); have K := K2; clear K2; have a0 := K.out.rd 0 rfl; have l0 := K.out.ltp 0 rfl; have a1 := K.out.rd 1 rfl; have l1 := K.out.ltp 1 rfl))
                  go_roundg gk2'
                  case measure => omega
                  case rel => exact ⟨2, _, by have := HK.out; omega, by simp, (fun _ => H1.out (by omega)), (fun _ => HCK.out), HSP.out.congr (fun t => by simp), K.out.drop⟩
              · have d1 : decide (2 < 2) = false := rfl
                clear hk
                have E4 := Lib.hid (show okD pre d = true from by rw [okD_eq, EH.out, OW.out, H1.out (by omega), H2.out (by omega)]; rfl)
                have HSE := Lib.hid hSE
                clear hSE
                go_wp2
                go_roundg gk'
                case measure => omega
                case rel => exact ⟨n + 1, _, _, by have := HN.out; omega, by simp, by rw [E1.out, lastFrom_snoc], by rw [E2.out, E4.out, E1.out]; rfl, by rw [E1.out]; exact HSE.out.congr (fun t => by rw [inT_snoc]; simp [Bool.or_assoc]), by rw [E1.out]; exact HL.out.put d, (((K.out.drop.drop.drop.mapV_mono (by omega)).swap).mapV_mono (by omega)).swap⟩
          | some o =>
            rw [ho] at hfl
            have HFL := Lib.hid (show (fl (.int .i64 d.who)).getD deedZ = deedV o from by rw [hfl]; rfl)
            have HFB0 := Lib.hid (show (fl (.int .i64 d.who)).isSome = true from by rw [hfl]; rfl)
            have HO := Lib.hid ho
            have BF := fun w' => Lib.hid (before_calls o d w')
            clear hfl ho
            cases hbf : beforeD o d with
            | true =>
              rw [hbf] at BF
              have HBF := Lib.hid hbf
              clear hbf
              go_upto_region 14 with (first | (go_at_call 68; (with_reducible refine ((CR _).out).mono ?_); rintro e w1 ⟨rfl, hb⟩; have K1 := sat.grown (by repeat (with_reducible first | exact K.out | apply sat.alloc_any | apply sat.drew | apply sat.drewN)) hb; clear hb; have K2 := Lib.hid K1; clear K1 K; (try clear a0); (try clear l0); (try clear a1); (try clear l1); (try clear a2); (try clear l2); have K := K2; clear K2; have a0 := K.out.rd 0 rfl; have l0 := K.out.ltp 0 rfl) | ((with_reducible refine at_lookup' ?_); refine st_lookV 1 K.out rfl keyedJ Tryz.underlying143 zeroD rfl rfl rfl KW.out HFL.out HFB0.out ?_) | (have _hp := gw; ((with_reducible refine at_store ?_); refine st_store 0 K.out rfl rfl rfl rfl ?_ ?_ ?_ ?_; (· kernel_rfl); (· simp); (· simp [Value.oneCell']); intro w1 K1; simp only [List.set, putL] at K1; have K2 := Lib.hid K1; clear K1 K; (try clear a0); (try clear l0); (try clear a1); (try clear l1); (try clear a2); (try clear l2); have K := K2; clear K2; have a0 := K.out.rd 0 rfl; have l0 := K.out.ltp 0 rfl; have a1 := K.out.rd 1 rfl; have l1 := K.out.ltp 1 rfl)) | (have _hp := gw; (go_at_call 81; (with_reducible refine ((BF _).out).mono ?_); rintro e w1 ⟨rfl, hb⟩; have K1 := sat.grown (by repeat (with_reducible first | exact K.out | apply sat.alloc_any | apply sat.drew | apply sat.drewN)) hb; clear hb; have K2 := Lib.hid K1; clear K1 K; (try clear a0); (try clear l0); (try clear a1); (try clear l1); (try clear a2); (try clear l2); have K := K2; clear K2; have a0 := K.out.rd 0 rfl; have l0 := K.out.ltp 0 rfl; have a1 := K.out.rd 1 rfl; have l1 := K.out.ltp 1 rfl)) | (have _hp := gw; ((with_reducible refine at_put' ?_); refine st_putV 2 K.out rfl keyedJ Tryz.underlying143 (by unfold maxLen; omega) rfl rfl KW.out rfl (okDeed d) ?_; intro w1 K1; simp only [List.set] at K1; have K2 := Lib.hid K1; clear K1 K; (try clear a0); (try clear l0); (try clear a1); (try clear l1); (try clear a2); (try clear l2); have K := K2; clear K2; have a0 := K.out.rd 0 rfl; have l0 := K.out.ltp 0 rfl; have a1 := K.out.rd 1 rfl; have l1 := K.out.ltp 1 rfl)) | (have _hp := gd; ((with_reducible refine at_alloc ?_); refine st_allocf K.out (fun _ => rfl) ?_; intro gw w1 K1; have K2 := Lib.hid K1; clear K1 K; (try clear a0); (try clear l0); (try clear a1); (try clear l1); (try clear a2); (try clear l2); have K := K2; clear K2; have a0 := K.out.rd 0 rfl; have l0 := K.out.ltp 0 rfl; have a1 := K.out.rd 1 rfl; have l1 := K.out.ltp 1 rfl)) | ((with_reducible refine at_alloc ?_); refine st_allocf K.out (fun _ => rfl) ?_; intro gd w1 K1; have K2 := Lib.hid K1; clear K1 K; (try clear a0); (try clear l0); (try clear a1); (try clear l1); (try clear a2); (try clear l2); have K := K2; clear K2; have a0 := K.out.rd 0 rfl; have l0 := K.out.ltp 0 rfl) | ((with_reducible refine at_store ?_); refine st_store 0 K.out rfl rfl rfl rfl ?_ ?_ ?_ ?_; (· kernel_rfl); (· simp); (· simp [Value.oneCell']); intro w1 K1; simp only [List.set, putL] at K1; have K2 := Lib.hid K1; clear K1 K; (try clear a0); (try clear l0); (try clear a1); (try clear l1); (try clear a2); (try clear l2); have K := K2; clear K2; have a0 := K.out.rd 0 rfl; have l0 := K.out.ltp 0 rfl))
              go_wp2_with fail
              have K1 := K.out.alloc (.cells #[.int .i64 d.start, .int .i64 d.stop] 3)
              obtain ⟨gt, hgt⟩ : ∃ g, g = w1.heap.size := ⟨_, rfl⟩
              rw [← hgt] at K1 ⊢
              clear K a0 l0 a1 l1 hgt
              have K := Lib.hid K1
              clear K1
              have OW := Lib.hid (show okOwn pre d = true from by unfold okOwn; rw [HO.out]; exact HBF.out)
              go_loopg [70] 2 (fun gk i w' => ∃ (k : Nat) (fs2 : Lit → Option Value), k + gk = 2 ∧ i = .int .i64 k ∧ (1 ≤ k → okT pre d.start = true) ∧ (2 ≤ k → okS pre d = true) ∧ Seen fs2 (fun t => inT pre t || (decide (1 ≤ k) && d.start == t) || (decide (2 ≤ k) && d.stop == t)) ∧ sat w w' [pt gt (.cells #[.int .i64 d.start, .int .i64 d.stop] 3 (0, 0)), deedA gw o, deedA gd d, timeA gl (2 * n + 1) (updV fl (.int .i64 d.who) (deedV d)), timeA gs (2 * n + k) fs2])
              case atStart => exact ⟨0, fs, by simp, rfl, fun h => by omega, fun h => by omega, HS.out.congr (fun t => by simp), K.out⟩
              case round =>
                obtain ⟨k, fs2, hk, rfl, h1, h2, hSE, hs⟩ := hrel
                clear K
                have K := Lib.hid hs
                clear hs
                have a0 := K.out.rd 0 rfl
                have l0 := K.out.ltp 0 rfl
                have HK := Lib.hid hk
                have hk3 : k = 0 ∨ k = 1 ∨ k = 2 := by omega
                have H1 := Lib.hid h1
                have H2 := Lib.hid h2
                clear h1 h2
                rcases hk3 with rfl | rfl | rfl
                · obtain ⟨gk2', rfl⟩ : ∃ g', gk = g' + 1 := ⟨gk - 1, by omega⟩
                  clear hk
                  have KX := Lib.hid (keyJ hwn.start)
                  have hs1 : Seen fs2 (fun t => inT pre t) := hSE.congr (fun t => by simp)
                  have HSP := Lib.hid (hs1.put d.start)
                  clear hSE
                  have z1 : wr.cell? ⟨gt, 0, none⟩ = some (.int .i64 d.start) := a0 0
                  cases q7 : inT pre d.start with
                  | true =>
                    have HFX := Lib.hid (hs1.hit (x := d.start) q7)
                    clear hs1
                    by_cases q8 : 0 ≤ d.start
                    · have t8 : decide (d.start ≥ 0) = true := by simpa using q8
                      have E3 := Lib.hid (show rightM [] l = false from by rw [E2.out, okD_eq, okT_bad q7 q8]; simp)
                      clear q7 q8
                      go_wp2_with (first | ((with_reducible refine at_lookup' ?_); refine st_lookV 4 K.out rfl keyedJ Tryz.underlying142 zeroUn rfl rfl rfl KX.out HFX.out.1 HFX.out.2 ?_) | (have _hp := gz; ((with_reducible refine at_put' ?_); refine st_putV 5 K.out rfl keyedJ Tryz.underlying142 (by unfold maxLen; omega) rfl rfl KX.out rfl rfl ?_; intro w1 K1; simp only [List.set] at K1; have K2 := Lib.hid K1; clear K1 K; (try clear a0); (try clear l0); (try clear a1); (try clear l1); (try clear a2); (try clear l2); have K := K2; clear K2; have a0 := K.out.rd 0 rfl; have l0 := K.out.ltp 0 rfl; have a1 := K.out.rd 1 rfl; have l1 := K.out.ltp 1 rfl)) | (have _hp := gz; ((with_reducible refine at_store ?_); refine st_store 0 K.out rfl rfl rfl rfl ?_ ?_ ?_ ?_; (· kernel_rfl); (· simp); (· simp [Value.oneCell']); intro w1 K1; simp only [List.set, putL] at K1; have K2 := Lib.hid K1; clear K1 K; (try clear a0); (try clear l0); (try clear a1); (try clear l1); (try clear a2); (try clear l2); have K := K2; clear K2; have a0 := K.out.rd 0 rfl; have l0 := K.out.ltp 0 rfl; have a1 := K.out.rd 1 rfl; have l1 := K.out.ltp 1 rfl)) | ((with_reducible refine at_alloc ?_); refine st_allocf K.out (fun _ => rfl) ?_; intro gz w1 K1; have K2 := Lib.hid K1; clear K1 K; (try clear a0); (try clear l0); (try clear a1); (try clear l1); (try clear a2); (try clear l2); have K := K2; clear K2; have a0 := K.out.rd 0 rfl; have l0 := K.out.ltp 0 rfl; have a1 := K.out.rd 1 rfl; have l1 := K.out.ltp 1 rfl))
                      go_ret
                      exact ⟨ret_b E3.out.symm, K.out.below⟩
                    · have t8 : decide (d.start ≥ 0) = false := by simpa using q8
                      have HCK := Lib.hid (show okT pre d.start = true from okT_neg q8)
                      clear q7 q8
                      go_wp2_with (first | ((with_reducible refine at_lookup' ?_); refine st_lookV 4 K.out rfl keyedJ Tryz.underlying142 zeroUn rfl rfl rfl KX.out HFX.out.1 HFX.out.2 ?_) | (have _hp := gz; ((with_reducible refine at_put' ?_); refine st_putV 5 K.out rfl keyedJ Tryz.underlying142 (by unfold maxLen; omega) rfl rfl KX.out rfl rfl ?_; intro w1 K1; simp only [List.set] at K1; have K2 := Lib.hid K1; clear K1 K; (try clear a0); (try clear l0); (try clear a1); (try clear l1); (try clear a2); (try clear l2); have K := K2; clear K2; have a0 := K.out.rd 0 rfl; have l0 := K.out.ltp 0 rfl; have a1 := K.out.rd 1 rfl; have l1 := K.out.ltp 1 rfl)) | (have _hp := gz; ((with_reducible refine at_store ?_); refine st_store 0 K.out rfl rfl rfl rfl ?_ ?_ ?_ ?_; (· kernel_rfl); (· simp); (· simp [Value.oneCell']); intro w1 K1; simp only [List.set, putL] at K1; have K2 := Lib.hid K1; clear K1 K; (try clear a0); (try clear l0); (try clear a1); (try clear l1); (try clear a2); (try clear l2); have K := K2; clear K2; have a0 := K.out.rd 0 rfl; have l0 := K.out.ltp 0 rfl; have a1 := K.out.rd 1 rfl; have l1 := K.out.ltp 1 rfl)) | ((with_reducible refine at_alloc ?_); refine st_allocf K.out (fun _ => rfl) ?_; intro gz w1 K1; have K2 := Lib.hid K1; clear K1 K; (try clear a0); (try clear l0); (try clear a1); (try clear l1); (try clear a2); (try clear l2); have K := K2; clear K2; have a0 := K.out.rd 0 rfl; have l0 := K.out.ltp 0 rfl; have a1 := K.out.rd 1 rfl; have l1 := K.out.ltp 1 rfl))
                      go_roundg gk2'
                      case measure => omega
                      case rel => exact ⟨1, _, by have := HK.out; omega, by simp, (fun _ => HCK.out), (fun h => by omega), HSP.out.congr (fun t => by simp), K.out.drop⟩
                  | false =>
                    have HFX := Lib.hid (hs1.miss (x := d.start) q7)
                    have HCK := Lib.hid (show okT pre d.start = true from okT_not q7)
                    clear hs1
                    by_cases q8 : 0 ≤ d.start
                    · have t8 : decide (d.start ≥ 0) = true := by simpa using q8
                      clear q7 q8
                      go_wp2_with (first | ((with_reducible refine at_lookup' ?_); refine st_lookV 4 K.out rfl keyedJ Tryz.underlying142 zeroUn rfl rfl rfl KX.out HFX.out.1 HFX.out.2 ?_) | (have _hp := gz; ((with_reducible refine at_put' ?_); refine st_putV 5 K.out rfl keyedJ Tryz.underlying142 (by unfold maxLen; omega) rfl rfl KX.out rfl rfl ?_; intro w1 K1; simp only [List.set] at K1; have K2 := Lib.hid K1; clear K1 K; (try clear a0); (try clear l0); (try clear a1); (try clear l1); (try clear a2); (try clear l2); have K := K2; clear K2; have a0 := K.out.rd 0 rfl; have l0 := K.out.ltp 0 rfl; have a1 := K.out.rd 1 rfl; have l1 := K.out.ltp 1 rfl)) | (have _hp := gz; ((with_reducible refine at_store ?_); refine st_store 0 K.out rfl rfl rfl rfl ?_ ?_ ?_ ?_; (· kernel_rfl); (· simp); (· simp [Value.oneCell']); intro w1 K1; simp only [List.set, putL] at K1; have K2 := Lib.hid K1; clear K1 K; (try clear a0); (try clear l0); (try clear a1); (try clear l1); (try clear a2); (try clear l2); have K := K2; clear K2; have a0 := K.out.rd 0 rfl; have l0 := K.out.ltp 0 rfl; have a1 := K.out.rd 1 rfl; have l1 := K.out.ltp 1 rfl)) | ((with_reducible refine at_alloc ?_); refine st_allocf K.out (fun _ => rfl) ?_; intro gz w1 K1; have K2 := Lib.hid K1; clear K1 K; (try clear a0); (try clear l0); (try clear a1); (try clear l1); (try clear a2); (try clear l2); have K := K2; clear K2; have a0 := K.out.rd 0 rfl; have l0 := K.out.ltp 0 rfl; have a1 := K.out.rd 1 rfl; have l1 := K.out.ltp 1 rfl))
                      go_roundg gk2'
                      case measure => omega
                      case rel => exact ⟨1, _, by have := HK.out; omega, by simp, (fun _ => HCK.out), (fun h => by omega), HSP.out.congr (fun t => by simp), K.out.drop⟩
                    · have t8 : decide (d.start ≥ 0) = false := by simpa using q8
                      clear q7 q8
                      go_wp2_with (first | ((with_reducible refine at_lookup' ?_); refine st_lookV 4 K.out rfl keyedJ Tryz.underlying142 zeroUn rfl rfl rfl KX.out HFX.out.1 HFX.out.2 ?_) | (have _hp := gz; ((with_reducible refine at_put' ?_); refine st_putV 5 K.out rfl keyedJ Tryz.underlying142 (by unfold maxLen; omega) rfl rfl KX.out rfl rfl ?_; intro w1 K1; simp only [List.set] at K1; have K2 := Lib.hid K1; clear K1 K; (try clear a0); (try clear l0); (try clear a1); (try clear l1); (try clear a2); (try clear l2); have K := K2; clear K2; have a0 := K.out.rd 0 rfl; have l0 := K.out.ltp 0 rfl; have a1 := K.out.rd 1 rfl; have l1 := K.out.ltp 1 rfl)) | (have _hp := gz; ((with_reducible refine at_store ?_); refine st_store 0 K.out rfl rfl rfl rfl ?_ ?_ ?_ ?_; (· kernel_rfl); (· simp); (· simp [Value.oneCell']); intro w1 K1; simp only [List.set, putL] at K1; have K2 := Lib.hid K1; clear K1 K; (try clear a0); (try clear l0); (try clear a1); (try clear l1); (try clear a2); (try clear l2); have K := K2; clear K2; have a0 := K.out.rd 0 rfl; have l0 := K.out.ltp 0 rfl; have a1 := K.out.rd 1 rfl; have l1 := K.out.ltp 1 rfl)) | ((with_reducible refine at_alloc ?_); refine st_allocf K.out (fun _ => rfl) ?_; intro gz w1 K1; have K2 := Lib.hid K1; clear K1 K; (try clear a0); (try clear l0); (try clear a1); (try clear l1); (try clear a2); (try clear l2); have K := K2; clear K2; have a0 := K.out.rd 0 rfl; have l0 := K.out.ltp 0 rfl; have a1 := K.out.rd 1 rfl; have l1 := K.out.ltp 1 rfl))
                      go_roundg gk2'
                      case measure => omega
                      case rel => exact ⟨1, _, by have := HK.out; omega, by simp, (fun _ => HCK.out), (fun h => by omega), HSP.out.congr (fun t => by simp), K.out.drop⟩
                · obtain ⟨gk2', rfl⟩ : ∃ g', gk = g' + 1 := ⟨gk - 1, by omega⟩
                  clear hk
                  have KX := Lib.hid (keyJ hwn.stop)
                  have hs1 : Seen fs2 (fun t => inT pre t || d.start == t) := hSE.congr (fun t => by simp)
                  have HSP := Lib.hid (hs1.put d.stop)
                  clear hSE
                  have z1 : wr.cell? ⟨gt, 1, none⟩ = some (.int .i64 d.stop) := a0 1
                  cases q7 : (inT pre d.stop || d.start == d.stop) with
                  | true =>
                    have HFX := Lib.hid (hs1.hit (x := d.stop) q7)
                    clear hs1
                    have q8 : 0 ≤ d.stop := q5
                    have t8 : decide (d.stop ≥ 0) = true := by simpa using q8
                    have E3 := Lib.hid (show rightM [] l = false from by rw [E2.out, okD_eq, okS_bad q7 q8]; simp)
                    clear q7 q8
                    go_wp2_with (first | ((with_reducible refine at_lookup' ?_); refine st_lookV 4 K.out rfl keyedJ Tryz.underlying142 zeroUn rfl rfl rfl KX.out HFX.out.1 HFX.out.2 ?_) | (have _hp := gz; ((with_reducible refine at_put' ?_); refine st_putV 5 K.out rfl keyedJ Tryz.underlying142 (by unfold maxLen; omega) rfl rfl KX.out rfl rfl ?_; intro w1 K1; simp only [List.set] at K1; have K2 := Lib.hid K1; clear K1 K; (try clear a0); (try clear l0); (try clear a1); (try clear l1); (try clear a2); (try clear l2); have K := K2; clear K2; have a0 := K.out.rd 0 rfl; have l0 := K.out.ltp 0 rfl; have a1 := K.out.rd 1 rfl; have l1 := K.out.ltp 1 rfl)) | (have _hp := gz; ((with_reducible refine at_store ?_); refine st_store 0 K.out rfl rfl rfl rfl ?_ ?_ ?_ ?_; (· kernel_rfl); (· simp); (· simp [Value.oneCell']); intro w1 K1; simp only [List.set, putL] at K1; have K2 := Lib.hid K1; clear K1 K; (try clear a0); (try clear l0); (try clear a1); (try clear l1); (try clear a2); (try clear l2); have K := K2; clear K2; have a0 := K.out.rd 0 rfl; have l0 := K.out.ltp 0 rfl; have a1 := K.out.rd 1 rfl; have l1 := K.out.ltp 1 rfl)) | ((with_reducible refine at_alloc ?_); refine st_allocf K.out (fun _ => rfl) ?_; intro gz w1 K1; have K2 := Lib.hid K1; clear K1 K; (try clear a0); (try clear l0); (try clear a1); (try clear l1); (try clear a2); (try clear l2); have K := K2; clear K2; have a0 := K.out.rd 0 rfl; have l0 := K.out.ltp 0 rfl; have a1 := K.out.rd 1 rfl; have l1 := K.out.ltp 1 rfl))
                    go_ret
                    exact ⟨ret_b E3.out.symm, K.out.below⟩
                  | false =>
                    have HFX := Lib.hid (hs1.miss (x := d.stop) q7)
                    have HCK := Lib.hid (show okS pre d = true from okS_not q7)
                    clear hs1
                    have q8 : 0 ≤ d.stop := q5
                    have t8 : decide (d.stop ≥ 0) = true := by simpa using q8
                    clear q7 q8
                    go_wp2_with (first | ((with_reducible refine at_lookup' ?_); refine st_lookV 4 K.out rfl keyedJ Tryz.underlying142 zeroUn rfl rfl rfl KX.out HFX.out.1 HFX.out.2 ?_) | (have _hp := gz; ((with_reducible refine at_put' ?_); refine st_putV 5 K.out rfl keyedJ Tryz.underlying142 (by unfold maxLen; omega) rfl rfl KX.out rfl rfl ?_; intro w1 K1; simp only [List.set] at K1; have K2 := Lib.hid K1; clear K1 K; (try clear a0); (try clear l0); (try clear a1); (try clear l1); (try clear a2); (try clear l2); have K := K2; clear K2; have a0 := K.out.rd 0 rfl; have l0 := K.out.ltp 0 rfl; have a1 := K.out.rd 1 rfl; have l1 := K.out.ltp 1 rfl)) | (have _hp := gz; ((with_reducible refine at_store ?_); refine st_store 0 K.out rfl rfl rfl rfl ?_ ?_ ?_ ?_; (· kernel_rfl); (· simp); (· simp [Value.oneCell']); intro w1 K1; simp only [List.set, putL] at K1; have K2 := Lib.hid K1; clear K1 K; (try clear a0); (try clear l0); (try clear a1); (try clear l1); (try clear a2); (try clear l2); have K := K2; clear K2; have a0 := K.out.rd 0 rfl; have l0 := K.out.ltp 0 rfl; have a1 := K.out.rd 1 rfl; have l1 := K.out.ltp 1 rfl)) | ((with_reducible refine at_alloc ?_); refine st_allocf K.out (fun _ => rfl) ?_; intro gz w1 K1; have K2 := Lib.hid K1; clear K1 K; (try clear a0); (try clear l0); (try clear a1); (try clear l1); (try clear a2); (try clear l2); have K := K2; clear K2; have a0 := K.out.rd 0 rfl; have l0 := K.out.ltp 0 rfl; have a1 := K.out.rd 1 rfl; have l1 := K.out.ltp 1 rfl))
                    go_roundg gk2'
                    case measure => omega
                    case rel => exact ⟨2, _, by have := HK.out; omega, by simp, (fun _ => H1.out (by omega)), (fun _ => HCK.out), HSP.out.congr (fun t => by simp), K.out.drop⟩
                · have d1 : decide (2 < 2) = false := rfl
                  clear hk
                  have E4 := Lib.hid (show okD pre d = true from by rw [okD_eq, EH.out, OW.out, H1.out (by omega), H2.out (by omega)]; rfl)
                  have HSE := Lib.hid hSE
                  clear hSE
                  go_wp2
                  go_roundg gk'
                  case measure => omega
                  case rel => exact ⟨n + 1, _, _, by have := HN.out; omega, by simp, by rw [E1.out, lastFrom_snoc], by rw [E2.out, E4.out, E1.out]; rfl, by rw [E1.out]; exact HSE.out.congr (fun t => by rw [inT_snoc]; simp [Bool.or_assoc]), by rw [E1.out]; exact HL.out.put d, (((K.out.drop.drop.drop.mapV_mono (by omega)).swap).mapV_mono (by omega)).swap⟩
            | false =>
              rw [hbf] at BF
              have E3 := Lib.hid (show rightM [] l = false from by
                rw [E2.out]; have : okD pre d = false := by unfold okD okOwn; rw [HO.out]; dsimp only; rw [← over_before, hbf]; simp
                rw [this]; rfl)
              clear hbf
              go_wp2_with (first | (go_at_call 68; (with_reducible refine ((CR _).out).mono ?_); rintro e w1 ⟨rfl, hb⟩; have K1 := sat.grown (by repeat (with_reducible first | exact K.out | apply sat.alloc_any | apply sat.drew | apply sat.drewN)) hb; clear hb; have K2 := Lib.hid K1; clear K1 K; (try clear a0); (try clear l0); (try clear a1); (try clear l1); (try clear a2); (try clear l2); have K := K2; clear K2; have a0 := K.out.rd 0 rfl; have l0 := K.out.ltp 0 rfl) | ((with_reducible refine at_lookup' ?_); refine st_lookV 1 K.out rfl keyedJ Tryz.underlying143 zeroD rfl rfl rfl KW.out HFL.out HFB0.out ?_) | (have _hp := gw; ((with_reducible refine at_store ?_); refine st_store 0 K.out rfl rfl rfl rfl ?_ ?_ ?_ ?_; (· kernel_rfl); (· simp); (· simp [Value.oneCell']); intro w1 K1; simp only [List.set, putL] at K1; have K2 := Lib.hid K1; clear K1 K; (try clear a0); (try clear l0); (try clear a1); (try clear l1); (try clear a2); (try clear l2); have K := K2; clear K2; have a0 := K.out.rd 0 rfl; have l0 := K.out.ltp 0 rfl; have a1 := K.out.rd 1 rfl; have l1 := K.out.ltp 1 rfl)) | (have _hp := gw; (go_at_call 81; (with_reducible refine ((BF _).out).mono ?_); rintro e w1 ⟨rfl, hb⟩; have K1 := sat.grown (by repeat (with_reducible first | exact K.out | apply sat.alloc_any | apply sat.drew | apply sat.drewN)) hb; clear hb; have K2 := Lib.hid K1; clear K1 K; (try clear a0); (try clear l0); (try clear a1); (try clear l1); (try clear a2); (try clear l2); have K := K2; clear K2; have a0 := K.out.rd 0 rfl; have l0 := K.out.ltp 0 rfl; have a1 := K.out.rd 1 rfl; have l1 := K.out.ltp 1 rfl)) | (have _hp := gw; ((with_reducible refine at_put' ?_); refine st_putV 2 K.out rfl keyedJ Tryz.underlying143 (by unfold maxLen; omega) rfl rfl KW.out rfl (okDeed d) ?_; intro w1 K1; simp only [List.set] at K1; have K2 := Lib.hid K1; clear K1 K; (try clear a0); (try clear l0); (try clear a1); (try clear l1); (try clear a2); (try clear l2); have K := K2; clear K2; have a0 := K.out.rd 0 rfl; have l0 := K.out.ltp 0 rfl; have a1 := K.out.rd 1 rfl; have l1 := K.out.ltp 1 rfl)) | (have _hp := gd; ((with_reducible refine at_alloc ?_); refine st_allocf K.out (fun _ => rfl) ?_; intro gw w1 K1; have K2 := Lib.hid K1; clear K1 K; (try clear a0); (try clear l0); (try clear a1); (try clear l1); (try clear a2); (try clear l2); have K := K2; clear K2; have a0 := K.out.rd 0 rfl; have l0 := K.out.ltp 0 rfl; have a1 := K.out.rd 1 rfl; have l1 := K.out.ltp 1 rfl)) | ((with_reducible refine at_alloc ?_); refine st_allocf K.out (fun _ => rfl) ?_; intro gd w1 K1; have K2 := Lib.hid K1; clear K1 K; (try clear a0); (try clear l0); (try clear a1); (try clear l1); (try clear a2); (try clear l2); have K := K2; clear K2; have a0 := K.out.rd 0 rfl; have l0 := K.out.ltp 0 rfl) | ((with_reducible refine at_store ?_); refine st_store 0 K.out rfl rfl rfl rfl ?_ ?_ ?_ ?_; (· kernel_rfl); (· simp); (· simp [Value.oneCell']); intro w1 K1; simp only [List.set, putL] at K1; have K2 := Lib.hid K1; clear K1 K; (try clear a0); (try clear l0); (try clear a1); (try clear l1); (try clear a2); (try clear l2); have K := K2; clear K2; have a0 := K.out.rd 0 rfl; have l0 := K.out.ltp 0 rfl))
              go_ret
              exact ⟨ret_b E3.out.symm, K.out.below⟩
    · have hnl : n = l.length := by omega
      subst hnl
      have d0 : decide (l.length < l.length) = false := by simp
      have E3 := Lib.hid (show rightM [] l = true from by rw [hr, List.drop_length]; rfl)
      clear hr hS hL
      go_wp2
      go_ret
      exact ⟨ret_b E3.out.symm, K.out.below⟩
end Go.Proofs.YtdjkblnocooldaaGreat
