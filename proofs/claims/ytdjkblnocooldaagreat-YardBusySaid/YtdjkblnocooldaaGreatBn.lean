/- Several texts in one: YardBz. Each says ahead of it what it shows. -/
import Derived.Test.YtdjkblnocooldaaGreatBc
/- From its call on until its reply a thread is busy (the plain law of YardBusy). -/
namespace Go.Proofs.YtdjkblnocooldaaGreat
set_option linter.unusedSimpArgs false
set_option linter.unusedVariables false
def openP (w : Int) (l : List DeedM) : Int := l.foldl (fun n d => if d.who = w ∧ d.stop < 0 then n + 1 else n) 0
def lastP (w : Int) (l : List DeedM) : Int := l.foldl (fun n d => if d.who = w then d.stop else n) (-1)
theorem openP_snoc (w : Int) (l : List DeedM) (d : DeedM) : openP w (l ++ [d]) = if d.who = w ∧ d.stop < 0 then openP w l + 1 else openP w l := by unfold openP; rw [List.foldl_append]; rfl
theorem lastP_snoc (w : Int) (l : List DeedM) (d : DeedM) : lastP w (l ++ [d]) = if d.who = w then d.stop else lastP w l := by unfold lastP; rw [List.foldl_append]; rfl
theorem openP_bd (w : Int) (l : List DeedM) : 0 ≤ openP w l ∧ openP w l ≤ l.length := by
  induction h : l.length generalizing l with
  | zero => have := List.eq_nil_of_length_eq_zero h; subst this; exact ⟨Int.le_refl _, Int.le_refl _⟩
  | succ n ih =>
    rcases List.eq_nil_or_concat l with rfl | ⟨k, d, rfl⟩
    · simp at h
    · rw [List.concat_eq_append] at *
      rw [openP_snoc]
      have := ih k (by simpa using h)
      split <;> omega
theorem openP_pos (w : Int) (l : List DeedM) : 0 < openP w l ↔ ∃ d ∈ l, d.who = w ∧ d.stop < 0 := by
  induction h : l.length generalizing l with
  | zero => have := List.eq_nil_of_length_eq_zero h; subst this; simp [openP]
  | succ n ih =>
    rcases List.eq_nil_or_concat l with rfl | ⟨k, d, rfl⟩
    · simp at h
    · rw [List.concat_eq_append] at *
      rw [openP_snoc]
      have ih' := ih k (by simpa using h)
      have hb := openP_bd w k
      split
      · rename_i q
        exact ⟨fun _ => ⟨d, by simp, q⟩, fun _ => by omega⟩
      · rename_i q
        rw [ih']
        constructor
        · rintro ⟨x, hx, g⟩
          exact ⟨x, by simp [hx], g⟩
        · rintro ⟨x, hx, g⟩
          rcases List.mem_append.1 hx with hx | hx
          · exact ⟨x, hx, g⟩
          · simp at hx
            subst hx
            exact (q g).elim
theorem lastP_at (w : Int) (l : List DeedM) : lastP w l = -1 ∨ ∃ (i : Nat) (d : DeedM), l[i]? = some d ∧ d.who = w ∧ lastP w l = d.stop := by
  induction h : l.length generalizing l with
  | zero => have := List.eq_nil_of_length_eq_zero h; subst this; exact .inl rfl
  | succ n ih =>
    rcases List.eq_nil_or_concat l with rfl | ⟨k, d, rfl⟩
    · simp at h
    · rw [List.concat_eq_append] at *
      rw [lastP_snoc]
      split
      · exact .inr ⟨k.length, d, by simp, by assumption, rfl⟩
      · rcases ih k (by simpa using h) with e | ⟨i, o, e1, e2, e3⟩
        · exact .inl e
        · exact .inr ⟨i, o, by rw [List.getElem?_append_left (lt_of_at e1)]; exact e1, e2, e3⟩
theorem take_at {l : List DeedM} {i j : Nat} {a : DeedM} (h : (l.take i)[j]? = some a) : j < i ∧ l[j]? = some a := by
  have := lt_of_at h
  rw [List.length_take] at this
  have hj : j < i := by omega
  rw [List.getElem?_take_of_lt hj] at h
  exact ⟨hj, h⟩
theorem hinv_scan {y : YardM} (h : y.hinv) {i : Nat} {d : DeedM} (hd : y.deeds[i]? = some d) : openP d.who (y.deeds.take i) = 0 ∧ lastP d.who (y.deeds.take i) < d.start := by
  constructor
  · have hb := (openP_bd d.who (y.deeds.take i)).1
    rcases Int.lt_or_le 0 (openP d.who (y.deeds.take i)) with q | q
    · obtain ⟨x, hx, e1, e2⟩ := (openP_pos _ _).1 q
      obtain ⟨j, hj⟩ := List.mem_iff_getElem?.1 hx
      obtain ⟨j1, j2⟩ := take_at hj
      have := (h.two j i x d j1 j2 hd).2.2.2 e1
      omega
    · omega
  · rcases lastP_at d.who (y.deeds.take i) with e | ⟨j, x, e1, e2, e3⟩
    · have := (h.each i d hd).1
      omega
    · obtain ⟨j1, j2⟩ := take_at e1
      have := (h.two j i x d j1 j2 hd).2.2.2 e2
      omega
theorem hinv_open {y : YardM} (h : y.hinv) {w : Int} (h0 : 0 ≤ w) (h1 : w < y.conf.th) : (decide (openP w y.deeds > 0)) = y.busy w := by
  have ht : y.there w = true := by unfold YardM.there; simp [h0, h1]
  have htl := h.tl
  have hlt : w.toNat < y.tasks.length := by omega
  unfold YardM.busy YardM.task
  rw [ht, Bool.true_and, List.getElem?_eq_getElem hlt]
  rw [Bool.eq_iff_iff, decide_eq_true_eq]
  show 0 < openP w y.deeds ↔ _
  rw [openP_pos]
  constructor
  · rintro ⟨d, hd, e1, e2⟩
    obtain ⟨j, hj⟩ := List.mem_iff_getElem?.1 hd
    have hs : d.stop = -1 := by
      have h5 := (h.each j d hj).1
      rcases (h.each j d hj).2.2.2.2.2 with ⟨q, _⟩ | ⟨q, _⟩ <;> omega
    obtain ⟨t, t1, _⟩ := h.busy j d hj hs
    rw [e1, List.getElem?_eq_getElem hlt] at t1
    rw [Option.some.inj t1]; rfl
  · intro hb
    obtain ⟨t, ht'⟩ := Option.isSome_iff_exists.1 hb
    obtain ⟨d, _, d2, d3, d4⟩ := h.task w.toNat t (by rw [List.getElem?_eq_getElem hlt]; exact congrArg some ht')
    exact ⟨d, List.mem_of_getElem? d2, by omega, by omega⟩
/-- A call that may be. -/
theorem YardM.call_right {y : YardM} (htl : (y.tasks.length : Int) = y.conf.th) {who : Int} {k : CallM} (ht : y.there who = true) (hr : k.right = true) :
    (y.call who k).2 = (if y.busy who = true then 2 else 0) ∧ (y.call who k).1.busy who = true ∧ (y.call who k).1.conf = y.conf ∧ (∀ w, 0 ≤ w → w ≠ who → (y.call who k).1.busy w = y.busy w) := by
  have hbd := YardM.there_bd ht
  have hlt : who.toNat < y.tasks.length := by omega
  have e : y.busy who = (y.task who).isSome := by unfold YardM.busy; rw [ht, Bool.true_and]
  unfold YardM.call
  rw [if_neg (by rw [ht, hr]; decide)]
  cases hb : (y.task who).isSome with
  | true =>
    rw [if_pos rfl, if_pos (by rw [e, hb])]
    exact ⟨rfl, by rw [e, hb], rfl, fun w _ _ => rfl⟩
  | false =>
    rw [if_neg (by decide), if_neg (by rw [e, hb]; decide)]
    refine ⟨rfl, ?_, rfl, fun w hw0 hw => ?_⟩
    · show (decide (0 ≤ who) && decide (who < y.conf.th) && (((y.tasks.set who.toNat (some (TaskM.new y.conf who k)))[who.toNat]?).join).isSome) = true
      rw [List.getElem?_set_self hlt]
      simp [hbd.1, hbd.2]
    · show (decide (0 ≤ w) && decide (w < y.conf.th) && (((y.tasks.set who.toNat (some (TaskM.new y.conf who k)))[w.toNat]?).join).isSome) = _
      rw [List.getElem?_set_ne (by omega)]
      rfl
/-- All threads are asked, one behind the other. -/
def askAll (k : CallM) (y : YardM) : Nat → YardM
  | 0 => y
  | n + 1 => ((askAll k y n).call n k).1
theorem askAll_inv {y : YardM} (h : y.hinv) {k : CallM} (hr : k.right = true) : ∀ n : Nat, (n : Int) ≤ y.conf.th → (askAll k y n).hinv ∧ (askAll k y n).conf = y.conf ∧ ∀ w : Int, (n : Int) ≤ w → (askAll k y n).busy w = y.busy w
  | 0, _ => ⟨h, rfl, fun w _ => rfl⟩
  | n + 1, hn => by
    obtain ⟨a, b, c⟩ := askAll_inv h hr n (by omega)
    have ht : (askAll k y n).there n = true := by unfold YardM.there; rw [b]; simp; omega
    obtain ⟨_, _, q3, q4⟩ := YardM.call_right a.tl ht hr
    refine ⟨YardM.call_hinv a _ _, q3.trans b, fun w hw => ?_⟩
    show ((askAll k y n).call n k).1.busy w = _
    rw [q4 w (by omega) (by omega)]
    exact c w (by omega)
end Go.Proofs.YtdjkblnocooldaaGreat
