/- What stands in order, in plain Lean: its ends, without one thing, turned round, with one thing more. No program. -/
import Derived.Test.YtdhcomklmckhoaaOrderM
namespace Go.Proofs.Ytdhcomklmckhoaa
set_option linter.unusedSimpArgs false
set_option linter.unusedVariables false
theorem mem_liveM (words : List Int) : ∀ n (a : Int), a ∈ liveM words n ↔ 0 ≤ a ∧ a < n ∧ (unpack (getI words a)).state = 1
  | 0, a => by simp [liveM]; omega
  | n + 1, a => by
    have ih := mem_liveM words n a
    unfold liveM
    by_cases e : a = (n : Int)
    · subst e
      split
      · rename_i hs; simp [hs]; omega
      · rename_i hs; rw [ih]; simp [hs]
    · split
      · rw [List.mem_cons, ih]; simp only [e, false_or]; omega
      · rw [ih]; omega
theorem orderM_perm (words : List Int) : (orderM words).Perm (liveM words words.length) := rowM_perm words _
theorem orderM_sorted (words : List Int) : (orderM words).Pairwise (fun a b => aheadB words a b = true) := rowM_sorted words _
theorem mem_orderM (words : List Int) (a : Int) : a ∈ orderM words ↔ 0 ≤ a ∧ a < words.length ∧ (unpack (getI words a)).state = 1 :=
  (orderM_perm words).mem_iff.trans (mem_liveM words _ a)
theorem aheadB_irrefl (words : List Int) (a : Int) : aheadB words a a = false := by
  cases h : aheadB words a a with
  | false => rfl
  | true => exact (aheadB_asymm words a a h h).elim
theorem orderM_nodup (words : List Int) : (orderM words).Nodup := by
  refine (orderM_sorted words).imp (fun {a b} h e => ?_)
  subst e
  rw [aheadB_irrefl] at h
  cases h
theorem liveM_nodup (words : List Int) : ∀ n, (liveM words n).Nodup
  | 0 => List.nodup_nil
  | n + 1 => by
    unfold liveM
    split
    · refine List.nodup_cons.2 ⟨fun h => ?_, liveM_nodup words n⟩
      have := (mem_liveM words n n).1 h
      omega
    · exact liveM_nodup words n
/-- Whatever row holds the places in which something is, once each, in order, is the row. -/
theorem orderM_of (words l : List Int) (nd : l.Nodup) (hm : ∀ a, a ∈ l ↔ 0 ≤ a ∧ a < words.length ∧ (unpack (getI words a)).state = 1) (hs : l.Pairwise (fun a b => aheadB words a b = true)) : l = orderM words :=
  orderM_eq words l ((List.perm_ext_iff_of_nodup nd (liveM_nodup words _)).2 (fun a => (hm a).trans (mem_liveM words _ a).symm)) hs
theorem orderM_len (words : List Int) : (orderM words).length ≤ words.length := by
  rw [(orderM_perm words).length_eq]
  have : ∀ n, (liveM words n).length ≤ n := by
    intro n
    induction n with
    | zero => exact Nat.le_refl _
    | succ n ih => unfold liveM; split; (· simp; omega); (· omega)
  exact this _
/-! ### The ends -/
theorem atM_nil {words : List Int} (e : Int) (h : orderM words = []) : atM words e = -1 := by
  unfold atM; split <;> simp_all
theorem atM_left {words : List Int} {a : Int} {l : List Int} (h : orderM words = a :: l) : atM words 0 = a := by
  unfold atM; split <;> simp_all
theorem atM_right {words : List Int} {e : Int} (he : e ≠ 0) {a : Int} {l : List Int} (h : orderM words = l ++ [a]) : atM words e = a := by
  unfold atM
  split
  · simp_all
  · rename_i b m hb
    rw [if_neg he]
    have e2 : b :: m = l ++ [a] := by rw [← hb, h]
    simp [e2]
theorem atM_first (words : List Int) (i : Int) (hi : i ∈ orderM words) : i = atM words 0 ∨ aheadB words (atM words 0) i = true := by
  cases h : orderM words with
  | nil => rw [h] at hi; simp at hi
  | cons a l =>
    rw [atM_left h]
    rw [h] at hi
    rcases List.mem_cons.1 hi with e | e
    · exact .inl e
    · have := orderM_sorted words
      rw [h] at this
      exact .inr ((List.pairwise_cons.1 this).1 i e)
theorem snoc_of {α : Type} (l : List α) (h : l ≠ []) : ∃ m a, l = m ++ [a] := ⟨l.dropLast, l.getLast h, (List.dropLast_concat_getLast h).symm⟩
theorem atM_last (words : List Int) (e : Int) (he : e ≠ 0) (i : Int) (hi : i ∈ orderM words) : i = atM words e ∨ aheadB words i (atM words e) = true := by
  obtain ⟨m, a, h⟩ := snoc_of (orderM words) (fun h => by rw [h] at hi; simp at hi)
  rw [atM_right he h]
  rw [h] at hi
  rcases List.mem_append.1 hi with e | e
  · have := orderM_sorted words
    rw [h] at this
    exact .inr ((List.pairwise_append.1 this).2.2 i e a (by simp))
  · exact .inl (by simpa using e)
theorem atM_mem (words : List Int) (e : Int) (h : orderM words ≠ []) : atM words e ∈ orderM words := by
  by_cases he : e = 0
  · subst he
    cases h' : orderM words with
    | nil => exact (h h').elim
    | cons a l => rw [atM_left h']; simp
  · obtain ⟨m, a, h'⟩ := snoc_of _ h
    rw [atM_right he h', h']; simp
theorem atM_range (words : List Int) (e : Int) : (orderM words = [] ∧ atM words e = -1) ∨ (orderM words ≠ [] ∧ 0 ≤ atM words e ∧ atM words e < words.length ∧ (unpack (getI words (atM words e))).state = 1) := by
  by_cases h : orderM words = []
  · exact .inl ⟨h, atM_nil e h⟩
  · exact .inr ⟨h, (mem_orderM words _).1 (atM_mem words e h)⟩
/-! ### Put in one by one -/
theorem insB_split (words : List Int) (i : Int) : ∀ (l : List Int) (k : Nat), k ≤ l.length → (∀ j, j < k → aheadB words (l.getD j 0) i = true) → (k = l.length ∨ aheadB words (l.getD k 0) i = false) →
    insB words i l = l.take k ++ i :: l.drop k
  | [], k, h, _, _ => by
    have : k = 0 := by simpa using h
    subst this; rfl
  | a :: l, 0, _, _, h => by
    have : aheadB words a i = false := by
      rcases h with h | h
      · simp at h
      · simpa using h
    unfold insB
    rw [if_neg (by simp [this])]
    rfl
  | a :: l, k + 1, h, hj, h' => by
    have h0 : aheadB words a i = true := hj 0 (by omega)
    unfold insB
    rw [if_pos h0, insB_split words i l k (by simpa using h) (fun j hk => by have := hj (j + 1) (by omega); simpa using this) (by rcases h' with h' | h'; exact .inl (by simpa using h'); exact .inr (by simpa using h'))]
    rfl
theorem rowM_len (words : List Int) (n : Nat) : (rowM words n).length ≤ n := by
  rw [(rowM_perm words n).length_eq]
  have : ∀ n, (liveM words n).length ≤ n := by
    intro n
    induction n with
    | zero => exact Nat.le_refl _
    | succ n ih => unfold liveM; split; (· simp; omega); (· omega)
  exact this _
/-! ### Without one thing -/
theorem getI_setI (l : List Int) (k a x : Int) (hk : 0 ≤ k) (ha : 0 ≤ a) : getI (setI l k x) a = if a = k ∧ k < l.length then x else getI l a := by
  unfold getI setI
  rw [List.getD_eq_getElem?_getD, List.getElem?_set, List.getD_eq_getElem?_getD]
  by_cases h : a = k
  · subst h
    by_cases h2 : a < l.length
    · rw [if_pos rfl, if_pos (show a.toNat < l.length by omega), if_pos ⟨rfl, h2⟩]; rfl
    · rw [if_pos rfl, if_neg (by omega), if_neg (by omega), List.getElem?_eq_none (by omega)]
  · rw [if_neg (by omega), if_neg (by omega)]
theorem orderM_without (words : List Int) (k x : Int) (hk : k ∈ orderM words) (hx : (unpack x).state ≠ 1) : orderM (setI words k x) = (orderM words).erase k := by
  obtain ⟨k0, k1, ks⟩ := (mem_orderM words k).1 hk
  have G : ∀ a, 0 ≤ a → a ≠ k → getI (setI words k x) a = getI words a := fun a ha h => by rw [getI_setI words k a x k0 ha, if_neg (by omega)]
  have nd := orderM_nodup words
  refine (orderM_of _ _ (nd.erase k) (fun a => ?_) ?_).symm
  · rw [nd.mem_erase_iff, mem_orderM]
    have hl : (setI words k x).length = words.length := by simp [setI]
    rw [hl]
    by_cases h : a = k
    · subst h
      rw [getI_setI words a a x k0 k0, if_pos ⟨rfl, k1⟩]
      simp [hx]
    · constructor
      · rintro ⟨_, a0, a1, a2⟩; exact ⟨a0, a1, by rw [G a a0 h]; exact a2⟩
      · rintro ⟨a0, a1, a2⟩; exact ⟨h, a0, a1, by rw [G a a0 h] at a2; exact a2⟩
  · have := (orderM_sorted words).sublist (List.erase_sublist (a := k))
    refine this.imp_of_mem (fun {a b} ha hb h => ?_)
    obtain ⟨na, ha⟩ := nd.mem_erase_iff.1 ha
    obtain ⟨nb, hb⟩ := nd.mem_erase_iff.1 hb
    have a0 := ((mem_orderM words a).1 ha).1
    have b0 := ((mem_orderM words b).1 hb).1
    unfold aheadB at h ⊢
    rw [G a a0 na, G b b0 nb]
    exact h
/-- What stands at an end taken away: the others stand as they did. -/
theorem orderM_less (words : List Int) (e x : Int) (h : orderM words ≠ []) (hx : (unpack x).state ≠ 1) :
    orderM (setI words (atM words e) x) = if e = 0 then (orderM words).drop 1 else (orderM words).dropLast := by
  rw [orderM_without words _ x (atM_mem words e h) hx]
  have nd := orderM_nodup words
  by_cases he : e = 0
  · rw [if_pos he]
    subst he
    cases h' : orderM words with
    | nil => exact (h h').elim
    | cons a l => rw [atM_left h']; simp
  · rw [if_neg he]
    obtain ⟨m, a, h'⟩ := snoc_of _ h
    rw [atM_right he h', h']
    rw [h'] at nd
    have : a ∉ m := fun hm => by
      have := (List.nodup_append.1 nd).2.2 a hm a (by simp)
      exact this rfl
    rw [List.erase_append_right _ this]
    simp
/-! ### Packed and unpacked -/
theorem unpack_pack (w : WordM) (h : w.right = true) : unpack w.pack = w := by
  have h0 := h
  simp only [WordM.right, Top, Bool.and_eq_true, Bool.or_eq_true, decide_eq_true_eq] at h
  obtain ⟨⟨⟨⟨⟨⟨⟨⟨h1, h2⟩, h3⟩, h4⟩, h5⟩, h6⟩, h7⟩, h8⟩, h9⟩ := h
  unfold WordM.pack
  rw [if_pos h0]
  obtain ⟨s, f, g, lo, hi⟩ := w
  simp only at h1 h2 h3 h4 h5 h6 h7 h8 h9
  simp only [unpack, WordM.mk.injEq, StampM.mk.injEq]
  refine ⟨?_, ?_, ?_, ?_, ?_⟩ <;> omega
theorem unpack_right (x : Int) (h : (unpack x).state ≤ 2) : (unpack x).right = true := by
  have e : x % 4 ≤ 2 := h
  have e1 : 0 ≤ x % 4 := by omega
  have e2 : x / 4 % 2 = 0 ∨ x / 4 % 2 = 1 := by omega
  have e3 : 0 ≤ x / 8 % 8192 ∧ x / 8 % 8192 ≤ 8191 := by omega
  have e4 : 0 ≤ x / 65536 % 16777216 ∧ x / 65536 % 16777216 ≤ 16777215 := by omega
  have e5 : 0 ≤ x / 1099511627776 % 16777216 ∧ x / 1099511627776 % 16777216 ≤ 16777215 := by omega
  simp [WordM.right, unpack, e, e1, e3, e4, e5]
  exact e2.imp (fun h => by simp [h]) (fun h => by simp [h])
theorem pack_bdP (w : WordM) : 0 ≤ w.pack ∧ w.pack < 18446744073709551616 := by
  unfold WordM.pack
  split
  · rename_i h
    simp only [WordM.right, Top, Bool.and_eq_true, Bool.or_eq_true, decide_eq_true_eq] at h
    omega
  · omega
/-! ### Turned round -/
def otherM (e : Int) : Int := if e = 0 then 1 else 0
def WordM.turned (w : WordM) : WordM := if w.state = 1 then { w with fin := otherM w.fin } else ⟨0, 1, 0, ⟨0, 0⟩⟩
def turnedM (words : List Int) : List Int := words.map (fun x => (unpack x).turned.pack)
theorem turned_right (x : Int) : (unpack x).turned.right = true := by
  unfold WordM.turned
  split
  · rename_i h
    have := unpack_right x (by omega)
    simp only [WordM.right, otherM, Bool.and_eq_true, Bool.or_eq_true, decide_eq_true_eq] at this ⊢
    refine ⟨⟨⟨⟨⟨⟨⟨⟨?_, ?_⟩, ?_⟩, ?_⟩, ?_⟩, ?_⟩, ?_⟩, ?_⟩, ?_⟩ <;> (first | omega | (split <;> simp))
  · rfl
theorem getI_turned (words : List Int) (a : Int) (h0 : 0 ≤ a) (h1 : a < words.length) : unpack (getI (turnedM words) a) = (unpack (getI words a)).turned := by
  have h2 : a.toNat < words.length := by omega
  have : getI (turnedM words) a = (unpack (getI words a)).turned.pack := by
    unfold getI turnedM
    rw [List.getD_eq_getElem?_getD, List.getD_eq_getElem?_getD, List.getElem?_map, List.getElem?_eq_getElem h2]
    rfl
  rw [this, unpack_pack _ (turned_right _)]
theorem orderM_turned (words : List Int) : orderM (turnedM words) = (orderM words).reverse := by
  have hl : (turnedM words).length = words.length := by simp [turnedM]
  refine (orderM_of _ _ (List.pairwise_reverse.2 ((orderM_nodup words).imp (fun h => Ne.symm h))) (fun a => ?_) ?_).symm
  · rw [List.mem_reverse, mem_orderM, hl]
    constructor
    · rintro ⟨a0, a1, a2⟩
      refine ⟨a0, a1, ?_⟩
      rw [getI_turned words a a0 a1, WordM.turned, if_pos a2]
      exact a2
    · rintro ⟨a0, a1, a2⟩
      refine ⟨a0, a1, ?_⟩
      rw [getI_turned words a a0 a1, WordM.turned] at a2
      split at a2
      · rename_i h; exact h
      · simp at a2
  · rw [List.pairwise_reverse]
    refine (orderM_sorted words).imp_of_mem (fun {a b} ha hb h => ?_)
    obtain ⟨a0, a1, a2⟩ := (mem_orderM words a).1 ha
    obtain ⟨b0, b1, b2⟩ := (mem_orderM words b).1 hb
    have ea := getI_turned words a a0 a1
    have eb := getI_turned words b b0 b1
    have hx : (unpack (getI words a)).fin = 0 ∨ (unpack (getI words a)).fin = 1 := by simp only [unpack]; omega
    have hy : (unpack (getI words b)).fin = 0 ∨ (unpack (getI words b)).fin = 1 := by simp only [unpack]; omega
    unfold aheadB at h ⊢
    rw [ea, eb]
    unfold WordM.turned
    rw [if_pos a2, if_pos b2]
    generalize unpack (getI words a) = x at *
    generalize unpack (getI words b) = y at *
    simp only [laterB_iff, otherM] at h ⊢
    rcases hx with hx | hx <;> rcases hy with hy | hy <;> simp only [hx, hy] at h ⊢ <;> simp_all
/-! ### One thing more -/
def liveW (e at' : Int) : WordM := ⟨1, e, 1, ⟨at', at'⟩⟩
theorem getI_snoc (words : List Int) (x a : Int) (h0 : 0 ≤ a) : getI (words ++ [x]) a = if a = words.length then x else getI words a := by
  unfold getI
  rw [List.getD_eq_getElem?_getD, List.getD_eq_getElem?_getD]
  by_cases h : a = words.length
  · rw [if_pos h]; subst h; simp
  · rw [if_neg h]
    by_cases h2 : a < words.length
    · rw [List.getElem?_append_left (by omega)]
    · rw [List.getElem?_append_right (by omega), List.getElem?_eq_none (by simp; omega), List.getElem?_eq_none (by omega)]
theorem atM_newest (words : List Int) (e x most : Int) (he : e = 0 ∨ e = 1) (hx : unpack x = liveW e (most + 1)) (hm : ∀ a : Int, 0 ≤ a → a < words.length → (unpack (getI words a)).state = 1 → (unpack (getI words a)).stamp.lo ≤ most) :
    atM (words ++ [x]) e = words.length := by
  have hn : (words.length : Int) ∈ orderM (words ++ [x]) := by
    rw [mem_orderM, getI_snoc _ _ _ (by omega), if_pos rfl, hx]
    refine ⟨by omega, by simp; omega, rfl⟩
  have hne : orderM (words ++ [x]) ≠ [] := fun h => by rw [h] at hn; simp at hn
  have hk := atM_mem (words ++ [x]) e hne
  have hd : atM (words ++ [x]) e = words.length ∨ (if e = 0 then aheadB (words ++ [x]) (atM (words ++ [x]) e) words.length = true else aheadB (words ++ [x]) words.length (atM (words ++ [x]) e) = true) := by
    rcases he with rfl | rfl
    · exact (atM_first _ _ hn).imp Eq.symm (fun h => by simpa using h)
    · exact (atM_last _ 1 (by omega) _ hn).imp Eq.symm (fun h => by simpa using h)
  rcases hd with h | h
  · exact h
  · generalize atM (words ++ [x]) e = k at *
    obtain ⟨k0, k1, k2⟩ := (mem_orderM _ k).1 hk
    by_cases e2 : k = words.length
    · exact e2
    · have kl : k < words.length := by simp at k1; omega
      rw [getI_snoc _ _ _ k0, if_neg e2] at k2
      have hlo := hm k k0 kl k2
      have hf : (unpack (getI words k)).fin = 0 ∨ (unpack (getI words k)).fin = 1 := by simp only [unpack]; omega
      unfold aheadB at h
      rw [getI_snoc _ _ k k0, if_neg e2, getI_snoc _ _ (words.length : Int) (by omega), if_pos rfl, hx] at h
      simp only [laterB_iff, liveW] at h
      generalize unpack (getI words k) = y at *
      rcases he with rfl | rfl <;> rcases hf with hf | hf <;> simp [hf] at h <;> omega
end Go.Proofs.Ytdhcomklmckhoaa
