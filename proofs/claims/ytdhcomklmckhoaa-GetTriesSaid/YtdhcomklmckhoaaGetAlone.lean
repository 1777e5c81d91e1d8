/- Of whatever is in the places, where nobody else does anything: what stands at the end, or nothing (GetAlone answers true at every input). No condition beyond the row's own. -/
import Derived.Test.YtdhcomklmckhoaaGetHead
namespace Go.Proofs.Ytdhcomklmckhoaa
open Go.RowKit Go.SepYtdhcomklmckhoaa
set_option linter.unusedSimpArgs false
set_option linter.unusedVariables false
set_option maxRecDepth 100000
set_option maxHeartbeats 4000000
theorem cellsM_wf {c : ConfM} {l : List ThingM} (hwf : ∀ t ∈ l, t.wf) : ∀ n, (cellsN c l n).wf
  | 0 => MemM.new_wf _
  | n + 1 => by
    unfold cellsN
    refine MemM.touch_wf (MemM.touch_wf (cellsM_wf hwf n) _ _ _ _ _ (pack_bd _)) _ _ _ _ _ ?_
    rw [List.getD_eq_getElem?_getD]
    cases h : l[n]? with
    | none => exact ⟨by decide, by decide⟩
    | some t => exact hwf t (List.mem_of_getElem? h)
theorem cellsM_clen {c : ConfM} (hc : c.ok) (l : List ThingM) : ((cellsM c l).cells.length : Int) = c.cells := by
  have := cells_bd hc
  unfold cellsM
  rw [cellsM_len]
  omega
def thingK : List FK := [.int .i64, .int .i64, .int .i64, .int .i64, .bool, .int .u64]
theorem thing_row (r : List Value) (h : okAll thingK r) : ∃ t : ThingM, r = t.v ∧ t.wf := by
  unfold thingK at h
  obtain ⟨n0, v0, rfl, h0, k0⟩ := okAll_int h
  obtain ⟨n1, v1, rfl, h1, k1⟩ := okAll_int k0
  obtain ⟨n2, v2, rfl, h2, k2⟩ := okAll_int k1
  obtain ⟨n3, v3, rfl, h3, k3⟩ := okAll_int k2
  obtain ⟨n4, v4, rfl, k4⟩ := okAll_bool k3
  obtain ⟨n5, v5, rfl, h5, k5⟩ := okAll_int k4
  obtain rfl := okAll_nil k5
  exact ⟨⟨n0, n1, n2, n3, n4, n5⟩, rfl, lit_u64 h5⟩
theorem oldT_of {W : World} {a : Option Addr} {len cap : Nat} {rows : List (List Value)} (h : RowsAt W thingK a len cap rows) :
    ∃ l : List ThingM, l.length = len ∧ (∀ e ∈ l, e.wf) ∧ OldS ThingM.v 6 W a l :=
  oldS_of ThingM.v ThingM.wf h thing_row (fun v => ⟨_, rfl⟩)
theorem oldU_row1 {E w : World} {L : List SA} {p : Option Addr} {n c m : Nat} {l : List Int} (h : sat E w (rowA (.slice p n c) 31 1 m (u64s l) :: L)) : OldU w p l := by
  intro j hj
  obtain ⟨h0, ⟨h1, h2, _⟩ | ⟨g, cap, cur, h1, _, _, _, _, h5⟩⟩ := h.row_open
  · simp [u64s] at h0; omega
  · simp at h1
    obtain ⟨rfl, rfl, rfl⟩ := h1
    refine ⟨g, 0, rfl, h5.lt, ?_⟩
    rw [Nat.zero_add]
    exact h.row_rd 0 rfl j _ (by simp [u64s, hj])
theorem row_call {E w : World} {L : List SA} {p : Option Addr} {n c : Nat} {l : List Int} (hl : l.length = n) (hn : n ≤ 5000) (hw : wfs l) (h : sat E w (rowA (.slice p n c) 31 1 n (u64s l) :: L)) :
    Calls Try.prog 11 #[.slice p n c] w fun e w' => ∃ p1 c1, e = .returned (.slice p1 (orderM l).length c1) ∧ sat E w' (rowA (.slice p1 (orderM l).length c1) 3 1 (orderM l).length ((orderM l).map (Value.int .i64)) :: rowA (.slice p n c) 31 1 n (u64s l) :: L) := by
  subst hl
  refine (row_calls l p c w (oldU_row1 h) hw (by omega)).mono ?_
  rintro e w' ⟨v, rfl, K⟩
  obtain ⟨p1, c1, rfl⟩ := Go.SepYtdhcomklmckhoaa.row_any K
  exact ⟨p1, c1, rfl, h.join K⟩
/-- A thread of a layout out of any number. -/
def whoS (c : ConfM) (who : Int) : Int := who % 65536 % c.th
theorem whoS_bd {c : ConfM} (hc : c.ok) (who : Int) : 0 ≤ whoS c who ∧ whoS c who < c.th := by
  have := hc.th1
  unfold whoS
  exact ⟨Int.emod_nonneg _ (by omega), Int.emod_lt_of_pos _ (by omega)⟩
/-- How many steps a get by itself takes. -/
def aloneN (c : ConfM) (m : MemM) (fin : Int) : Nat := if atM (wordsM c m) fin < 0 then 2 * c.all.toNat else 2 * c.all.toNat + 5
theorem alone_ends {c : ConfM} (hc : c.ok) {wh fin st : Int} (w0 : 0 ≤ wh) (w1 : wh < c.th) {m : MemM} (hw : m.wf) (hl : (m.cells.length : Int) = c.cells) (hlog : m.log.length ≤ 100000) : Ends (GetM.new c wh fin st) m (aloneN c m fin) := by
  have hal := hc.all_bd
  have ha := GetM.new_all hc w0 w1 fin st hw hl
  have h := get_alone hc (g := GetM.new c wh fin st) rfl w0 w1 (GetM.new_fresh _ _ _ _) hl
  have e : (GetM.new c wh fin st).fin = fin := rfl
  unfold aloneN
  split
  · rename_i hn
    obtain ⟨h1, h2, _⟩ := h.none hn
    exact ⟨ha, by omega, hlog, h1, by rw [h2]; decide⟩
  · rename_i hn
    obtain ⟨h1, h2, _⟩ := h.some (by rw [e]; omega)
    exact ⟨ha, by omega, hlog, h1, by rw [h2]; decide⟩
theorem cellsN_rest {c : ConfM} (hc : c.ok) (l : List ThingM) (i : Int) (hi : 2 * c.all ≤ i) : ∀ n : Nat, n ≤ c.all.toNat → getI (cellsN c l n).cells i = 0
  | 0, _ => by
    show getI (List.replicate _ 0) i = 0
    unfold getI
    rw [List.getD_eq_getElem?_getD, List.getElem?_replicate]
    split <;> rfl
  | n + 1, hn => by
    have hal := hc.all_bd
    have ih := cellsN_rest hc l i hi n (by omega)
    have hcl : c.all ≤ c.cells := by unfold ConfM.cells; have := hc.th1; omega
    have hcl2 : c.value n < c.cells := by unfold ConfM.cells ConfM.value; have := hc.th1; omega
    have hb := cells_bd hc
    have hlen : ((cellsN c l n).cells.length : Int) = c.cells := by rw [cellsM_len]; omega
    unfold cellsN
    rw [touch_in_cells (has_of (c := c) (by rw [MemM.touch_length]; exact hlen) (by unfold ConfM.value; omega) hcl2), getI_setI_ne _ _ _ _ (by unfold ConfM.value; omega) (by omega) (by unfold ConfM.value; omega),
      touch_in_cells (has_of hlen (by omega) (by omega)), getI_setI_ne _ _ _ _ (by omega) (by omega) (by omega)]
    exact ih
theorem order_ends {W : List Int} {fin : Int} (h : 0 ≤ atM W fin) : ∃ a, (orderM W)[0]? = some a ∧ 0 < (orderM W).length ∧ (fin = 0 → a = atM W fin) ∧ (fin ≠ 0 → (orderM W)[(orderM W).length - 1]? = some (atM W fin)) := by
  rcases atM_range W fin with ⟨e, e1⟩ | ⟨hne, _⟩
  · omega
  · cases hO : orderM W with
    | nil => exact (hne hO).elim
    | cons a l =>
      refine ⟨a, rfl, by simp, fun h0 => ?_, fun h0 => ?_⟩
      · subst h0; exact (atM_left hO).symm
      · obtain ⟨l', b, hl'⟩ := snoc_of (a :: l) (by simp)
        rw [hl'] at hO
        rw [atM_right h0 hO, hl']
        simp
end Go.Proofs.Ytdhcomklmckhoaa
