/- Several texts in one: AuditK AuditP AuditW AuditWd. Each says ahead of it what it shows. -/
import Derived.Test.YtegdhojhnmgjgaaGreatZa
import Derived.Test.YtegdhojhnmgjgaaGreatB2
import Derived.Test.YtegdhojhnmgjgaaGreatB8
import Derived.MapFrom
import Derived.DeepKeys4
import Derived.Maps.OwnSet
import Derived.Test.YtegdhojhnmgjgaaGreatB1
import Derived.Deep.RegionHeld3
import Derived.Deep.DeepCutAuto
set_option linter.unusedVariables false
set_option linter.unusedSimpArgs false
/- What a cell is for, and who has a place, as the program reckons them. Conditions: the layout is Right. -/
namespace Go.Proofs.YtegdhojhnmgjgaaGreat
open Go.RowKit Go.SepYtegdhojhnmgjgaaGreat
set_option maxRecDepth 100000
section
variable (c : ConfM) (w : World)
theorem owner_calls (h : c.ok) (s : Int) (h0 : 0 ≤ s) (h1 : s < c.all) : Tells 112 #[.agg #[.int .i64 c.th,.int .i64 c.sl,.int .i64 c.src,.int .i64 c.dl],.int .i64 s] w (.int .i64 (ownerM c s)):=by
  have C:=fun w=>Lib.hid (all_calls c w h)
  have e : wrap64 (Int.tdiv s c.sl) = ownerM c s:=by
    have:=h.all_bd
    have:=h.sl1
    unfold ownerM
    rw [Int.tdiv_eq_ediv_of_nonneg h0]
    have:=Int.ediv_le_self c.sl h0
    have:=Int.ediv_nonneg h0 (b:=c.sl) (by omega)
    exact w64 (by omega) (by omega)
  have H:=Lib.hid e
  have t1 : decide (s < 0) = false:=by simp;omega
  have t2 : decide (s ≥ c.all) = false:=by simp;omega
  have t3 : ¬ c.sl = 0:=by have:=h.sl1;omega
  clear e h h0 h1
  have K:=Lib.hid (sat.start w)
  go_enter Tryz.func112,Tryz.ntmps112
  go_wp2_with (first|((with_reducible refine at_box ?_);refine st_boxf K.out rfl rfl (fun _=>rfl) ?_;intro gc w1 K1;have K2:=Lib.hid K1;clear K1 K;(try clear a0 l0);(try clear a1 l1);(try clear a2 l2);have K:=K2;clear K2;have a0:=K.out.rd 0 rfl;have l0:=K.out.ltp 0 rfl)|(go_at_call 31;(with_reducible refine ((C _).out).mono ?_);rintro e w1 ⟨rfl,hb⟩;have K1:=sat.grown (by repeat (with_reducible first|exact K.out|apply sat.alloc_any|apply sat.drew|apply sat.drewN)) hb;clear hb;have K2:=Lib.hid K1;clear K1 K;(try clear a0 l0);(try clear a1 l1);(try clear a2 l2);have K:=K2;clear K2;have a0:=K.out.rd 0 rfl;have l0:=K.out.ltp 0 rfl))
  go_ret
  exact ⟨ret_i H.out,K.out.below⟩
theorem kind_calls (h : c.ok) (cell : Int) : Tells 62 #[.agg #[.int .i64 c.th,.int .i64 c.sl,.int .i64 c.src,.int .i64 c.dl],.int .i64 cell] w (.tuple #[.int .i64 (kindM c cell).1,.int .i64 (kindM c cell).2]):=by
  have C:=fun w=>Lib.hid (all_calls c w h)
  have CC:=fun w=>Lib.hid (cellsn_calls c w h)
  have K:=Lib.hid (sat.start w)
  have hA:=h.all_bd
  have hT1:=h.th1
  have hT2:=h.th2
  have hcl : c.cells = 2 * c.all + 2 * c.th:=rfl
  have w2 : wrap64 (2 * c.all) = 2 * c.all:=w64 (by omega) (by omega)
  have w3 : wrap64 (2 * c.all + c.th) = 2 * c.all + c.th:=w64 (by omega) (by omega)
  unfold kindM
  by_cases n1 : cell < 0
  · rw [if_pos (.inl n1)]
    have t1 : decide (cell < 0) = true:=by simpa using n1
    clear n1 hA hT1 hT2 hcl
    go_enter Tryz.func62,Tryz.ntmps62
    go_wp2_with (first|((with_reducible refine at_box ?_);refine st_boxf K.out rfl rfl (fun _=>rfl) ?_;intro gc w1 K1;have K2:=Lib.hid K1;clear K1 K;(try clear a0 l0);(try clear a1 l1);(try clear a2 l2);have K:=K2;clear K2;have a0:=K.out.rd 0 rfl;have l0:=K.out.ltp 0 rfl)|((first|(go_at_call 31;(with_reducible refine ((C _).out).mono ?_))|(go_at_call 18;(with_reducible refine ((CC _).out).mono ?_)));rintro e w1 ⟨rfl,hb⟩;have K1:=sat.grown (by repeat (with_reducible first|exact K.out|apply sat.alloc_any|apply sat.drew|apply sat.drewN)) hb;clear hb;have K2:=Lib.hid K1;clear K1 K;(try clear a0 l0);(try clear a1 l1);(try clear a2 l2);have K:=K2;clear K2;have a0:=K.out.rd 0 rfl;have l0:=K.out.ltp 0 rfl))
    refine bodyPost_ret (by simp [results,Tryz.results62,go_sem, *]) rfl ⟨rfl,K.out.below⟩
  · have t1 : decide (cell < 0) = false:=by simpa using n1
    by_cases n2 : c.cells ≤ cell
    · rw [if_pos (.inr n2)]
      have t2 : decide (cell ≥ c.cells) = true:=by simpa using n2
      clear n1 n2 hA hT1 hT2 hcl
      go_enter Tryz.func62,Tryz.ntmps62
      go_wp2_with (first|((with_reducible refine at_box ?_);refine st_boxf K.out rfl rfl (fun _=>rfl) ?_;intro gc w1 K1;have K2:=Lib.hid K1;clear K1 K;(try clear a0 l0);(try clear a1 l1);(try clear a2 l2);have K:=K2;clear K2;have a0:=K.out.rd 0 rfl;have l0:=K.out.ltp 0 rfl)|((first|(go_at_call 31;(with_reducible refine ((C _).out).mono ?_))|(go_at_call 18;(with_reducible refine ((CC _).out).mono ?_)));rintro e w1 ⟨rfl,hb⟩;have K1:=sat.grown (by repeat (with_reducible first|exact K.out|apply sat.alloc_any|apply sat.drew|apply sat.drewN)) hb;clear hb;have K2:=Lib.hid K1;clear K1 K;(try clear a0 l0);(try clear a1 l1);(try clear a2 l2);have K:=K2;clear K2;have a0:=K.out.rd 0 rfl;have l0:=K.out.ltp 0 rfl))
      refine bodyPost_ret (by simp [results,Tryz.results62,go_sem, *]) rfl ⟨rfl,K.out.below⟩
    · rw [if_neg (by omega)]
      have t2 : decide (cell ≥ c.cells) = false:=by simp;omega
      by_cases n3 : cell < c.all
      · rw [if_pos n3]
        have t3 : decide (cell < c.all) = true:=by simpa using n3
        clear n1 n2 n3 hA hT1 hT2 hcl
        go_enter Tryz.func62,Tryz.ntmps62
        go_wp2_with (first|((with_reducible refine at_box ?_);refine st_boxf K.out rfl rfl (fun _=>rfl) ?_;intro gc w1 K1;have K2:=Lib.hid K1;clear K1 K;(try clear a0 l0);(try clear a1 l1);(try clear a2 l2);have K:=K2;clear K2;have a0:=K.out.rd 0 rfl;have l0:=K.out.ltp 0 rfl)|((first|(go_at_call 31;(with_reducible refine ((C _).out).mono ?_))|(go_at_call 18;(with_reducible refine ((CC _).out).mono ?_)));rintro e w1 ⟨rfl,hb⟩;have K1:=sat.grown (by repeat (with_reducible first|exact K.out|apply sat.alloc_any|apply sat.drew|apply sat.drewN)) hb;clear hb;have K2:=Lib.hid K1;clear K1 K;(try clear a0 l0);(try clear a1 l1);(try clear a2 l2);have K:=K2;clear K2;have a0:=K.out.rd 0 rfl;have l0:=K.out.ltp 0 rfl))
        refine bodyPost_ret (by simp [results,Tryz.results62,go_sem, *]) rfl ⟨rfl,K.out.below⟩
      · rw [if_neg n3]
        have t3 : decide (cell < c.all) = false:=by simpa using n3
        by_cases n4 : cell < 2 * c.all
        · rw [if_pos n4]
          have t4 : decide (cell < 2 * c.all) = true:=by simpa using n4
          have w4 : wrap64 (cell - c.all) = cell - c.all:=w64 (by omega) (by omega)
          clear n1 n2 n3 n4 hA hT1 hT2 hcl
          go_enter Tryz.func62,Tryz.ntmps62
          go_wp2_with (first|((with_reducible refine at_box ?_);refine st_boxf K.out rfl rfl (fun _=>rfl) ?_;intro gc w1 K1;have K2:=Lib.hid K1;clear K1 K;(try clear a0 l0);(try clear a1 l1);(try clear a2 l2);have K:=K2;clear K2;have a0:=K.out.rd 0 rfl;have l0:=K.out.ltp 0 rfl)|((first|(go_at_call 31;(with_reducible refine ((C _).out).mono ?_))|(go_at_call 18;(with_reducible refine ((CC _).out).mono ?_)));rintro e w1 ⟨rfl,hb⟩;have K1:=sat.grown (by repeat (with_reducible first|exact K.out|apply sat.alloc_any|apply sat.drew|apply sat.drewN)) hb;clear hb;have K2:=Lib.hid K1;clear K1 K;(try clear a0 l0);(try clear a1 l1);(try clear a2 l2);have K:=K2;clear K2;have a0:=K.out.rd 0 rfl;have l0:=K.out.ltp 0 rfl))
          refine bodyPost_ret (by simp [results,Tryz.results62,go_sem, *]) rfl ⟨rfl,K.out.below⟩
        · rw [if_neg n4]
          have t4 : decide (cell < 2 * c.all) = false:=by simpa using n4
          have i2 : IntKind.i64.wrap (2 * c.all) = 2 * c.all:=wi (by omega) (by omega)
          have i4 : IntKind.i64.wrap (cell - 2 * c.all) = cell - 2 * c.all:=wi (by omega) (by omega)
          have i5 : IntKind.i64.wrap (cell - 2 * c.all - c.th) = cell - 2 * c.all - c.th:=wi (by omega) (by omega)
          have w4 : wrap64 (cell - 2 * c.all) = cell - 2 * c.all:=w64 (by omega) (by omega)
          by_cases n5 : cell < 2 * c.all + c.th
          · rw [if_pos n5]
            have t5 : decide (cell < 2 * c.all + c.th) = true:=by simpa using n5
            clear n1 n2 n3 n4 n5 hA hT1 hT2 hcl
            go_enter Tryz.func62,Tryz.ntmps62
            go_wp2_with (first|((with_reducible refine at_box ?_);refine st_boxf K.out rfl rfl (fun _=>rfl) ?_;intro gc w1 K1;have K2:=Lib.hid K1;clear K1 K;(try clear a0 l0);(try clear a1 l1);(try clear a2 l2);have K:=K2;clear K2;have a0:=K.out.rd 0 rfl;have l0:=K.out.ltp 0 rfl)|((first|(go_at_call 31;(with_reducible refine ((C _).out).mono ?_))|(go_at_call 18;(with_reducible refine ((CC _).out).mono ?_)));rintro e w1 ⟨rfl,hb⟩;have K1:=sat.grown (by repeat (with_reducible first|exact K.out|apply sat.alloc_any|apply sat.drew|apply sat.drewN)) hb;clear hb;have K2:=Lib.hid K1;clear K1 K;(try clear a0 l0);(try clear a1 l1);(try clear a2 l2);have K:=K2;clear K2;have a0:=K.out.rd 0 rfl;have l0:=K.out.ltp 0 rfl))
            refine bodyPost_ret (by simp [results,Tryz.results62,go_sem, *]) rfl ⟨rfl,K.out.below⟩
          · rw [if_neg n5]
            have t5 : decide (cell < 2 * c.all + c.th) = false:=by simpa using n5
            have w5 : wrap64 (cell - 2 * c.all - c.th) = cell - 2 * c.all - c.th:=w64 (by omega) (by omega)
            clear n1 n2 n3 n4 n5 hA hT1 hT2 hcl
            go_enter Tryz.func62,Tryz.ntmps62
            go_wp2_with (first|((with_reducible refine at_box ?_);refine st_boxf K.out rfl rfl (fun _=>rfl) ?_;intro gc w1 K1;have K2:=Lib.hid K1;clear K1 K;(try clear a0 l0);(try clear a1 l1);(try clear a2 l2);have K:=K2;clear K2;have a0:=K.out.rd 0 rfl;have l0:=K.out.ltp 0 rfl)|((first|(go_at_call 31;(with_reducible refine ((C _).out).mono ?_))|(go_at_call 18;(with_reducible refine ((CC _).out).mono ?_)));rintro e w1 ⟨rfl,hb⟩;have K1:=sat.grown (by repeat (with_reducible first|exact K.out|apply sat.alloc_any|apply sat.drew|apply sat.drewN)) hb;clear hb;have K2:=Lib.hid K1;clear K1 K;(try clear a0 l0);(try clear a1 l1);(try clear a2 l2);have K:=K2;clear K2;have a0:=K.out.rd 0 rfl;have l0:=K.out.ltp 0 rfl))
            go_region_held3 (fun w'=>∀ j,w'.cell? ⟨gc,j,none⟩ = [Value.int .i64 c.th,Value.int .i64 c.sl,Value.int .i64 c.src,Value.int .i64 c.dl][j]?) (first|exact K.out.drew.rd 0 rfl|exact K.out.rd 0 rfl|go_keep) (fail)
            go_wp2
            refine bodyPost_ret (by simp [results,Tryz.results62,go_sem, *]) rfl ⟨rfl,(show sat w _ _ from (by repeat (with_reducible first|exact K.out|apply sat.alloc_any|apply sat.drew|apply sat.drewN))).below⟩
end
end Go.Proofs.YtegdhojhnmgjgaaGreat
/- The maps of the auditor: their keys and elements. No condition. -/
namespace Go.Proofs.YtegdhojhnmgjgaaGreat
open Go.RowKit Go.SepYtegdhojhnmgjgaaGreat Go.Maps
set_option maxRecDepth 100000
theorem laidP : laidOutB Tryz.prog = true:=by kernel_rfl
theorem keyedI : Keyed Tryz.prog 3:=int_keyed Tryz.underlying3
theorem keyedP : Keyed Tryz.prog 168:=Keyed.of_law (deep_law_laid laidP (m:=5) (by omega) (of_decide_eq_true (by kernel_rfl)) (by kernel_rfl) (by kernel_rfl))
def pairKey (i j : Int) : Lit:=.string (keyBytes [.int .i64 i,.int .i64 j])
theorem keyOf_pair {i j : Int} (hi : w64P i) (hj : w64P j) : keyOf Tryz.prog 168 (.agg #[.int .i64 i,.int .i64 j]) = some (pairKey i j):=by
  have hu : Tryz.prog.underlying 168 = some (.array 2 3):=by kernel_rfl
  have hk : Tryz.prog.keyType 168 = true:=by kernel_rfl
  have hc : Tryz.prog.cellsOf 168 = 2:=by kernel_rfl
  have hc1 : Tryz.prog.cellsOf 3 = 1:=by kernel_rfl
  have hz : ∃ m,Tryz.prog.types.size + 1 = m + 2:=⟨Tryz.prog.types.size - 1,by kernel_rfl⟩
  obtain ⟨m,hm⟩:=hz
  have hui:=Tryz.underlying3
  simp only [keyOf,hu,hk,hm,Value.formed,hc]
  rw [if_pos (by rfl)]
  have e : Tryz.prog.keyLits (m + 2) 168 [.int .i64 i,.int .i64 j] = some [.int .i64 i,.int .i64 j]:=by
    simp [Program.keyLits,hu,hui,hc,hc1,wf64 hi,wf64 hj,List.range,List.range.loop]
  have e2 : (Value.agg #[.int .i64 i,.int .i64 j]).cells.toList = [.int .i64 i,.int .i64 j]:=rfl
  rw [e2,e]
  rfl
theorem pairKey_inj {i j a b : Int} (hi : w64P i) (hj : w64P j) (ha : w64P a) (hb : w64P b) (h : pairKey i j = pairKey a b) : i = a ∧ j = b:=by
  have h1:=keyOf_pair hi hj
  rw [h] at h1
  have:=keyedP.inj h1 (keyOf_pair ha hb)
  simpa using this
theorem zeroV : ∀ w : World,(zeroValue 33).run Tryz.prog w = .ok (.int .u64 0) w:=fun w=>by kernel_rfl
theorem zeroG : ∀ w : World,(zeroValue 3).run Tryz.prog w = .ok (.int .i64 0) w:=fun w=>by kernel_rfl
abbrev cellsA (b n : Nat) (f : Lit → Option Int) : SA:=mapI Tryz.prog 3 33 .u64 b n f
abbrev seenA (b n : Nat) (f : Lit → Option Int) : SA:=mapI Tryz.prog 168 3 .i64 b n f
section
variable {E w : World} {L : List SA}
theorem look_cells {b n : Nat} {f : Lit → Option Int} (h : sat E w (cellsA b n f :: L)) {i : Int} (hi : w64P i) :
    (Instr.lookup 124 (.map (some b)) (.int .i64 i) false).run Tryz.prog w = .ok (.int .u64 ((f (.int .i64 i)).getD 0)) w :=
  (sat.mapI_look h keyedI Tryz.underlying124 Tryz.underlying33 zeroV (keyOf_int_mk Tryz.underlying3 (wf64 hi))).1
theorem look_seen {b n : Nat} {f : Lit → Option Int} (h : sat E w (seenA b n f :: L)) {i j : Int} (hi : w64P i) (hj : w64P j) :
    (Instr.lookup 125 (.map (some b)) (.agg #[.int .i64 i,.int .i64 j]) true).run Tryz.prog w = .ok (.tuple #[.int .i64 ((f (pairKey i j)).getD 0),.bool (f (pairKey i j)).isSome]) w :=
  (sat.mapI_look h keyedP Tryz.underlying125 Tryz.underlying3 zeroG (keyOf_pair hi hj)).2
theorem put_cells {b n : Nat} {f : Lit → Option Int} (h : sat E w (cellsA b n f :: L)) (hn : n ≤ 1000000) {i x : Int} (hi : w64P i) (hx : 0 ≤ x ∧ x < 18446744073709551616) :
    ∃ w',(Instr.mapUpdate 124 (.map (some b)) (.int .i64 i) (.int .u64 x)).run Tryz.prog w = .ok () w' ∧ sat E w' (cellsA b (n + 1) (updI f (.int .i64 i) x) :: L) :=
  sat.mapI_put h keyedI Tryz.underlying124 Tryz.underlying33 (by unfold maxLen;omega) (keyOf_int_mk Tryz.underlying3 (wf64 hi)) (wfU hx)
theorem put_seen {b n : Nat} {f : Lit → Option Int} (h : sat E w (seenA b n f :: L)) (hn : n ≤ 1000000) {i j x : Int} (hi : w64P i) (hj : w64P j) (hx : w64P x) :
    ∃ w',(Instr.mapUpdate 125 (.map (some b)) (.agg #[.int .i64 i,.int .i64 j]) (.int .i64 x)).run Tryz.prog w = .ok () w' ∧ sat E w' (seenA b (n + 1) (updI f (pairKey i j) x) :: L) :=
  sat.mapI_put h keyedP Tryz.underlying125 Tryz.underlying3 (by unfold maxLen;omega) (keyOf_pair hi hj) (wf64 hx)
end
end Go.Proofs.YtegdhojhnmgjgaaGreat
/- The auditor, step by step: what each of its functions answers. Conditions: a Right layout; a place of it. -/
namespace Go.Proofs.YtegdhojhnmgjgaaGreat
open Go.RowKit Go.SepYtegdhojhnmgjgaaGreat Go.Maps
set_option maxRecDepth 100000
set_option maxHeartbeats 4000000
abbrev Ev.v (e : Ev) : List Value:=[.int .i64 e.who,.int .i64 e.op,.int .i64 e.cell,.int .u64 e.old,.int .u64 e.new,.bool e.ok]
abbrev audV (c : ConfM) (bc bs : Nat) : List Value:=[.int .i64 c.th,.int .i64 c.sl,.int .i64 c.src,.int .i64 c.dl,.map (some bc),.map (some bs)]
abbrev audA (b : Nat) (c : ConfM) (bc bs : Nat) : SA:=pt b (.cells (audV c bc bs).toArray 127 (0,0))
abbrev evA (b : Nat) (e : Ev) : SA:=pt b (.cells e.v.toArray 85 (0,0))
abbrev wordL (x : WordM) : List Value:=[.int .i64 x.state,.int .i64 x.fin,.int .i64 x.gen,.int .i64 x.stamp.lo,.int .i64 x.stamp.hi]
abbrev wordA (b : Nat) (x : WordM) : SA:=pt b (.cells (wordL x).toArray 122 (0,0))
abbrev wordV (x : WordM) : Value:=.agg #[.int .i64 x.state,.int .i64 x.fin,.int .i64 x.gen,.int .i64 x.stamp.lo,.int .i64 x.stamp.hi]
theorem unpack_lay (x : Int) (h0 : 0 ≤ x) (h1 : x < 18446744073709551616) (w : World) : Tells 91 #[.int .u64 x] w (wordV (unpack x)):=unpack_calls x h0 h1 w
section
variable {E w : World} {L : List SA}
theorem audS {a bc bs n : Nat} {c : ConfM} {f : Lit → Option Int} {M : List SA} (h : sat E w (audA a c bc bs :: cellsA bc n f :: M)) (i : Int) (hi : w64P i) :
    (∀ j,w.cell? ⟨a,j,none⟩ = (audV c bc bs)[j]?) ∧ (Instr.lookup 124 (.map (some bc)) (.int .i64 i) false).run Tryz.prog w = .ok (.int .u64 ((f (.int .i64 i)).getD 0)) w :=
  ⟨h.rd 0 rfl,look_cells (h.pick 1 rfl) hi⟩
theorem aword_calls (c : ConfM) (hc : c.ok) (a bc bs n m : Nat) (f g : Lit → Option Int) (slot : Int) (h0 : 0 ≤ slot) (h1 : slot < c.all)
    (hf : ∀ i,0 ≤ (f (.int .i64 i)).getD 0 ∧ (f (.int .i64 i)).getD 0 < 18446744073709551616)
    (h : sat E w (audA a c bc bs :: cellsA bc n f :: seenA bs m g :: L)) :
    Calls Tryz.prog 113 #[.pointer (some ⟨a,0,none⟩),.int .i64 slot] w fun r w'=>r = .returned (wordV (unpack ((f (.int .i64 slot)).getD 0))) ∧ sat E w' (audA a c bc bs :: cellsA bc n f :: seenA bs m g :: L):=by
  have hal:=hc.all_bd
  have LK:=Lib.hid (show w64P slot by unfold w64P;omega)
  have U:=fun w'=>Lib.hid (unpack_lay _ (hf slot).1 (hf slot).2 w')
  have W1:=fun w'=>Lib.hid (word_calls c w' slot)
  have K:=Lib.hid h
  have a0:=h.rd 0 rfl
  clear h hf
  go_enter Tryz.func113,Tryz.ntmps113
  go_wp2_with (first|((with_reducible refine at_alloc ?_);refine st_allocf K.out (fun _=>rfl) ?_;intro gr w1 K1;have K2:=Lib.hid K1;clear K1 K;(try clear a0 l0);(try clear a1 l1);(try clear a2 l2);(try clear f0);have K:=K2;clear K2;have a0:=K.out.rd 0 rfl;have l0:=K.out.ltp 0 rfl;have f0:=K.out.fr 0 rfl;have a1:=K.out.rd 1 rfl;have l1:=K.out.ltp 1 rfl))
  go_region_held3 (fun w'=>(∀ j,w'.cell? ⟨a,j,none⟩ = (audV c bc bs)[j]?) ∧ (Instr.lookup 124 (.map (some bc)) (.int .i64 slot) false).run Tryz.prog w' = .ok (.int .u64 ((f (.int .i64 slot)).getD 0)) w') (first|exact audS (show sat E _ _ from (by repeat (with_reducible first|exact K.out|apply sat.alloc_any|apply sat.drew|apply sat.drewN))).drop slot LK.out|exact audS (sat.set0 (sat.set0 (sat.set0 (sat.set0 (sat.set0 K.out))))).drop slot LK.out) (first|((first|(go_at_call 33;(with_reducible refine ((W1 _).out).mono ?_))|(go_at_call 91;(with_reducible refine ((U _).out).mono ?_)));rintro e w1 ⟨rfl,hb⟩;have K1:=sat.grown (by repeat (with_reducible first|exact K.out|apply sat.alloc_any|apply sat.drew|apply sat.drewN)) hb;clear hb;have K2:=Lib.hid K1;clear K1 K;(try clear a0 l0);(try clear a1 l1);(try clear a2 l2);(try clear f0);have K:=K2;clear K2;have a0:=K.out.rd 0 rfl;have l0:=K.out.ltp 0 rfl;have f0:=K.out.fr 0 rfl;have a1:=K.out.rd 1 rfl;have l1:=K.out.ltp 1 rfl))
  clear ‹_ ∧ Sem.run _ _ _ = _›
  have K1:=sat.set0 (i:=4) (v:=.int .i64 (unpack ((f (.int .i64 slot)).getD 0)).stamp.hi) (sat.set0 (i:=3) (v:=.int .i64 (unpack ((f (.int .i64 slot)).getD 0)).stamp.lo) (sat.set0 (i:=2) (v:=.int .i64 (unpack ((f (.int .i64 slot)).getD 0)).gen) (sat.set0 (i:=1) (v:=.int .i64 (unpack ((f (.int .i64 slot)).getD 0)).fin) (sat.set0 (i:=0) (v:=.int .i64 (unpack ((f (.int .i64 slot)).getD 0)).state) K.out))))
  simp only [List.set] at K1
  obtain ⟨w2,hw2,K2⟩:=K1.gen
  rw [← hw2]
  clear hw2 K1 K a0 l0 f0 a1 l1
  have K:=Lib.hid K2
  clear K2
  have a0:=K.out.rd 0 rfl
  go_wp2
  exact bodyPost_ret (v:=wordV (unpack ((f (.int .i64 slot)).getD 0))) (by simp [results,Tryz.results113,go_sem,a0]) rfl ⟨rfl,K.out.drop⟩
theorem _root_.Go.SepYtegdhojhnmgjgaaGreat.sat.cabA {A B C : SA} (h : sat E w (A :: B :: C :: L)) : sat E w (C :: A :: B :: L):=h.pick 2 rfl
theorem _root_.Go.SepYtegdhojhnmgjgaaGreat.sat.uncabA {A B C : SA} (h : sat E w (C :: A :: B :: L)) : sat E w (A :: B :: C :: L):=(h.pick 2 rfl).pick 2 rfl
theorem szal (w : World) (o : Obj) : (w.alloc o).heap.size = w.heap.size + 1:=by simp
theorem szdrew (w : World) : w.drew.heap.size = w.heap.size:=rfl
theorem allocB {w : World} {A O : Obj} {M : List SA} (h : sat E (w.alloc A) M) : sat E ((w.alloc A).alloc O) (pt (w.heap.size + 1) O :: M):=by
  have:=h.alloc O
  rwa [szal] at this
theorem set5_0 {b t : Nat} {M : List SA} {x0 x1 x2 x3 x4 y0 y1 y2 y3 y4 : Value} (h : sat E w (pt b (.cells #[x0,x1,x2,x3,x4] t (0,0)) :: M)) :
    sat E (((((w.setCell ⟨b,0,none⟩ y0).setCell ⟨b,1,none⟩ y1).setCell ⟨b,2,none⟩ y2).setCell ⟨b,3,none⟩ y3).setCell ⟨b,4,none⟩ y4) (pt b (.cells #[y0,y1,y2,y3,y4] t (0,0)) :: M) :=
  sat.set0 (i:=4) (v:=y4) (sat.set0 (i:=3) (v:=y3) (sat.set0 (i:=2) (v:=y2) (sat.set0 (i:=1) (v:=y1) (sat.set0 (i:=0) (v:=y0) (l:=[x0,x1,x2,x3,x4]) h))))
theorem set5_1 {A : SA} {b t : Nat} {M : List SA} {x0 x1 x2 x3 x4 y0 y1 y2 y3 y4 : Value} (h : sat E w (A :: pt b (.cells #[x0,x1,x2,x3,x4] t (0,0)) :: M)) :
    sat E (((((w.setCell ⟨b,0,none⟩ y0).setCell ⟨b,1,none⟩ y1).setCell ⟨b,2,none⟩ y2).setCell ⟨b,3,none⟩ y3).setCell ⟨b,4,none⟩ y4) (A :: pt b (.cells #[y0,y1,y2,y3,y4] t (0,0)) :: M) :=
  (set5_0 h.swap).swap
end
end Go.Proofs.YtegdhojhnmgjgaaGreat
/- The auditor, step by step: what each of its functions answers. Conditions: a Right layout; a place of it. -/
namespace Go.Proofs.YtegdhojhnmgjgaaGreat
open Go.RowKit Go.SepYtegdhojhnmgjgaaGreat Go.Maps
set_option maxRecDepth 100000
set_option maxHeartbeats 40000000
section
variable {E w : World} {L : List SA}
theorem next_iff (now was : WordM) : decide (now = was.next now.fin now.stamp) = (now.state == 1 && now.gen == was.gen + 1):=by
  obtain ⟨a,b,c,d⟩:=now
  rw [Bool.eq_iff_iff]
  simp [WordM.next]
theorem taken_iff (now was : WordM) : decide (now = was.taken) = (now.state == 2 && now.fin == was.fin && now.gen == was.gen && now.stamp.lo == was.stamp.lo && now.stamp.hi == was.stamp.hi):=by
  obtain ⟨a,b,c,d,e⟩:=now
  obtain ⟨a',b',c',d',e'⟩:=was
  rw [Bool.eq_iff_iff]
  simp [WordM.taken,and_assoc]
theorem ofWord_calls (c : ConfM) (hc : c.ok) (a bc bs n m : Nat) (f g : Lit → Option Int) (slot : Int) (h0 : 0 ≤ slot) (h1 : slot < c.all) (hm : m ≤ 1000000) (e : Ev) (he : Ev.wf e)
    (h : sat E w (audA a c bc bs :: cellsA bc n f :: seenA bs m g :: L)) :
    Calls Tryz.prog 87 #[.pointer (some ⟨a,0,none⟩),.agg e.v.toArray,.int .i64 slot] w fun r w'=>r = .returned (.bool (wordB c e slot)) ∧ sat E w' (audA a c bc bs :: cellsA bc n f :: seenA bs (m + 1) (if e.op = 0 then updI g (pairKey e.who slot) (unpack e.old).gen else g) :: L):=by
  have hal:=hc.all_bd
  obtain ⟨e1,e2,e3,e4⟩:=he
  have U1:=fun w'=>Lib.hid (unpack_lay e.old e3.1 e3.2 w')
  have U2:=fun w'=>Lib.hid (unpack_lay e.new e4.1 e4.2 w')
  have K:=Lib.hid h
  clear h
  have OW:=fun w'=>Lib.hid (owner_calls c w' hc slot h0 h1)
  have HS:=Lib.hid (show w64P slot by unfold w64P;omega)
  have HG:=Lib.hid (show (Lit.int .i64 (unpack e.old).gen).wf = true from wf64 (by unfold w64P unpack;dsimp only;omega))
  generalize hw1 : unpack e.old = was at *
  generalize hw2 : unpack e.new = now at *
  have hg : 0 ≤ was.gen ∧ was.gen ≤ 100000:=by rw [← hw1];unfold unpack;dsimp only;omega
  have RI:=fun w'=>Lib.hid (sright_calls now.stamp w')
  have NX:=fun w'=>Lib.hid (show Tells 78 #[wordV was,.int .i64 now.fin,.agg #[.int .i64 now.stamp.lo,.int .i64 now.stamp.hi]] w' (.agg #[.int .i64 1,.int .i64 now.fin,.int .i64 (was.gen + 1),.int .i64 now.stamp.lo,.int .i64 now.stamp.hi]) from next_calls was now.fin now.stamp hg w')
  have TK:=fun w'=>Lib.hid (show Tells 111 #[wordV was] w' (.agg #[.int .i64 2,.int .i64 was.fin,.int .i64 was.gen,.int .i64 was.stamp.lo,.int .i64 was.stamp.hi]) from taken_calls was w')
  have MM:=Lib.hid (show ∀ (w : World) (A B C : SA),sat E w (A :: B :: C :: audA a c bc bs :: cellsA bc n f :: seenA bs m g :: L) → sat E w (audA a c bc bs :: cellsA bc n f :: seenA bs (m + 1) g :: L) from fun _ _ _ _ h=>(((h.drop.drop.drop.pick 2 rfl).mapI_mono (Nat.le_succ m)).uncabA))
  unfold wordB
  rw [hw1,hw2,next_iff,taken_iff]
  clear hw1 hw2 hg
  go_enter Tryz.func87,Tryz.ntmps87
  go_upto_region 1 with (first|((with_reducible refine at_box ?_);refine st_boxf K.out rfl rfl (fun _=>rfl) ?_;intro ge w1 K1;have K2:=Lib.hid K1;clear K1 K;(try clear a0 l0);(try clear a1 l1);(try clear a2 l2);have K:=K2;clear K2;have a0:=K.out.rd 0 rfl;have l0:=K.out.ltp 0 rfl))
  go_cut [7,8] (fun s7 s8 wx=>∃ g7 g8 : Nat,s7 = .pointer (some ⟨g7,0,none⟩) ∧ s8 = .pointer (some ⟨g8,0,none⟩) ∧ sat E wx (wordA g8 now :: wordA g7 was :: evA ge e :: audA a c bc bs :: cellsA bc n f :: seenA bs m g :: L))
  case first =>
    refine wp_region_noPanic ?_
    refine wp_region_held_drew (S:=(fun w'=>∀ j,w'.cell? ⟨ge,j,none⟩ = e.v[j]?)) (by kernel_rfl) ?_ (fun hHeld=>?_)
    · ((try dsimp only);(first|exact K.out.rd 0 rfl|exact K.out.rd 1 rfl|exact K.out.rd 2 rfl|exact K.out.drew.rd 0 rfl))
    refine tk 0 (some 9) ?_
    try simp only[Act.put,p0,p1,p2]
    refine tk 1 (some 10) ?_
    try simp only[Act.put,p0,p1,p2]
    refine tk 3 (some 12) ?_
    try simp only[Act.put,p0,p1,p2]
    refine tk 4 (some 13) ?_
    try simp only[Act.put,p0,p1,p2]
    refine wpAnyH_ready (rs:=[2,6,7]) (by kernel_rfl) (by simp) ?_
    refine AllReadyH.cons (o:=_) rfl (fun kC hkC=>?_) ?_
    go_simp
    (first|((first|(go_at_call 91;(with_reducible refine ((U1 _).out).mono ?_))|(go_at_call 91;(with_reducible refine ((U2 _).out).mono ?_)));rintro e w1 ⟨rfl,hb⟩;have K1:=sat.grown (show sat _ _ _ from by first|exact K.out|exact K.out.drew) hb;clear hb;have K2:=Lib.hid K1;clear K1 K;have K:=K2;clear K2))
    refine shown hkC _ _ (by (try dsimp only);(first|exact K.out.rd 0 rfl|exact K.out.rd 1 rfl|exact K.out.rd 2 rfl|exact K.out.drew.rd 0 rfl)) ?_;clear hkC kC hHeld;intro hHeld
    try simp only[Act.put,p0,p1,p2]
    refine wpAnyH_ready (rs:=[5,6,7]) (by kernel_rfl) (by simp) ?_
    refine AllReadyH.cons (o:=_) rfl (fun kC hkC=>?_) ?_
    go_simp
    (first|((first|(go_at_call 91;(with_reducible refine ((U1 _).out).mono ?_))|(go_at_call 91;(with_reducible refine ((U2 _).out).mono ?_)));rintro e w1 ⟨rfl,hb⟩;have K1:=sat.grown (show sat _ _ _ from by first|exact K.out|exact K.out.drew) hb;clear hb;have K2:=Lib.hid K1;clear K1 K;have K:=K2;clear K2))
    refine shown hkC _ _ (by (try dsimp only);(first|exact K.out.rd 0 rfl|exact K.out.rd 1 rfl|exact K.out.rd 2 rfl|exact K.out.drew.rd 0 rfl)) ?_;clear hkC kC hHeld;intro hHeld
    try simp only[Act.put,p0,p1,p2]
    refine wpAnyH_ready (rs:=[6,7]) (by kernel_rfl) (by simp) ?_
    refine AllReadyH.cons (o:=_) rfl (fun kC hkC=>?_) ?_
    (refine rg_alloc (E:=E) (d:=some 7) (by kernel_rfl) rfl rfl (by first|exact K.out|exact K.out.drew) (fun _=>rfl) ?_;intro gx w1 K1;have K2:=Lib.hid K1;clear K1 K;have K:=K2;clear K2)
    refine shown hkC _ _ (by (try dsimp only);(first|exact K.out.rd 0 rfl|exact K.out.rd 1 rfl|exact K.out.rd 2 rfl|exact K.out.drew.rd 0 rfl)) ?_;clear hkC kC hHeld;intro hHeld
    try simp only[Act.put,p0,p1,p2]
    refine wpAnyH_ready (rs:=[7]) (by kernel_rfl) (by simp) ?_
    refine AllReadyH.cons (o:=_) rfl (fun kC hkC=>?_) AllReadyH.nil
    (refine rg_alloc (E:=E) (d:=some 8) (by kernel_rfl) rfl rfl (by first|exact K.out|exact K.out.drew) (fun _=>rfl) ?_;intro gx w1 K1;have K2:=Lib.hid K1;clear K1 K;have K:=K2;clear K2)
    refine shown hkC _ _ (by (try dsimp only);(first|exact K.out.rd 0 rfl|exact K.out.rd 1 rfl|exact K.out.rd 2 rfl|exact K.out.drew.rd 0 rfl)) ?_;clear hkC kC hHeld;intro hHeld
    try simp only[Act.put,p0,p1,p2]
    refine wpAnyH_ready (rs:=[8]) (by kernel_rfl) (by simp) ?_
    refine AllReadyH.cons (o:=_) rfl (fun kC hkC=>?_) AllReadyH.nil
    (first|((first|(refine rg_store (E:=E) (d:=none) 0 (by kernel_rfl) rfl rfl (by first|exact K.out|exact K.out.drew) rfl rfl rfl rfl ?_ ?_ ?_ ?_;(· kernel_rfl))|(refine rg_store (E:=E) (d:=none) 1 (by kernel_rfl) rfl rfl (by first|exact K.out|exact K.out.drew) rfl rfl rfl rfl ?_ ?_ ?_ ?_;(· kernel_rfl))|(refine rg_store (E:=E) (d:=none) 2 (by kernel_rfl) rfl rfl (by first|exact K.out|exact K.out.drew) rfl rfl rfl rfl ?_ ?_ ?_ ?_;(· kernel_rfl)));(· simp);(· simp [Value.oneCell']);intro w1 K1;simp only [List.set,putL] at K1;have K2:=Lib.hid K1;clear K1 K;have K:=K2;clear K2))
    refine shown hkC _ _ (by (try dsimp only);(first|exact K.out.rd 0 rfl|exact K.out.rd 1 rfl|exact K.out.rd 2 rfl|exact K.out.drew.rd 0 rfl)) ?_;clear hkC kC hHeld;intro hHeld
    try simp only[Act.put,p0,p1,p2]
    refine wpAnyH_ready (rs:=[9]) (by kernel_rfl) (by simp) ?_
    refine AllReadyH.cons (o:=_) rfl (fun kC hkC=>?_) AllReadyH.nil
    (first|((first|(refine rg_store (E:=E) (d:=none) 0 (by kernel_rfl) rfl rfl (by first|exact K.out|exact K.out.drew) rfl rfl rfl rfl ?_ ?_ ?_ ?_;(· kernel_rfl))|(refine rg_store (E:=E) (d:=none) 1 (by kernel_rfl) rfl rfl (by first|exact K.out|exact K.out.drew) rfl rfl rfl rfl ?_ ?_ ?_ ?_;(· kernel_rfl))|(refine rg_store (E:=E) (d:=none) 2 (by kernel_rfl) rfl rfl (by first|exact K.out|exact K.out.drew) rfl rfl rfl rfl ?_ ?_ ?_ ?_;(· kernel_rfl)));(· simp);(· simp [Value.oneCell']);intro w1 K1;simp only [List.set,putL] at K1;have K2:=Lib.hid K1;clear K1 K;have K:=K2;clear K2))
    refine shown hkC _ _ (by (try dsimp only);(first|exact K.out.rd 0 rfl|exact K.out.rd 1 rfl|exact K.out.rd 2 rfl|exact K.out.drew.rd 0 rfl)) ?_;clear hkC kC hHeld;intro hHeld
    try simp only[Act.put,p0,p1,p2]
    have K1:=K.out;have K2:=Lib.hid K1;clear K1 K;(try clear a0 l0);(try clear f0);(try clear a1 l1);(try clear f1);(try clear a2 l2);(try clear f2);(try clear a3 l3);(try clear f3);(try clear a4 l4);(try clear f4);(try clear a5 l5);(try clear f5);have K:=K2;clear K2;(try have a0:=K.out.rd 0 rfl);(try have l0:=K.out.ltp 0 rfl);(try have f0:=K.out.fr 0 rfl);(try have a1:=K.out.rd 1 rfl);(try have l1:=K.out.ltp 1 rfl);(try have f1:=K.out.fr 1 rfl);(try have a2:=K.out.rd 2 rfl);(try have l2:=K.out.ltp 2 rfl);(try have f2:=K.out.fr 2 rfl);(try have a3:=K.out.rd 3 rfl);(try have l3:=K.out.ltp 3 rfl);(try have f3:=K.out.fr 3 rfl)
    refine wpAnyH_done (by kernel_rfl) (NoPanic.normal ?_) _
    rotate_left
    refine AllReadyH.cons (o:=_) rfl (fun kC hkC=>?_) ?_
    (refine rg_alloc (E:=E) (d:=some 8) (by kernel_rfl) rfl rfl (by first|exact K.out|exact K.out.drew) (fun _=>rfl) ?_;intro gx w1 K1;have K2:=Lib.hid K1;clear K1 K;have K:=K2;clear K2)
    refine shown hkC _ _ (by (try dsimp only);(first|exact K.out.rd 0 rfl|exact K.out.rd 1 rfl|exact K.out.rd 2 rfl|exact K.out.drew.rd 0 rfl)) ?_;clear hkC kC hHeld;intro hHeld
    try simp only[Act.put,p0,p1,p2]
    refine wpAnyH_ready (rs:=[6]) (by kernel_rfl) (by simp) ?_
    refine AllReadyH.cons (o:=_) rfl (fun kC hkC=>?_) AllReadyH.nil
    (refine rg_alloc (E:=E) (d:=some 7) (by kernel_rfl) rfl rfl (by first|exact K.out|exact K.out.drew) (fun _=>rfl) ?_;intro gx w1 K1;have K2:=Lib.hid K1;clear K1 K;have K:=K2;clear K2)
    refine shown hkC _ _ (by (try dsimp only);(first|exact K.out.rd 0 rfl|exact K.out.rd 1 rfl|exact K.out.rd 2 rfl|exact K.out.drew.rd 0 rfl)) ?_;clear hkC kC hHeld;intro hHeld
    try simp only[Act.put,p0,p1,p2]
    refine wpAnyH_ready (rs:=[8]) (by kernel_rfl) (by simp) ?_
    refine AllReadyH.cons (o:=_) rfl (fun kC hkC=>?_) AllReadyH.nil
    (first|((first|(refine rg_store (E:=E) (d:=none) 0 (by kernel_rfl) rfl rfl (by first|exact K.out|exact K.out.drew) rfl rfl rfl rfl ?_ ?_ ?_ ?_;(· kernel_rfl))|(refine rg_store (E:=E) (d:=none) 1 (by kernel_rfl) rfl rfl (by first|exact K.out|exact K.out.drew) rfl rfl rfl rfl ?_ ?_ ?_ ?_;(· kernel_rfl))|(refine rg_store (E:=E) (d:=none) 2 (by kernel_rfl) rfl rfl (by first|exact K.out|exact K.out.drew) rfl rfl rfl rfl ?_ ?_ ?_ ?_;(· kernel_rfl)));(· simp);(· simp [Value.oneCell']);intro w1 K1;simp only [List.set,putL] at K1;have K2:=Lib.hid K1;clear K1 K;have K:=K2;clear K2))
    refine shown hkC _ _ (by (try dsimp only);(first|exact K.out.rd 0 rfl|exact K.out.rd 1 rfl|exact K.out.rd 2 rfl|exact K.out.drew.rd 0 rfl)) ?_;clear hkC kC hHeld;intro hHeld
    try simp only[Act.put,p0,p1,p2]
    refine wpAnyH_ready (rs:=[9]) (by kernel_rfl) (by simp) ?_
    refine AllReadyH.cons (o:=_) rfl (fun kC hkC=>?_) AllReadyH.nil
    (first|((first|(refine rg_store (E:=E) (d:=none) 0 (by kernel_rfl) rfl rfl (by first|exact K.out|exact K.out.drew) rfl rfl rfl rfl ?_ ?_ ?_ ?_;(· kernel_rfl))|(refine rg_store (E:=E) (d:=none) 1 (by kernel_rfl) rfl rfl (by first|exact K.out|exact K.out.drew) rfl rfl rfl rfl ?_ ?_ ?_ ?_;(· kernel_rfl))|(refine rg_store (E:=E) (d:=none) 2 (by kernel_rfl) rfl rfl (by first|exact K.out|exact K.out.drew) rfl rfl rfl rfl ?_ ?_ ?_ ?_;(· kernel_rfl)));(· simp);(· simp [Value.oneCell']);intro w1 K1;simp only [List.set,putL] at K1;have K2:=Lib.hid K1;clear K1 K;have K:=K2;clear K2))
    refine shown hkC _ _ (by (try dsimp only);(first|exact K.out.rd 0 rfl|exact K.out.rd 1 rfl|exact K.out.rd 2 rfl|exact K.out.drew.rd 0 rfl)) ?_;clear hkC kC hHeld;intro hHeld
    try simp only[Act.put,p0,p1,p2]
    have K1:=K.out;have K2:=Lib.hid K1;clear K1 K;(try clear a0 l0);(try clear f0);(try clear a1 l1);(try clear f1);(try clear a2 l2);(try clear f2);(try clear a3 l3);(try clear f3);(try clear a4 l4);(try clear f4);(try clear a5 l5);(try clear f5);have K:=K2;clear K2;(try have a0:=K.out.rd 0 rfl);(try have l0:=K.out.ltp 0 rfl);(try have f0:=K.out.fr 0 rfl);(try have a1:=K.out.rd 1 rfl);(try have l1:=K.out.ltp 1 rfl);(try have f1:=K.out.fr 1 rfl);(try have a2:=K.out.rd 2 rfl);(try have l2:=K.out.ltp 2 rfl);(try have f2:=K.out.fr 2 rfl);(try have a3:=K.out.rd 3 rfl);(try have l3:=K.out.ltp 3 rfl);(try have f3:=K.out.fr 3 rfl)
    refine wpAnyH_done (by kernel_rfl) (NoPanic.normal ?_) _
    rotate_left
    exact AllReadyH.nil
    refine AllReadyH.cons (o:=_) rfl (fun kC hkC=>?_) ?_
    (refine rg_alloc (E:=E) (d:=some 7) (by kernel_rfl) rfl rfl (by first|exact K.out|exact K.out.drew) (fun _=>rfl) ?_;intro gx w1 K1;have K2:=Lib.hid K1;clear K1 K;have K:=K2;clear K2)
    refine shown hkC _ _ (by (try dsimp only);(first|exact K.out.rd 0 rfl|exact K.out.rd 1 rfl|exact K.out.rd 2 rfl|exact K.out.drew.rd 0 rfl)) ?_;clear hkC kC hHeld;intro hHeld
    try simp only[Act.put,p0,p1,p2]
    refine wpAnyH_ready (rs:=[5,7]) (by kernel_rfl) (by simp) ?_
    refine AllReadyH.cons (o:=_) rfl (fun kC hkC=>?_) ?_
    go_simp
    (first|((first|(go_at_call 91;(with_reducible refine ((U1 _).out).mono ?_))|(go_at_call 91;(with_reducible refine ((U2 _).out).mono ?_)));rintro e w1 ⟨rfl,hb⟩;have K1:=sat.grown (show sat _ _ _ from by first|exact K.out|exact K.out.drew) hb;clear hb;have K2:=Lib.hid K1;clear K1 K;have K:=K2;clear K2))
    refine shown hkC _ _ (by (try dsimp only);(first|exact K.out.rd 0 rfl|exact K.out.rd 1 rfl|exact K.out.rd 2 rfl|exact K.out.drew.rd 0 rfl)) ?_;clear hkC kC hHeld;intro hHeld
    try simp only[Act.put,p0,p1,p2]
    refine wpAnyH_ready (rs:=[7]) (by kernel_rfl) (by simp) ?_
    refine AllReadyH.cons (o:=_) rfl (fun kC hkC=>?_) AllReadyH.nil
    (refine rg_alloc (E:=E) (d:=some 8) (by kernel_rfl) rfl rfl (by first|exact K.out|exact K.out.drew) (fun _=>rfl) ?_;intro gx w1 K1;have K2:=Lib.hid K1;clear K1 K;have K:=K2;clear K2)
    refine shown hkC _ _ (by (try dsimp only);(first|exact K.out.rd 0 rfl|exact K.out.rd 1 rfl|exact K.out.rd 2 rfl|exact K.out.drew.rd 0 rfl)) ?_;clear hkC kC hHeld;intro hHeld
    try simp only[Act.put,p0,p1,p2]
    refine wpAnyH_ready (rs:=[8]) (by kernel_rfl) (by simp) ?_
    refine AllReadyH.cons (o:=_) rfl (fun kC hkC=>?_) AllReadyH.nil
    (first|((first|(refine rg_store (E:=E) (d:=none) 0 (by kernel_rfl) rfl rfl (by first|exact K.out|exact K.out.drew) rfl rfl rfl rfl ?_ ?_ ?_ ?_;(· kernel_rfl))|(refine rg_store (E:=E) (d:=none) 1 (by kernel_rfl) rfl rfl (by first|exact K.out|exact K.out.drew) rfl rfl rfl rfl ?_ ?_ ?_ ?_;(· kernel_rfl))|(refine rg_store (E:=E) (d:=none) 2 (by kernel_rfl) rfl rfl (by first|exact K.out|exact K.out.drew) rfl rfl rfl rfl ?_ ?_ ?_ ?_;(· kernel_rfl)));(· simp);(· simp [Value.oneCell']);intro w1 K1;simp only [List.set,putL] at K1;have K2:=Lib.hid K1;clear K1 K;have K:=K2;clear K2))
    refine shown hkC _ _ (by (try dsimp only);(first|exact K.out.rd 0 rfl|exact K.out.rd 1 rfl|exact K.out.rd 2 rfl|exact K.out.drew.rd 0 rfl)) ?_;clear hkC kC hHeld;intro hHeld
    try simp only[Act.put,p0,p1,p2]
    refine wpAnyH_ready (rs:=[9]) (by kernel_rfl) (by simp) ?_
    refine AllReadyH.cons (o:=_) rfl (fun kC hkC=>?_) AllReadyH.nil
    (first|((first|(refine rg_store (E:=E) (d:=none) 0 (by kernel_rfl) rfl rfl (by first|exact K.out|exact K.out.drew) rfl rfl rfl rfl ?_ ?_ ?_ ?_;(· kernel_rfl))|(refine rg_store (E:=E) (d:=none) 1 (by kernel_rfl) rfl rfl (by first|exact K.out|exact K.out.drew) rfl rfl rfl rfl ?_ ?_ ?_ ?_;(· kernel_rfl))|(refine rg_store (E:=E) (d:=none) 2 (by kernel_rfl) rfl rfl (by first|exact K.out|exact K.out.drew) rfl rfl rfl rfl ?_ ?_ ?_ ?_;(· kernel_rfl)));(· simp);(· simp [Value.oneCell']);intro w1 K1;simp only [List.set,putL] at K1;have K2:=Lib.hid K1;clear K1 K;have K:=K2;clear K2))
    refine shown hkC _ _ (by (try dsimp only);(first|exact K.out.rd 0 rfl|exact K.out.rd 1 rfl|exact K.out.rd 2 rfl|exact K.out.drew.rd 0 rfl)) ?_;clear hkC kC hHeld;intro hHeld
    try simp only[Act.put,p0,p1,p2]
    have K1:=K.out;have K2:=Lib.hid K1;clear K1 K;(try clear a0 l0);(try clear f0);(try clear a1 l1);(try clear f1);(try clear a2 l2);(try clear f2);(try clear a3 l3);(try clear f3);(try clear a4 l4);(try clear f4);(try clear a5 l5);(try clear f5);have K:=K2;clear K2;(try have a0:=K.out.rd 0 rfl);(try have l0:=K.out.ltp 0 rfl);(try have f0:=K.out.fr 0 rfl);(try have a1:=K.out.rd 1 rfl);(try have l1:=K.out.ltp 1 rfl);(try have f1:=K.out.fr 1 rfl);(try have a2:=K.out.rd 2 rfl);(try have l2:=K.out.ltp 2 rfl);(try have f2:=K.out.fr 2 rfl);(try have a3:=K.out.rd 3 rfl);(try have l3:=K.out.ltp 3 rfl);(try have f3:=K.out.fr 3 rfl)
    refine wpAnyH_done (by kernel_rfl) (NoPanic.normal ?_) _
    rotate_left
    refine AllReadyH.cons (o:=_) rfl (fun kC hkC=>?_) ?_
    (refine rg_alloc (E:=E) (d:=some 8) (by kernel_rfl) rfl rfl (by first|exact K.out|exact K.out.drew) (fun _=>rfl) ?_;intro gx w1 K1;have K2:=Lib.hid K1;clear K1 K;have K:=K2;clear K2)
    refine shown hkC _ _ (by (try dsimp only);(first|exact K.out.rd 0 rfl|exact K.out.rd 1 rfl|exact K.out.rd 2 rfl|exact K.out.drew.rd 0 rfl)) ?_;clear hkC kC hHeld;intro hHeld
    try simp only[Act.put,p0,p1,p2]
    refine wpAnyH_ready (rs:=[5]) (by kernel_rfl) (by simp) ?_
    refine AllReadyH.cons (o:=_) rfl (fun kC hkC=>?_) AllReadyH.nil
    go_simp
    (first|((first|(go_at_call 91;(with_reducible refine ((U1 _).out).mono ?_))|(go_at_call 91;(with_reducible refine ((U2 _).out).mono ?_)));rintro e w1 ⟨rfl,hb⟩;have K1:=sat.grown (show sat _ _ _ from by first|exact K.out|exact K.out.drew) hb;clear hb;have K2:=Lib.hid K1;clear K1 K;have K:=K2;clear K2))
    refine shown hkC _ _ (by (try dsimp only);(first|exact K.out.rd 0 rfl|exact K.out.rd 1 rfl|exact K.out.rd 2 rfl|exact K.out.drew.rd 0 rfl)) ?_;clear hkC kC hHeld;intro hHeld
    try simp only[Act.put,p0,p1,p2]
    refine wpAnyH_ready (rs:=[8]) (by kernel_rfl) (by simp) ?_
    refine AllReadyH.cons (o:=_) rfl (fun kC hkC=>?_) AllReadyH.nil
    (first|((first|(refine rg_store (E:=E) (d:=none) 0 (by kernel_rfl) rfl rfl (by first|exact K.out|exact K.out.drew) rfl rfl rfl rfl ?_ ?_ ?_ ?_;(· kernel_rfl))|(refine rg_store (E:=E) (d:=none) 1 (by kernel_rfl) rfl rfl (by first|exact K.out|exact K.out.drew) rfl rfl rfl rfl ?_ ?_ ?_ ?_;(· kernel_rfl))|(refine rg_store (E:=E) (d:=none) 2 (by kernel_rfl) rfl rfl (by first|exact K.out|exact K.out.drew) rfl rfl rfl rfl ?_ ?_ ?_ ?_;(· kernel_rfl)));(· simp);(· simp [Value.oneCell']);intro w1 K1;simp only [List.set,putL] at K1;have K2:=Lib.hid K1;clear K1 K;have K:=K2;clear K2))
    refine shown hkC _ _ (by (try dsimp only);(first|exact K.out.rd 0 rfl|exact K.out.rd 1 rfl|exact K.out.rd 2 rfl|exact K.out.drew.rd 0 rfl)) ?_;clear hkC kC hHeld;intro hHeld
    try simp only[Act.put,p0,p1,p2]
    refine wpAnyH_ready (rs:=[9]) (by kernel_rfl) (by simp) ?_
    refine AllReadyH.cons (o:=_) rfl (fun kC hkC=>?_) AllReadyH.nil
    (first|((first|(refine rg_store (E:=E) (d:=none) 0 (by kernel_rfl) rfl rfl (by first|exact K.out|exact K.out.drew) rfl rfl rfl rfl ?_ ?_ ?_ ?_;(· kernel_rfl))|(refine rg_store (E:=E) (d:=none) 1 (by kernel_rfl) rfl rfl (by first|exact K.out|exact K.out.drew) rfl rfl rfl rfl ?_ ?_ ?_ ?_;(· kernel_rfl))|(refine rg_store (E:=E) (d:=none) 2 (by kernel_rfl) rfl rfl (by first|exact K.out|exact K.out.drew) rfl rfl rfl rfl ?_ ?_ ?_ ?_;(· kernel_rfl)));(· simp);(· simp [Value.oneCell']);intro w1 K1;simp only [List.set,putL] at K1;have K2:=Lib.hid K1;clear K1 K;have K:=K2;clear K2))
    refine shown hkC _ _ (by (try dsimp only);(first|exact K.out.rd 0 rfl|exact K.out.rd 1 rfl|exact K.out.rd 2 rfl|exact K.out.drew.rd 0 rfl)) ?_;clear hkC kC hHeld;intro hHeld
    try simp only[Act.put,p0,p1,p2]
    have K1:=K.out;have K2:=Lib.hid K1;clear K1 K;(try clear a0 l0);(try clear f0);(try clear a1 l1);(try clear f1);(try clear a2 l2);(try clear f2);(try clear a3 l3);(try clear f3);(try clear a4 l4);(try clear f4);(try clear a5 l5);(try clear f5);have K:=K2;clear K2;(try have a0:=K.out.rd 0 rfl);(try have l0:=K.out.ltp 0 rfl);(try have f0:=K.out.fr 0 rfl);(try have a1:=K.out.rd 1 rfl);(try have l1:=K.out.ltp 1 rfl);(try have f1:=K.out.fr 1 rfl);(try have a2:=K.out.rd 2 rfl);(try have l2:=K.out.ltp 2 rfl);(try have f2:=K.out.fr 2 rfl);(try have a3:=K.out.rd 3 rfl);(try have l3:=K.out.ltp 3 rfl);(try have f3:=K.out.fr 3 rfl)
    refine wpAnyH_done (by kernel_rfl) (NoPanic.normal ?_) _
    rotate_left
    exact AllReadyH.nil
    refine AllReadyH.cons (o:=_) rfl (fun kC hkC=>?_) ?_
    (refine rg_alloc (E:=E) (d:=some 8) (by kernel_rfl) rfl rfl (by first|exact K.out|exact K.out.drew) (fun _=>rfl) ?_;intro gx w1 K1;have K2:=Lib.hid K1;clear K1 K;have K:=K2;clear K2)
    refine shown hkC _ _ (by (try dsimp only);(first|exact K.out.rd 0 rfl|exact K.out.rd 1 rfl|exact K.out.rd 2 rfl|exact K.out.drew.rd 0 rfl)) ?_;clear hkC kC hHeld;intro hHeld
    try simp only[Act.put,p0,p1,p2]
    refine wpAnyH_ready (rs:=[5,6]) (by kernel_rfl) (by simp) ?_
    refine AllReadyH.cons (o:=_) rfl (fun kC hkC=>?_) ?_
    go_simp
    (first|((first|(go_at_call 91;(with_reducible refine ((U1 _).out).mono ?_))|(go_at_call 91;(with_reducible refine ((U2 _).out).mono ?_)));rintro e w1 ⟨rfl,hb⟩;have K1:=sat.grown (show sat _ _ _ from by first|exact K.out|exact K.out.drew) hb;clear hb;have K2:=Lib.hid K1;clear K1 K;have K:=K2;clear K2))
    refine shown hkC _ _ (by (try dsimp only);(first|exact K.out.rd 0 rfl|exact K.out.rd 1 rfl|exact K.out.rd 2 rfl|exact K.out.drew.rd 0 rfl)) ?_;clear hkC kC hHeld;intro hHeld
    try simp only[Act.put,p0,p1,p2]
    refine wpAnyH_ready (rs:=[6]) (by kernel_rfl) (by simp) ?_
    refine AllReadyH.cons (o:=_) rfl (fun kC hkC=>?_) AllReadyH.nil
    (refine rg_alloc (E:=E) (d:=some 7) (by kernel_rfl) rfl rfl (by first|exact K.out|exact K.out.drew) (fun _=>rfl) ?_;intro gx w1 K1;have K2:=Lib.hid K1;clear K1 K;have K:=K2;clear K2)
    refine shown hkC _ _ (by (try dsimp only);(first|exact K.out.rd 0 rfl|exact K.out.rd 1 rfl|exact K.out.rd 2 rfl|exact K.out.drew.rd 0 rfl)) ?_;clear hkC kC hHeld;intro hHeld
    try simp only[Act.put,p0,p1,p2]
    refine wpAnyH_ready (rs:=[8]) (by kernel_rfl) (by simp) ?_
    refine AllReadyH.cons (o:=_) rfl (fun kC hkC=>?_) AllReadyH.nil
    (first|((first|(refine rg_store (E:=E) (d:=none) 0 (by kernel_rfl) rfl rfl (by first|exact K.out|exact K.out.drew) rfl rfl rfl rfl ?_ ?_ ?_ ?_;(· kernel_rfl))|(refine rg_store (E:=E) (d:=none) 1 (by kernel_rfl) rfl rfl (by first|exact K.out|exact K.out.drew) rfl rfl rfl rfl ?_ ?_ ?_ ?_;(· kernel_rfl))|(refine rg_store (E:=E) (d:=none) 2 (by kernel_rfl) rfl rfl (by first|exact K.out|exact K.out.drew) rfl rfl rfl rfl ?_ ?_ ?_ ?_;(· kernel_rfl)));(· simp);(· simp [Value.oneCell']);intro w1 K1;simp only [List.set,putL] at K1;have K2:=Lib.hid K1;clear K1 K;have K:=K2;clear K2))
    refine shown hkC _ _ (by (try dsimp only);(first|exact K.out.rd 0 rfl|exact K.out.rd 1 rfl|exact K.out.rd 2 rfl|exact K.out.drew.rd 0 rfl)) ?_;clear hkC kC hHeld;intro hHeld
    try simp only[Act.put,p0,p1,p2]
    refine wpAnyH_ready (rs:=[9]) (by kernel_rfl) (by simp) ?_
    refine AllReadyH.cons (o:=_) rfl (fun kC hkC=>?_) AllReadyH.nil
    (first|((first|(refine rg_store (E:=E) (d:=none) 0 (by kernel_rfl) rfl rfl (by first|exact K.out|exact K.out.drew) rfl rfl rfl rfl ?_ ?_ ?_ ?_;(· kernel_rfl))|(refine rg_store (E:=E) (d:=none) 1 (by kernel_rfl) rfl rfl (by first|exact K.out|exact K.out.drew) rfl rfl rfl rfl ?_ ?_ ?_ ?_;(· kernel_rfl))|(refine rg_store (E:=E) (d:=none) 2 (by kernel_rfl) rfl rfl (by first|exact K.out|exact K.out.drew) rfl rfl rfl rfl ?_ ?_ ?_ ?_;(· kernel_rfl)));(· simp);(· simp [Value.oneCell']);intro w1 K1;simp only [List.set,putL] at K1;have K2:=Lib.hid K1;clear K1 K;have K:=K2;clear K2))
    refine shown hkC _ _ (by (try dsimp only);(first|exact K.out.rd 0 rfl|exact K.out.rd 1 rfl|exact K.out.rd 2 rfl|exact K.out.drew.rd 0 rfl)) ?_;clear hkC kC hHeld;intro hHeld
    try simp only[Act.put,p0,p1,p2]
    have K1:=K.out;have K2:=Lib.hid K1;clear K1 K;(try clear a0 l0);(try clear f0);(try clear a1 l1);(try clear f1);(try clear a2 l2);(try clear f2);(try clear a3 l3);(try clear f3);(try clear a4 l4);(try clear f4);(try clear a5 l5);(try clear f5);have K:=K2;clear K2;(try have a0:=K.out.rd 0 rfl);(try have l0:=K.out.ltp 0 rfl);(try have f0:=K.out.fr 0 rfl);(try have a1:=K.out.rd 1 rfl);(try have l1:=K.out.ltp 1 rfl);(try have f1:=K.out.fr 1 rfl);(try have a2:=K.out.rd 2 rfl);(try have l2:=K.out.ltp 2 rfl);(try have f2:=K.out.fr 2 rfl);(try have a3:=K.out.rd 3 rfl);(try have l3:=K.out.ltp 3 rfl);(try have f3:=K.out.fr 3 rfl)
    refine wpAnyH_done (by kernel_rfl) (NoPanic.normal ?_) _
    rotate_left
    refine AllReadyH.cons (o:=_) rfl (fun kC hkC=>?_) ?_
    (refine rg_alloc (E:=E) (d:=some 7) (by kernel_rfl) rfl rfl (by first|exact K.out|exact K.out.drew) (fun _=>rfl) ?_;intro gx w1 K1;have K2:=Lib.hid K1;clear K1 K;have K:=K2;clear K2)
    refine shown hkC _ _ (by (try dsimp only);(first|exact K.out.rd 0 rfl|exact K.out.rd 1 rfl|exact K.out.rd 2 rfl|exact K.out.drew.rd 0 rfl)) ?_;clear hkC kC hHeld;intro hHeld
    try simp only[Act.put,p0,p1,p2]
    refine wpAnyH_ready (rs:=[5]) (by kernel_rfl) (by simp) ?_
    refine AllReadyH.cons (o:=_) rfl (fun kC hkC=>?_) AllReadyH.nil
    go_simp
    (first|((first|(go_at_call 91;(with_reducible refine ((U1 _).out).mono ?_))|(go_at_call 91;(with_reducible refine ((U2 _).out).mono ?_)));rintro e w1 ⟨rfl,hb⟩;have K1:=sat.grown (show sat _ _ _ from by first|exact K.out|exact K.out.drew) hb;clear hb;have K2:=Lib.hid K1;clear K1 K;have K:=K2;clear K2))
    refine shown hkC _ _ (by (try dsimp only);(first|exact K.out.rd 0 rfl|exact K.out.rd 1 rfl|exact K.out.rd 2 rfl|exact K.out.drew.rd 0 rfl)) ?_;clear hkC kC hHeld;intro hHeld
    try simp only[Act.put,p0,p1,p2]
    refine wpAnyH_ready (rs:=[8]) (by kernel_rfl) (by simp) ?_
    refine AllReadyH.cons (o:=_) rfl (fun kC hkC=>?_) AllReadyH.nil
    (first|((first|(refine rg_store (E:=E) (d:=none) 0 (by kernel_rfl) rfl rfl (by first|exact K.out|exact K.out.drew) rfl rfl rfl rfl ?_ ?_ ?_ ?_;(· kernel_rfl))|(refine rg_store (E:=E) (d:=none) 1 (by kernel_rfl) rfl rfl (by first|exact K.out|exact K.out.drew) rfl rfl rfl rfl ?_ ?_ ?_ ?_;(· kernel_rfl))|(refine rg_store (E:=E) (d:=none) 2 (by kernel_rfl) rfl rfl (by first|exact K.out|exact K.out.drew) rfl rfl rfl rfl ?_ ?_ ?_ ?_;(· kernel_rfl)));(· simp);(· simp [Value.oneCell']);intro w1 K1;simp only [List.set,putL] at K1;have K2:=Lib.hid K1;clear K1 K;have K:=K2;clear K2))
    refine shown hkC _ _ (by (try dsimp only);(first|exact K.out.rd 0 rfl|exact K.out.rd 1 rfl|exact K.out.rd 2 rfl|exact K.out.drew.rd 0 rfl)) ?_;clear hkC kC hHeld;intro hHeld
    try simp only[Act.put,p0,p1,p2]
    refine wpAnyH_ready (rs:=[9]) (by kernel_rfl) (by simp) ?_
    refine AllReadyH.cons (o:=_) rfl (fun kC hkC=>?_) AllReadyH.nil
    (first|((first|(refine rg_store (E:=E) (d:=none) 0 (by kernel_rfl) rfl rfl (by first|exact K.out|exact K.out.drew) rfl rfl rfl rfl ?_ ?_ ?_ ?_;(· kernel_rfl))|(refine rg_store (E:=E) (d:=none) 1 (by kernel_rfl) rfl rfl (by first|exact K.out|exact K.out.drew) rfl rfl rfl rfl ?_ ?_ ?_ ?_;(· kernel_rfl))|(refine rg_store (E:=E) (d:=none) 2 (by kernel_rfl) rfl rfl (by first|exact K.out|exact K.out.drew) rfl rfl rfl rfl ?_ ?_ ?_ ?_;(· kernel_rfl)));(· simp);(· simp [Value.oneCell']);intro w1 K1;simp only [List.set,putL] at K1;have K2:=Lib.hid K1;clear K1 K;have K:=K2;clear K2))
    refine shown hkC _ _ (by (try dsimp only);(first|exact K.out.rd 0 rfl|exact K.out.rd 1 rfl|exact K.out.rd 2 rfl|exact K.out.drew.rd 0 rfl)) ?_;clear hkC kC hHeld;intro hHeld
    try simp only[Act.put,p0,p1,p2]
    have K1:=K.out;have K2:=Lib.hid K1;clear K1 K;(try clear a0 l0);(try clear f0);(try clear a1 l1);(try clear f1);(try clear a2 l2);(try clear f2);(try clear a3 l3);(try clear f3);(try clear a4 l4);(try clear f4);(try clear a5 l5);(try clear f5);have K:=K2;clear K2;(try have a0:=K.out.rd 0 rfl);(try have l0:=K.out.ltp 0 rfl);(try have f0:=K.out.fr 0 rfl);(try have a1:=K.out.rd 1 rfl);(try have l1:=K.out.ltp 1 rfl);(try have f1:=K.out.fr 1 rfl);(try have a2:=K.out.rd 2 rfl);(try have l2:=K.out.ltp 2 rfl);(try have f2:=K.out.fr 2 rfl);(try have a3:=K.out.rd 3 rfl);(try have l3:=K.out.ltp 3 rfl);(try have f3:=K.out.fr 3 rfl)
    refine wpAnyH_done (by kernel_rfl) (NoPanic.normal ?_) _
    rotate_left
    exact AllReadyH.nil
    exact AllReadyH.nil
    refine AllReadyH.cons (o:=_) rfl (fun kC hkC=>?_) ?_
    (refine rg_alloc (E:=E) (d:=some 7) (by kernel_rfl) rfl rfl (by first|exact K.out|exact K.out.drew) (fun _=>rfl) ?_;intro gx w1 K1;have K2:=Lib.hid K1;clear K1 K;have K:=K2;clear K2)
    refine shown hkC _ _ (by (try dsimp only);(first|exact K.out.rd 0 rfl|exact K.out.rd 1 rfl|exact K.out.rd 2 rfl|exact K.out.drew.rd 0 rfl)) ?_;clear hkC kC hHeld;intro hHeld
    try simp only[Act.put,p0,p1,p2]
    refine wpAnyH_ready (rs:=[2,7]) (by kernel_rfl) (by simp) ?_
    refine AllReadyH.cons (o:=_) rfl (fun kC hkC=>?_) ?_
    go_simp
    (first|((first|(go_at_call 91;(with_reducible refine ((U1 _).out).mono ?_))|(go_at_call 91;(with_reducible refine ((U2 _).out).mono ?_)));rintro e w1 ⟨rfl,hb⟩;have K1:=sat.grown (show sat _ _ _ from by first|exact K.out|exact K.out.drew) hb;clear hb;have K2:=Lib.hid K1;clear K1 K;have K:=K2;clear K2))
    refine shown hkC _ _ (by (try dsimp only);(first|exact K.out.rd 0 rfl|exact K.out.rd 1 rfl|exact K.out.rd 2 rfl|exact K.out.drew.rd 0 rfl)) ?_;clear hkC kC hHeld;intro hHeld
    try simp only[Act.put,p0,p1,p2]
    refine wpAnyH_ready (rs:=[5,7]) (by kernel_rfl) (by simp) ?_
    refine AllReadyH.cons (o:=_) rfl (fun kC hkC=>?_) ?_
    go_simp
    (first|((first|(go_at_call 91;(with_reducible refine ((U1 _).out).mono ?_))|(go_at_call 91;(with_reducible refine ((U2 _).out).mono ?_)));rintro e w1 ⟨rfl,hb⟩;have K1:=sat.grown (show sat _ _ _ from by first|exact K.out|exact K.out.drew) hb;clear hb;have K2:=Lib.hid K1;clear K1 K;have K:=K2;clear K2))
    refine shown hkC _ _ (by (try dsimp only);(first|exact K.out.rd 0 rfl|exact K.out.rd 1 rfl|exact K.out.rd 2 rfl|exact K.out.drew.rd 0 rfl)) ?_;clear hkC kC hHeld;intro hHeld
    try simp only[Act.put,p0,p1,p2]
    refine wpAnyH_ready (rs:=[7]) (by kernel_rfl) (by simp) ?_
    refine AllReadyH.cons (o:=_) rfl (fun kC hkC=>?_) AllReadyH.nil
    (refine rg_alloc (E:=E) (d:=some 8) (by kernel_rfl) rfl rfl (by first|exact K.out|exact K.out.drew) (fun _=>rfl) ?_;intro gx w1 K1;have K2:=Lib.hid K1;clear K1 K;have K:=K2;clear K2)
    refine shown hkC _ _ (by (try dsimp only);(first|exact K.out.rd 0 rfl|exact K.out.rd 1 rfl|exact K.out.rd 2 rfl|exact K.out.drew.rd 0 rfl)) ?_;clear hkC kC hHeld;intro hHeld
    try simp only[Act.put,p0,p1,p2]
    refine wpAnyH_ready (rs:=[8]) (by kernel_rfl) (by simp) ?_
    refine AllReadyH.cons (o:=_) rfl (fun kC hkC=>?_) AllReadyH.nil
    (first|((first|(refine rg_store (E:=E) (d:=none) 0 (by kernel_rfl) rfl rfl (by first|exact K.out|exact K.out.drew) rfl rfl rfl rfl ?_ ?_ ?_ ?_;(· kernel_rfl))|(refine rg_store (E:=E) (d:=none) 1 (by kernel_rfl) rfl rfl (by first|exact K.out|exact K.out.drew) rfl rfl rfl rfl ?_ ?_ ?_ ?_;(· kernel_rfl))|(refine rg_store (E:=E) (d:=none) 2 (by kernel_rfl) rfl rfl (by first|exact K.out|exact K.out.drew) rfl rfl rfl rfl ?_ ?_ ?_ ?_;(· kernel_rfl)));(· simp);(· simp [Value.oneCell']);intro w1 K1;simp only [List.set,putL] at K1;have K2:=Lib.hid K1;clear K1 K;have K:=K2;clear K2))
    refine shown hkC _ _ (by (try dsimp only);(first|exact K.out.rd 0 rfl|exact K.out.rd 1 rfl|exact K.out.rd 2 rfl|exact K.out.drew.rd 0 rfl)) ?_;clear hkC kC hHeld;intro hHeld
    try simp only[Act.put,p0,p1,p2]
    refine wpAnyH_ready (rs:=[9]) (by kernel_rfl) (by simp) ?_
    refine AllReadyH.cons (o:=_) rfl (fun kC hkC=>?_) AllReadyH.nil
    (first|((first|(refine rg_store (E:=E) (d:=none) 0 (by kernel_rfl) rfl rfl (by first|exact K.out|exact K.out.drew) rfl rfl rfl rfl ?_ ?_ ?_ ?_;(· kernel_rfl))|(refine rg_store (E:=E) (d:=none) 1 (by kernel_rfl) rfl rfl (by first|exact K.out|exact K.out.drew) rfl rfl rfl rfl ?_ ?_ ?_ ?_;(· kernel_rfl))|(refine rg_store (E:=E) (d:=none) 2 (by kernel_rfl) rfl rfl (by first|exact K.out|exact K.out.drew) rfl rfl rfl rfl ?_ ?_ ?_ ?_;(· kernel_rfl)));(· simp);(· simp [Value.oneCell']);intro w1 K1;simp only [List.set,putL] at K1;have K2:=Lib.hid K1;clear K1 K;have K:=K2;clear K2))
    refine shown hkC _ _ (by (try dsimp only);(first|exact K.out.rd 0 rfl|exact K.out.rd 1 rfl|exact K.out.rd 2 rfl|exact K.out.drew.rd 0 rfl)) ?_;clear hkC kC hHeld;intro hHeld
    try simp only[Act.put,p0,p1,p2]
    have K1:=K.out;have K2:=Lib.hid K1;clear K1 K;(try clear a0 l0);(try clear f0);(try clear a1 l1);(try clear f1);(try clear a2 l2);(try clear f2);(try clear a3 l3);(try clear f3);(try clear a4 l4);(try clear f4);(try clear a5 l5);(try clear f5);have K:=K2;clear K2;(try have a0:=K.out.rd 0 rfl);(try have l0:=K.out.ltp 0 rfl);(try have f0:=K.out.fr 0 rfl);(try have a1:=K.out.rd 1 rfl);(try have l1:=K.out.ltp 1 rfl);(try have f1:=K.out.fr 1 rfl);(try have a2:=K.out.rd 2 rfl);(try have l2:=K.out.ltp 2 rfl);(try have f2:=K.out.fr 2 rfl);(try have a3:=K.out.rd 3 rfl);(try have l3:=K.out.ltp 3 rfl);(try have f3:=K.out.fr 3 rfl)
    refine wpAnyH_done (by kernel_rfl) (NoPanic.normal ?_) _
    rotate_left
    refine AllReadyH.cons (o:=_) rfl (fun kC hkC=>?_) ?_
    (refine rg_alloc (E:=E) (d:=some 8) (by kernel_rfl) rfl rfl (by first|exact K.out|exact K.out.drew) (fun _=>rfl) ?_;intro gx w1 K1;have K2:=Lib.hid K1;clear K1 K;have K:=K2;clear K2)
    refine shown hkC _ _ (by (try dsimp only);(first|exact K.out.rd 0 rfl|exact K.out.rd 1 rfl|exact K.out.rd 2 rfl|exact K.out.drew.rd 0 rfl)) ?_;clear hkC kC hHeld;intro hHeld
    try simp only[Act.put,p0,p1,p2]
    refine wpAnyH_ready (rs:=[5]) (by kernel_rfl) (by simp) ?_
    refine AllReadyH.cons (o:=_) rfl (fun kC hkC=>?_) AllReadyH.nil
    go_simp
    (first|((first|(go_at_call 91;(with_reducible refine ((U1 _).out).mono ?_))|(go_at_call 91;(with_reducible refine ((U2 _).out).mono ?_)));rintro e w1 ⟨rfl,hb⟩;have K1:=sat.grown (show sat _ _ _ from by first|exact K.out|exact K.out.drew) hb;clear hb;have K2:=Lib.hid K1;clear K1 K;have K:=K2;clear K2))
    refine shown hkC _ _ (by (try dsimp only);(first|exact K.out.rd 0 rfl|exact K.out.rd 1 rfl|exact K.out.rd 2 rfl|exact K.out.drew.rd 0 rfl)) ?_;clear hkC kC hHeld;intro hHeld
    try simp only[Act.put,p0,p1,p2]
    refine wpAnyH_ready (rs:=[8]) (by kernel_rfl) (by simp) ?_
    refine AllReadyH.cons (o:=_) rfl (fun kC hkC=>?_) AllReadyH.nil
    (first|((first|(refine rg_store (E:=E) (d:=none) 0 (by kernel_rfl) rfl rfl (by first|exact K.out|exact K.out.drew) rfl rfl rfl rfl ?_ ?_ ?_ ?_;(· kernel_rfl))|(refine rg_store (E:=E) (d:=none) 1 (by kernel_rfl) rfl rfl (by first|exact K.out|exact K.out.drew) rfl rfl rfl rfl ?_ ?_ ?_ ?_;(· kernel_rfl))|(refine rg_store (E:=E) (d:=none) 2 (by kernel_rfl) rfl rfl (by first|exact K.out|exact K.out.drew) rfl rfl rfl rfl ?_ ?_ ?_ ?_;(· kernel_rfl)));(· simp);(· simp [Value.oneCell']);intro w1 K1;simp only [List.set,putL] at K1;have K2:=Lib.hid K1;clear K1 K;have K:=K2;clear K2))
    refine shown hkC _ _ (by (try dsimp only);(first|exact K.out.rd 0 rfl|exact K.out.rd 1 rfl|exact K.out.rd 2 rfl|exact K.out.drew.rd 0 rfl)) ?_;clear hkC kC hHeld;intro hHeld
    try simp only[Act.put,p0,p1,p2]
    refine wpAnyH_ready (rs:=[9]) (by kernel_rfl) (by simp) ?_
    refine AllReadyH.cons (o:=_) rfl (fun kC hkC=>?_) AllReadyH.nil
    (first|((first|(refine rg_store (E:=E) (d:=none) 0 (by kernel_rfl) rfl rfl (by first|exact K.out|exact K.out.drew) rfl rfl rfl rfl ?_ ?_ ?_ ?_;(· kernel_rfl))|(refine rg_store (E:=E) (d:=none) 1 (by kernel_rfl) rfl rfl (by first|exact K.out|exact K.out.drew) rfl rfl rfl rfl ?_ ?_ ?_ ?_;(· kernel_rfl))|(refine rg_store (E:=E) (d:=none) 2 (by kernel_rfl) rfl rfl (by first|exact K.out|exact K.out.drew) rfl rfl rfl rfl ?_ ?_ ?_ ?_;(· kernel_rfl)));(· simp);(· simp [Value.oneCell']);intro w1 K1;simp only [List.set,putL] at K1;have K2:=Lib.hid K1;clear K1 K;have K:=K2;clear K2))
    refine shown hkC _ _ (by (try dsimp only);(first|exact K.out.rd 0 rfl|exact K.out.rd 1 rfl|exact K.out.rd 2 rfl|exact K.out.drew.rd 0 rfl)) ?_;clear hkC kC hHeld;intro hHeld
    try simp only[Act.put,p0,p1,p2]
    have K1:=K.out;have K2:=Lib.hid K1;clear K1 K;(try clear a0 l0);(try clear f0);(try clear a1 l1);(try clear f1);(try clear a2 l2);(try clear f2);(try clear a3 l3);(try clear f3);(try clear a4 l4);(try clear f4);(try clear a5 l5);(try clear f5);have K:=K2;clear K2;(try have a0:=K.out.rd 0 rfl);(try have l0:=K.out.ltp 0 rfl);(try have f0:=K.out.fr 0 rfl);(try have a1:=K.out.rd 1 rfl);(try have l1:=K.out.ltp 1 rfl);(try have f1:=K.out.fr 1 rfl);(try have a2:=K.out.rd 2 rfl);(try have l2:=K.out.ltp 2 rfl);(try have f2:=K.out.fr 2 rfl);(try have a3:=K.out.rd 3 rfl);(try have l3:=K.out.ltp 3 rfl);(try have f3:=K.out.fr 3 rfl)
    refine wpAnyH_done (by kernel_rfl) (NoPanic.normal ?_) _
    rotate_left
    exact AllReadyH.nil
    refine AllReadyH.cons (o:=_) rfl (fun kC hkC=>?_) ?_
    (refine rg_alloc (E:=E) (d:=some 8) (by kernel_rfl) rfl rfl (by first|exact K.out|exact K.out.drew) (fun _=>rfl) ?_;intro gx w1 K1;have K2:=Lib.hid K1;clear K1 K;have K:=K2;clear K2)
    refine shown hkC _ _ (by (try dsimp only);(first|exact K.out.rd 0 rfl|exact K.out.rd 1 rfl|exact K.out.rd 2 rfl|exact K.out.drew.rd 0 rfl)) ?_;clear hkC kC hHeld;intro hHeld
    try simp only[Act.put,p0,p1,p2]
    refine wpAnyH_ready (rs:=[2]) (by kernel_rfl) (by simp) ?_
    refine AllReadyH.cons (o:=_) rfl (fun kC hkC=>?_) AllReadyH.nil
    go_simp
    (first|((first|(go_at_call 91;(with_reducible refine ((U1 _).out).mono ?_))|(go_at_call 91;(with_reducible refine ((U2 _).out).mono ?_)));rintro e w1 ⟨rfl,hb⟩;have K1:=sat.grown (show sat _ _ _ from by first|exact K.out|exact K.out.drew) hb;clear hb;have K2:=Lib.hid K1;clear K1 K;have K:=K2;clear K2))
    refine shown hkC _ _ (by (try dsimp only);(first|exact K.out.rd 0 rfl|exact K.out.rd 1 rfl|exact K.out.rd 2 rfl|exact K.out.drew.rd 0 rfl)) ?_;clear hkC kC hHeld;intro hHeld
    try simp only[Act.put,p0,p1,p2]
    refine wpAnyH_ready (rs:=[5]) (by kernel_rfl) (by simp) ?_
    refine AllReadyH.cons (o:=_) rfl (fun kC hkC=>?_) AllReadyH.nil
    go_simp
    (first|((first|(go_at_call 91;(with_reducible refine ((U1 _).out).mono ?_))|(go_at_call 91;(with_reducible refine ((U2 _).out).mono ?_)));rintro e w1 ⟨rfl,hb⟩;have K1:=sat.grown (show sat _ _ _ from by first|exact K.out|exact K.out.drew) hb;clear hb;have K2:=Lib.hid K1;clear K1 K;have K:=K2;clear K2))
    refine shown hkC _ _ (by (try dsimp only);(first|exact K.out.rd 0 rfl|exact K.out.rd 1 rfl|exact K.out.rd 2 rfl|exact K.out.drew.rd 0 rfl)) ?_;clear hkC kC hHeld;intro hHeld
    try simp only[Act.put,p0,p1,p2]
    refine wpAnyH_ready (rs:=[8]) (by kernel_rfl) (by simp) ?_
    refine AllReadyH.cons (o:=_) rfl (fun kC hkC=>?_) AllReadyH.nil
    (first|((first|(refine rg_store (E:=E) (d:=none) 0 (by kernel_rfl) rfl rfl (by first|exact K.out|exact K.out.drew) rfl rfl rfl rfl ?_ ?_ ?_ ?_;(· kernel_rfl))|(refine rg_store (E:=E) (d:=none) 1 (by kernel_rfl) rfl rfl (by first|exact K.out|exact K.out.drew) rfl rfl rfl rfl ?_ ?_ ?_ ?_;(· kernel_rfl))|(refine rg_store (E:=E) (d:=none) 2 (by kernel_rfl) rfl rfl (by first|exact K.out|exact K.out.drew) rfl rfl rfl rfl ?_ ?_ ?_ ?_;(· kernel_rfl)));(· simp);(· simp [Value.oneCell']);intro w1 K1;simp only [List.set,putL] at K1;have K2:=Lib.hid K1;clear K1 K;have K:=K2;clear K2))
    refine shown hkC _ _ (by (try dsimp only);(first|exact K.out.rd 0 rfl|exact K.out.rd 1 rfl|exact K.out.rd 2 rfl|exact K.out.drew.rd 0 rfl)) ?_;clear hkC kC hHeld;intro hHeld
    try simp only[Act.put,p0,p1,p2]
    refine wpAnyH_ready (rs:=[9]) (by kernel_rfl) (by simp) ?_
    refine AllReadyH.cons (o:=_) rfl (fun kC hkC=>?_) AllReadyH.nil
    (first|((first|(refine rg_store (E:=E) (d:=none) 0 (by kernel_rfl) rfl rfl (by first|exact K.out|exact K.out.drew) rfl rfl rfl rfl ?_ ?_ ?_ ?_;(· kernel_rfl))|(refine rg_store (E:=E) (d:=none) 1 (by kernel_rfl) rfl rfl (by first|exact K.out|exact K.out.drew) rfl rfl rfl rfl ?_ ?_ ?_ ?_;(· kernel_rfl))|(refine rg_store (E:=E) (d:=none) 2 (by kernel_rfl) rfl rfl (by first|exact K.out|exact K.out.drew) rfl rfl rfl rfl ?_ ?_ ?_ ?_;(· kernel_rfl)));(· simp);(· simp [Value.oneCell']);intro w1 K1;simp only [List.set,putL] at K1;have K2:=Lib.hid K1;clear K1 K;have K:=K2;clear K2))
    refine shown hkC _ _ (by (try dsimp only);(first|exact K.out.rd 0 rfl|exact K.out.rd 1 rfl|exact K.out.rd 2 rfl|exact K.out.drew.rd 0 rfl)) ?_;clear hkC kC hHeld;intro hHeld
    try simp only[Act.put,p0,p1,p2]
    have K1:=K.out;have K2:=Lib.hid K1;clear K1 K;(try clear a0 l0);(try clear f0);(try clear a1 l1);(try clear f1);(try clear a2 l2);(try clear f2);(try clear a3 l3);(try clear f3);(try clear a4 l4);(try clear f4);(try clear a5 l5);(try clear f5);have K:=K2;clear K2;(try have a0:=K.out.rd 0 rfl);(try have l0:=K.out.ltp 0 rfl);(try have f0:=K.out.fr 0 rfl);(try have a1:=K.out.rd 1 rfl);(try have l1:=K.out.ltp 1 rfl);(try have f1:=K.out.fr 1 rfl);(try have a2:=K.out.rd 2 rfl);(try have l2:=K.out.ltp 2 rfl);(try have f2:=K.out.fr 2 rfl);(try have a3:=K.out.rd 3 rfl);(try have l3:=K.out.ltp 3 rfl);(try have f3:=K.out.fr 3 rfl)
    refine wpAnyH_done (by kernel_rfl) (NoPanic.normal ?_) _
    rotate_left
    exact AllReadyH.nil
    refine AllReadyH.cons (o:=_) rfl (fun kC hkC=>?_) ?_
    (refine rg_alloc (E:=E) (d:=some 8) (by kernel_rfl) rfl rfl (by first|exact K.out|exact K.out.drew) (fun _=>rfl) ?_;intro gx w1 K1;have K2:=Lib.hid K1;clear K1 K;have K:=K2;clear K2)
    refine shown hkC _ _ (by (try dsimp only);(first|exact K.out.rd 0 rfl|exact K.out.rd 1 rfl|exact K.out.rd 2 rfl|exact K.out.drew.rd 0 rfl)) ?_;clear hkC kC hHeld;intro hHeld
    try simp only[Act.put,p0,p1,p2]
    refine wpAnyH_ready (rs:=[2,6]) (by kernel_rfl) (by simp) ?_
    refine AllReadyH.cons (o:=_) rfl (fun kC hkC=>?_) ?_
    go_simp
    (first|((first|(go_at_call 91;(with_reducible refine ((U1 _).out).mono ?_))|(go_at_call 91;(with_reducible refine ((U2 _).out).mono ?_)));rintro e w1 ⟨rfl,hb⟩;have K1:=sat.grown (show sat _ _ _ from by first|exact K.out|exact K.out.drew) hb;clear hb;have K2:=Lib.hid K1;clear K1 K;have K:=K2;clear K2))
    refine shown hkC _ _ (by (try dsimp only);(first|exact K.out.rd 0 rfl|exact K.out.rd 1 rfl|exact K.out.rd 2 rfl|exact K.out.drew.rd 0 rfl)) ?_;clear hkC kC hHeld;intro hHeld
    try simp only[Act.put,p0,p1,p2]
    refine wpAnyH_ready (rs:=[5,6]) (by kernel_rfl) (by simp) ?_
    refine AllReadyH.cons (o:=_) rfl (fun kC hkC=>?_) ?_
    go_simp
    (first|((first|(go_at_call 91;(with_reducible refine ((U1 _).out).mono ?_))|(go_at_call 91;(with_reducible refine ((U2 _).out).mono ?_)));rintro e w1 ⟨rfl,hb⟩;have K1:=sat.grown (show sat _ _ _ from by first|exact K.out|exact K.out.drew) hb;clear hb;have K2:=Lib.hid K1;clear K1 K;have K:=K2;clear K2))
    refine shown hkC _ _ (by (try dsimp only);(first|exact K.out.rd 0 rfl|exact K.out.rd 1 rfl|exact K.out.rd 2 rfl|exact K.out.drew.rd 0 rfl)) ?_;clear hkC kC hHeld;intro hHeld
    try simp only[Act.put,p0,p1,p2]
    refine wpAnyH_ready (rs:=[6]) (by kernel_rfl) (by simp) ?_
    refine AllReadyH.cons (o:=_) rfl (fun kC hkC=>?_) AllReadyH.nil
    (refine rg_alloc (E:=E) (d:=some 7) (by kernel_rfl) rfl rfl (by first|exact K.out|exact K.out.drew) (fun _=>rfl) ?_;intro gx w1 K1;have K2:=Lib.hid K1;clear K1 K;have K:=K2;clear K2)
    refine shown hkC _ _ (by (try dsimp only);(first|exact K.out.rd 0 rfl|exact K.out.rd 1 rfl|exact K.out.rd 2 rfl|exact K.out.drew.rd 0 rfl)) ?_;clear hkC kC hHeld;intro hHeld
    try simp only[Act.put,p0,p1,p2]
    refine wpAnyH_ready (rs:=[8]) (by kernel_rfl) (by simp) ?_
    refine AllReadyH.cons (o:=_) rfl (fun kC hkC=>?_) AllReadyH.nil
    (first|((first|(refine rg_store (E:=E) (d:=none) 0 (by kernel_rfl) rfl rfl (by first|exact K.out|exact K.out.drew) rfl rfl rfl rfl ?_ ?_ ?_ ?_;(· kernel_rfl))|(refine rg_store (E:=E) (d:=none) 1 (by kernel_rfl) rfl rfl (by first|exact K.out|exact K.out.drew) rfl rfl rfl rfl ?_ ?_ ?_ ?_;(· kernel_rfl))|(refine rg_store (E:=E) (d:=none) 2 (by kernel_rfl) rfl rfl (by first|exact K.out|exact K.out.drew) rfl rfl rfl rfl ?_ ?_ ?_ ?_;(· kernel_rfl)));(· simp);(· simp [Value.oneCell']);intro w1 K1;simp only [List.set,putL] at K1;have K2:=Lib.hid K1;clear K1 K;have K:=K2;clear K2))
    refine shown hkC _ _ (by (try dsimp only);(first|exact K.out.rd 0 rfl|exact K.out.rd 1 rfl|exact K.out.rd 2 rfl|exact K.out.drew.rd 0 rfl)) ?_;clear hkC kC hHeld;intro hHeld
    try simp only[Act.put,p0,p1,p2]
    refine wpAnyH_ready (rs:=[9]) (by kernel_rfl) (by simp) ?_
    refine AllReadyH.cons (o:=_) rfl (fun kC hkC=>?_) AllReadyH.nil
    (first|((first|(refine rg_store (E:=E) (d:=none) 0 (by kernel_rfl) rfl rfl (by first|exact K.out|exact K.out.drew) rfl rfl rfl rfl ?_ ?_ ?_ ?_;(· kernel_rfl))|(refine rg_store (E:=E) (d:=none) 1 (by kernel_rfl) rfl rfl (by first|exact K.out|exact K.out.drew) rfl rfl rfl rfl ?_ ?_ ?_ ?_;(· kernel_rfl))|(refine rg_store (E:=E) (d:=none) 2 (by kernel_rfl) rfl rfl (by first|exact K.out|exact K.out.drew) rfl rfl rfl rfl ?_ ?_ ?_ ?_;(· kernel_rfl)));(· simp);(· simp [Value.oneCell']);intro w1 K1;simp only [List.set,putL] at K1;have K2:=Lib.hid K1;clear K1 K;have K:=K2;clear K2))
    refine shown hkC _ _ (by (try dsimp only);(first|exact K.out.rd 0 rfl|exact K.out.rd 1 rfl|exact K.out.rd 2 rfl|exact K.out.drew.rd 0 rfl)) ?_;clear hkC kC hHeld;intro hHeld
    try simp only[Act.put,p0,p1,p2]
    have K1:=K.out;have K2:=Lib.hid K1;clear K1 K;(try clear a0 l0);(try clear f0);(try clear a1 l1);(try clear f1);(try clear a2 l2);(try clear f2);(try clear a3 l3);(try clear f3);(try clear a4 l4);(try clear f4);(try clear a5 l5);(try clear f5);have K:=K2;clear K2;(try have a0:=K.out.rd 0 rfl);(try have l0:=K.out.ltp 0 rfl);(try have f0:=K.out.fr 0 rfl);(try have a1:=K.out.rd 1 rfl);(try have l1:=K.out.ltp 1 rfl);(try have f1:=K.out.fr 1 rfl);(try have a2:=K.out.rd 2 rfl);(try have l2:=K.out.ltp 2 rfl);(try have f2:=K.out.fr 2 rfl);(try have a3:=K.out.rd 3 rfl);(try have l3:=K.out.ltp 3 rfl);(try have f3:=K.out.fr 3 rfl)
    refine wpAnyH_done (by kernel_rfl) (NoPanic.normal ?_) _
    rotate_left
    refine AllReadyH.cons (o:=_) rfl (fun kC hkC=>?_) ?_
    (refine rg_alloc (E:=E) (d:=some 7) (by kernel_rfl) rfl rfl (by first|exact K.out|exact K.out.drew) (fun _=>rfl) ?_;intro gx w1 K1;have K2:=Lib.hid K1;clear K1 K;have K:=K2;clear K2)
    refine shown hkC _ _ (by (try dsimp only);(first|exact K.out.rd 0 rfl|exact K.out.rd 1 rfl|exact K.out.rd 2 rfl|exact K.out.drew.rd 0 rfl)) ?_;clear hkC kC hHeld;intro hHeld
    try simp only[Act.put,p0,p1,p2]
    refine wpAnyH_ready (rs:=[5]) (by kernel_rfl) (by simp) ?_
    refine AllReadyH.cons (o:=_) rfl (fun kC hkC=>?_) AllReadyH.nil
    go_simp
    (first|((first|(go_at_call 91;(with_reducible refine ((U1 _).out).mono ?_))|(go_at_call 91;(with_reducible refine ((U2 _).out).mono ?_)));rintro e w1 ⟨rfl,hb⟩;have K1:=sat.grown (show sat _ _ _ from by first|exact K.out|exact K.out.drew) hb;clear hb;have K2:=Lib.hid K1;clear K1 K;have K:=K2;clear K2))
    refine shown hkC _ _ (by (try dsimp only);(first|exact K.out.rd 0 rfl|exact K.out.rd 1 rfl|exact K.out.rd 2 rfl|exact K.out.drew.rd 0 rfl)) ?_;clear hkC kC hHeld;intro hHeld
    try simp only[Act.put,p0,p1,p2]
    refine wpAnyH_ready (rs:=[8]) (by kernel_rfl) (by simp) ?_
    refine AllReadyH.cons (o:=_) rfl (fun kC hkC=>?_) AllReadyH.nil
    (first|((first|(refine rg_store (E:=E) (d:=none) 0 (by kernel_rfl) rfl rfl (by first|exact K.out|exact K.out.drew) rfl rfl rfl rfl ?_ ?_ ?_ ?_;(· kernel_rfl))|(refine rg_store (E:=E) (d:=none) 1 (by kernel_rfl) rfl rfl (by first|exact K.out|exact K.out.drew) rfl rfl rfl rfl ?_ ?_ ?_ ?_;(· kernel_rfl))|(refine rg_store (E:=E) (d:=none) 2 (by kernel_rfl) rfl rfl (by first|exact K.out|exact K.out.drew) rfl rfl rfl rfl ?_ ?_ ?_ ?_;(· kernel_rfl)));(· simp);(· simp [Value.oneCell']);intro w1 K1;simp only [List.set,putL] at K1;have K2:=Lib.hid K1;clear K1 K;have K:=K2;clear K2))
    refine shown hkC _ _ (by (try dsimp only);(first|exact K.out.rd 0 rfl|exact K.out.rd 1 rfl|exact K.out.rd 2 rfl|exact K.out.drew.rd 0 rfl)) ?_;clear hkC kC hHeld;intro hHeld
    try simp only[Act.put,p0,p1,p2]
    refine wpAnyH_ready (rs:=[9]) (by kernel_rfl) (by simp) ?_
    refine AllReadyH.cons (o:=_) rfl (fun kC hkC=>?_) AllReadyH.nil
    (first|((first|(refine rg_store (E:=E) (d:=none) 0 (by kernel_rfl) rfl rfl (by first|exact K.out|exact K.out.drew) rfl rfl rfl rfl ?_ ?_ ?_ ?_;(· kernel_rfl))|(refine rg_store (E:=E) (d:=none) 1 (by kernel_rfl) rfl rfl (by first|exact K.out|exact K.out.drew) rfl rfl rfl rfl ?_ ?_ ?_ ?_;(· kernel_rfl))|(refine rg_store (E:=E) (d:=none) 2 (by kernel_rfl) rfl rfl (by first|exact K.out|exact K.out.drew) rfl rfl rfl rfl ?_ ?_ ?_ ?_;(· kernel_rfl)));(· simp);(· simp [Value.oneCell']);intro w1 K1;simp only [List.set,putL] at K1;have K2:=Lib.hid K1;clear K1 K;have K:=K2;clear K2))
    refine shown hkC _ _ (by (try dsimp only);(first|exact K.out.rd 0 rfl|exact K.out.rd 1 rfl|exact K.out.rd 2 rfl|exact K.out.drew.rd 0 rfl)) ?_;clear hkC kC hHeld;intro hHeld
    try simp only[Act.put,p0,p1,p2]
    have K1:=K.out;have K2:=Lib.hid K1;clear K1 K;(try clear a0 l0);(try clear f0);(try clear a1 l1);(try clear f1);(try clear a2 l2);(try clear f2);(try clear a3 l3);(try clear f3);(try clear a4 l4);(try clear f4);(try clear a5 l5);(try clear f5);have K:=K2;clear K2;(try have a0:=K.out.rd 0 rfl);(try have l0:=K.out.ltp 0 rfl);(try have f0:=K.out.fr 0 rfl);(try have a1:=K.out.rd 1 rfl);(try have l1:=K.out.ltp 1 rfl);(try have f1:=K.out.fr 1 rfl);(try have a2:=K.out.rd 2 rfl);(try have l2:=K.out.ltp 2 rfl);(try have f2:=K.out.fr 2 rfl);(try have a3:=K.out.rd 3 rfl);(try have l3:=K.out.ltp 3 rfl);(try have f3:=K.out.fr 3 rfl)
    refine wpAnyH_done (by kernel_rfl) (NoPanic.normal ?_) _
    rotate_left
    exact AllReadyH.nil
    refine AllReadyH.cons (o:=_) rfl (fun kC hkC=>?_) ?_
    (refine rg_alloc (E:=E) (d:=some 7) (by kernel_rfl) rfl rfl (by first|exact K.out|exact K.out.drew) (fun _=>rfl) ?_;intro gx w1 K1;have K2:=Lib.hid K1;clear K1 K;have K:=K2;clear K2)
    refine shown hkC _ _ (by (try dsimp only);(first|exact K.out.rd 0 rfl|exact K.out.rd 1 rfl|exact K.out.rd 2 rfl|exact K.out.drew.rd 0 rfl)) ?_;clear hkC kC hHeld;intro hHeld
    try simp only[Act.put,p0,p1,p2]
    refine wpAnyH_ready (rs:=[2]) (by kernel_rfl) (by simp) ?_
    refine AllReadyH.cons (o:=_) rfl (fun kC hkC=>?_) AllReadyH.nil
    go_simp
    (first|((first|(go_at_call 91;(with_reducible refine ((U1 _).out).mono ?_))|(go_at_call 91;(with_reducible refine ((U2 _).out).mono ?_)));rintro e w1 ⟨rfl,hb⟩;have K1:=sat.grown (show sat _ _ _ from by first|exact K.out|exact K.out.drew) hb;clear hb;have K2:=Lib.hid K1;clear K1 K;have K:=K2;clear K2))
    refine shown hkC _ _ (by (try dsimp only);(first|exact K.out.rd 0 rfl|exact K.out.rd 1 rfl|exact K.out.rd 2 rfl|exact K.out.drew.rd 0 rfl)) ?_;clear hkC kC hHeld;intro hHeld
    try simp only[Act.put,p0,p1,p2]
    refine wpAnyH_ready (rs:=[5]) (by kernel_rfl) (by simp) ?_
    refine AllReadyH.cons (o:=_) rfl (fun kC hkC=>?_) AllReadyH.nil
    go_simp
    (first|((first|(go_at_call 91;(with_reducible refine ((U1 _).out).mono ?_))|(go_at_call 91;(with_reducible refine ((U2 _).out).mono ?_)));rintro e w1 ⟨rfl,hb⟩;have K1:=sat.grown (show sat _ _ _ from by first|exact K.out|exact K.out.drew) hb;clear hb;have K2:=Lib.hid K1;clear K1 K;have K:=K2;clear K2))
    refine shown hkC _ _ (by (try dsimp only);(first|exact K.out.rd 0 rfl|exact K.out.rd 1 rfl|exact K.out.rd 2 rfl|exact K.out.drew.rd 0 rfl)) ?_;clear hkC kC hHeld;intro hHeld
    try simp only[Act.put,p0,p1,p2]
    refine wpAnyH_ready (rs:=[8]) (by kernel_rfl) (by simp) ?_
    refine AllReadyH.cons (o:=_) rfl (fun kC hkC=>?_) AllReadyH.nil
    (first|((first|(refine rg_store (E:=E) (d:=none) 0 (by kernel_rfl) rfl rfl (by first|exact K.out|exact K.out.drew) rfl rfl rfl rfl ?_ ?_ ?_ ?_;(· kernel_rfl))|(refine rg_store (E:=E) (d:=none) 1 (by kernel_rfl) rfl rfl (by first|exact K.out|exact K.out.drew) rfl rfl rfl rfl ?_ ?_ ?_ ?_;(· kernel_rfl))|(refine rg_store (E:=E) (d:=none) 2 (by kernel_rfl) rfl rfl (by first|exact K.out|exact K.out.drew) rfl rfl rfl rfl ?_ ?_ ?_ ?_;(· kernel_rfl)));(· simp);(· simp [Value.oneCell']);intro w1 K1;simp only [List.set,putL] at K1;have K2:=Lib.hid K1;clear K1 K;have K:=K2;clear K2))
    refine shown hkC _ _ (by (try dsimp only);(first|exact K.out.rd 0 rfl|exact K.out.rd 1 rfl|exact K.out.rd 2 rfl|exact K.out.drew.rd 0 rfl)) ?_;clear hkC kC hHeld;intro hHeld
    try simp only[Act.put,p0,p1,p2]
    refine wpAnyH_ready (rs:=[9]) (by kernel_rfl) (by simp) ?_
    refine AllReadyH.cons (o:=_) rfl (fun kC hkC=>?_) AllReadyH.nil
    (first|((first|(refine rg_store (E:=E) (d:=none) 0 (by kernel_rfl) rfl rfl (by first|exact K.out|exact K.out.drew) rfl rfl rfl rfl ?_ ?_ ?_ ?_;(· kernel_rfl))|(refine rg_store (E:=E) (d:=none) 1 (by kernel_rfl) rfl rfl (by first|exact K.out|exact K.out.drew) rfl rfl rfl rfl ?_ ?_ ?_ ?_;(· kernel_rfl))|(refine rg_store (E:=E) (d:=none) 2 (by kernel_rfl) rfl rfl (by first|exact K.out|exact K.out.drew) rfl rfl rfl rfl ?_ ?_ ?_ ?_;(· kernel_rfl)));(· simp);(· simp [Value.oneCell']);intro w1 K1;simp only [List.set,putL] at K1;have K2:=Lib.hid K1;clear K1 K;have K:=K2;clear K2))
    refine shown hkC _ _ (by (try dsimp only);(first|exact K.out.rd 0 rfl|exact K.out.rd 1 rfl|exact K.out.rd 2 rfl|exact K.out.drew.rd 0 rfl)) ?_;clear hkC kC hHeld;intro hHeld
    try simp only[Act.put,p0,p1,p2]
    have K1:=K.out;have K2:=Lib.hid K1;clear K1 K;(try clear a0 l0);(try clear f0);(try clear a1 l1);(try clear f1);(try clear a2 l2);(try clear f2);(try clear a3 l3);(try clear f3);(try clear a4 l4);(try clear f4);(try clear a5 l5);(try clear f5);have K:=K2;clear K2;(try have a0:=K.out.rd 0 rfl);(try have l0:=K.out.ltp 0 rfl);(try have f0:=K.out.fr 0 rfl);(try have a1:=K.out.rd 1 rfl);(try have l1:=K.out.ltp 1 rfl);(try have f1:=K.out.fr 1 rfl);(try have a2:=K.out.rd 2 rfl);(try have l2:=K.out.ltp 2 rfl);(try have f2:=K.out.fr 2 rfl);(try have a3:=K.out.rd 3 rfl);(try have l3:=K.out.ltp 3 rfl);(try have f3:=K.out.fr 3 rfl)
    refine wpAnyH_done (by kernel_rfl) (NoPanic.normal ?_) _
    rotate_left
    exact AllReadyH.nil
    exact AllReadyH.nil
    all_goals (go_wp2_with fail;go_meet;refine ⟨_,_,rfl,rfl,?_⟩;first|exact K.out|exact K.out.swap)
  case rest =>
    clear K
    obtain ⟨g7,g8,rfl,rfl,K0⟩:=hcut
    have K:=Lib.hid K0
    clear K0
    have a0:=K.out.rd 0 rfl
    have a1:=K.out.rd 1 rfl
    have a2:=K.out.rd 2 rfl
    have a3:=K.out.rd 3 rfl
    by_cases o0 : e.op = 0
    · have t0 : (e.op == 0) = true:=by simpa using o0
      have O0:=Lib.hid o0
      clear o0
      go_wp2_with fail
      refine wp_region_noPanic ?_
      refine wp_region_held_drew (S:=(fun w'=>(∀ j,w'.cell? ⟨g7,j,none⟩ = (wordL was)[j]?) ∧ (∀ j,w'.cell? ⟨ge,j,none⟩ = e.v[j]?) ∧ (∀ j,w'.cell? ⟨a,j,none⟩ = (audV c bc bs)[j]?))) (by kernel_rfl) ?_ (fun hHeld=>?_)
      · ((try dsimp only);(first|exact ⟨K.out.rd 1 rfl,K.out.rd 2 rfl,K.out.rd 3 rfl⟩|exact ⟨K.out.drew.rd 1 rfl,K.out.drew.rd 2 rfl,K.out.drew.rd 3 rfl⟩))
      refine tk 0 (some 19) ?_
      try simp only[Act.put,p0,p1,p2]
      refine tk 1 (some 20) ?_
      try simp only[Act.put,p0,p1,p2]
      refine tk 2 (some 21) ?_
      try simp only[Act.put,p0,p1,p2]
      refine tk 3 (some 22) ?_
      try simp only[Act.put,p0,p1,p2]
      refine tk 4 (some 23) ?_
      try simp only[Act.put,p0,p1,p2]
      refine tk 5 (some 24) ?_
      try simp only[Act.put,p0,p1,p2]
      refine tk 6 (some 25) ?_
      try simp only[Act.put,p0,p1,p2]
      refine tk 7 (some 26) ?_
      try simp only[Act.put,p0,p1,p2]
      refine tk 8 (some 27) ?_
      try simp only[Act.put,p0,p1,p2]
      refine tk 9 (some 28) ?_
      try simp only[Act.put,p0,p1,p2]
      refine wpAnyH_ready (rs:=[10]) (by kernel_rfl) (by simp) ?_
      refine AllReadyH.cons (o:=_) rfl (fun kC hkC=>?_) AllReadyH.nil
      (refine rg_put (E:=E) 5 (by kernel_rfl) (d:=none) rfl rfl K.out.drew rfl keyedP Tryz.underlying125 Tryz.underlying3 (by unfold maxLen;omega) rfl rfl (keyOf_pair e1 HS.out) rfl HG.out ?_;intro w1 K1;simp only [List.set] at K1;have K2:=Lib.hid K1;clear K1 K a0 a1 a2 a3;have K:=K2;clear K2)
      refine shown hkC _ _ (by (try dsimp only);(first|exact ⟨K.out.rd 1 rfl,K.out.rd 2 rfl,K.out.rd 3 rfl⟩|exact ⟨K.out.drew.rd 1 rfl,K.out.drew.rd 2 rfl,K.out.drew.rd 3 rfl⟩)) ?_;clear hkC kC hHeld;intro hHeld
      try simp only[Act.put,p0,p1,p2]
      have K1:=K.out;have K2:=Lib.hid K1;clear K1 K;(try clear a0 l0);(try clear f0);(try clear a1 l1);(try clear f1);(try clear a2 l2);(try clear f2);(try clear a3 l3);(try clear f3);(try clear a4 l4);(try clear f4);(try clear a5 l5);(try clear f5);have K:=K2;clear K2;(try have a0:=K.out.rd 0 rfl);(try have l0:=K.out.ltp 0 rfl);(try have f0:=K.out.fr 0 rfl);(try have a1:=K.out.rd 1 rfl);(try have l1:=K.out.ltp 1 rfl);(try have f1:=K.out.fr 1 rfl);(try have a2:=K.out.rd 2 rfl);(try have l2:=K.out.ltp 2 rfl);(try have f2:=K.out.fr 2 rfl);(try have a3:=K.out.rd 3 rfl);(try have l3:=K.out.ltp 3 rfl);(try have f3:=K.out.fr 3 rfl)
      refine wpAnyH_done (by kernel_rfl) (NoPanic.normal ?_) _
      go_wp2
      go_ret
      exact ⟨ret_b (by simp [O0.out]),by first|exact K.out.drop.drop.drop|(rw [if_pos O0.out];exact K.out.drop.drop.drop)⟩
    · have O0:=Lib.hid o0
      have t0 : (e.op == 0) = false:=by simpa using o0
      clear o0
      by_cases o1 : e.op = 1
      · have t1 : (e.op == 1) = true:=by simpa using o1
        have O1:=Lib.hid o1
        clear o1
        by_cases b1 : e.who = ownerM c slot
        · have c1 : (e.who == ownerM c slot) = true:=by simpa using b1
          clear b1
          by_cases b2 : was.state = 1
          · have c2 : (was.state != 1) = false:=by simp [b2]
            clear b2
            go_wp2_with fail
            refine wp_region_noPanic ?_
            refine wp_region_held_drew (S:=(fun w'=>(∀ j,w'.cell? ⟨g8,j,none⟩ = (wordL now)[j]?) ∧ (∀ j,w'.cell? ⟨g7,j,none⟩ = (wordL was)[j]?) ∧ (∀ j,w'.cell? ⟨ge,j,none⟩ = e.v[j]?) ∧ (∀ j,w'.cell? ⟨a,j,none⟩ = (audV c bc bs)[j]?))) (by kernel_rfl) ?_ (fun hHeld=>?_)
            · ((try dsimp only);(first|exact ⟨K.out.rd 0 rfl,K.out.rd 1 rfl,K.out.rd 2 rfl,K.out.rd 3 rfl⟩|exact ⟨K.out.drew.rd 0 rfl,K.out.drew.rd 1 rfl,K.out.drew.rd 2 rfl,K.out.drew.rd 3 rfl⟩))
            refine tk 0 (some 31) ?_
            try simp only[Act.put,p0,p1,p2]
            refine tk 1 (some 32) ?_
            try simp only[Act.put,p0,p1,p2]
            refine tk 2 (some 33) ?_
            try simp only[Act.put,p0,p1,p2]
            refine tk 3 (some 34) ?_
            try simp only[Act.put,p0,p1,p2]
            refine tk 4 (some 35) ?_
            try simp only[Act.put,p0,p1,p2]
            refine tk 5 (some 36) ?_
            try simp only[Act.put,p0,p1,p2]
            refine tk 6 (some 37) ?_
            try simp only[Act.put,p0,p1,p2]
            refine wpAnyH_ready (rs:=[7]) (by kernel_rfl) (by simp) ?_
            refine AllReadyH.cons (o:=_) rfl (fun kC hkC=>?_) AllReadyH.nil
            go_simp
            (first|((first|(go_at_call 112;(with_reducible refine ((OW _).out).mono ?_))|(go_at_call 92;(with_reducible refine ((RI _).out).mono ?_))|(go_at_call 78;(with_reducible refine ((NX _).out).mono ?_))|(go_at_call 111;(with_reducible refine ((TK _).out).mono ?_)));rintro e w1 ⟨rfl,hb⟩;have K1:=sat.grown (show sat _ _ _ from by first|exact K.out|exact K.out.drew) hb;clear hb;have K2:=Lib.hid K1;clear K1 K;have K:=K2;clear K2))
            refine shown hkC _ _ (by (try dsimp only);(first|exact ⟨K.out.rd 0 rfl,K.out.rd 1 rfl,K.out.rd 2 rfl,K.out.rd 3 rfl⟩|exact ⟨K.out.drew.rd 0 rfl,K.out.drew.rd 1 rfl,K.out.drew.rd 2 rfl,K.out.drew.rd 3 rfl⟩)) ?_;clear hkC kC hHeld;intro hHeld
            try simp only[Act.put,p0,p1,p2]
            refine tk 8 (some 39) ?_
            try simp only[Act.put,p0,p1,p2]
            refine tk 9 (some 40) ?_
            try simp only[Act.put,p0,p1,p2]
            refine tk 10 (some 41) ?_
            try simp only[Act.put,p0,p1,p2]
            refine tk 11 (some 42) ?_
            try simp only[Act.put,p0,p1,p2]
            refine tk 12 (some 43) ?_
            try simp only[Act.put,p0,p1,p2]
            refine tk 13 (some 44) ?_
            try simp only[Act.put,p0,p1,p2]
            refine tk 14 (some 45) ?_
            try simp only[Act.put,p0,p1,p2]
            refine sk 15 (some 46) ?_
            try simp only[Act.put,p0,p1,p2]
            refine sk 16 (some 47) ?_
            try simp only[Act.put,p0,p1,p2]
            refine sk 17 (some 48) ?_
            try simp only[Act.put,p0,p1,p2]
            refine tk 18 (some 49) ?_
            try simp only[Act.put,p0,p1,p2]
            refine tk 19 (some 50) ?_
            try simp only[Act.put,p0,p1,p2]
            refine sk 20 (some 51) ?_
            try simp only[Act.put,p0,p1,p2]
            refine sk 21 (some 52) ?_
            try simp only[Act.put,p0,p1,p2]
            refine sk 22 (some 53) ?_
            try simp only[Act.put,p0,p1,p2]
            refine sk 23 (some 54) ?_
            try simp only[Act.put,p0,p1,p2]
            refine sk 24 (some 55) ?_
            try simp only[Act.put,p0,p1,p2]
            refine sk 25 (some 56) ?_
            try simp only[Act.put,p0,p1,p2]
            refine sk 26 (some 57) ?_
            try simp only[Act.put,p0,p1,p2]
            refine sk 27 (some 58) ?_
            try simp only[Act.put,p0,p1,p2]
            refine tk 28 (some 59) ?_
            try simp only[Act.put,p0,p1,p2]
            refine tk 29 (some 6) ?_
            try simp only[Act.put,p0,p1,p2]
            have K1:=K.out;have K2:=Lib.hid K1;clear K1 K;(try clear a0 l0);(try clear f0);(try clear a1 l1);(try clear f1);(try clear a2 l2);(try clear f2);(try clear a3 l3);(try clear f3);(try clear a4 l4);(try clear f4);(try clear a5 l5);(try clear f5);have K:=K2;clear K2;(try have a0:=K.out.rd 0 rfl);(try have l0:=K.out.ltp 0 rfl);(try have f0:=K.out.fr 0 rfl);(try have a1:=K.out.rd 1 rfl);(try have l1:=K.out.ltp 1 rfl);(try have f1:=K.out.fr 1 rfl);(try have a2:=K.out.rd 2 rfl);(try have l2:=K.out.ltp 2 rfl);(try have f2:=K.out.fr 2 rfl);(try have a3:=K.out.rd 3 rfl);(try have l3:=K.out.ltp 3 rfl);(try have f3:=K.out.fr 3 rfl)
            refine wpAnyH_done (by kernel_rfl) (NoPanic.normal ?_) _
            go_wp2
            go_ret
            exact ⟨ret_b (by simp_all),by first|exact MM.out _ _ _ _ K.out|(rw [if_neg O0.out];exact MM.out _ _ _ _ K.out)|exact MM.out _ _ _ _ K.out.drew|(rw [if_neg O0.out];exact MM.out _ _ _ _ K.out.drew)⟩
          · have c2 : (was.state != 1) = true:=by simp [b2]
            clear b2
            cases c3 : now.stamp.right with
            | false =>
              rw [c3] at RI
              go_wp2_with fail
              refine wp_region_noPanic ?_
              refine wp_region_held_drew (S:=(fun w'=>(∀ j,w'.cell? ⟨g8,j,none⟩ = (wordL now)[j]?) ∧ (∀ j,w'.cell? ⟨g7,j,none⟩ = (wordL was)[j]?) ∧ (∀ j,w'.cell? ⟨ge,j,none⟩ = e.v[j]?) ∧ (∀ j,w'.cell? ⟨a,j,none⟩ = (audV c bc bs)[j]?))) (by kernel_rfl) ?_ (fun hHeld=>?_)
              · ((try dsimp only);(first|exact ⟨K.out.rd 0 rfl,K.out.rd 1 rfl,K.out.rd 2 rfl,K.out.rd 3 rfl⟩|exact ⟨K.out.drew.rd 0 rfl,K.out.drew.rd 1 rfl,K.out.drew.rd 2 rfl,K.out.drew.rd 3 rfl⟩))
              refine tk 0 (some 31) ?_
              try simp only[Act.put,p0,p1,p2]
              refine tk 1 (some 32) ?_
              try simp only[Act.put,p0,p1,p2]
              refine tk 2 (some 33) ?_
              try simp only[Act.put,p0,p1,p2]
              refine tk 3 (some 34) ?_
              try simp only[Act.put,p0,p1,p2]
              refine tk 4 (some 35) ?_
              try simp only[Act.put,p0,p1,p2]
              refine tk 5 (some 36) ?_
              try simp only[Act.put,p0,p1,p2]
              refine tk 6 (some 37) ?_
              try simp only[Act.put,p0,p1,p2]
              refine wpAnyH_ready (rs:=[7]) (by kernel_rfl) (by simp) ?_
              refine AllReadyH.cons (o:=_) rfl (fun kC hkC=>?_) AllReadyH.nil
              go_simp
              (first|((first|(go_at_call 112;(with_reducible refine ((OW _).out).mono ?_))|(go_at_call 92;(with_reducible refine ((RI _).out).mono ?_))|(go_at_call 78;(with_reducible refine ((NX _).out).mono ?_))|(go_at_call 111;(with_reducible refine ((TK _).out).mono ?_)));rintro e w1 ⟨rfl,hb⟩;have K1:=sat.grown (show sat _ _ _ from by first|exact K.out|exact K.out.drew) hb;clear hb;have K2:=Lib.hid K1;clear K1 K;have K:=K2;clear K2))
              refine shown hkC _ _ (by (try dsimp only);(first|exact ⟨K.out.rd 0 rfl,K.out.rd 1 rfl,K.out.rd 2 rfl,K.out.rd 3 rfl⟩|exact ⟨K.out.drew.rd 0 rfl,K.out.drew.rd 1 rfl,K.out.drew.rd 2 rfl,K.out.drew.rd 3 rfl⟩)) ?_;clear hkC kC hHeld;intro hHeld
              try simp only[Act.put,p0,p1,p2]
              refine tk 8 (some 39) ?_
              try simp only[Act.put,p0,p1,p2]
              refine tk 9 (some 40) ?_
              try simp only[Act.put,p0,p1,p2]
              refine tk 10 (some 41) ?_
              try simp only[Act.put,p0,p1,p2]
              refine tk 11 (some 42) ?_
              try simp only[Act.put,p0,p1,p2]
              refine tk 12 (some 43) ?_
              try simp only[Act.put,p0,p1,p2]
              refine tk 13 (some 44) ?_
              try simp only[Act.put,p0,p1,p2]
              refine tk 14 (some 45) ?_
              try simp only[Act.put,p0,p1,p2]
              refine tk 15 (some 46) ?_
              try simp only[Act.put,p0,p1,p2]
              refine tk 16 (some 47) ?_
              try simp only[Act.put,p0,p1,p2]
              refine wpAnyH_ready (rs:=[17]) (by kernel_rfl) (by simp) ?_
              refine AllReadyH.cons (o:=_) rfl (fun kC hkC=>?_) AllReadyH.nil
              go_simp
              (first|((first|(go_at_call 112;(with_reducible refine ((OW _).out).mono ?_))|(go_at_call 92;(with_reducible refine ((RI _).out).mono ?_))|(go_at_call 78;(with_reducible refine ((NX _).out).mono ?_))|(go_at_call 111;(with_reducible refine ((TK _).out).mono ?_)));rintro e w1 ⟨rfl,hb⟩;have K1:=sat.grown (show sat _ _ _ from by first|exact K.out|exact K.out.drew) hb;clear hb;have K2:=Lib.hid K1;clear K1 K;have K:=K2;clear K2))
              refine shown hkC _ _ (by (try dsimp only);(first|exact ⟨K.out.rd 0 rfl,K.out.rd 1 rfl,K.out.rd 2 rfl,K.out.rd 3 rfl⟩|exact ⟨K.out.drew.rd 0 rfl,K.out.drew.rd 1 rfl,K.out.drew.rd 2 rfl,K.out.drew.rd 3 rfl⟩)) ?_;clear hkC kC hHeld;intro hHeld
              try simp only[Act.put,p0,p1,p2]
              refine tk 18 (some 49) ?_
              try simp only[Act.put,p0,p1,p2]
              refine tk 19 (some 50) ?_
              try simp only[Act.put,p0,p1,p2]
              refine sk 20 (some 51) ?_
              try simp only[Act.put,p0,p1,p2]
              refine sk 21 (some 52) ?_
              try simp only[Act.put,p0,p1,p2]
              refine sk 22 (some 53) ?_
              try simp only[Act.put,p0,p1,p2]
              refine sk 23 (some 54) ?_
              try simp only[Act.put,p0,p1,p2]
              refine sk 24 (some 55) ?_
              try simp only[Act.put,p0,p1,p2]
              refine sk 25 (some 56) ?_
              try simp only[Act.put,p0,p1,p2]
              refine sk 26 (some 57) ?_
              try simp only[Act.put,p0,p1,p2]
              refine sk 27 (some 58) ?_
              try simp only[Act.put,p0,p1,p2]
              refine tk 28 (some 59) ?_
              try simp only[Act.put,p0,p1,p2]
              refine tk 29 (some 6) ?_
              try simp only[Act.put,p0,p1,p2]
              have K1:=K.out;have K2:=Lib.hid K1;clear K1 K;(try clear a0 l0);(try clear f0);(try clear a1 l1);(try clear f1);(try clear a2 l2);(try clear f2);(try clear a3 l3);(try clear f3);(try clear a4 l4);(try clear f4);(try clear a5 l5);(try clear f5);have K:=K2;clear K2;(try have a0:=K.out.rd 0 rfl);(try have l0:=K.out.ltp 0 rfl);(try have f0:=K.out.fr 0 rfl);(try have a1:=K.out.rd 1 rfl);(try have l1:=K.out.ltp 1 rfl);(try have f1:=K.out.fr 1 rfl);(try have a2:=K.out.rd 2 rfl);(try have l2:=K.out.ltp 2 rfl);(try have f2:=K.out.fr 2 rfl);(try have a3:=K.out.rd 3 rfl);(try have l3:=K.out.ltp 3 rfl);(try have f3:=K.out.fr 3 rfl)
              refine wpAnyH_done (by kernel_rfl) (NoPanic.normal ?_) _
              go_wp2
              go_ret
              exact ⟨ret_b (by simp_all),by first|exact MM.out _ _ _ _ K.out|(rw [if_neg O0.out];exact MM.out _ _ _ _ K.out)|exact MM.out _ _ _ _ K.out.drew|(rw [if_neg O0.out];exact MM.out _ _ _ _ K.out.drew)⟩
            | true =>
              rw [c3] at RI
              by_cases b3 : now.state = 1
              · by_cases b4 : now.gen = was.gen + 1
                · go_wp2_with fail
                  refine wp_region_noPanic ?_
                  refine wp_region_held_drew (S:=(fun w'=>(∀ j,w'.cell? ⟨g8,j,none⟩ = (wordL now)[j]?) ∧ (∀ j,w'.cell? ⟨g7,j,none⟩ = (wordL was)[j]?) ∧ (∀ j,w'.cell? ⟨ge,j,none⟩ = e.v[j]?) ∧ (∀ j,w'.cell? ⟨a,j,none⟩ = (audV c bc bs)[j]?))) (by kernel_rfl) ?_ (fun hHeld=>?_)
                  · ((try dsimp only);(first|exact ⟨K.out.rd 0 rfl,K.out.rd 1 rfl,K.out.rd 2 rfl,K.out.rd 3 rfl⟩|exact ⟨K.out.drew.rd 0 rfl,K.out.drew.rd 1 rfl,K.out.drew.rd 2 rfl,K.out.drew.rd 3 rfl⟩))
                  refine tk 0 (some 31) ?_
                  try simp only[Act.put,p0,p1,p2]
                  refine tk 1 (some 32) ?_
                  try simp only[Act.put,p0,p1,p2]
                  refine tk 2 (some 33) ?_
                  try simp only[Act.put,p0,p1,p2]
                  refine tk 3 (some 34) ?_
                  try simp only[Act.put,p0,p1,p2]
                  refine tk 4 (some 35) ?_
                  try simp only[Act.put,p0,p1,p2]
                  refine tk 5 (some 36) ?_
                  try simp only[Act.put,p0,p1,p2]
                  refine tk 6 (some 37) ?_
                  try simp only[Act.put,p0,p1,p2]
                  refine wpAnyH_ready (rs:=[7]) (by kernel_rfl) (by simp) ?_
                  refine AllReadyH.cons (o:=_) rfl (fun kC hkC=>?_) AllReadyH.nil
                  go_simp
                  (first|((first|(go_at_call 112;(with_reducible refine ((OW _).out).mono ?_))|(go_at_call 92;(with_reducible refine ((RI _).out).mono ?_))|(go_at_call 78;(with_reducible refine ((NX _).out).mono ?_))|(go_at_call 111;(with_reducible refine ((TK _).out).mono ?_)));rintro e w1 ⟨rfl,hb⟩;have K1:=sat.grown (show sat _ _ _ from by first|exact K.out|exact K.out.drew) hb;clear hb;have K2:=Lib.hid K1;clear K1 K;have K:=K2;clear K2))
                  refine shown hkC _ _ (by (try dsimp only);(first|exact ⟨K.out.rd 0 rfl,K.out.rd 1 rfl,K.out.rd 2 rfl,K.out.rd 3 rfl⟩|exact ⟨K.out.drew.rd 0 rfl,K.out.drew.rd 1 rfl,K.out.drew.rd 2 rfl,K.out.drew.rd 3 rfl⟩)) ?_;clear hkC kC hHeld;intro hHeld
                  try simp only[Act.put,p0,p1,p2]
                  refine tk 8 (some 39) ?_
                  try simp only[Act.put,p0,p1,p2]
                  refine tk 9 (some 40) ?_
                  try simp only[Act.put,p0,p1,p2]
                  refine tk 10 (some 41) ?_
                  try simp only[Act.put,p0,p1,p2]
                  refine tk 11 (some 42) ?_
                  try simp only[Act.put,p0,p1,p2]
                  refine tk 12 (some 43) ?_
                  try simp only[Act.put,p0,p1,p2]
                  refine tk 13 (some 44) ?_
                  try simp only[Act.put,p0,p1,p2]
                  refine tk 14 (some 45) ?_
                  try simp only[Act.put,p0,p1,p2]
                  refine tk 15 (some 46) ?_
                  try simp only[Act.put,p0,p1,p2]
                  refine tk 16 (some 47) ?_
                  try simp only[Act.put,p0,p1,p2]
                  refine wpAnyH_ready (rs:=[17]) (by kernel_rfl) (by simp) ?_
                  refine AllReadyH.cons (o:=_) rfl (fun kC hkC=>?_) AllReadyH.nil
                  go_simp
                  (first|((first|(go_at_call 112;(with_reducible refine ((OW _).out).mono ?_))|(go_at_call 92;(with_reducible refine ((RI _).out).mono ?_))|(go_at_call 78;(with_reducible refine ((NX _).out).mono ?_))|(go_at_call 111;(with_reducible refine ((TK _).out).mono ?_)));rintro e w1 ⟨rfl,hb⟩;have K1:=sat.grown (show sat _ _ _ from by first|exact K.out|exact K.out.drew) hb;clear hb;have K2:=Lib.hid K1;clear K1 K;have K:=K2;clear K2))
                  refine shown hkC _ _ (by (try dsimp only);(first|exact ⟨K.out.rd 0 rfl,K.out.rd 1 rfl,K.out.rd 2 rfl,K.out.rd 3 rfl⟩|exact ⟨K.out.drew.rd 0 rfl,K.out.drew.rd 1 rfl,K.out.drew.rd 2 rfl,K.out.drew.rd 3 rfl⟩)) ?_;clear hkC kC hHeld;intro hHeld
                  try simp only[Act.put,p0,p1,p2]
                  refine tk 18 (some 49) ?_
                  try simp only[Act.put,p0,p1,p2]
                  refine tk 19 (some 50) ?_
                  try simp only[Act.put,p0,p1,p2]
                  refine tk 20 (some 51) ?_
                  try simp only[Act.put,p0,p1,p2]
                  refine tk 21 (some 52) ?_
                  try simp only[Act.put,p0,p1,p2]
                  refine tk 22 (some 53) ?_
                  try simp only[Act.put,p0,p1,p2]
                  refine tk 23 (some 54) ?_
                  try simp only[Act.put,p0,p1,p2]
                  refine tk 24 (some 55) ?_
                  try simp only[Act.put,p0,p1,p2]
                  refine tk 25 (some 56) ?_
                  try simp only[Act.put,p0,p1,p2]
                  refine wpAnyH_ready (rs:=[26]) (by kernel_rfl) (by simp) ?_
                  refine AllReadyH.cons (o:=_) rfl (fun kC hkC=>?_) AllReadyH.nil
                  go_simp
                  (first|((first|(go_at_call 112;(with_reducible refine ((OW _).out).mono ?_))|(go_at_call 92;(with_reducible refine ((RI _).out).mono ?_))|(go_at_call 78;(with_reducible refine ((NX _).out).mono ?_))|(go_at_call 111;(with_reducible refine ((TK _).out).mono ?_)));rintro e w1 ⟨rfl,hb⟩;have K1:=sat.grown (show sat _ _ _ from by first|exact K.out|exact K.out.drew) hb;clear hb;have K2:=Lib.hid K1;clear K1 K;have K:=K2;clear K2))
                  refine shown hkC _ _ (by (try dsimp only);(first|exact ⟨K.out.rd 0 rfl,K.out.rd 1 rfl,K.out.rd 2 rfl,K.out.rd 3 rfl⟩|exact ⟨K.out.drew.rd 0 rfl,K.out.drew.rd 1 rfl,K.out.drew.rd 2 rfl,K.out.drew.rd 3 rfl⟩)) ?_;clear hkC kC hHeld;intro hHeld
                  try simp only[Act.put,p0,p1,p2]
                  refine tk 27 (some 58) ?_
                  try simp only[Act.put,p0,p1,p2]
                  refine tk 28 (some 59) ?_
                  try simp only[Act.put,p0,p1,p2]
                  refine tk 29 (some 6) ?_
                  try simp only[Act.put,p0,p1,p2]
                  have K1:=K.out;have K2:=Lib.hid K1;clear K1 K;(try clear a0 l0);(try clear f0);(try clear a1 l1);(try clear f1);(try clear a2 l2);(try clear f2);(try clear a3 l3);(try clear f3);(try clear a4 l4);(try clear f4);(try clear a5 l5);(try clear f5);have K:=K2;clear K2;(try have a0:=K.out.rd 0 rfl);(try have l0:=K.out.ltp 0 rfl);(try have f0:=K.out.fr 0 rfl);(try have a1:=K.out.rd 1 rfl);(try have l1:=K.out.ltp 1 rfl);(try have f1:=K.out.fr 1 rfl);(try have a2:=K.out.rd 2 rfl);(try have l2:=K.out.ltp 2 rfl);(try have f2:=K.out.fr 2 rfl);(try have a3:=K.out.rd 3 rfl);(try have l3:=K.out.ltp 3 rfl);(try have f3:=K.out.fr 3 rfl)
                  refine wpAnyH_done (by kernel_rfl) (NoPanic.normal ?_) _
                  go_wp2
                  go_ret
                  exact ⟨ret_b (by simp_all),by first|exact MM.out _ _ _ _ K.out|(rw [if_neg O0.out];exact MM.out _ _ _ _ K.out)|exact MM.out _ _ _ _ K.out.drew|(rw [if_neg O0.out];exact MM.out _ _ _ _ K.out.drew)⟩
                · have c4 : (now.gen == was.gen + 1) = false:=by simpa using b4
                  go_wp2_with fail
                  refine wp_region_noPanic ?_
                  refine wp_region_held_drew (S:=(fun w'=>(∀ j,w'.cell? ⟨g8,j,none⟩ = (wordL now)[j]?) ∧ (∀ j,w'.cell? ⟨g7,j,none⟩ = (wordL was)[j]?) ∧ (∀ j,w'.cell? ⟨ge,j,none⟩ = e.v[j]?) ∧ (∀ j,w'.cell? ⟨a,j,none⟩ = (audV c bc bs)[j]?))) (by kernel_rfl) ?_ (fun hHeld=>?_)
                  · ((try dsimp only);(first|exact ⟨K.out.rd 0 rfl,K.out.rd 1 rfl,K.out.rd 2 rfl,K.out.rd 3 rfl⟩|exact ⟨K.out.drew.rd 0 rfl,K.out.drew.rd 1 rfl,K.out.drew.rd 2 rfl,K.out.drew.rd 3 rfl⟩))
                  refine tk 0 (some 31) ?_
                  try simp only[Act.put,p0,p1,p2]
                  refine tk 1 (some 32) ?_
                  try simp only[Act.put,p0,p1,p2]
                  refine tk 2 (some 33) ?_
                  try simp only[Act.put,p0,p1,p2]
                  refine tk 3 (some 34) ?_
                  try simp only[Act.put,p0,p1,p2]
                  refine tk 4 (some 35) ?_
                  try simp only[Act.put,p0,p1,p2]
                  refine tk 5 (some 36) ?_
                  try simp only[Act.put,p0,p1,p2]
                  refine tk 6 (some 37) ?_
                  try simp only[Act.put,p0,p1,p2]
                  refine wpAnyH_ready (rs:=[7]) (by kernel_rfl) (by simp) ?_
                  refine AllReadyH.cons (o:=_) rfl (fun kC hkC=>?_) AllReadyH.nil
                  go_simp
                  (first|((first|(go_at_call 112;(with_reducible refine ((OW _).out).mono ?_))|(go_at_call 92;(with_reducible refine ((RI _).out).mono ?_))|(go_at_call 78;(with_reducible refine ((NX _).out).mono ?_))|(go_at_call 111;(with_reducible refine ((TK _).out).mono ?_)));rintro e w1 ⟨rfl,hb⟩;have K1:=sat.grown (show sat _ _ _ from by first|exact K.out|exact K.out.drew) hb;clear hb;have K2:=Lib.hid K1;clear K1 K;have K:=K2;clear K2))
                  refine shown hkC _ _ (by (try dsimp only);(first|exact ⟨K.out.rd 0 rfl,K.out.rd 1 rfl,K.out.rd 2 rfl,K.out.rd 3 rfl⟩|exact ⟨K.out.drew.rd 0 rfl,K.out.drew.rd 1 rfl,K.out.drew.rd 2 rfl,K.out.drew.rd 3 rfl⟩)) ?_;clear hkC kC hHeld;intro hHeld
                  try simp only[Act.put,p0,p1,p2]
                  refine tk 8 (some 39) ?_
                  try simp only[Act.put,p0,p1,p2]
                  refine tk 9 (some 40) ?_
                  try simp only[Act.put,p0,p1,p2]
                  refine tk 10 (some 41) ?_
                  try simp only[Act.put,p0,p1,p2]
                  refine tk 11 (some 42) ?_
                  try simp only[Act.put,p0,p1,p2]
                  refine tk 12 (some 43) ?_
                  try simp only[Act.put,p0,p1,p2]
                  refine tk 13 (some 44) ?_
                  try simp only[Act.put,p0,p1,p2]
                  refine tk 14 (some 45) ?_
                  try simp only[Act.put,p0,p1,p2]
                  refine tk 15 (some 46) ?_
                  try simp only[Act.put,p0,p1,p2]
                  refine tk 16 (some 47) ?_
                  try simp only[Act.put,p0,p1,p2]
                  refine wpAnyH_ready (rs:=[17]) (by kernel_rfl) (by simp) ?_
                  refine AllReadyH.cons (o:=_) rfl (fun kC hkC=>?_) AllReadyH.nil
                  go_simp
                  (first|((first|(go_at_call 112;(with_reducible refine ((OW _).out).mono ?_))|(go_at_call 92;(with_reducible refine ((RI _).out).mono ?_))|(go_at_call 78;(with_reducible refine ((NX _).out).mono ?_))|(go_at_call 111;(with_reducible refine ((TK _).out).mono ?_)));rintro e w1 ⟨rfl,hb⟩;have K1:=sat.grown (show sat _ _ _ from by first|exact K.out|exact K.out.drew) hb;clear hb;have K2:=Lib.hid K1;clear K1 K;have K:=K2;clear K2))
                  refine shown hkC _ _ (by (try dsimp only);(first|exact ⟨K.out.rd 0 rfl,K.out.rd 1 rfl,K.out.rd 2 rfl,K.out.rd 3 rfl⟩|exact ⟨K.out.drew.rd 0 rfl,K.out.drew.rd 1 rfl,K.out.drew.rd 2 rfl,K.out.drew.rd 3 rfl⟩)) ?_;clear hkC kC hHeld;intro hHeld
                  try simp only[Act.put,p0,p1,p2]
                  refine tk 18 (some 49) ?_
                  try simp only[Act.put,p0,p1,p2]
                  refine tk 19 (some 50) ?_
                  try simp only[Act.put,p0,p1,p2]
                  refine tk 20 (some 51) ?_
                  try simp only[Act.put,p0,p1,p2]
                  refine tk 21 (some 52) ?_
                  try simp only[Act.put,p0,p1,p2]
                  refine tk 22 (some 53) ?_
                  try simp only[Act.put,p0,p1,p2]
                  refine tk 23 (some 54) ?_
                  try simp only[Act.put,p0,p1,p2]
                  refine tk 24 (some 55) ?_
                  try simp only[Act.put,p0,p1,p2]
                  refine tk 25 (some 56) ?_
                  try simp only[Act.put,p0,p1,p2]
                  refine wpAnyH_ready (rs:=[26]) (by kernel_rfl) (by simp) ?_
                  refine AllReadyH.cons (o:=_) rfl (fun kC hkC=>?_) AllReadyH.nil
                  go_simp
                  (first|((first|(go_at_call 112;(with_reducible refine ((OW _).out).mono ?_))|(go_at_call 92;(with_reducible refine ((RI _).out).mono ?_))|(go_at_call 78;(with_reducible refine ((NX _).out).mono ?_))|(go_at_call 111;(with_reducible refine ((TK _).out).mono ?_)));rintro e w1 ⟨rfl,hb⟩;have K1:=sat.grown (show sat _ _ _ from by first|exact K.out|exact K.out.drew) hb;clear hb;have K2:=Lib.hid K1;clear K1 K;have K:=K2;clear K2))
                  refine shown hkC _ _ (by (try dsimp only);(first|exact ⟨K.out.rd 0 rfl,K.out.rd 1 rfl,K.out.rd 2 rfl,K.out.rd 3 rfl⟩|exact ⟨K.out.drew.rd 0 rfl,K.out.drew.rd 1 rfl,K.out.drew.rd 2 rfl,K.out.drew.rd 3 rfl⟩)) ?_;clear hkC kC hHeld;intro hHeld
                  try simp only[Act.put,p0,p1,p2]
                  refine tk 27 (some 58) ?_
                  try simp only[Act.put,p0,p1,p2]
                  refine tk 28 (some 59) ?_
                  try simp only[Act.put,p0,p1,p2]
                  refine tk 29 (some 6) ?_
                  try simp only[Act.put,p0,p1,p2]
                  have K1:=K.out;have K2:=Lib.hid K1;clear K1 K;(try clear a0 l0);(try clear f0);(try clear a1 l1);(try clear f1);(try clear a2 l2);(try clear f2);(try clear a3 l3);(try clear f3);(try clear a4 l4);(try clear f4);(try clear a5 l5);(try clear f5);have K:=K2;clear K2;(try have a0:=K.out.rd 0 rfl);(try have l0:=K.out.ltp 0 rfl);(try have f0:=K.out.fr 0 rfl);(try have a1:=K.out.rd 1 rfl);(try have l1:=K.out.ltp 1 rfl);(try have f1:=K.out.fr 1 rfl);(try have a2:=K.out.rd 2 rfl);(try have l2:=K.out.ltp 2 rfl);(try have f2:=K.out.fr 2 rfl);(try have a3:=K.out.rd 3 rfl);(try have l3:=K.out.ltp 3 rfl);(try have f3:=K.out.fr 3 rfl)
                  refine wpAnyH_done (by kernel_rfl) (NoPanic.normal ?_) _
                  go_wp2
                  go_ret
                  exact ⟨ret_b (by simp_all),by first|exact MM.out _ _ _ _ K.out|(rw [if_neg O0.out];exact MM.out _ _ _ _ K.out)|exact MM.out _ _ _ _ K.out.drew|(rw [if_neg O0.out];exact MM.out _ _ _ _ K.out.drew)⟩
              · have c5 : (now.state == 1) = false:=by simpa using b3
                go_wp2_with fail
                refine wp_region_noPanic ?_
                refine wp_region_held_drew (S:=(fun w'=>(∀ j,w'.cell? ⟨g8,j,none⟩ = (wordL now)[j]?) ∧ (∀ j,w'.cell? ⟨g7,j,none⟩ = (wordL was)[j]?) ∧ (∀ j,w'.cell? ⟨ge,j,none⟩ = e.v[j]?) ∧ (∀ j,w'.cell? ⟨a,j,none⟩ = (audV c bc bs)[j]?))) (by kernel_rfl) ?_ (fun hHeld=>?_)
                · ((try dsimp only);(first|exact ⟨K.out.rd 0 rfl,K.out.rd 1 rfl,K.out.rd 2 rfl,K.out.rd 3 rfl⟩|exact ⟨K.out.drew.rd 0 rfl,K.out.drew.rd 1 rfl,K.out.drew.rd 2 rfl,K.out.drew.rd 3 rfl⟩))
                refine tk 0 (some 31) ?_
                try simp only[Act.put,p0,p1,p2]
                refine tk 1 (some 32) ?_
                try simp only[Act.put,p0,p1,p2]
                refine tk 2 (some 33) ?_
                try simp only[Act.put,p0,p1,p2]
                refine tk 3 (some 34) ?_
                try simp only[Act.put,p0,p1,p2]
                refine tk 4 (some 35) ?_
                try simp only[Act.put,p0,p1,p2]
                refine tk 5 (some 36) ?_
                try simp only[Act.put,p0,p1,p2]
                refine tk 6 (some 37) ?_
                try simp only[Act.put,p0,p1,p2]
                refine wpAnyH_ready (rs:=[7]) (by kernel_rfl) (by simp) ?_
                refine AllReadyH.cons (o:=_) rfl (fun kC hkC=>?_) AllReadyH.nil
                go_simp
                (first|((first|(go_at_call 112;(with_reducible refine ((OW _).out).mono ?_))|(go_at_call 92;(with_reducible refine ((RI _).out).mono ?_))|(go_at_call 78;(with_reducible refine ((NX _).out).mono ?_))|(go_at_call 111;(with_reducible refine ((TK _).out).mono ?_)));rintro e w1 ⟨rfl,hb⟩;have K1:=sat.grown (show sat _ _ _ from by first|exact K.out|exact K.out.drew) hb;clear hb;have K2:=Lib.hid K1;clear K1 K;have K:=K2;clear K2))
                refine shown hkC _ _ (by (try dsimp only);(first|exact ⟨K.out.rd 0 rfl,K.out.rd 1 rfl,K.out.rd 2 rfl,K.out.rd 3 rfl⟩|exact ⟨K.out.drew.rd 0 rfl,K.out.drew.rd 1 rfl,K.out.drew.rd 2 rfl,K.out.drew.rd 3 rfl⟩)) ?_;clear hkC kC hHeld;intro hHeld
                try simp only[Act.put,p0,p1,p2]
                refine tk 8 (some 39) ?_
                try simp only[Act.put,p0,p1,p2]
                refine tk 9 (some 40) ?_
                try simp only[Act.put,p0,p1,p2]
                refine tk 10 (some 41) ?_
                try simp only[Act.put,p0,p1,p2]
                refine tk 11 (some 42) ?_
                try simp only[Act.put,p0,p1,p2]
                refine tk 12 (some 43) ?_
                try simp only[Act.put,p0,p1,p2]
                refine tk 13 (some 44) ?_
                try simp only[Act.put,p0,p1,p2]
                refine tk 14 (some 45) ?_
                try simp only[Act.put,p0,p1,p2]
                refine tk 15 (some 46) ?_
                try simp only[Act.put,p0,p1,p2]
                refine tk 16 (some 47) ?_
                try simp only[Act.put,p0,p1,p2]
                refine wpAnyH_ready (rs:=[17]) (by kernel_rfl) (by simp) ?_
                refine AllReadyH.cons (o:=_) rfl (fun kC hkC=>?_) AllReadyH.nil
                go_simp
                (first|((first|(go_at_call 112;(with_reducible refine ((OW _).out).mono ?_))|(go_at_call 92;(with_reducible refine ((RI _).out).mono ?_))|(go_at_call 78;(with_reducible refine ((NX _).out).mono ?_))|(go_at_call 111;(with_reducible refine ((TK _).out).mono ?_)));rintro e w1 ⟨rfl,hb⟩;have K1:=sat.grown (show sat _ _ _ from by first|exact K.out|exact K.out.drew) hb;clear hb;have K2:=Lib.hid K1;clear K1 K;have K:=K2;clear K2))
                refine shown hkC _ _ (by (try dsimp only);(first|exact ⟨K.out.rd 0 rfl,K.out.rd 1 rfl,K.out.rd 2 rfl,K.out.rd 3 rfl⟩|exact ⟨K.out.drew.rd 0 rfl,K.out.drew.rd 1 rfl,K.out.drew.rd 2 rfl,K.out.drew.rd 3 rfl⟩)) ?_;clear hkC kC hHeld;intro hHeld
                try simp only[Act.put,p0,p1,p2]
                refine tk 18 (some 49) ?_
                try simp only[Act.put,p0,p1,p2]
                refine tk 19 (some 50) ?_
                try simp only[Act.put,p0,p1,p2]
                refine tk 20 (some 51) ?_
                try simp only[Act.put,p0,p1,p2]
                refine tk 21 (some 52) ?_
                try simp only[Act.put,p0,p1,p2]
                refine tk 22 (some 53) ?_
                try simp only[Act.put,p0,p1,p2]
                refine tk 23 (some 54) ?_
                try simp only[Act.put,p0,p1,p2]
                refine tk 24 (some 55) ?_
                try simp only[Act.put,p0,p1,p2]
                refine tk 25 (some 56) ?_
                try simp only[Act.put,p0,p1,p2]
                refine wpAnyH_ready (rs:=[26]) (by kernel_rfl) (by simp) ?_
                refine AllReadyH.cons (o:=_) rfl (fun kC hkC=>?_) AllReadyH.nil
                go_simp
                (first|((first|(go_at_call 112;(with_reducible refine ((OW _).out).mono ?_))|(go_at_call 92;(with_reducible refine ((RI _).out).mono ?_))|(go_at_call 78;(with_reducible refine ((NX _).out).mono ?_))|(go_at_call 111;(with_reducible refine ((TK _).out).mono ?_)));rintro e w1 ⟨rfl,hb⟩;have K1:=sat.grown (show sat _ _ _ from by first|exact K.out|exact K.out.drew) hb;clear hb;have K2:=Lib.hid K1;clear K1 K;have K:=K2;clear K2))
                refine shown hkC _ _ (by (try dsimp only);(first|exact ⟨K.out.rd 0 rfl,K.out.rd 1 rfl,K.out.rd 2 rfl,K.out.rd 3 rfl⟩|exact ⟨K.out.drew.rd 0 rfl,K.out.drew.rd 1 rfl,K.out.drew.rd 2 rfl,K.out.drew.rd 3 rfl⟩)) ?_;clear hkC kC hHeld;intro hHeld
                try simp only[Act.put,p0,p1,p2]
                refine tk 27 (some 58) ?_
                try simp only[Act.put,p0,p1,p2]
                refine tk 28 (some 59) ?_
                try simp only[Act.put,p0,p1,p2]
                refine tk 29 (some 6) ?_
                try simp only[Act.put,p0,p1,p2]
                have K1:=K.out;have K2:=Lib.hid K1;clear K1 K;(try clear a0 l0);(try clear f0);(try clear a1 l1);(try clear f1);(try clear a2 l2);(try clear f2);(try clear a3 l3);(try clear f3);(try clear a4 l4);(try clear f4);(try clear a5 l5);(try clear f5);have K:=K2;clear K2;(try have a0:=K.out.rd 0 rfl);(try have l0:=K.out.ltp 0 rfl);(try have f0:=K.out.fr 0 rfl);(try have a1:=K.out.rd 1 rfl);(try have l1:=K.out.ltp 1 rfl);(try have f1:=K.out.fr 1 rfl);(try have a2:=K.out.rd 2 rfl);(try have l2:=K.out.ltp 2 rfl);(try have f2:=K.out.fr 2 rfl);(try have a3:=K.out.rd 3 rfl);(try have l3:=K.out.ltp 3 rfl);(try have f3:=K.out.fr 3 rfl)
                refine wpAnyH_done (by kernel_rfl) (NoPanic.normal ?_) _
                go_wp2
                go_ret
                exact ⟨ret_b (by simp_all),by first|exact MM.out _ _ _ _ K.out|(rw [if_neg O0.out];exact MM.out _ _ _ _ K.out)|exact MM.out _ _ _ _ K.out.drew|(rw [if_neg O0.out];exact MM.out _ _ _ _ K.out.drew)⟩
        · have c1 : (e.who == ownerM c slot) = false:=by simpa using b1
          clear b1
          go_wp2_with fail
          refine wp_region_noPanic ?_
          refine wp_region_held_drew (S:=(fun w'=>(∀ j,w'.cell? ⟨g8,j,none⟩ = (wordL now)[j]?) ∧ (∀ j,w'.cell? ⟨g7,j,none⟩ = (wordL was)[j]?) ∧ (∀ j,w'.cell? ⟨ge,j,none⟩ = e.v[j]?) ∧ (∀ j,w'.cell? ⟨a,j,none⟩ = (audV c bc bs)[j]?))) (by kernel_rfl) ?_ (fun hHeld=>?_)
          · ((try dsimp only);(first|exact ⟨K.out.rd 0 rfl,K.out.rd 1 rfl,K.out.rd 2 rfl,K.out.rd 3 rfl⟩|exact ⟨K.out.drew.rd 0 rfl,K.out.drew.rd 1 rfl,K.out.drew.rd 2 rfl,K.out.drew.rd 3 rfl⟩))
          refine tk 0 (some 31) ?_
          try simp only[Act.put,p0,p1,p2]
          refine tk 1 (some 32) ?_
          try simp only[Act.put,p0,p1,p2]
          refine tk 2 (some 33) ?_
          try simp only[Act.put,p0,p1,p2]
          refine tk 3 (some 34) ?_
          try simp only[Act.put,p0,p1,p2]
          refine tk 4 (some 35) ?_
          try simp only[Act.put,p0,p1,p2]
          refine tk 5 (some 36) ?_
          try simp only[Act.put,p0,p1,p2]
          refine tk 6 (some 37) ?_
          try simp only[Act.put,p0,p1,p2]
          refine wpAnyH_ready (rs:=[7]) (by kernel_rfl) (by simp) ?_
          refine AllReadyH.cons (o:=_) rfl (fun kC hkC=>?_) AllReadyH.nil
          go_simp
          (first|((first|(go_at_call 112;(with_reducible refine ((OW _).out).mono ?_))|(go_at_call 92;(with_reducible refine ((RI _).out).mono ?_))|(go_at_call 78;(with_reducible refine ((NX _).out).mono ?_))|(go_at_call 111;(with_reducible refine ((TK _).out).mono ?_)));rintro e w1 ⟨rfl,hb⟩;have K1:=sat.grown (show sat _ _ _ from by first|exact K.out|exact K.out.drew) hb;clear hb;have K2:=Lib.hid K1;clear K1 K;have K:=K2;clear K2))
          refine shown hkC _ _ (by (try dsimp only);(first|exact ⟨K.out.rd 0 rfl,K.out.rd 1 rfl,K.out.rd 2 rfl,K.out.rd 3 rfl⟩|exact ⟨K.out.drew.rd 0 rfl,K.out.drew.rd 1 rfl,K.out.drew.rd 2 rfl,K.out.drew.rd 3 rfl⟩)) ?_;clear hkC kC hHeld;intro hHeld
          try simp only[Act.put,p0,p1,p2]
          refine tk 8 (some 39) ?_
          try simp only[Act.put,p0,p1,p2]
          refine tk 9 (some 40) ?_
          try simp only[Act.put,p0,p1,p2]
          refine sk 10 (some 41) ?_
          try simp only[Act.put,p0,p1,p2]
          refine sk 11 (some 42) ?_
          try simp only[Act.put,p0,p1,p2]
          refine sk 12 (some 43) ?_
          try simp only[Act.put,p0,p1,p2]
          refine tk 13 (some 44) ?_
          try simp only[Act.put,p0,p1,p2]
          refine tk 14 (some 45) ?_
          try simp only[Act.put,p0,p1,p2]
          refine sk 15 (some 46) ?_
          try simp only[Act.put,p0,p1,p2]
          refine sk 16 (some 47) ?_
          try simp only[Act.put,p0,p1,p2]
          refine sk 17 (some 48) ?_
          try simp only[Act.put,p0,p1,p2]
          refine tk 18 (some 49) ?_
          try simp only[Act.put,p0,p1,p2]
          refine tk 19 (some 50) ?_
          try simp only[Act.put,p0,p1,p2]
          refine sk 20 (some 51) ?_
          try simp only[Act.put,p0,p1,p2]
          refine sk 21 (some 52) ?_
          try simp only[Act.put,p0,p1,p2]
          refine sk 22 (some 53) ?_
          try simp only[Act.put,p0,p1,p2]
          refine sk 23 (some 54) ?_
          try simp only[Act.put,p0,p1,p2]
          refine sk 24 (some 55) ?_
          try simp only[Act.put,p0,p1,p2]
          refine sk 25 (some 56) ?_
          try simp only[Act.put,p0,p1,p2]
          refine sk 26 (some 57) ?_
          try simp only[Act.put,p0,p1,p2]
          refine sk 27 (some 58) ?_
          try simp only[Act.put,p0,p1,p2]
          refine tk 28 (some 59) ?_
          try simp only[Act.put,p0,p1,p2]
          refine tk 29 (some 6) ?_
          try simp only[Act.put,p0,p1,p2]
          have K1:=K.out;have K2:=Lib.hid K1;clear K1 K;(try clear a0 l0);(try clear f0);(try clear a1 l1);(try clear f1);(try clear a2 l2);(try clear f2);(try clear a3 l3);(try clear f3);(try clear a4 l4);(try clear f4);(try clear a5 l5);(try clear f5);have K:=K2;clear K2;(try have a0:=K.out.rd 0 rfl);(try have l0:=K.out.ltp 0 rfl);(try have f0:=K.out.fr 0 rfl);(try have a1:=K.out.rd 1 rfl);(try have l1:=K.out.ltp 1 rfl);(try have f1:=K.out.fr 1 rfl);(try have a2:=K.out.rd 2 rfl);(try have l2:=K.out.ltp 2 rfl);(try have f2:=K.out.fr 2 rfl);(try have a3:=K.out.rd 3 rfl);(try have l3:=K.out.ltp 3 rfl);(try have f3:=K.out.fr 3 rfl)
          refine wpAnyH_done (by kernel_rfl) (NoPanic.normal ?_) _
          go_wp2
          go_ret
          exact ⟨ret_b (by simp_all),by first|exact MM.out _ _ _ _ K.out|(rw [if_neg O0.out];exact MM.out _ _ _ _ K.out)|exact MM.out _ _ _ _ K.out.drew|(rw [if_neg O0.out];exact MM.out _ _ _ _ K.out.drew)⟩
      · have t1 : (e.op == 1) = false:=by simpa using o1
        have O1:=Lib.hid o1
        clear o1
        by_cases o2 : e.op = 2
        · have t2 : (e.op == 2) = true:=by simpa using o2
          have O2:=Lib.hid o2
          clear o2
          cases ok : e.ok with
          | false =>
            go_wp2_with fail
            refine wp_region_noPanic ?_
            refine wp_region_held_drew (S:=(fun w'=>(∀ j,w'.cell? ⟨g8,j,none⟩ = (wordL now)[j]?) ∧ (∀ j,w'.cell? ⟨g7,j,none⟩ = (wordL was)[j]?) ∧ (∀ j,w'.cell? ⟨ge,j,none⟩ = e.v[j]?) ∧ (∀ j,w'.cell? ⟨a,j,none⟩ = (audV c bc bs)[j]?))) (by kernel_rfl) ?_ (fun hHeld=>?_)
            · ((try dsimp only);(first|exact ⟨K.out.rd 0 rfl,K.out.rd 1 rfl,K.out.rd 2 rfl,K.out.rd 3 rfl⟩|exact ⟨K.out.drew.rd 0 rfl,K.out.drew.rd 1 rfl,K.out.drew.rd 2 rfl,K.out.drew.rd 3 rfl⟩))
            refine tk 0 (some 62) ?_
            try simp only[Act.put,p0,p1,p2]
            refine tk 1 (some 63) ?_
            try simp only[Act.put,p0,p1,p2]
            refine tk 2 (some 64) ?_
            try simp only[Act.put,p0,p1,p2]
            refine tk 3 (some 65) ?_
            try simp only[Act.put,p0,p1,p2]
            refine sk 4 (some 66) ?_
            try simp only[Act.put,p0,p1,p2]
            refine sk 5 (some 67) ?_
            try simp only[Act.put,p0,p1,p2]
            refine sk 6 (some 68) ?_
            try simp only[Act.put,p0,p1,p2]
            refine sk 7 (some 69) ?_
            try simp only[Act.put,p0,p1,p2]
            refine sk 8 (some 70) ?_
            try simp only[Act.put,p0,p1,p2]
            refine sk 9 (some 71) ?_
            try simp only[Act.put,p0,p1,p2]
            refine sk 10 (some 72) ?_
            try simp only[Act.put,p0,p1,p2]
            refine sk 11 (some 73) ?_
            try simp only[Act.put,p0,p1,p2]
            refine sk 12 (some 74) ?_
            try simp only[Act.put,p0,p1,p2]
            refine tk 13 (some 75) ?_
            try simp only[Act.put,p0,p1,p2]
            refine tk 14 (some 6) ?_
            try simp only[Act.put,p0,p1,p2]
            have K1:=K.out;have K2:=Lib.hid K1;clear K1 K;(try clear a0 l0);(try clear f0);(try clear a1 l1);(try clear f1);(try clear a2 l2);(try clear f2);(try clear a3 l3);(try clear f3);(try clear a4 l4);(try clear f4);(try clear a5 l5);(try clear f5);have K:=K2;clear K2;(try have a0:=K.out.rd 0 rfl);(try have l0:=K.out.ltp 0 rfl);(try have f0:=K.out.fr 0 rfl);(try have a1:=K.out.rd 1 rfl);(try have l1:=K.out.ltp 1 rfl);(try have f1:=K.out.fr 1 rfl);(try have a2:=K.out.rd 2 rfl);(try have l2:=K.out.ltp 2 rfl);(try have f2:=K.out.fr 2 rfl);(try have a3:=K.out.rd 3 rfl);(try have l3:=K.out.ltp 3 rfl);(try have f3:=K.out.fr 3 rfl)
            refine wpAnyH_done (by kernel_rfl) (NoPanic.normal ?_) _
            go_wp2
            go_ret
            exact ⟨ret_b (by simp_all),by first|exact MM.out _ _ _ _ K.out|(rw [if_neg O0.out];exact MM.out _ _ _ _ K.out)|exact MM.out _ _ _ _ K.out.drew|(rw [if_neg O0.out];exact MM.out _ _ _ _ K.out.drew)⟩
          | true =>
            by_cases b1 : was.state = 1
            · have c1 : (was.state == 1) = true:=by simp [b1]
              clear b1
              by_cases q1 : now.state = 2
              · by_cases q2 : now.fin = was.fin
                · by_cases q3 : now.gen = was.gen
                  · by_cases q4 : now.stamp.lo = was.stamp.lo
                    · by_cases q5 : now.stamp.hi = was.stamp.hi
                      all_goals
                        go_wp2_with fail
                        refine wp_region_noPanic ?_
                        refine wp_region_held_drew (S:=(fun w'=>(∀ j,w'.cell? ⟨g8,j,none⟩ = (wordL now)[j]?) ∧ (∀ j,w'.cell? ⟨g7,j,none⟩ = (wordL was)[j]?) ∧ (∀ j,w'.cell? ⟨ge,j,none⟩ = e.v[j]?) ∧ (∀ j,w'.cell? ⟨a,j,none⟩ = (audV c bc bs)[j]?))) (by kernel_rfl) ?_ (fun hHeld=>?_)
                        · ((try dsimp only);(first|exact ⟨K.out.rd 0 rfl,K.out.rd 1 rfl,K.out.rd 2 rfl,K.out.rd 3 rfl⟩|exact ⟨K.out.drew.rd 0 rfl,K.out.drew.rd 1 rfl,K.out.drew.rd 2 rfl,K.out.drew.rd 3 rfl⟩))
                        refine tk 0 (some 62) ?_
                        try simp only[Act.put,p0,p1,p2]
                        refine tk 1 (some 63) ?_
                        try simp only[Act.put,p0,p1,p2]
                        refine tk 2 (some 64) ?_
                        try simp only[Act.put,p0,p1,p2]
                        refine tk 3 (some 65) ?_
                        try simp only[Act.put,p0,p1,p2]
                        refine tk 4 (some 66) ?_
                        try simp only[Act.put,p0,p1,p2]
                        refine tk 5 (some 67) ?_
                        try simp only[Act.put,p0,p1,p2]
                        refine tk 6 (some 68) ?_
                        try simp only[Act.put,p0,p1,p2]
                        refine tk 7 (some 69) ?_
                        try simp only[Act.put,p0,p1,p2]
                        refine tk 8 (some 70) ?_
                        try simp only[Act.put,p0,p1,p2]
                        refine tk 9 (some 71) ?_
                        try simp only[Act.put,p0,p1,p2]
                        refine wpAnyH_ready (rs:=[10]) (by kernel_rfl) (by simp) ?_
                        refine AllReadyH.cons (o:=_) rfl (fun kC hkC=>?_) AllReadyH.nil
                        go_simp
                        (first|((first|(go_at_call 112;(with_reducible refine ((OW _).out).mono ?_))|(go_at_call 92;(with_reducible refine ((RI _).out).mono ?_))|(go_at_call 78;(with_reducible refine ((NX _).out).mono ?_))|(go_at_call 111;(with_reducible refine ((TK _).out).mono ?_)));rintro e w1 ⟨rfl,hb⟩;have K1:=sat.grown (show sat _ _ _ from by first|exact K.out|exact K.out.drew) hb;clear hb;have K2:=Lib.hid K1;clear K1 K;have K:=K2;clear K2))
                        refine shown hkC _ _ (by (try dsimp only);(first|exact ⟨K.out.rd 0 rfl,K.out.rd 1 rfl,K.out.rd 2 rfl,K.out.rd 3 rfl⟩|exact ⟨K.out.drew.rd 0 rfl,K.out.drew.rd 1 rfl,K.out.drew.rd 2 rfl,K.out.drew.rd 3 rfl⟩)) ?_;clear hkC kC hHeld;intro hHeld
                        try simp only[Act.put,p0,p1,p2]
                        refine tk 11 (some 73) ?_
                        try simp only[Act.put,p0,p1,p2]
                        refine tk 12 (some 74) ?_
                        try simp only[Act.put,p0,p1,p2]
                        refine tk 13 (some 75) ?_
                        try simp only[Act.put,p0,p1,p2]
                        refine tk 14 (some 6) ?_
                        try simp only[Act.put,p0,p1,p2]
                        have K1:=K.out;have K2:=Lib.hid K1;clear K1 K;(try clear a0 l0);(try clear f0);(try clear a1 l1);(try clear f1);(try clear a2 l2);(try clear f2);(try clear a3 l3);(try clear f3);(try clear a4 l4);(try clear f4);(try clear a5 l5);(try clear f5);have K:=K2;clear K2;(try have a0:=K.out.rd 0 rfl);(try have l0:=K.out.ltp 0 rfl);(try have f0:=K.out.fr 0 rfl);(try have a1:=K.out.rd 1 rfl);(try have l1:=K.out.ltp 1 rfl);(try have f1:=K.out.fr 1 rfl);(try have a2:=K.out.rd 2 rfl);(try have l2:=K.out.ltp 2 rfl);(try have f2:=K.out.fr 2 rfl);(try have a3:=K.out.rd 3 rfl);(try have l3:=K.out.ltp 3 rfl);(try have f3:=K.out.fr 3 rfl)
                        refine wpAnyH_done (by kernel_rfl) (NoPanic.normal ?_) _
                        go_wp2
                        go_ret
                        exact ⟨ret_b (by simp_all),by first|exact MM.out _ _ _ _ K.out|(rw [if_neg O0.out];exact MM.out _ _ _ _ K.out)|exact MM.out _ _ _ _ K.out.drew|(rw [if_neg O0.out];exact MM.out _ _ _ _ K.out.drew)⟩
                    ·
                      go_wp2_with fail
                      refine wp_region_noPanic ?_
                      refine wp_region_held_drew (S:=(fun w'=>(∀ j,w'.cell? ⟨g8,j,none⟩ = (wordL now)[j]?) ∧ (∀ j,w'.cell? ⟨g7,j,none⟩ = (wordL was)[j]?) ∧ (∀ j,w'.cell? ⟨ge,j,none⟩ = e.v[j]?) ∧ (∀ j,w'.cell? ⟨a,j,none⟩ = (audV c bc bs)[j]?))) (by kernel_rfl) ?_ (fun hHeld=>?_)
                      · ((try dsimp only);(first|exact ⟨K.out.rd 0 rfl,K.out.rd 1 rfl,K.out.rd 2 rfl,K.out.rd 3 rfl⟩|exact ⟨K.out.drew.rd 0 rfl,K.out.drew.rd 1 rfl,K.out.drew.rd 2 rfl,K.out.drew.rd 3 rfl⟩))
                      refine tk 0 (some 62) ?_
                      try simp only[Act.put,p0,p1,p2]
                      refine tk 1 (some 63) ?_
                      try simp only[Act.put,p0,p1,p2]
                      refine tk 2 (some 64) ?_
                      try simp only[Act.put,p0,p1,p2]
                      refine tk 3 (some 65) ?_
                      try simp only[Act.put,p0,p1,p2]
                      refine tk 4 (some 66) ?_
                      try simp only[Act.put,p0,p1,p2]
                      refine tk 5 (some 67) ?_
                      try simp only[Act.put,p0,p1,p2]
                      refine tk 6 (some 68) ?_
                      try simp only[Act.put,p0,p1,p2]
                      refine tk 7 (some 69) ?_
                      try simp only[Act.put,p0,p1,p2]
                      refine tk 8 (some 70) ?_
                      try simp only[Act.put,p0,p1,p2]
                      refine tk 9 (some 71) ?_
                      try simp only[Act.put,p0,p1,p2]
                      refine wpAnyH_ready (rs:=[10]) (by kernel_rfl) (by simp) ?_
                      refine AllReadyH.cons (o:=_) rfl (fun kC hkC=>?_) AllReadyH.nil
                      go_simp
                      (first|((first|(go_at_call 112;(with_reducible refine ((OW _).out).mono ?_))|(go_at_call 92;(with_reducible refine ((RI _).out).mono ?_))|(go_at_call 78;(with_reducible refine ((NX _).out).mono ?_))|(go_at_call 111;(with_reducible refine ((TK _).out).mono ?_)));rintro e w1 ⟨rfl,hb⟩;have K1:=sat.grown (show sat _ _ _ from by first|exact K.out|exact K.out.drew) hb;clear hb;have K2:=Lib.hid K1;clear K1 K;have K:=K2;clear K2))
                      refine shown hkC _ _ (by (try dsimp only);(first|exact ⟨K.out.rd 0 rfl,K.out.rd 1 rfl,K.out.rd 2 rfl,K.out.rd 3 rfl⟩|exact ⟨K.out.drew.rd 0 rfl,K.out.drew.rd 1 rfl,K.out.drew.rd 2 rfl,K.out.drew.rd 3 rfl⟩)) ?_;clear hkC kC hHeld;intro hHeld
                      try simp only[Act.put,p0,p1,p2]
                      refine tk 11 (some 73) ?_
                      try simp only[Act.put,p0,p1,p2]
                      refine tk 12 (some 74) ?_
                      try simp only[Act.put,p0,p1,p2]
                      refine tk 13 (some 75) ?_
                      try simp only[Act.put,p0,p1,p2]
                      refine tk 14 (some 6) ?_
                      try simp only[Act.put,p0,p1,p2]
                      have K1:=K.out;have K2:=Lib.hid K1;clear K1 K;(try clear a0 l0);(try clear f0);(try clear a1 l1);(try clear f1);(try clear a2 l2);(try clear f2);(try clear a3 l3);(try clear f3);(try clear a4 l4);(try clear f4);(try clear a5 l5);(try clear f5);have K:=K2;clear K2;(try have a0:=K.out.rd 0 rfl);(try have l0:=K.out.ltp 0 rfl);(try have f0:=K.out.fr 0 rfl);(try have a1:=K.out.rd 1 rfl);(try have l1:=K.out.ltp 1 rfl);(try have f1:=K.out.fr 1 rfl);(try have a2:=K.out.rd 2 rfl);(try have l2:=K.out.ltp 2 rfl);(try have f2:=K.out.fr 2 rfl);(try have a3:=K.out.rd 3 rfl);(try have l3:=K.out.ltp 3 rfl);(try have f3:=K.out.fr 3 rfl)
                      refine wpAnyH_done (by kernel_rfl) (NoPanic.normal ?_) _
                      go_wp2
                      go_ret
                      exact ⟨ret_b (by simp_all),by first|exact MM.out _ _ _ _ K.out|(rw [if_neg O0.out];exact MM.out _ _ _ _ K.out)|exact MM.out _ _ _ _ K.out.drew|(rw [if_neg O0.out];exact MM.out _ _ _ _ K.out.drew)⟩
                  ·
                    go_wp2_with fail
                    refine wp_region_noPanic ?_
                    refine wp_region_held_drew (S:=(fun w'=>(∀ j,w'.cell? ⟨g8,j,none⟩ = (wordL now)[j]?) ∧ (∀ j,w'.cell? ⟨g7,j,none⟩ = (wordL was)[j]?) ∧ (∀ j,w'.cell? ⟨ge,j,none⟩ = e.v[j]?) ∧ (∀ j,w'.cell? ⟨a,j,none⟩ = (audV c bc bs)[j]?))) (by kernel_rfl) ?_ (fun hHeld=>?_)
                    · ((try dsimp only);(first|exact ⟨K.out.rd 0 rfl,K.out.rd 1 rfl,K.out.rd 2 rfl,K.out.rd 3 rfl⟩|exact ⟨K.out.drew.rd 0 rfl,K.out.drew.rd 1 rfl,K.out.drew.rd 2 rfl,K.out.drew.rd 3 rfl⟩))
                    refine tk 0 (some 62) ?_
                    try simp only[Act.put,p0,p1,p2]
                    refine tk 1 (some 63) ?_
                    try simp only[Act.put,p0,p1,p2]
                    refine tk 2 (some 64) ?_
                    try simp only[Act.put,p0,p1,p2]
                    refine tk 3 (some 65) ?_
                    try simp only[Act.put,p0,p1,p2]
                    refine tk 4 (some 66) ?_
                    try simp only[Act.put,p0,p1,p2]
                    refine tk 5 (some 67) ?_
                    try simp only[Act.put,p0,p1,p2]
                    refine tk 6 (some 68) ?_
                    try simp only[Act.put,p0,p1,p2]
                    refine tk 7 (some 69) ?_
                    try simp only[Act.put,p0,p1,p2]
                    refine tk 8 (some 70) ?_
                    try simp only[Act.put,p0,p1,p2]
                    refine tk 9 (some 71) ?_
                    try simp only[Act.put,p0,p1,p2]
                    refine wpAnyH_ready (rs:=[10]) (by kernel_rfl) (by simp) ?_
                    refine AllReadyH.cons (o:=_) rfl (fun kC hkC=>?_) AllReadyH.nil
                    go_simp
                    (first|((first|(go_at_call 112;(with_reducible refine ((OW _).out).mono ?_))|(go_at_call 92;(with_reducible refine ((RI _).out).mono ?_))|(go_at_call 78;(with_reducible refine ((NX _).out).mono ?_))|(go_at_call 111;(with_reducible refine ((TK _).out).mono ?_)));rintro e w1 ⟨rfl,hb⟩;have K1:=sat.grown (show sat _ _ _ from by first|exact K.out|exact K.out.drew) hb;clear hb;have K2:=Lib.hid K1;clear K1 K;have K:=K2;clear K2))
                    refine shown hkC _ _ (by (try dsimp only);(first|exact ⟨K.out.rd 0 rfl,K.out.rd 1 rfl,K.out.rd 2 rfl,K.out.rd 3 rfl⟩|exact ⟨K.out.drew.rd 0 rfl,K.out.drew.rd 1 rfl,K.out.drew.rd 2 rfl,K.out.drew.rd 3 rfl⟩)) ?_;clear hkC kC hHeld;intro hHeld
                    try simp only[Act.put,p0,p1,p2]
                    refine tk 11 (some 73) ?_
                    try simp only[Act.put,p0,p1,p2]
                    refine tk 12 (some 74) ?_
                    try simp only[Act.put,p0,p1,p2]
                    refine tk 13 (some 75) ?_
                    try simp only[Act.put,p0,p1,p2]
                    refine tk 14 (some 6) ?_
                    try simp only[Act.put,p0,p1,p2]
                    have K1:=K.out;have K2:=Lib.hid K1;clear K1 K;(try clear a0 l0);(try clear f0);(try clear a1 l1);(try clear f1);(try clear a2 l2);(try clear f2);(try clear a3 l3);(try clear f3);(try clear a4 l4);(try clear f4);(try clear a5 l5);(try clear f5);have K:=K2;clear K2;(try have a0:=K.out.rd 0 rfl);(try have l0:=K.out.ltp 0 rfl);(try have f0:=K.out.fr 0 rfl);(try have a1:=K.out.rd 1 rfl);(try have l1:=K.out.ltp 1 rfl);(try have f1:=K.out.fr 1 rfl);(try have a2:=K.out.rd 2 rfl);(try have l2:=K.out.ltp 2 rfl);(try have f2:=K.out.fr 2 rfl);(try have a3:=K.out.rd 3 rfl);(try have l3:=K.out.ltp 3 rfl);(try have f3:=K.out.fr 3 rfl)
                    refine wpAnyH_done (by kernel_rfl) (NoPanic.normal ?_) _
                    go_wp2
                    go_ret
                    exact ⟨ret_b (by simp_all),by first|exact MM.out _ _ _ _ K.out|(rw [if_neg O0.out];exact MM.out _ _ _ _ K.out)|exact MM.out _ _ _ _ K.out.drew|(rw [if_neg O0.out];exact MM.out _ _ _ _ K.out.drew)⟩
                ·
                  go_wp2_with fail
                  refine wp_region_noPanic ?_
                  refine wp_region_held_drew (S:=(fun w'=>(∀ j,w'.cell? ⟨g8,j,none⟩ = (wordL now)[j]?) ∧ (∀ j,w'.cell? ⟨g7,j,none⟩ = (wordL was)[j]?) ∧ (∀ j,w'.cell? ⟨ge,j,none⟩ = e.v[j]?) ∧ (∀ j,w'.cell? ⟨a,j,none⟩ = (audV c bc bs)[j]?))) (by kernel_rfl) ?_ (fun hHeld=>?_)
                  · ((try dsimp only);(first|exact ⟨K.out.rd 0 rfl,K.out.rd 1 rfl,K.out.rd 2 rfl,K.out.rd 3 rfl⟩|exact ⟨K.out.drew.rd 0 rfl,K.out.drew.rd 1 rfl,K.out.drew.rd 2 rfl,K.out.drew.rd 3 rfl⟩))
                  refine tk 0 (some 62) ?_
                  try simp only[Act.put,p0,p1,p2]
                  refine tk 1 (some 63) ?_
                  try simp only[Act.put,p0,p1,p2]
                  refine tk 2 (some 64) ?_
                  try simp only[Act.put,p0,p1,p2]
                  refine tk 3 (some 65) ?_
                  try simp only[Act.put,p0,p1,p2]
                  refine tk 4 (some 66) ?_
                  try simp only[Act.put,p0,p1,p2]
                  refine tk 5 (some 67) ?_
                  try simp only[Act.put,p0,p1,p2]
                  refine tk 6 (some 68) ?_
                  try simp only[Act.put,p0,p1,p2]
                  refine tk 7 (some 69) ?_
                  try simp only[Act.put,p0,p1,p2]
                  refine tk 8 (some 70) ?_
                  try simp only[Act.put,p0,p1,p2]
                  refine tk 9 (some 71) ?_
                  try simp only[Act.put,p0,p1,p2]
                  refine wpAnyH_ready (rs:=[10]) (by kernel_rfl) (by simp) ?_
                  refine AllReadyH.cons (o:=_) rfl (fun kC hkC=>?_) AllReadyH.nil
                  go_simp
                  (first|((first|(go_at_call 112;(with_reducible refine ((OW _).out).mono ?_))|(go_at_call 92;(with_reducible refine ((RI _).out).mono ?_))|(go_at_call 78;(with_reducible refine ((NX _).out).mono ?_))|(go_at_call 111;(with_reducible refine ((TK _).out).mono ?_)));rintro e w1 ⟨rfl,hb⟩;have K1:=sat.grown (show sat _ _ _ from by first|exact K.out|exact K.out.drew) hb;clear hb;have K2:=Lib.hid K1;clear K1 K;have K:=K2;clear K2))
                  refine shown hkC _ _ (by (try dsimp only);(first|exact ⟨K.out.rd 0 rfl,K.out.rd 1 rfl,K.out.rd 2 rfl,K.out.rd 3 rfl⟩|exact ⟨K.out.drew.rd 0 rfl,K.out.drew.rd 1 rfl,K.out.drew.rd 2 rfl,K.out.drew.rd 3 rfl⟩)) ?_;clear hkC kC hHeld;intro hHeld
                  try simp only[Act.put,p0,p1,p2]
                  refine tk 11 (some 73) ?_
                  try simp only[Act.put,p0,p1,p2]
                  refine tk 12 (some 74) ?_
                  try simp only[Act.put,p0,p1,p2]
                  refine tk 13 (some 75) ?_
                  try simp only[Act.put,p0,p1,p2]
                  refine tk 14 (some 6) ?_
                  try simp only[Act.put,p0,p1,p2]
                  have K1:=K.out;have K2:=Lib.hid K1;clear K1 K;(try clear a0 l0);(try clear f0);(try clear a1 l1);(try clear f1);(try clear a2 l2);(try clear f2);(try clear a3 l3);(try clear f3);(try clear a4 l4);(try clear f4);(try clear a5 l5);(try clear f5);have K:=K2;clear K2;(try have a0:=K.out.rd 0 rfl);(try have l0:=K.out.ltp 0 rfl);(try have f0:=K.out.fr 0 rfl);(try have a1:=K.out.rd 1 rfl);(try have l1:=K.out.ltp 1 rfl);(try have f1:=K.out.fr 1 rfl);(try have a2:=K.out.rd 2 rfl);(try have l2:=K.out.ltp 2 rfl);(try have f2:=K.out.fr 2 rfl);(try have a3:=K.out.rd 3 rfl);(try have l3:=K.out.ltp 3 rfl);(try have f3:=K.out.fr 3 rfl)
                  refine wpAnyH_done (by kernel_rfl) (NoPanic.normal ?_) _
                  go_wp2
                  go_ret
                  exact ⟨ret_b (by simp_all),by first|exact MM.out _ _ _ _ K.out|(rw [if_neg O0.out];exact MM.out _ _ _ _ K.out)|exact MM.out _ _ _ _ K.out.drew|(rw [if_neg O0.out];exact MM.out _ _ _ _ K.out.drew)⟩
              ·
                go_wp2_with fail
                refine wp_region_noPanic ?_
                refine wp_region_held_drew (S:=(fun w'=>(∀ j,w'.cell? ⟨g8,j,none⟩ = (wordL now)[j]?) ∧ (∀ j,w'.cell? ⟨g7,j,none⟩ = (wordL was)[j]?) ∧ (∀ j,w'.cell? ⟨ge,j,none⟩ = e.v[j]?) ∧ (∀ j,w'.cell? ⟨a,j,none⟩ = (audV c bc bs)[j]?))) (by kernel_rfl) ?_ (fun hHeld=>?_)
                · ((try dsimp only);(first|exact ⟨K.out.rd 0 rfl,K.out.rd 1 rfl,K.out.rd 2 rfl,K.out.rd 3 rfl⟩|exact ⟨K.out.drew.rd 0 rfl,K.out.drew.rd 1 rfl,K.out.drew.rd 2 rfl,K.out.drew.rd 3 rfl⟩))
                refine tk 0 (some 62) ?_
                try simp only[Act.put,p0,p1,p2]
                refine tk 1 (some 63) ?_
                try simp only[Act.put,p0,p1,p2]
                refine tk 2 (some 64) ?_
                try simp only[Act.put,p0,p1,p2]
                refine tk 3 (some 65) ?_
                try simp only[Act.put,p0,p1,p2]
                refine tk 4 (some 66) ?_
                try simp only[Act.put,p0,p1,p2]
                refine tk 5 (some 67) ?_
                try simp only[Act.put,p0,p1,p2]
                refine tk 6 (some 68) ?_
                try simp only[Act.put,p0,p1,p2]
                refine tk 7 (some 69) ?_
                try simp only[Act.put,p0,p1,p2]
                refine tk 8 (some 70) ?_
                try simp only[Act.put,p0,p1,p2]
                refine tk 9 (some 71) ?_
                try simp only[Act.put,p0,p1,p2]
                refine wpAnyH_ready (rs:=[10]) (by kernel_rfl) (by simp) ?_
                refine AllReadyH.cons (o:=_) rfl (fun kC hkC=>?_) AllReadyH.nil
                go_simp
                (first|((first|(go_at_call 112;(with_reducible refine ((OW _).out).mono ?_))|(go_at_call 92;(with_reducible refine ((RI _).out).mono ?_))|(go_at_call 78;(with_reducible refine ((NX _).out).mono ?_))|(go_at_call 111;(with_reducible refine ((TK _).out).mono ?_)));rintro e w1 ⟨rfl,hb⟩;have K1:=sat.grown (show sat _ _ _ from by first|exact K.out|exact K.out.drew) hb;clear hb;have K2:=Lib.hid K1;clear K1 K;have K:=K2;clear K2))
                refine shown hkC _ _ (by (try dsimp only);(first|exact ⟨K.out.rd 0 rfl,K.out.rd 1 rfl,K.out.rd 2 rfl,K.out.rd 3 rfl⟩|exact ⟨K.out.drew.rd 0 rfl,K.out.drew.rd 1 rfl,K.out.drew.rd 2 rfl,K.out.drew.rd 3 rfl⟩)) ?_;clear hkC kC hHeld;intro hHeld
                try simp only[Act.put,p0,p1,p2]
                refine tk 11 (some 73) ?_
                try simp only[Act.put,p0,p1,p2]
                refine tk 12 (some 74) ?_
                try simp only[Act.put,p0,p1,p2]
                refine tk 13 (some 75) ?_
                try simp only[Act.put,p0,p1,p2]
                refine tk 14 (some 6) ?_
                try simp only[Act.put,p0,p1,p2]
                have K1:=K.out;have K2:=Lib.hid K1;clear K1 K;(try clear a0 l0);(try clear f0);(try clear a1 l1);(try clear f1);(try clear a2 l2);(try clear f2);(try clear a3 l3);(try clear f3);(try clear a4 l4);(try clear f4);(try clear a5 l5);(try clear f5);have K:=K2;clear K2;(try have a0:=K.out.rd 0 rfl);(try have l0:=K.out.ltp 0 rfl);(try have f0:=K.out.fr 0 rfl);(try have a1:=K.out.rd 1 rfl);(try have l1:=K.out.ltp 1 rfl);(try have f1:=K.out.fr 1 rfl);(try have a2:=K.out.rd 2 rfl);(try have l2:=K.out.ltp 2 rfl);(try have f2:=K.out.fr 2 rfl);(try have a3:=K.out.rd 3 rfl);(try have l3:=K.out.ltp 3 rfl);(try have f3:=K.out.fr 3 rfl)
                refine wpAnyH_done (by kernel_rfl) (NoPanic.normal ?_) _
                go_wp2
                go_ret
                exact ⟨ret_b (by simp_all),by first|exact MM.out _ _ _ _ K.out|(rw [if_neg O0.out];exact MM.out _ _ _ _ K.out)|exact MM.out _ _ _ _ K.out.drew|(rw [if_neg O0.out];exact MM.out _ _ _ _ K.out.drew)⟩
            · have c1 : (was.state == 1) = false:=by simpa using b1
              clear b1
              go_wp2_with fail
              refine wp_region_noPanic ?_
              refine wp_region_held_drew (S:=(fun w'=>(∀ j,w'.cell? ⟨g8,j,none⟩ = (wordL now)[j]?) ∧ (∀ j,w'.cell? ⟨g7,j,none⟩ = (wordL was)[j]?) ∧ (∀ j,w'.cell? ⟨ge,j,none⟩ = e.v[j]?) ∧ (∀ j,w'.cell? ⟨a,j,none⟩ = (audV c bc bs)[j]?))) (by kernel_rfl) ?_ (fun hHeld=>?_)
              · ((try dsimp only);(first|exact ⟨K.out.rd 0 rfl,K.out.rd 1 rfl,K.out.rd 2 rfl,K.out.rd 3 rfl⟩|exact ⟨K.out.drew.rd 0 rfl,K.out.drew.rd 1 rfl,K.out.drew.rd 2 rfl,K.out.drew.rd 3 rfl⟩))
              refine tk 0 (some 62) ?_
              try simp only[Act.put,p0,p1,p2]
              refine tk 1 (some 63) ?_
              try simp only[Act.put,p0,p1,p2]
              refine tk 2 (some 64) ?_
              try simp only[Act.put,p0,p1,p2]
              refine tk 3 (some 65) ?_
              try simp only[Act.put,p0,p1,p2]
              refine tk 4 (some 66) ?_
              try simp only[Act.put,p0,p1,p2]
              refine tk 5 (some 67) ?_
              try simp only[Act.put,p0,p1,p2]
              refine tk 6 (some 68) ?_
              try simp only[Act.put,p0,p1,p2]
              refine tk 7 (some 69) ?_
              try simp only[Act.put,p0,p1,p2]
              refine sk 8 (some 70) ?_
              try simp only[Act.put,p0,p1,p2]
              refine sk 9 (some 71) ?_
              try simp only[Act.put,p0,p1,p2]
              refine sk 10 (some 72) ?_
              try simp only[Act.put,p0,p1,p2]
              refine sk 11 (some 73) ?_
              try simp only[Act.put,p0,p1,p2]
              refine tk 12 (some 74) ?_
              try simp only[Act.put,p0,p1,p2]
              refine tk 13 (some 75) ?_
              try simp only[Act.put,p0,p1,p2]
              refine tk 14 (some 6) ?_
              try simp only[Act.put,p0,p1,p2]
              have K1:=K.out;have K2:=Lib.hid K1;clear K1 K;(try clear a0 l0);(try clear f0);(try clear a1 l1);(try clear f1);(try clear a2 l2);(try clear f2);(try clear a3 l3);(try clear f3);(try clear a4 l4);(try clear f4);(try clear a5 l5);(try clear f5);have K:=K2;clear K2;(try have a0:=K.out.rd 0 rfl);(try have l0:=K.out.ltp 0 rfl);(try have f0:=K.out.fr 0 rfl);(try have a1:=K.out.rd 1 rfl);(try have l1:=K.out.ltp 1 rfl);(try have f1:=K.out.fr 1 rfl);(try have a2:=K.out.rd 2 rfl);(try have l2:=K.out.ltp 2 rfl);(try have f2:=K.out.fr 2 rfl);(try have a3:=K.out.rd 3 rfl);(try have l3:=K.out.ltp 3 rfl);(try have f3:=K.out.fr 3 rfl)
              refine wpAnyH_done (by kernel_rfl) (NoPanic.normal ?_) _
              go_wp2
              go_ret
              exact ⟨ret_b (by simp_all),by first|exact MM.out _ _ _ _ K.out|(rw [if_neg O0.out];exact MM.out _ _ _ _ K.out)|exact MM.out _ _ _ _ K.out.drew|(rw [if_neg O0.out];exact MM.out _ _ _ _ K.out.drew)⟩
        · have t2 : (e.op == 2) = false:=by simpa using o2
          have O2:=Lib.hid o2
          clear o2
          go_wp2_with fail
          go_ret
          exact ⟨ret_b (by simp_all),by first|exact MM.out _ _ _ _ K.out|(rw [if_neg O0.out];exact MM.out _ _ _ _ K.out)|exact MM.out _ _ _ _ K.out.drew|(rw [if_neg O0.out];exact MM.out _ _ _ _ K.out.drew)⟩
end
end Go.Proofs.YtegdhojhnmgjgaaGreat
