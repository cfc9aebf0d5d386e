/- The layer Ab, part 15: the equations by which simp carries code out. -/
import Derived.Test.YtghiionknnpajaaGreatDoorAb14
import Derived.Test.YtghiionknnpajaaGreatDoorAb3
set_option linter.unusedVariables false
set_option linter.unusedSimpArgs false
namespace Go.Ab

attribute [go_sem] List.length_cons List.length_nil Nat.zero_add Nat.add_zero Nat.sub_zero List.append_assoc List.cons_append List.nil_append List.all_cons List.all_nil Bool.and_true Bool.true_and Bool.and_self and_self and_true true_and if_true List.getElem?_cons_zero List.getElem?_cons_succ List.set_cons_zero List.set_cons_succ List.length_append List.length_map List.length_set Nat.add_assoc List.take_zero List.take_succ_cons List.take_nil List.drop_zero List.drop_succ_cons List.drop_nil Nat.zero_le Nat.le_refl List.mem_cons List.not_mem_nil or_false forall_eq List.map_cons List.map_nil Int.natCast_nonneg Int.toNat_natCast Int.toNat_zero List.take_length List.cons.injEq Nat.succ_ne_self Option.some.injEq decide_true decide_false Bool.not_true Bool.not_false Bool.false_or Bool.or_false Bool.true_or Bool.or_true Bool.not_not Bool.false_and Bool.and_false true_or or_true
attribute [go_sem] fillV chunk bslOk ownK.eq_1 ownK.eq_2

attribute [go_sem] loadV.eq_1 loadV.eq_2 loadN.eq_1 loadN.eq_2 nilcV.eq_1 nilcV.eq_2 nilcV.eq_3 nilcV.eq_4 selV.eq_1 selV.eq_2 selV.eq_3 foffV.eq_1 foffV.eq_2 fldV.eq_1 fldnV.eq_1 iadrV.eq_1 iadrV.eq_2 iarrV.eq_1 iarrV.eq_2 idxsV.eq_1 unV.eq_1 unV.eq_2 extV.eq_1 cvtV.eq_1 lensV.eq_1 lenlV.eq_1 lenlV.eq_2 lenlV.eq_3 lenmV.eq_1 lenmV.eq_2 mmaxV.eq_1 mminV.eq_1 slcsV.eq_1 slclV.eq_1 slclV.eq_2 b2sV.eq_1 b2sV.eq_2 lookV.eq_1 bnd.eq_1 bnd.eq_2
  POp.ev.eq_1 POp.ev.eq_2 POp.ev.eq_3 POp.ev.eq_4 POp.ev.eq_5 POp.ev.eq_6 POp.ev.eq_7 POp.ev.eq_8 POp.ev.eq_9 POp.ev.eq_10 POp.ev.eq_11 POp.ev.eq_12 POp.ev.eq_13 POp.ev.eq_14 POp.ev.eq_15 POp.ev.eq_16 POp.ev.eq_17 POp.ev.eq_18 POp.ev.eq_19 POp.ev.eq_20 POp.ev.eq_21 POp.ev.eq_22 POp.ev.eq_23 POp.ev.eq_24 POp.ev.eq_25 POp.ev.eq_26 POp.ev.eq_27 POp.ev.eq_28
  Opd.val.eq_1 Opd.val.eq_2 evs.eq_1 evs.eq_2 evo.eq_1 evo.eq_2 evParts.eq_1 evParts.eq_2 buildV.eq_1 buildV.eq_2 eget.eq_1 eget.eq_2 AObj.row.eq_1 AObj.rows.eq_1 AObj.z.eq_1 Heap.zOf storeH.eq_1 asBool.eq_1 asAgg.eq_1 asArr.eq_1 asSl.eq_1 asFn.eq_1 asIf.eq_1 asStr.eq_1 asMp.eq_1 asMpO.eq_1 asIt.eq_1 asSit.eq_1 resAll.eq_1 resAll.eq_2 LRes.ev.eq_1 LRes.ev.eq_2 LRes.ev.eq_3 argEnv.eq_1 argEnv.eq_2 frzs.eq_1 frzs.eq_2 frzCs.eq_1 frzCs.eq_2 srcV.eq_1 srcV.eq_2 srcV.eq_3 srcV.eq_4 nilLen.eq_1 nilLen.eq_2 consP aggP tupP
  Opd.ev Heap.row Heap.rows st1 stn AV.off.eq_1

@[go_sem] theorem cutL_cons {α : Type} (off n : Nat) (a : α) (l : List α) : cutL off n (a :: l) = if off + n ≤ (a :: l).length then some (((a :: l).drop off).take n) else none := rfl
@[go_sem] theorem setL_cons (off : Nat) (v a : AV) (l : List AV) : setL off v (a :: l) = if off < (a :: l).length ∧ v.one = true then some ((a :: l).set off v) else none := rfl
@[go_sem] theorem putL_cons (off : Nat) (vs : List AV) (a : AV) (l : List AV) : putL off vs (a :: l) = if off + vs.length ≤ (a :: l).length then some ((a :: l).take off ++ vs ++ (a :: l).drop (off + vs.length)) else none := rfl

section
variable (g : Bool)
@[go_sem] theorem under_bool (b : Bool) : AV.under g (.bool b) = some (.bool b) := rfl
@[go_sem] theorem under_int (k : IntKind) (n : Int) : AV.under g (.int k n) = some (.int k n) := rfl
@[go_sem] theorem under_str (s : Str) : AV.under g (.str s) = some (.str s) := rfl
@[go_sem] theorem under_nilp : AV.under g .nilp = some .nilp := rfl
@[go_sem] theorem under_ptr (l s i o : Nat) : AV.under g (.ptr l s i o) = some (.ptr l s i o) := rfl
@[go_sem] theorem under_pptr (cs : List AV) (o : Nat) : AV.under g (.pptr cs o) = some (.pptr cs o) := rfl
@[go_sem] theorem under_sl (l s i n : Nat) : AV.under g (.sl l s i n) = some (.sl l s i n) := rfl
@[go_sem] theorem under_psl (es : List (List AV)) : AV.under g (.psl es) = some (.psl es) := rfl
@[go_sem] theorem under_fn (f : FuncId) (a b : List AV) : AV.under g (.fn f a b) = some (.fn f a b) := rfl
@[go_sem] theorem under_vn : AV.under g .vn = some .vn := rfl
@[go_sem] theorem under_nilfn : AV.under g .nilfn = some .nilfn := rfl
@[go_sem] theorem under_nilif : AV.under g .nilif = some .nilif := rfl
@[go_sem] theorem under_agg (cs : List AV) : AV.under g (.agg cs) = some (.agg cs) := rfl
@[go_sem] theorem under_tup (cs : List AV) : AV.under g (.tup cs) = some (.tup cs) := rfl
@[go_sem] theorem under_iface (t : TypeId) (v : AV) : AV.under g (.iface t v) = some (.iface t v) := rfl
@[go_sem] theorem under_mp (l s : Nat) : AV.under g (.mp l s) = some (.mp l s) := rfl
@[go_sem] theorem under_nilmp : AV.under g .nilmp = some .nilmp := rfl
@[go_sem] theorem under_it (l s : Nat) : AV.under g (.it l s) = some (.it l s) := rfl
@[go_sem] theorem under_cond (c : Bool) (v : AV) : AV.under g (.cond c v) = if impB g c = true then some v else none := rfl
end
@[go_sem] theorem cells_agg (cs : List AV) : AV.cells (.agg cs) = cs := rfl
@[go_sem] theorem cells_bool (b : Bool) : AV.cells (.bool b) = [.bool b] := rfl
@[go_sem] theorem cells_int (k : IntKind) (n : Int) : AV.cells (.int k n) = [.int k n] := rfl
@[go_sem] theorem cells_str (s : Str) : AV.cells (.str s) = [.str s] := rfl
@[go_sem] theorem cells_psl (s : List (List AV)) : AV.cells (.psl s) = [.psl s] := rfl
@[go_sem] theorem cells_sl (l s i n : Nat) : AV.cells (.sl l s i n) = [.sl l s i n] := rfl
@[go_sem] theorem cells_ptr (l s i o : Nat) : AV.cells (.ptr l s i o) = [.ptr l s i o] := rfl
@[go_sem] theorem cells_pptr (cs : List AV) (o : Nat) : AV.cells (.pptr cs o) = [.pptr cs o] := rfl
@[go_sem] theorem cells_fn (f : FuncId) (a b : List AV) : AV.cells (.fn f a b) = [.fn f a b] := rfl
@[go_sem] theorem cells_mp (l s : Nat) : AV.cells (.mp l s) = [.mp l s] := rfl
@[go_sem] theorem cells_vn : AV.cells .vn = [.vn] := rfl
@[go_sem] theorem cells_nilp : AV.cells .nilp = [.nilp] := rfl
@[go_sem] theorem one_bool (b : Bool) : AV.one (.bool b) = true := rfl
@[go_sem] theorem one_int (k : IntKind) (n : Int) : AV.one (.int k n) = true := rfl
@[go_sem] theorem one_str (s : Str) : AV.one (.str s) = true := rfl
@[go_sem] theorem one_psl (s : List (List AV)) : AV.one (.psl s) = true := rfl
@[go_sem] theorem one_sl (l s i n : Nat) : AV.one (.sl l s i n) = true := rfl
@[go_sem] theorem one_ptr (l s i o : Nat) : AV.one (.ptr l s i o) = true := rfl
@[go_sem] theorem one_pptr (cs : List AV) (o : Nat) : AV.one (.pptr cs o) = true := rfl
@[go_sem] theorem one_fn (f : FuncId) (a b : List AV) : AV.one (.fn f a b) = true := rfl
@[go_sem] theorem one_vn : AV.one .vn = true := rfl
@[go_sem] theorem one_nilfn : AV.one .nilfn = true := rfl
@[go_sem] theorem one_nilp : AV.one .nilp = true := rfl
@[go_sem] theorem one_nilif : AV.one .nilif = true := rfl
@[go_sem] theorem one_iface (t : TypeId) (v : AV) : AV.one (.iface t v) = true := rfl
@[go_sem] theorem one_mp (l s : Nat) : AV.one (.mp l s) = true := rfl
@[go_sem] theorem one_nilmp : AV.one .nilmp = true := rfl

section
variable (k : IntKind) (a b : Int) (s t : Str)
@[go_sem] theorem bin_add : binV .add (.int k a) (.int k b) = some (.int k (k.wrap (a + b))) := by simp [binV, binInt]
@[go_sem] theorem bin_sub : binV .sub (.int k a) (.int k b) = some (.int k (k.wrap (a - b))) := by simp [binV, binInt]
@[go_sem] theorem bin_mul : binV .mul (.int k a) (.int k b) = some (.int k (k.wrap (a * b))) := by simp [binV, binInt]
@[go_sem] theorem bin_eql : binV .eql (.int k a) (.int k b) = some (.bool (a == b)) := by simp [binV, binInt]
@[go_sem] theorem bin_neq : binV .neq (.int k a) (.int k b) = some (.bool (a != b)) := by simp [binV, binInt]
@[go_sem] theorem bin_lss : binV .lss (.int k a) (.int k b) = some (.bool (decide (a < b))) := by simp [binV, binInt]
@[go_sem] theorem bin_leq : binV .leq (.int k a) (.int k b) = some (.bool (decide (a ≤ b))) := by simp [binV, binInt]
@[go_sem] theorem bin_gtr : binV .gtr (.int k a) (.int k b) = some (.bool (decide (b < a))) := by simp [binV, binInt]
@[go_sem] theorem bin_geq : binV .geq (.int k a) (.int k b) = some (.bool (decide (b ≤ a))) := by simp [binV, binInt]
@[go_sem] theorem sbin_eql : binV .eql (.str s) (.str t) = some (.bool (s == t)) := rfl
@[go_sem] theorem sbin_neq : binV .neq (.str s) (.str t) = some (.bool (!(s == t))) := rfl
@[go_sem] theorem sbin_lss : binV .lss (.str s) (.str t) = some (.bool (Op.bytesLess s t)) := rfl
@[go_sem] theorem sbin_leq : binV .leq (.str s) (.str t) = some (.bool (Op.bytesLess s t || s == t)) := rfl
@[go_sem] theorem eqk_bool (x y : Bool) : eqkV .bool (.bool x) (.bool y) = some (x == y) := rfl
@[go_sem] theorem eqk_agg (ks : List Nat) (x y : List AV) : eqkV (.agg ks) (.agg x) (.agg y) = eqCells ks x y := rfl
@[go_sem] theorem eqk_nilp : eqkV .ptr .nilp .nilp = some true := rfl
@[go_sem] theorem eqk_ptr (l s i o : Nat) : eqkV .ptr (.ptr l s i o) .nilp = some false := rfl
@[go_sem] theorem eqc_nil : eqCells [] [] [] = some true := rfl
@[go_sem] theorem eqc_int (ks : List Nat) (xs ys : List AV) : eqCells (0 :: ks) (.int k a :: xs) (.int k b :: ys) = (eqCells ks xs ys).ob fun r => some ((a == b) && r) := by simp [eqCells]
@[go_sem] theorem eqc_str (ks : List Nat) (xs ys : List AV) : eqCells (1 :: ks) (.str s :: xs) (.str t :: ys) = (eqCells ks xs ys).ob fun r => some ((s == t) && r) := rfl
@[go_sem] theorem eqc_bool (ks : List Nat) (x y : Bool) (xs ys : List AV) : eqCells (2 :: ks) (.bool x :: xs) (.bool y :: ys) = (eqCells ks xs ys).ob fun r => some ((x == y) && r) := rfl
end

@[go_sem] theorem gval_false (b : Bool) : gval (.bool b) false = some (!b) := by cases b <;> rfl
@[go_sem] theorem gval_true (b : Bool) : gval (.bool b) true = some b := by cases b <;> rfl
@[go_sem] theorem gval_cfalse (c b : Bool) : gval (.cond c (.bool b)) false = some (c && !b) := by cases c <;> cases b <;> rfl
@[go_sem] theorem gval_ctrue (c b : Bool) : gval (.cond c (.bool b)) true = some (c && b) := by cases c <;> cases b <;> rfl
@[go_sem] theorem gval_dead (w : Bool) : gval (.cond false .dead) w = some false := rfl
@[go_sem] theorem cond_or (p x : Bool) : (bif p then true else x) = (p || x) := by cases p <;> rfl
@[go_sem] theorem cond_and (p x : Bool) : (bif p then x else false) = (p && x) := by cases p <;> rfl

@[go_sem] theorem frz1_vn (n : Nat) (h : Heap) : frz1 n h .vn = (.psl [], h) := rfl
@[go_sem] theorem frzT_vn (n : Nat) (h : Heap) : frzT n h .vn = (.psl [], h) := rfl
@[go_sem] theorem frzP_vn (n : Nat) (h : Heap) : frzP n h .vn = (.psl [], h) := rfl
@[go_sem] theorem frz1_bool (n : Nat) (h : Heap) (b : Bool) : frz1 n h (.bool b) = (.bool b, h) := rfl
@[go_sem] theorem frz1_int (n : Nat) (h : Heap) (k : IntKind) (v : Int) : frz1 n h (.int k v) = (.int k v, h) := rfl
@[go_sem] theorem frz1_str (n : Nat) (h : Heap) (s : Str) : frz1 n h (.str s) = (.str s, h) := rfl
@[go_sem] theorem frz1_psl (n : Nat) (h : Heap) (s : List (List AV)) : frz1 n h (.psl s) = (.psl s, h) := rfl
@[go_sem] theorem frz1_ptr (n : Nat) (h : Heap) (l s i o : Nat) : frz1 n h (.ptr l s i o) = (.ptr l s i o, h) := rfl
@[go_sem] theorem frz1_pptr (n : Nat) (h : Heap) (cs : List AV) (o : Nat) : frz1 n h (.pptr cs o) = (.pptr cs o, h) := rfl
@[go_sem] theorem frz1_fn (n : Nat) (h : Heap) (f : FuncId) (a b : List AV) : frz1 n h (.fn f a b) = (.fn f a b, h) := rfl
@[go_sem] theorem frz1_iface (n : Nat) (h : Heap) (t : TypeId) (v : AV) : frz1 n h (.iface t v) = (.iface t v, h) := rfl
@[go_sem] theorem frz1_mp (n : Nat) (h : Heap) (l s : Nat) : frz1 n h (.mp l s) = (.mp l s, h) := rfl
@[go_sem] theorem frz1_nilp (n : Nat) (h : Heap) : frz1 n h .nilp = (.nilp, h) := rfl
@[go_sem] theorem frz1_nilfn (n : Nat) (h : Heap) : frz1 n h .nilfn = (.nilfn, h) := rfl
@[go_sem] theorem frz1_agg (n : Nat) (h : Heap) (cs : List AV) : frz1 n h (.agg cs) = aggP (frzCs n h cs) := rfl
@[go_sem] theorem frz1_sl (n : Nat) (h : Heap) (l s i m : Nat) : frz1 n h (.sl l s i m) = if n ≤ l then frzO h l s i m h[l]? else (.sl l s i m, h) := rfl
@[go_sem] theorem frzP_bool (n : Nat) (h : Heap) (b : Bool) : frzP n h (.bool b) = (.bool b, h) := rfl
@[go_sem] theorem frzP_int (n : Nat) (h : Heap) (k : IntKind) (v : Int) : frzP n h (.int k v) = (.int k v, h) := rfl
@[go_sem] theorem frzP_str (n : Nat) (h : Heap) (s : Str) : frzP n h (.str s) = (.str s, h) := rfl
@[go_sem] theorem frzP_psl (n : Nat) (h : Heap) (s : List (List AV)) : frzP n h (.psl s) = (.psl s, h) := rfl
@[go_sem] theorem frzP_ptr (n : Nat) (h : Heap) (l s i o : Nat) : frzP n h (.ptr l s i o) = (.ptr l s i o, h) := rfl
@[go_sem] theorem frzP_nilp (n : Nat) (h : Heap) : frzP n h .nilp = (.nilp, h) := rfl
@[go_sem] theorem frzP_sl (n : Nat) (h : Heap) (l s i m : Nat) : frzP n h (.sl l s i m) = if n ≤ l then frzO h l s i m h[l]? else (.sl l s i m, h) := rfl
@[go_sem] theorem frzO_arr (h : Heap) (l s i n imm z : Nat) (es : List (List AV)) : frzO h l s i n (some (.arr s imm z es)) = if i + n ≤ es.length then (.psl ((es.drop i).take n), h.set l (.arr s (max imm (i + n)) z es)) else (.dead, h) := by simp [frzO]
@[go_sem] theorem frzT_tup (n : Nat) (h : Heap) (vs : List AV) : frzT n h (.tup vs) = tupP (frzs n h vs) := rfl
@[go_sem] theorem frzT_bool (n : Nat) (h : Heap) (b : Bool) : frzT n h (.bool b) = (.bool b, h) := rfl
@[go_sem] theorem frzT_int (n : Nat) (h : Heap) (k : IntKind) (v : Int) : frzT n h (.int k v) = (.int k v, h) := rfl
@[go_sem] theorem frzT_str (n : Nat) (h : Heap) (s : Str) : frzT n h (.str s) = (.str s, h) := rfl
@[go_sem] theorem frzT_psl (n : Nat) (h : Heap) (s : List (List AV)) : frzT n h (.psl s) = (.psl s, h) := rfl
@[go_sem] theorem frzT_ptr (n : Nat) (h : Heap) (l s i o : Nat) : frzT n h (.ptr l s i o) = (.ptr l s i o, h) := rfl
@[go_sem] theorem frzT_fn (n : Nat) (h : Heap) (f : FuncId) (a b : List AV) : frzT n h (.fn f a b) = (.fn f a b, h) := rfl
@[go_sem] theorem frzT_agg (n : Nat) (h : Heap) (cs : List AV) : frzT n h (.agg cs) = aggP (frzCs n h cs) := rfl
@[go_sem] theorem frzT_sl (n : Nat) (h : Heap) (l s i m : Nat) : frzT n h (.sl l s i m) = if n ≤ l then frzO h l s i m h[l]? else (.sl l s i m, h) := rfl

@[go_sem] theorem resA_nil (st : St) : resA st [] = some (.tup []) := rfl
@[go_sem] theorem resA_one (st : St) (a : LRes) : resA st [a] = (a.ev st).ob fun x => some x := by unfold resA; simp only [resAll]; cases a.ev st <;> rfl
@[go_sem] theorem resA_two (st : St) (a b : LRes) : resA st [a, b] = (a.ev st).ob fun x => (b.ev st).ob fun y => some (.tup [x, y]) := by unfold resA; simp only [resAll]; cases a.ev st <;> cases b.ev st <;> rfl
@[go_sem] theorem resA_three (st : St) (a b c : LRes) : resA st [a, b, c] = (a.ev st).ob fun x => (b.ev st).ob fun y => (c.ev st).ob fun z => some (.tup [x, y, z]) := by unfold resA; simp only [resAll]; cases a.ev st <;> cases b.ev st <;> cases c.ev st <;> rfl

@[go_sem] theorem keepE_nil (env : Env) : keepE env [] = [] := rfl
@[go_sem] theorem keepE_cons (env : Env) (t : Nat) (r : List Nat) : keepE env (t :: r) = (t, eget env t) :: keepE env r := rfl

/-! ### A function's own objects stand behind those that it found -/

section
variable (h r : Heap) (k : Nat) (x : AObj)
@[go_sem] theorem hget0 : (h ++ r)[h.length]? = r[0]? := by rw [List.getElem?_append_right (Nat.le_refl _), Nat.sub_self]
@[go_sem] theorem hgetk : (h ++ r)[h.length + k]? = r[k]? := by rw [List.getElem?_append_right (by omega)]; congr 1; omega
@[go_sem] theorem hset0 : (h ++ r).set h.length x = h ++ r.set 0 x := by rw [List.set_append_right _ _ (Nat.le_refl _), Nat.sub_self]
@[go_sem] theorem hsetk : (h ++ r).set (h.length + k) x = h ++ r.set k x := by rw [List.set_append_right _ _ (by omega)]; congr 2; omega
@[go_sem] theorem htake : (h ++ r).take h.length = h := by simp
@[go_sem] theorem htakek : (h ++ r).take (h.length + k) = h ++ r.take k := by
  rw [List.take_append, List.take_of_length_le (by omega)]; congr 2; omega
@[go_sem] theorem htake_self : h.take h.length = h := by simp
@[go_sem] theorem hle0 : (h.length ≤ h.length) = True := by simp
@[go_sem] theorem hlek : (h.length ≤ h.length + k) = True := by simp
end

theorem wrap64 {n : Int} (h1 : -9223372036854775808 ≤ n) (h2 : n < 9223372036854775808) : IntKind.i64.wrap n = n := by
  simp only [IntKind.wrap, IntKind.signed, IntKind.bits, Bool.true_and]
  split <;> (rename_i hh; simp at hh; omega)

section
variable {F : Fin_} {ks : List Kt} {keep : List Nat} {env : Env} {h : Heap}

@[go_sem] theorem opE_app (r : List COper) (d : Nat) (z by_ : Nat) (s x : Opd) : opE F ks keep r (some d) env h (.app z by_ s x) = ((s.ev env true).oK fun sv => (asSl sv).oK fun q => (x.ev env true).oK fun xv => (h[q.1]?).oK fun o => (asArr o).oK fun r' => (srcV (h.set q.1 (.arr r'.1 r'.2.1 r'.2.2.1 (r'.2.2.2.take q.2.2.2))) xv).oK fun xs =>
      (q.2.1 = r'.1 ∧ z = r'.2.2.1 ∧ q.2.2.1 = 0 ∧ q.2.2.2 ≤ r'.2.2.2.length ∧ r'.2.1 ≤ q.2.2.2 ∧ (q.2.2.2 + xs.length) * by_ ≤ 140737488355328 ∧ ∀ e ∈ xs, e.length = z ∧ e.all AV.one = true) ∧
          ∀ s2, opS F ks keep r ((d, .sl q.1 s2 0 (q.2.2.2 + xs.length)) :: env) (h.set q.1 (.arr s2 r'.2.1 r'.2.2.1 (r'.2.2.2.take q.2.2.2 ++ xs)))) := rfl
@[go_sem] theorem opE_bsl (r : List COper) (d : Nat) (z len : Nat) (zero : List AV) (parts : List (Nat × Nat × Opd)) : opE F ks keep r (some d) env h (.bsl z len zero parts) = ((evParts env true parts).oK fun ps => (buildV (fillV zero len) ps).oK fun cs =>
      (cs.length = len * z ∧ cs.all AV.one = true) ∧ ∀ s, opS F ks keep r ((d, .sl h.length s 0 len) :: env) (h ++ [.arr s 0 z (chunk z len cs)])) := rfl
@[go_sem] theorem opE_bslz (r : List COper) (d : Nat) (z len : Nat) (zero : List AV) (parts : List (Nat × Nat × Opd)) : opE F ks keep r (some d) env h (.bslz z len zero parts) = ((evParts env true parts).oK fun ps => (buildV (fillV zero len) ps).oK fun cs =>
      ((frzCs 0 h cs).1.length = len * z ∧ (frzCs 0 h cs).1.all AV.one = true) ∧ ∀ s, opS F ks keep r ((d, .sl (frzCs 0 h cs).2.length s 0 len) :: env) ((frzCs 0 h cs).2 ++ [.arr s 0 z (chunk z len (frzCs 0 h cs).1)])) := rfl
@[go_sem] theorem opE_mapup (r : List COper) (kk : Nat) (m k v : Opd) : opE F ks keep r none env h (.mapup kk m k v) = ((m.ev env true).oK fun mv => (asMp mv).oK fun q => (k.ev env true).oK fun kv => (v.ev env true).oK fun vv => (h[q.1]?).oK fun o => (asMpO o).oK fun r' =>
      (mput kk kv vv r'.2).oK fun es' => (q.2 = r'.1 ∧ vv.one = true) ∧ opS F ks keep r env (h.set q.1 (.mp r'.1 es'))) := rfl
@[go_sem] theorem opE_panic (r : List COper) (d : Option Nat) (x : Opd) : opE F ks keep r d env h (.panic x) = ((x.ev env true).oK fun v => (asIf v).oK fun q => contS F ks (.pan (.iface q.1 q.2)) env h) := rfl
@[go_sem] theorem opE_rstr (r : List COper) (d : Nat) (x : Opd) : opE F ks keep r (some d) env h (.rstr x) = ((x.ev env true).oK fun v => (asStr v).oK fun str => ∀ s, opS F ks keep r ((d, .it h.length s) :: env) (h ++ [.sit s str 0])) := rfl
@[go_sem] theorem opE_nstr (r : List COper) (d : Nat) (x : Opd) : opE F ks keep r (some d) env h (.nstr x) = ((x.ev env true).oK fun v => (asIt v).oK fun q => (h[q.1]?).oK fun o => (asSit o).oK fun r' => q.2 = r'.1 ∧
      (r'.2.2 < r'.2.1.length → opS F ks keep r ((d, .tup [.bool true, .int .i64 r'.2.2, .int .i32 (Utf8.decode ⟨r'.2.1.toArray⟩ r'.2.2).1]) :: env) (h.set q.1 (.sit r'.1 r'.2.1 (r'.2.2 + (Utf8.decode ⟨r'.2.1.toArray⟩ r'.2.2).2)))) ∧
      (¬ r'.2.2 < r'.2.1.length → opS F ks keep r ((d, .tup [.bool false]) :: env) h)) := rfl
@[go_sem] theorem opE_isnil (r : List COper) (d : Nat) (neg : Bool) (x : Opd) : opE F ks keep r (some d) env h (.isnil neg x) = ((x.ev env true).oK fun v => (nilLen h v).oK fun n => ∀ b : Bool, (0 < n → b = false) → opS F ks keep r ((d, .bool (if neg then !b else b)) :: env) h) := rfl

@[go_sem] theorem opE_clear (r : List COper) (d : Option Nat) (z : Nat) (x : Opd) : opE F ks keep r d env h (.clear z x) = ((x.ev env true).oK fun v => (asSl v).oK fun q => (h[q.1]?).oK fun o => (asArr o).oK fun r' => (q.2.1 = r'.1 ∧ r'.2.1 ≤ q.2.2.1 ∧ z = r'.2.2.1) ∧ opS F ks keep r (eput d .dead env) (h.set q.1 (.arr r'.1 r'.2.1 r'.2.2.1 (r'.2.2.2.take q.2.2.1)))) := rfl
@[go_sem] theorem opE_allocv (r : List COper) (d : Nat) (own : List (Nat × Nat)) (z : List AV) : opE F ks keep r (some d) env h (.allocv own z) = ownK own z h (fun cs h => cs.all AV.one = true ∧ ∀ s, opS F ks keep r ((d, .ptr h.length s 0 0) :: env) (h ++ [.arr s 0 z.length [cs]])) := rfl
@[go_sem] theorem opE_boxv (r : List COper) (d n : Nat) (own : List (Nat × Nat)) (x : Opd) : opE F ks keep r (some d) env h (.boxv n own x) = ((x.ev env true).oK fun v => v.cells.all AV.one = true ∧ ownK own v.cells h fun cs h => (cs.length = n ∧ cs.all AV.one = true) ∧ ∀ s, opS F ks keep r ((d, .ptr h.length s 0 0) :: env) (h ++ [.arr s 0 n [cs]])) := rfl
@[go_sem] theorem opE_stnv (r : List COper) (n : Nat) (own : List (Nat × Nat)) (a x : Opd) : opE F ks keep r none env h (.stnv n own a x) = ((a.ev env true).oK fun p => (x.ev env true).oK fun v => (asAgg v).oK fun cs => ownK own cs h fun cs h => (stn h n p cs).oK fun h => opS F ks keep r env h) := rfl

/-! ### Loops -/

/-- A loop over a list: what is done, what is left. -/
def LI {α σ : Type} (l : List α) (stOf : List α → σ → St) (J : List α → List α → σ → Prop) : Nat → St → Prop := fun m st => ∃ pre post e, l = pre ++ post ∧ m = post.length ∧ J pre post e ∧ st = stOf pre e

theorem loopS_list {c : LCode} {live : List Nat} {α σ : Type} (l : List α) (stOf : List α → σ → St) (J : List α → List α → σ → Prop) (e0 : σ) (h0 : (⟨keepE env live, h⟩ : St) = stOf [] e0) (hJ : J [] l e0)
    (step : ∀ pre post e, l = pre ++ post → J pre post e → wpS F (.lp (LI l stOf J) post.length live :: ks) c (stOf pre e).env (stOf pre e).h) : loopS F ks c live env h := by
  rw [loopS_def]
  refine ⟨LI l stOf J, ⟨_, [], l, e0, rfl, rfl, hJ, h0⟩, ?_⟩
  rintro m st ⟨pre, post, e, h1, rfl, h2, rfl⟩
  exact step pre post e h1 h2

theorem lp_next {live : List Nat} {α σ : Type} {l : List α} {stOf : List α → σ → St} {J : List α → List α → σ → Prop} {pre post : List α} {x : α} (k : Nat) (e : σ) (hl : l = pre ++ x :: post) (hJ : J (pre ++ [x]) post e) (he : keepE env live = (stOf (pre ++ [x]) e).env) (hh : h.take k = (stOf (pre ++ [x]) e).h) :
    contS F (.lp (LI l stOf J) (x :: post).length live :: ks) .normal env h :=
  ⟨post.length, k, by simp, pre ++ [x], post, e, by simp [hl], rfl, hJ, by rw [he, hh]⟩

/-- A loop with a measure. -/
def MI {σ : Type} (stOf : σ → St) (μ : σ → Nat) (J : σ → Prop) : Nat → St → Prop := fun m st => ∃ e, m = μ e ∧ J e ∧ st = stOf e

theorem loopS_meas {c : LCode} {live : List Nat} {σ : Type} (stOf : σ → St) (μ : σ → Nat) (J : σ → Prop) (e0 : σ) (h0 : (⟨keepE env live, h⟩ : St) = stOf e0) (hJ : J e0)
    (step : ∀ e, J e → wpS F (.lp (MI stOf μ J) (μ e) live :: ks) c (stOf e).env (stOf e).h) : loopS F ks c live env h := by
  rw [loopS_def]
  refine ⟨MI stOf μ J, ⟨_, e0, rfl, hJ, h0⟩, ?_⟩
  rintro m st ⟨e, rfl, h2, rfl⟩
  exact step e h2

theorem lpm_next {live : List Nat} {σ : Type} {stOf : σ → St} {μ : σ → Nat} {J : σ → Prop} {m : Nat} (k : Nat) (e : σ) (hm : μ e < m) (hJ : J e) (he : keepE env live = (stOf e).env) (hh : h.take k = (stOf e).h) : contS F (.lp (MI stOf μ J) m live :: ks) .normal env h :=
  ⟨μ e, k, hm, e, rfl, hJ, by rw [he, hh]⟩

theorem finS_pure {v v' : AV} {h' : Heap} (e : frzT F.n0 h v = (v', h')) (hR : F.R (.ret v') (h'.take F.n0)) : finS F v h := .inl (by rw [e]; exact hR)
theorem finS_l {v : AV} (hR : F.R (.ret (frzT F.n0 h v).1) ((frzT F.n0 h v).2.take F.n0)) : finS F v h := .inl hR
theorem finS_keep {v : AV} (hR : F.R (.ret v) h) : finS F v h := .inr hR
end
end Go.Ab
