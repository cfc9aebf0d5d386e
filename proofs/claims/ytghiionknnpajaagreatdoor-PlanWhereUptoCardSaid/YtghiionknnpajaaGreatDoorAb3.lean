/- The layer Ab, part 3: the transformer once more, with what follows kept as data, so that simp can carry it out step by step; the laws by which it does. -/
import Derived.Test.YtghiionknnpajaaGreatDoorAb2
set_option linter.unusedVariables false
set_option linter.unusedSimpArgs false
namespace Go.Ab

inductive Kt where
  | seq (b : LCode)
  | blk (id : Nat)
  | lp (I : Nat → St → Prop) (m : Nat) (live : List Nat)

structure Fin_ where
  P : Program
  n0 : Nat
  res : List LRes
  R : AEnd → Heap → Prop

def contQ (F : Fin_) : List Kt → AExit → St → Prop
  | [] => bodyQ F.n0 F.res F.R
  | .seq b :: ks => andThen (fun st => wpA F.P b (contQ F ks) st) (contQ F ks)
  | .blk id :: ks => inBlk id (contQ F ks)
  | .lp I m live :: ks => fun e st => match e with
      | .normal => ∃ m' k, m' < m ∧ I m' ⟨keepE st.env live, st.h.take k⟩
      | e => contQ F ks e st

def wpS (F : Fin_) (ks : List Kt) (c : LCode) (env : Env) (h : Heap) : Prop := wpA F.P c (contQ F ks) ⟨env, h⟩
def contS (F : Fin_) (ks : List Kt) (e : AExit) (env : Env) (h : Heap) : Prop := contQ F ks e ⟨env, h⟩
def opS (F : Fin_) (ks : List Kt) (keep : List Nat) (ops : List COper) (env : Env) (h : Heap) : Prop :=
  runOps F.P (fun v st => contQ F ks (.pan v) st) (fun st => contQ F ks .normal ⟨keepE st.env keep, st.h⟩) ops ⟨env, h⟩

/-- Where the function ends. -/
def finS (F : Fin_) (v : AV) (h : Heap) : Prop := endQ F.n0 F.R .ret v h
def panS (F : Fin_) (v : AV) (h : Heap) : Prop := endQ F.n0 F.R .pan v h
def resS (F : Fin_) (x : Option AV) (h : Heap) : Prop := x.oK fun v => finS F v h
@[go_sem] theorem resS_some (F : Fin_) (v : AV) (h : Heap) : resS F (some v) h = finS F v h := propext Iff.rfl

section
variable {F : Fin_} {ks : List Kt} {keep : List Nat} {env : Env} {h : Heap}

theorem wp_start (P : Program) (f : LFunc) (args : List AV) (h : Heap) (R : AEnd → Heap → Prop) : f.wp P args h R = wpS ⟨P, h.length, f.res, R⟩ [] f.code (argEnv 0 args) h := rfl

@[go_sem] theorem wpS_skip : wpS F ks .skip env h = contS F ks .normal env h := rfl
@[go_sem] theorem wpS_reg (ops : List COper) (kp : List Nat) : wpS F ks (.reg ops kp) env h = opS F ks kp ops env h := propext Iff.rfl
@[go_sem] theorem wpS_regD (ops : List COper) (ord kp : List Nat) : wpS F ks (.regD ops ord kp) env h = opS F ks kp ops env h := propext Iff.rfl
@[go_sem] theorem wpS_seq (a b : LCode) : wpS F ks (.seq a b) env h = wpS F (.seq b :: ks) a env h := propext Iff.rfl
@[go_sem] theorem wpS_block (id : Nat) (c : LCode) : wpS F ks (.block id c) env h = wpS F (.blk id :: ks) c env h := rfl
@[go_sem] theorem wpS_exit (id : Nat) : wpS F ks (.exit id) env h = contS F ks (.exit id) env h := rfl
@[go_sem] theorem wpS_ret : wpS F ks .ret env h = contS F ks .ret env h := rfl

def condS (F : Fin_) (ks : List Kt) (a b : LCode) (env : Env) (h : Heap) (x : Option Bool) : Prop := x.oK fun p => (p = true → wpS F ks a env h) ∧ (p = false → wpS F ks b env h)
@[go_sem] theorem wpS_cond (c : Opd) (a b : LCode) : wpS F ks (.cond c a b) env h = condS F ks a b env h ((c.ev env true).ob asBool) := by
  unfold wpS; simp only [wpA]; cases c.ev env true with
  | none => rfl
  | some v => rfl
@[go_sem] theorem condS_true (a b : LCode) : condS F ks a b env h (some true) = wpS F ks a env h := by simp [condS, oK_some]
@[go_sem] theorem condS_false (a b : LCode) : condS F ks a b env h (some false) = wpS F ks b env h := by simp [condS, oK_some]
theorem condS_some (a b : LCode) (p : Bool) : condS F ks a b env h (some p) = ((p = true → wpS F ks a env h) ∧ (p = false → wpS F ks b env h)) := rfl

/-- A loop: an invariant over the frame's live slots and the heap, a measure. -/
def loopS (F : Fin_) (ks : List Kt) (c : LCode) (live : List Nat) (env : Env) (h : Heap) : Prop := wpS F ks (.loop c live) env h
theorem loopS_def (c : LCode) (live : List Nat) : loopS F ks c live env h =
    ∃ I : Nat → St → Prop, (∃ m, I m ⟨keepE env live, h⟩) ∧ ∀ m st', I m st' → wpS F (.lp I m live :: ks) c st'.env st'.h := rfl
@[go_sem] theorem wpS_loop (c : LCode) (live : List Nat) : wpS F ks (.loop c live) env h = loopS F ks c live (keepE env live) h := by
  unfold loopS wpS; simp only [wpA, loopK]
  have e : keepE (keepE env live) live = keepE env live := by
    unfold keepE
    refine List.map_congr_left fun t ht => ?_
    congr 1
    induction live with
    | nil => cases ht
    | cons a l ih =>
      simp only [List.map_cons, eget]
      split
      · rename_i e; rw [e]
      · rename_i hn
        rcases List.mem_cons.1 ht with rfl | ht
        · exact absurd rfl hn
        · exact ih ht
  rw [e]

@[go_sem] theorem contS_nil_ret : contS F [] .ret env h = resS F (resA ⟨env, h⟩ F.res) h := rfl
@[go_sem] theorem contS_nil_normal : contS F [] .normal env h = resS F (resA ⟨env, h⟩ F.res) h := rfl
@[go_sem] theorem contS_nil_pan (v : AV) : contS F [] (.pan v) env h = panS F v h := rfl
@[go_sem] theorem contS_nil_exit (id : Nat) : contS F [] (.exit id) env h = False := rfl
@[go_sem] theorem contS_seq_normal (b : LCode) : contS F (.seq b :: ks) .normal env h = wpS F ks b env h := propext Iff.rfl
@[go_sem] theorem contS_seq_ret (b : LCode) : contS F (.seq b :: ks) .ret env h = contS F ks .ret env h := rfl
@[go_sem] theorem contS_seq_exit (b : LCode) (id : Nat) : contS F (.seq b :: ks) (.exit id) env h = contS F ks (.exit id) env h := rfl
@[go_sem] theorem contS_seq_pan (b : LCode) (v : AV) : contS F (.seq b :: ks) (.pan v) env h = contS F ks (.pan v) env h := rfl
@[go_sem] theorem contS_blk_normal (id : Nat) : contS F (.blk id :: ks) .normal env h = contS F ks .normal env h := rfl
@[go_sem] theorem contS_blk_ret (id : Nat) : contS F (.blk id :: ks) .ret env h = contS F ks .ret env h := rfl
@[go_sem] theorem contS_blk_exit (id id' : Nat) : contS F (.blk id :: ks) (.exit id') env h = if id' = id then contS F ks .normal env h else contS F ks (.exit id') env h := rfl
@[go_sem] theorem contS_blk_pan (id : Nat) (v : AV) : contS F (.blk id :: ks) (.pan v) env h = contS F ks (.pan v) env h := rfl
theorem contS_lp_normal (I : Nat → St → Prop) (m : Nat) (live : List Nat) : contS F (.lp I m live :: ks) .normal env h = ∃ m' k, m' < m ∧ I m' ⟨keepE env live, h.take k⟩ := rfl
@[go_sem] theorem contS_lp_ret (I : Nat → St → Prop) (m : Nat) (live : List Nat) : contS F (.lp I m live :: ks) .ret env h = contS F ks .ret env h := rfl
@[go_sem] theorem contS_lp_exit (I : Nat → St → Prop) (m : Nat) (live : List Nat) (id : Nat) : contS F (.lp I m live :: ks) (.exit id) env h = contS F ks (.exit id) env h := rfl
@[go_sem] theorem contS_lp_pan (I : Nat → St → Prop) (m : Nat) (live : List Nat) (v : AV) : contS F (.lp I m live :: ks) (.pan v) env h = contS F ks (.pan v) env h := rfl

/-! operations -/
@[go_sem] theorem opS_nil : opS F ks keep [] env h = contS F ks .normal (keepE env keep) h := propext Iff.rfl

def opP (F : Fin_) (ks : List Kt) (keep : List Nat) (r : List COper) (d : Option Nat) (env : Env) (h : Heap) (x : Option AV) : Prop := x.oK fun v => opS F ks keep r (eput d v env) h
@[go_sem] theorem opP_some (r : List COper) (d : Nat) (v : AV) : opP F ks keep r (some d) env h (some v) = opS F ks keep r ((d, v) :: env) h := propext Iff.rfl
@[go_sem] theorem opP_none (r : List COper) (d : Option Nat) : opP F ks keep r d env h none = False := rfl
@[go_sem] theorem opS_p (d : Option Nat) (o : POp) (r : List COper) : opS F ks keep (⟨d, .p o, none⟩ :: r) env h = opP F ks keep r d env h (o.ev ⟨env, h⟩ true) := rfl

def opGv (F : Fin_) (ks : List Kt) (keep : List Nat) (r : List COper) (d : Option Nat) (env : Env) (h : Heap) (b : Bool) (x : Option AV) : Prop := gK b x fun v => opS F ks keep r (eput d v env) h
@[go_sem] theorem opGv_some (r : List COper) (d : Nat) (b : Bool) (v : AV) : opGv F ks keep r (some d) env h b (some v) = opS F ks keep r ((d, .cond b v) :: env) h := propext Iff.rfl
theorem opGv_none (r : List COper) (d : Nat) (b : Bool) : opGv F ks keep r (some d) env h b none = (b = false ∧ opS F ks keep r ((d, .cond false .dead) :: env) h) := rfl
@[go_sem] theorem opGv_none_false (r : List COper) (d : Nat) : opGv F ks keep r (some d) env h false none = opS F ks keep r ((d, .cond false .dead) :: env) h := by simp [opGv_none]
@[go_sem] theorem opGv_false (r : List COper) (d : Nat) (x : Option AV) (hx : ∀ v, opS F ks keep r ((d, .cond false v) :: env) h = opS F ks keep r ((d, .cond false .dead) :: env) h) : opGv F ks keep r (some d) env h false x = opS F ks keep r ((d, .cond false .dead) :: env) h := by
  cases x with
  | none => exact opGv_none_false r d
  | some v => exact hx v
def opG (F : Fin_) (ks : List Kt) (keep : List Nat) (r : List COper) (d : Option Nat) (o : POp) (env : Env) (h : Heap) (x : Option Bool) : Prop := x.oK fun b => opGv F ks keep r d env h b (o.ev ⟨env, h⟩ b)
@[go_sem] theorem opG_some (r : List COper) (d : Option Nat) (o : POp) (b : Bool) : opG F ks keep r d o env h (some b) = opGv F ks keep r d env h b (o.ev ⟨env, h⟩ b) := rfl
@[go_sem] theorem opS_pg (d : Option Nat) (o : POp) (t : Nat) (wn : Bool) (r : List COper) : opS F ks keep (⟨d, .p o, some (t, wn)⟩ :: r) env h = opG F ks keep r d o env h (gval (eget env t) wn) := rfl

/-- An operation that came ahead would yield what it did. -/
def stab1 (env : Env) (d : Nat) (x : Option AV) : Prop := x.oK fun v => eget env d = v
@[go_sem] theorem stab1_some (d : Nat) (v : AV) : stab1 env d (some v) = (eget env d = v) := rfl
def stab2 (env : Env) (d : Nat) (b : Bool) (x : Option AV) : Prop := gK b x fun v => eget env d = v
@[go_sem] theorem stab2_some (d : Nat) (b : Bool) (v : AV) : stab2 env d b (some v) = (eget env d = .cond b v) := rfl
@[go_sem] theorem stab2_none (d : Nat) (b : Bool) : stab2 env d b none = (b = false ∧ eget env d = .cond false .dead) := rfl
def stabG (env : Env) (h : Heap) (d : Nat) (o : POp) (x : Option Bool) : Prop := x.oK fun b => stab2 env d b (o.ev ⟨env, h⟩ b)
@[go_sem] theorem stabG_some (d : Nat) (o : POp) (b : Bool) : stabG env h d o (some b) = stab2 env d b (o.ev ⟨env, h⟩ b) := rfl
theorem opS_s (d : Nat) (o : POp) (r : List COper) : opS F ks keep (⟨some d, .s o, none⟩ :: r) env h = (stab1 env d (o.ev ⟨env, h⟩ true) ∧ opS F ks keep r env h) := rfl
theorem opS_sg (d : Nat) (o : POp) (t : Nat) (wn : Bool) (r : List COper) : opS F ks keep (⟨some d, .s o, some (t, wn)⟩ :: r) env h = (stabG env h d o (gval (eget env t) wn) ∧ opS F ks keep r env h) := rfl

theorem opS_b (d : Option Nat) (z len : Nat) (zero : List AV) (parts : List (Nat × Nat × Opd)) (r : List COper) : opS F ks keep (⟨d, .b z len zero parts, none⟩ :: r) env h = (bslOk env z len zero parts ∧ opS F ks keep r env h) := rfl
theorem opS_bg (d : Option Nat) (z len : Nat) (zero : List AV) (parts : List (Nat × Nat × Opd)) (t : Nat) (wn : Bool) (r : List COper) : opS F ks keep (⟨d, .b z len zero parts, some (t, wn)⟩ :: r) env h = (((gval (eget env t) wn).oK fun b => b = true → bslOk env z len zero parts) ∧ opS F ks keep r env h) := rfl

/-- An operation that may change memory. -/
def opE (F : Fin_) (ks : List Kt) (keep : List Nat) (r : List COper) (d : Option Nat) (env : Env) (h : Heap) (o : EOp) : Prop :=
  o.wp F.P ⟨env, h⟩ (fun v h => opS F ks keep r (eput d v env) h) (fun v h => contS F ks (.pan v) env h)
@[go_sem] theorem opS_e (d : Option Nat) (o : EOp) (r : List COper) : opS F ks keep (⟨d, .e o, none⟩ :: r) env h = opE F ks keep r d env h o := rfl
def opEg (F : Fin_) (ks : List Kt) (keep : List Nat) (r : List COper) (d : Option Nat) (o : EOp) (env : Env) (h : Heap) (x : Option Bool) : Prop :=
  x.oK fun b => (b = true → opE F ks keep r d env h o) ∧ (b = false → opS F ks keep r (eput d (.cond false .dead) env) h)
@[go_sem] theorem opS_eg (d : Option Nat) (o : EOp) (t : Nat) (wn : Bool) (r : List COper) : opS F ks keep (⟨d, .e o, some (t, wn)⟩ :: r) env h = opEg F ks keep r d o env h (gval (eget env t) wn) := rfl
@[go_sem] theorem opEg_true (d : Option Nat) (o : EOp) (r : List COper) : opEg F ks keep r d o env h (some true) = opE F ks keep r d env h o := by simp [opEg, oK_some]
@[go_sem] theorem opEg_false (d : Nat) (o : EOp) (r : List COper) : opEg F ks keep r (some d) o env h (some false) = opS F ks keep r ((d, .cond false .dead) :: env) h := by simp [opEg, oK_some, eput]
theorem opEg_some (d : Option Nat) (o : EOp) (r : List COper) (b : Bool) : opEg F ks keep r d o env h (some b) = ((b = true → opE F ks keep r d env h o) ∧ (b = false → opS F ks keep r (eput d (.cond false .dead) env) h)) := rfl

@[go_sem] theorem opE_alloc (d : Nat) (r : List COper) (z : List AV) : opE F ks keep r (some d) env h (.alloc z) = ∀ s, opS F ks keep r ((d, .ptr h.length s 0 0) :: env) (h ++ [.arr s 0 z.length [z]]) := rfl
@[go_sem] theorem opE_vnil (d : Nat) (r : List COper) (z : Nat) : opE F ks keep r (some d) env h (.vnil z) = ∀ s, opS F ks keep r ((d, .sl h.length s 0 0) :: env) (h ++ [.arr s 0 z []]) := rfl
@[go_sem] theorem opE_mkmap (d : Nat) (r : List COper) : opE F ks keep r (some d) env h .mkmap = ∀ s, opS F ks keep r ((d, .mp h.length s) :: env) (h ++ [.mp s []]) := rfl

def boxS (F : Fin_) (ks : List Kt) (keep : List Nat) (r : List COper) (d : Nat) (n : Nat) (env : Env) (h : Heap) (x : Option AV) : Prop :=
  x.oK fun v => (v.cells.length = n ∧ v.cells.all AV.one = true) ∧ ∀ s, opS F ks keep r ((d, .ptr h.length s 0 0) :: env) (h ++ [.arr s 0 n [v.cells]])
@[go_sem] theorem opE_box (d : Nat) (r : List COper) (n : Nat) (x : Opd) : opE F ks keep r (some d) env h (.box n x) = boxS F ks keep r d n env h (x.ev env true) := rfl
@[go_sem] theorem boxS_some (d : Nat) (r : List COper) (n : Nat) (v : AV) : boxS F ks keep r d n env h (some v) = ((v.cells.length = n ∧ v.cells.all AV.one = true) ∧ ∀ s, opS F ks keep r ((d, .ptr h.length s 0 0) :: env) (h ++ [.arr s 0 n [v.cells]])) := propext Iff.rfl

def stS (F : Fin_) (ks : List Kt) (keep : List Nat) (r : List COper) (env : Env) (x : Option Heap) : Prop := x.oK fun h => opS F ks keep r env h
@[go_sem] theorem stS_some (r : List COper) : stS F ks keep r env (some h) = opS F ks keep r env h := propext Iff.rfl
def st1 (h : Heap) (p v : AV) : Option Heap := storeH h (setL p.off v) p
def stn (h : Heap) (n : Nat) (p : AV) (cs : List AV) : Option Heap := storeH h (fun r => if cs.length = n ∧ cs.all AV.one = true then putL p.off cs r else none) p
@[go_sem] theorem opE_st (r : List COper) (a x : Opd) : opE F ks keep r none env h (.st a x) = stS F ks keep r env ((a.ev env true).ob fun p => (x.ev env true).ob fun v => st1 h p v) := by
  unfold opE EOp.wp stS st1
  dsimp only
  cases a.ev env true with
  | none => rfl
  | some p => cases x.ev env true with
    | none => rfl
    | some v => rfl
@[go_sem] theorem opE_stn (r : List COper) (n : Nat) (a x : Opd) : opE F ks keep r none env h (.stn n a x) = stS F ks keep r env ((a.ev env true).ob fun p => (x.ev env true).ob fun v => (asAgg v).ob fun cs => stn h n p cs) := by
  unfold opE EOp.wp stS stn
  dsimp only
  cases a.ev env true with
  | none => rfl
  | some p => cases x.ev env true with
    | none => rfl
    | some v => simp only [ob_some, oK_some]; cases asAgg v <;> rfl

/-- A call, with its arguments. -/
def callS (F : Fin_) (ks : List Kt) (keep : List Nat) (r : List COper) (d : Option Nat) (env : Env) (f : FuncId) (args : List AV) (h : Heap) : Prop :=
  callK F.P f args h (onRet (fun v h => opS F ks keep r (eput d v env) h) (fun v h => contS F ks (.pan v) env h))
def callF (F : Fin_) (ks : List Kt) (keep : List Nat) (r : List COper) (d : Option Nat) (env : Env) (f : FuncId) (q : List AV × Heap) : Prop := callS F ks keep r d env f q.1 q.2
@[go_sem] theorem callF_mk (r : List COper) (d : Option Nat) (f : FuncId) (vs : List AV) : callF F ks keep r d env f (vs, h) = callS F ks keep r d env f vs h := propext Iff.rfl
def callA (F : Fin_) (ks : List Kt) (keep : List Nat) (r : List COper) (d : Option Nat) (env : Env) (h : Heap) (f : FuncId) (frz : Bool) (x : Option (List AV)) : Prop :=
  x.oK fun vs => if frz = true then callF F ks keep r d env f (frzs 0 h vs) else callS F ks keep r d env f vs h
@[go_sem] theorem callA_frz (r : List COper) (d : Option Nat) (f : FuncId) (vs : List AV) : callA F ks keep r d env h f true (some vs) = callF F ks keep r d env f (frzs 0 h vs) := rfl
@[go_sem] theorem callA_raw (r : List COper) (d : Option Nat) (f : FuncId) (vs : List AV) : callA F ks keep r d env h f false (some vs) = callS F ks keep r d env f vs h := rfl
@[go_sem] theorem opE_call (r : List COper) (d : Option Nat) (f : FuncId) (args : List Opd) (frz : Bool) : opE F ks keep r d env h (.call f args frz) = callA F ks keep r d env h f frz (evs env true args) := by
  unfold opE EOp.wp callA callF callS
  dsimp only
  cases evs env true args with
  | none => rfl
  | some vs => cases frz <;> rfl
/-- A call of a function value: its arguments are frozen. -/
def callV (F : Fin_) (ks : List Kt) (keep : List Nat) (r : List COper) (d : Option Nat) (env : Env) (fn : Option (FuncId × List AV × List AV)) (q : List AV × Heap) : Prop :=
  fn.oK fun fn => callS F ks keep r d env fn.1 (fn.2.1 ++ q.1 ++ fn.2.2) q.2
@[go_sem] theorem callV_some (r : List COper) (d : Option Nat) (f : FuncId) (a b vs : List AV) : callV F ks keep r d env (some (f, a, b)) (vs, h) = callS F ks keep r d env f (a ++ vs ++ b) h := rfl
def callVo (F : Fin_) (ks : List Kt) (keep : List Nat) (r : List COper) (d : Option Nat) (env : Env) (h : Heap) (fn : Option (FuncId × List AV × List AV)) (x : Option (List AV)) : Prop := x.oK fun vs => callV F ks keep r d env fn (frzs 0 h vs)
@[go_sem] theorem callVo_some (r : List COper) (d : Option Nat) (fn : Option (FuncId × List AV × List AV)) (vs : List AV) : callVo F ks keep r d env h fn (some vs) = callV F ks keep r d env fn (frzs 0 h vs) := rfl
@[go_sem] theorem opE_callv (r : List COper) (d : Option Nat) (x : Opd) (args : List Opd) : opE F ks keep r d env h (.callv x args true) = callVo F ks keep r d env h ((x.ev env true).ob asFn) (evs env true args) := by
  unfold opE EOp.wp callVo callV callS
  dsimp only
  cases x.ev env true with
  | none => simp only [oK_none, ob_none]; cases evs env true args <;> rfl
  | some v =>
    simp only [oK_some, ob_some]
    cases asFn v with
    | none => simp only [oK_none]; cases evs env true args <;> rfl
    | some fn => cases evs env true args <;> rfl

theorem callS_exact {r : List COper} {d : Nat} {f : FuncId} {args : List AV} {x : AV} {H : Heap} (hs : SpecA F.P f args h (fun r h' => r = .ret x ∧ h' = H))
    (hk : opS F ks keep r ((d, x) :: env) H) : callS F ks keep r (some d) env f args h :=
  ⟨_, hs, by rintro _ _ ⟨rfl, rfl⟩; exact hk⟩
theorem callS_exact0 {r : List COper} {f : FuncId} {args : List AV} {x : AV} {H : Heap} (hs : SpecA F.P f args h (fun r h' => r = .ret x ∧ h' = H))
    (hk : opS F ks keep r env H) : callS F ks keep r none env f args h :=
  ⟨_, hs, by rintro _ _ ⟨rfl, rfl⟩; exact hk⟩
theorem callS_pan {r : List COper} {d : Option Nat} {f : FuncId} {args : List AV} {x : AV} {H : Heap} (hs : SpecA F.P f args h (fun r h' => r = .pan x ∧ h' = H))
    (hk : contS F ks (.pan x) env H) : callS F ks keep r d env f args h :=
  ⟨_, hs, by rintro _ _ ⟨rfl, rfl⟩; exact hk⟩
theorem callS_any {r : List COper} {d : Option Nat} {f : FuncId} {args : List AV} {R : AEnd → Heap → Prop} (hs : SpecA F.P f args h R)
    (hk : ∀ x h', R x h' → onRet (fun v h => opS F ks keep r (eput d v env) h) (fun v h => contS F ks (.pan v) env h) x h') : callS F ks keep r d env f args h :=
  ⟨_, hs, hk⟩

end
end Go.Ab
