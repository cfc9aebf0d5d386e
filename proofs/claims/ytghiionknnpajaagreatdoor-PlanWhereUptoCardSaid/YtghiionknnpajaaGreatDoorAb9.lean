/- The layer Ab, part 9: a region whose order is drawn comes, in whichever order, to what its operations come to in one. -/
import Derived.Test.YtghiionknnpajaaGreatDoorAb8
set_option linter.unusedVariables false
set_option linter.unusedSimpArgs false
namespace Go.Ab

structure Ent where
  i : Nat
  c : COper
  pend : List COper

def spanS : List COper → List COper × List COper
  | ⟨d, .s o, g⟩ :: r => (⟨d, .s o, g⟩ :: (spanS r).1, (spanS r).2)
  | ⟨d, .b z len zero parts, g⟩ :: r => (⟨d, .b z len zero parts, g⟩ :: (spanS r).1, (spanS r).2)
  | l => ([], l)

def COp.isS : COp → Bool
  | .s _ => true
  | .b .. => true
  | _ => false

def zipD : List Nat → List COper → Option (List Ent)
  | [], [] => some []
  | i :: is, c :: cs => if c.o.isS then none else (zipD is (spanS cs).2).map (⟨i, c, (spanS cs).1⟩ :: ·)
  | _, _ => none

def Ent.rd (x : Ent) : List Nat := (match x.c.o with
  | .p o => o.rd
  | .e o => o.rd
  | .s _ => []
  | .b .. => []) ++ gRd x.c.g

def Ent.mem (x : Ent) : Bool := match x.c.o with
  | .p o => o.mem
  | _ => false

def Ent.eff (x : Ent) : Bool := match x.c.o with
  | .e _ => true
  | _ => false

def Op.isAssign : Op → Bool
  | .assign _ => true
  | _ => false

/-- It may come ahead of what stands before it. -/
def Ent.P (ops : Array Oper) (x : Ent) : Bool := match x.c.o with
  | .p _ => match ops[x.i]? with
    | some o => !Op.isAssign o.op
    | none => false
  | _ => false

/-- It makes a block of its own: it may come late. -/
def Ent.A (x : Ent) : Bool := match x.c with
  | ⟨some _, .e (.alloc _), none⟩ => true
  | ⟨some _, .e (.bsl ..), _⟩ => true
  | _ => false

def eqAV : AV → AV → Bool
  | .bool a, .bool b => a == b
  | .int k a, .int j b => decide (k = j) && decide (a = b)
  | .str a, .str b => decide (a = b)
  | .nilp, .nilp => true
  | .psl [], .psl [] => true
  | .vn, .vn => true
  | .nilfn, .nilfn => true
  | .nilif, .nilif => true
  | .nilmp, .nilmp => true
  | _, _ => false

theorem eqAV_eq {a b : AV} (h : eqAV a b = true) : a = b := by
  unfold eqAV at h
  split at h <;> simp_all

def eqAVs : List AV → List AV → Bool
  | [], [] => true
  | a :: us, b :: bs => eqAV a b && eqAVs us bs
  | _, _ => false

theorem eqAVs_eq : ∀ {a b : List AV}, eqAVs a b = true → a = b
  | [], [], _ => rfl
  | a :: us, b :: bs, h => by
    simp only [eqAVs, Bool.and_eq_true] at h
    rw [eqAV_eq h.1, eqAVs_eq h.2]
  | [], _ :: _, h => by simp [eqAVs] at h
  | _ :: _, [], h => by simp [eqAVs] at h

def eqOpd : Opd → Opd → Bool
  | .s a, .s b => decide (a = b)
  | .c a, .c b => eqAV a b
  | _, _ => false

theorem eqOpd_eq {a b : Opd} (h : eqOpd a b = true) : a = b := by
  cases a <;> cases b <;> simp only [eqOpd] at h <;> first | (cases h; done) | skip
  · rw [of_decide_eq_true h]
  · rw [eqAV_eq h]

def eqParts : List (Nat × Nat × Opd) → List (Nat × Nat × Opd) → Bool
  | [], [] => true
  | (i, n, x) :: us, (j, m, y) :: bs => decide (i = j) && decide (n = m) && eqOpd x y && eqParts us bs
  | _, _ => false

theorem eqParts_eq : ∀ {a b : List (Nat × Nat × Opd)}, eqParts a b = true → a = b
  | [], [], _ => rfl
  | (i, n, x) :: us, (j, m, y) :: bs, h => by
    simp only [eqParts, Bool.and_eq_true, decide_eq_true_eq] at h
    obtain ⟨⟨⟨rfl, rfl⟩, h3⟩, h4⟩ := h
    rw [eqOpd_eq h3, eqParts_eq h4]
  | [], _ :: _, h => by simp [eqParts] at h
  | _ :: _, [], h => by simp [eqParts] at h

/-- The item that says ahead that a slice's parts are well formed. -/
def itemOK (x : Ent) (s : COper) : Bool := match x.c.o, s.o with
  | .e (.bsl z len zero parts), .b z' len' zero' parts' => decide (x.c.g = s.g) && decide (z = z') && decide (len = len') && eqAVs zero zero' && eqParts parts parts'
  | _, _ => false

/-- They are so whatever there is. -/
def bslStat (x : Ent) : Bool := match x.c.o with
  | .e (.bsl z len zero parts) => x.c.g.isNone && parts.all (fun p => p.2.2.rd.isEmpty) && (match evParts [] true parts with
      | some ps => (match buildV (fillV zero len) ps with
        | some cs => decide (cs.length = len * z) && cs.all AV.one
        | none => false)
      | none => false)
  | _ => true

def bslDyn (m : Nat) (x : Ent) : Bool → List Ent → Bool
  | ok, [] => ok
  | ok, v :: r => (ok || (v :: r).any fun v => !v.A && m.testBit v.i) && bslDyn m x (v.pend.any (itemOK x)) r

def bslAll (clo : List Nat) : List Ent → List Ent → Bool
  | _, [] => true
  | pre, x :: r => (!x.A || bslStat x || bslDyn (clo.getD x.i 0) x false pre) && bslAll clo (pre ++ [x]) r

def dOut (x : Ent) (l : List Nat) : Bool := match x.c.d with
  | some d => !(l.contains d)
  | none => true
def dNe (x y : Ent) : Bool := match x.c.d with
  | some d => decide (y.c.d ≠ some d)
  | none => true

def pendOK (P : Program) (ops : Array Oper) (n : Nat) (x : Ent) (s : COper) : Bool := match s.o, ops[x.i]? with
  | .s o, some op => (match x.c.d, s.d with | some d, some d' => decide (d = d') | _, _ => false) && chk1 P ops n op ⟨x.c.d, .p o, s.g⟩ && (o.rd ++ gRd s.g).all fun t => x.rd.contains t
  | _, _ => false

def pairOK (P : Program) (ops : Array Oper) (n : Nat) (clo : List Nat) (x y : Ent) : Bool :=
  decide (x.i ≠ y.i) && (!(y.P ops || y.A) || (dOut y x.rd && dNe y x)) && (!(x.A && y.A) || dOut x y.rd) &&
  ((clo.getD y.i 0).testBit x.i || ((x.P ops || y.A) && dOut x y.rd && dOut y x.rd && dNe x y && (!(x.mem && y.eff) || y.pend.any (pendOK P ops n x))))

def pairs (P : Program) (ops : Array Oper) (n : Nat) (clo : List Nat) : List Ent → Bool
  | [] => true
  | x :: r => r.all (pairOK P ops n clo x) && pairs P ops n clo r

def maskOf (o : Oper) (clo : List Nat) : Nat := o.after.toList.foldl (fun m e => if Region.binds .any e = true then m ||| (1 <<< e.on) ||| clo.getD e.on 0 else m) 0

def clos : List Oper → List Nat → List Nat
  | [], acc => acc
  | o :: r, acc => clos r (acc ++ [maskOf o acc])

def edgesOK (clo : List Nat) : Nat → List Oper → Bool
  | _, [] => true
  | j, o :: r => o.after.toList.all (fun e => !Region.binds .any e || decide (e.on < j)) && decide (clo.getD j 0 = maskOf o clo) && edgesOK clo (j + 1) r

def entOK (P : Program) (ops : Array Oper) (n : Nat) (x : Ent) : Bool :=
  (match ops[x.i]? with | some o => chk1 P ops n o x.c | none => false) && (!(x.P ops) || (match x.c.d with | some d => !(x.rd.contains d) | none => false))

def goodD (P : Program) (ops : Array Oper) (n : Nat) (clo : List Nat) (E : List Ent) : Bool :=
  decide (E.length = ops.size) && E.all (entOK P ops n) && pairs P ops n clo E && edgesOK clo 0 ops.toList && bslAll clo [] E && (List.range ops.size).all fun j => E.any fun x => decide (x.i = j)

def chkD (P : Program) (ops : Array Oper) (n : Nat) (L : List COper) (ord : List Nat) : Bool := match zipD ord L with
  | none => false
  | some E => P.follows .mixedOrders && goodD P ops n (clos ops.toList []) E

def stabs (st : St) : List COper → Prop
  | [] => True
  | ⟨d, .s o, g⟩ :: r => stabK st d o g ∧ stabs st r
  | ⟨_, .b z len zero parts, g⟩ :: r => bslG st.env z len zero parts g ∧ stabs st r
  | _ :: _ => False

def runE (P : Program) (Q0 : AExit → St → Prop) (keep : List Nat) : List Ent → St → Prop
  | [], st => Q0 .normal ⟨keepE st.env keep, st.h⟩
  | ⟨_, ⟨d, .p o, g⟩, pend⟩ :: r, st => pureK st o g fun v => stabs ⟨eput d v st.env, st.h⟩ pend ∧ runE P Q0 keep r ⟨eput d v st.env, st.h⟩
  | ⟨_, ⟨d, .e o, none⟩, pend⟩ :: r, st => o.wp P st (fun v h => stabs ⟨eput d v st.env, h⟩ pend ∧ runE P Q0 keep r ⟨eput d v st.env, h⟩) (fun v h => Q0 (.pan v) ⟨st.env, h⟩)
  | ⟨_, ⟨d, .e o, some g⟩, pend⟩ :: r, st => (guardB st.env (some g)).oK fun b =>
      (b = true → o.wp P st (fun v h => stabs ⟨eput d v st.env, h⟩ pend ∧ runE P Q0 keep r ⟨eput d v st.env, h⟩) (fun v h => Q0 (.pan v) ⟨st.env, h⟩)) ∧
      (b = false → stabs ⟨eput d (.cond false .dead) st.env, st.h⟩ pend ∧ runE P Q0 keep r ⟨eput d (.cond false .dead) st.env, st.h⟩)
  | ⟨_, ⟨_, .s _, _⟩, _⟩ :: _, _ => False
  | ⟨_, ⟨_, .b .., _⟩, _⟩ :: _, _ => False

theorem onRet_mono {K K' Kp : AV → Heap → Prop} (hk : ∀ v h, K v h → K' v h) {r : AEnd} {h : Heap} (q : onRet K Kp r h) : onRet K' Kp r h := by
  cases r with
  | ret v => exact hk _ _ q
  | pan v => exact q

theorem oK_mono {α : Type} {x : Option α} {f g : α → Prop} (h : x.oK f) (hfg : ∀ a, f a → g a) : x.oK g := by
  cases x with
  | none => exact h
  | some a => exact hfg a h

theorem ownK_mono : ∀ {own : List (Nat × Nat)} {cs : List AV} {h : Heap} {K K' : List AV → Heap → Prop}, (∀ cs h, K cs h → K' cs h) → ownK own cs h K → ownK own cs h K'
  | [], _, _, _, _, hk, h => hk _ _ h
  | (k, z) :: r, cs, h, K, K', hk, hh => by
    simp only [ownK] at hh ⊢
    exact ⟨hh.1, fun s => ownK_mono hk (hh.2 s)⟩

theorem EOp.wp_mono {P : Program} {o : EOp} {st : St} {K K' Kp : AV → Heap → Prop} (hk : ∀ v h, K v h → K' v h) (h : o.wp P st K Kp) : o.wp P st K' Kp := by
  cases o <;> simp only [EOp.wp] at h ⊢
  case alloc => exact fun s => hk _ _ (h s)
  case vnil => exact fun s => hk _ _ (h s)
  case mkmap => exact fun s => hk _ _ (h s)
  case box => exact oK_mono h fun v q => ⟨q.1, fun s => hk _ _ (q.2 s)⟩
  case bslz => exact oK_mono h fun v q => oK_mono q fun v q => ⟨q.1, fun s => hk _ _ (q.2 s)⟩
  case bsl => exact oK_mono h fun v q => oK_mono q fun v q => ⟨q.1, fun s => hk _ _ (q.2 s)⟩
  case st => exact oK_mono h fun v q => oK_mono q fun v q => oK_mono q fun v q => hk _ _ q
  case stn => exact oK_mono h fun v q => oK_mono q fun v q => oK_mono q fun v q => oK_mono q fun v q => hk _ _ q
  case call => exact oK_mono h fun v ⟨R, q1, q2⟩ => ⟨R, q1, fun r h' q => onRet_mono hk (q2 r h' q)⟩
  case callv => exact oK_mono h fun v q => oK_mono q fun v q => oK_mono q fun v ⟨R, q1, q2⟩ => ⟨R, q1, fun r h' q => onRet_mono hk (q2 r h' q)⟩
  case app => exact oK_mono h fun v q => oK_mono q fun v q => oK_mono q fun v q => oK_mono q fun v q => oK_mono q fun v q => oK_mono q fun v q => ⟨q.1, fun s => hk _ _ (q.2 s)⟩
  case mapup => exact oK_mono h fun v q => oK_mono q fun v q => oK_mono q fun v q => oK_mono q fun v q => oK_mono q fun v q => oK_mono q fun v q => oK_mono q fun v q => ⟨q.1, hk _ _ q.2⟩
  case panic => exact h
  case rstr => exact oK_mono h fun v q => oK_mono q fun v q s => hk _ _ (q s)
  case nstr => exact oK_mono h fun v q => oK_mono q fun v q => oK_mono q fun v q => oK_mono q fun v q => ⟨q.1, fun g => hk _ _ (q.2.1 g), fun g => hk _ _ (q.2.2 g)⟩
  case isnil => exact oK_mono h fun v q => oK_mono q fun v q b g => hk _ _ (q b g)
  case clear => exact oK_mono h fun v q => oK_mono q fun v q => oK_mono q fun v q => oK_mono q fun v q => ⟨q.1, hk _ _ q.2⟩
  case allocv => exact ownK_mono (fun cs h q => ⟨q.1, fun s => hk _ _ (q.2 s)⟩) h
  case boxv => exact oK_mono h fun v q => ⟨q.1, ownK_mono (fun cs h q => ⟨q.1, fun s => hk _ _ (q.2 s)⟩) q.2⟩
  case stnv => exact oK_mono h fun v q => oK_mono q fun v q => oK_mono q fun v q => ownK_mono (fun cs h q => oK_mono q fun v q => hk _ _ q) q

section
variable {P : Program} {Q0 : AExit → St → Prop} {keep : List Nat}

theorem run_span : ∀ {cs : List COper} {st : St} {Kp : AV → St → Prop} {K : St → Prop}, runOps P Kp K cs st → stabs st (spanS cs).1 ∧ runOps P Kp K (spanS cs).2 st
  | [], st, _, _, h => ⟨trivial, h⟩
  | ⟨d, .s o, g⟩ :: r, st, _, _, h => by
    simp only [runOps] at h
    have ih := run_span h.2
    exact ⟨⟨h.1, ih.1⟩, ih.2⟩
  | ⟨d, .b z len zero parts, g⟩ :: r, st, _, _, h => by
    simp only [runOps] at h
    have ih := run_span h.2
    exact ⟨⟨h.1, ih.1⟩, ih.2⟩
  | ⟨d, .p o, g⟩ :: r, st, _, _, h => ⟨trivial, h⟩
  | ⟨d, .e o, g⟩ :: r, st, _, _, h => ⟨trivial, h⟩

theorem runE_of : ∀ {ord : List Nat} {L : List COper} {E : List Ent} {st : St}, zipD ord L = some E → runOps P (fun v st => Q0 (.pan v) st) (fun st => Q0 .normal ⟨keepE st.env keep, st.h⟩) L st → runE P Q0 keep E st
  | [], [], E, st, hz, h => by
    simp [zipD] at hz; subst hz
    exact h
  | [], _ :: _, _, _, hz, _ => by simp [zipD] at hz
  | _ :: _, [], _, _, hz, _ => by simp [zipD] at hz
  | i :: is, ⟨d, o, g⟩ :: cs, E, st, hz, h => by
    simp only [zipD] at hz
    split at hz
    · cases hz
    · rename_i hs
      simp only [Option.map_eq_some_iff] at hz
      obtain ⟨E', hz, rfl⟩ := hz
      have next : ∀ {st : St}, runOps P (fun v st => Q0 (.pan v) st) (fun st => Q0 .normal ⟨keepE st.env keep, st.h⟩) cs st → stabs st (spanS cs).1 ∧ runE P Q0 keep E' st := fun h => ⟨(run_span h).1, runE_of hz (run_span h).2⟩
      cases o with
      | s o => simp [COp.isS] at hs
      | b z len zero parts => simp [COp.isS] at hs
      | p o =>
        simp only [runE]
        cases g with
        | none => exact oK_mono h fun v q => next q
        | some g =>
          refine oK_mono h fun b q => ?_
          cases hv : o.ev st b with
          | none => rw [hv, gK_none] at q; rw [gK_none]; exact ⟨q.1, next q.2⟩
          | some v => rw [hv, gK_some] at q; rw [gK_some]; exact next q
      | e o =>
        cases g with
        | none => simp only [runE]; exact EOp.wp_mono (fun v h q => next q) h
        | some g =>
          simp only [runE]
          exact oK_mono h fun b q => ⟨fun hb => EOp.wp_mono (fun v h q => next q) (q.1 hb), fun hb => next (q.2 hb)⟩
end

/-! ### What the check says -/

structure Good (P : Program) (ops : Array Oper) (n : Nat) (clo : List Nat) (E : List Ent) : Prop where
  one : ∀ x ∈ E, ∃ o, ops[x.i]? = some o ∧ chk1 P ops n o x.c = true ∧ (x.P ops = true → ∃ d, x.c.d = some d ∧ d ∉ x.rd)
  pair : E.Pairwise fun x y => pairOK P ops n clo x y = true
  edge : ∀ j o, ops[j]? = some o → ∀ e ∈ o.after, Region.binds .any e = true → e.on < j
  bsl : ∀ pre x r, E = pre ++ x :: r → x.A = true → bslStat x = true ∨ ∀ d1 d2, pre = d1 ++ d2 → (∃ w, d1.getLast? = some w ∧ ∃ s ∈ w.pend, itemOK x s = true) ∨ ∃ v ∈ d2, v.A = false ∧ (clo.getD x.i 0).testBit v.i = true
  clo : ∀ j o, ops[j]? = some o → ∀ k, (clo.getD j 0).testBit k = true → ∃ e ∈ o.after, Region.binds .any e = true ∧ (k = e.on ∨ (clo.getD e.on 0).testBit k = true)
  all : ∀ j, j < ops.size → ∃ x ∈ E, x.i = j

theorem testBit_one {k j : Nat} (h : (1 <<< k).testBit j = true) : j = k := by
  rw [Nat.shiftLeft_eq, Nat.one_mul] at h
  by_cases hjk : k = j
  · exact hjk.symm
  · rw [Nat.testBit_two_pow] at h
    simp [hjk] at h

theorem fold_mask (clo : List Nat) (k : Nat) : ∀ (l : List Edge) (m : Nat), (l.foldl (fun m e => if Region.binds .any e = true then m ||| (1 <<< e.on) ||| clo.getD e.on 0 else m) m).testBit k = true →
    m.testBit k = true ∨ ∃ e ∈ l, Region.binds .any e = true ∧ (k = e.on ∨ (clo.getD e.on 0).testBit k = true)
  | [], m, h => .inl h
  | e :: l, m, h => by
    rw [List.foldl_cons] at h
    rcases fold_mask clo k l _ h with h | ⟨e', h1, h2⟩
    · split at h
      · rename_i hb
        rw [Nat.testBit_or, Nat.testBit_or, Bool.or_eq_true, Bool.or_eq_true] at h
        rcases h with (h | h) | h
        · exact .inl h
        · exact .inr ⟨e, by simp, hb, .inl (testBit_one h)⟩
        · exact .inr ⟨e, by simp, hb, .inr h⟩
      · exact .inl h
    · exact .inr ⟨e', by simp [h1], h2⟩

theorem edges_good {clo : List Nat} : ∀ {l : List Oper} {j0 : Nat}, edgesOK clo j0 l = true → ∀ j o, l[j]? = some o →
    (∀ e ∈ o.after, Region.binds .any e = true → e.on < j0 + j) ∧ clo.getD (j0 + j) 0 = maskOf o clo
  | [], _, _, j, o, hj => by simp at hj
  | x :: l, j0, h, j, o, hj => by
    simp only [edgesOK, Bool.and_eq_true, decide_eq_true_eq] at h
    obtain ⟨⟨h1, h2⟩, h3⟩ := h
    cases j with
    | zero =>
      simp at hj; subst hj
      refine ⟨fun e he hb => ?_, h2⟩
      have := List.all_eq_true.1 h1 e (by simpa using he)
      simpa [hb] using this
    | succ j =>
      simp at hj
      have := edges_good h3 j o hj
      rwa [show j0 + 1 + j = j0 + (j + 1) by omega] at this

theorem pairs_good {P : Program} {ops : Array Oper} {n : Nat} {clo : List Nat} : ∀ {E : List Ent}, pairs P ops n clo E = true → E.Pairwise fun x y => pairOK P ops n clo x y = true
  | [], _ => .nil
  | x :: r, h => by
    simp only [pairs, Bool.and_eq_true] at h
    exact .cons (fun y hy => List.all_eq_true.1 h.1 y hy) (pairs_good h.2)

theorem bslDyn_spec {m : Nat} {x : Ent} : ∀ {pre : List Ent} {ok : Bool}, bslDyn m x ok pre = true → ∀ d1 d2, pre = d1 ++ d2 → (match d1.getLast? with | some w => ∃ s ∈ w.pend, itemOK x s = true | none => ok = true) ∨ ∃ v ∈ d2, v.A = false ∧ m.testBit v.i = true
  | [], ok, h, d1, d2, e => by
    have := List.append_eq_nil_iff.1 e.symm
    obtain ⟨rfl, rfl⟩ := this
    exact .inl h
  | v :: r, ok, h, d1, d2, e => by
    simp only [bslDyn, Bool.and_eq_true, Bool.or_eq_true] at h
    cases d1 with
    | nil =>
      simp only [List.nil_append] at e
      subst e
      rcases h.1 with h1 | h1
      · exact .inl h1
      · obtain ⟨u, hu, h2⟩ := List.any_eq_true.1 h1
        simp only [Bool.and_eq_true, Bool.not_eq_true'] at h2
        exact .inr ⟨u, hu, h2.1, h2.2⟩
    | cons a d1 =>
      simp only [List.cons_append, List.cons.injEq] at e
      obtain ⟨rfl, rfl⟩ := e
      rcases bslDyn_spec h.2 d1 d2 rfl with h1 | h1
      · left
        cases d1 with
        | nil => simpa using h1
        | cons b d1 =>
          rw [List.getLast?_cons_cons]
          cases hg : (b :: d1).getLast? with
          | none => simp at hg
          | some w => rw [hg] at h1; exact h1
      · exact .inr h1

theorem bslAll_spec {clo : List Nat} : ∀ {l pre0 : List Ent}, bslAll clo pre0 l = true → ∀ pre x r, l = pre ++ x :: r → x.A = true → bslStat x = true ∨ ∀ d1 d2, pre0 ++ pre = d1 ++ d2 → (∃ w, d1.getLast? = some w ∧ ∃ s ∈ w.pend, itemOK x s = true) ∨ ∃ v ∈ d2, v.A = false ∧ (clo.getD x.i 0).testBit v.i = true
  | [], _, _, pre, x, r, e, _ => by simp at e
  | y :: l, pre0, h, pre, x, r, e, hA => by
    simp only [bslAll, Bool.and_eq_true, Bool.or_eq_true] at h
    cases pre with
    | nil =>
      simp only [List.nil_append, List.cons.injEq] at e
      obtain ⟨rfl, rfl⟩ := e
      rcases h.1 with (h1 | h1) | h1
      · rw [hA] at h1; cases h1
      · exact .inl h1
      · right
        intro d1 d2 e
        rw [List.append_nil] at e
        rcases bslDyn_spec h1 d1 d2 e with h2 | h2
        · left
          cases hg : d1.getLast? with
          | none => rw [hg] at h2; cases h2
          | some w => rw [hg] at h2; exact ⟨w, rfl, h2⟩
        · exact .inr h2
    | cons z pre =>
      simp only [List.cons_append, List.cons.injEq] at e
      obtain ⟨rfl, rfl⟩ := e
      have := bslAll_spec h.2 pre x r rfl hA
      simpa using this

theorem good_of {P : Program} {ops : Array Oper} {n : Nat} {clo : List Nat} {E : List Ent} (h : goodD P ops n clo E = true) : Good P ops n clo E := by
  simp only [goodD, Bool.and_eq_true] at h
  obtain ⟨⟨⟨⟨⟨_, h2⟩, h3⟩, h4⟩, h6⟩, h5⟩ := h
  refine ⟨fun x hx => ?_, pairs_good h3, fun j o hj e he hb => ?_, fun pre x r e hA => by simpa using bslAll_spec h6 pre x r e hA, fun j o hj k hk => ?_, fun j hj => ?_⟩
  · have := List.all_eq_true.1 h2 x hx
    simp only [entOK, Bool.and_eq_true] at this
    obtain ⟨h1, h2⟩ := this
    split at h1
    · rename_i o ho
      refine ⟨o, ho, h1, fun hp => ?_⟩
      rw [hp] at h2
      simp only [Bool.not_true, Bool.false_or] at h2
      split at h2
      · rename_i d hd
        exact ⟨d, hd, by simpa using h2⟩
      · cases h2
    · cases h1
  · have := (edges_good h4 j o (by simpa using hj)).1 e he hb
    omega
  · have := (edges_good h4 j o (by simpa using hj)).2
    rw [Nat.zero_add] at this
    rw [this] at hk
    unfold maskOf at hk
    rcases fold_mask clo k _ 0 hk with h | ⟨e, h1, h2⟩
    · simp at h
    · exact ⟨e, by simpa using h1, h2⟩
  · have := List.all_eq_true.1 h5 j (by simpa using hj)
    obtain ⟨x, hx, he⟩ := List.any_eq_true.1 this
    exact ⟨x, hx, by simpa using he⟩
end Go.Ab
