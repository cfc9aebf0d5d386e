/- The layer Ab, part 4: which code of the model a piece of LCode stands for (by a check that is run), and that the operations which leave memory as it is do what part 2 says. -/
import Derived.Test.YtghiionknnpajaaGreatDoorAb0
set_option linter.unusedVariables false
set_option linter.unusedSimpArgs false
namespace Go.Ab

/-! ### The check -/

def chkLeaf : Value → AV → Bool
  | .bool a, .bool b => a == b
  | .int k n, .int k' m => decide (k = k') && decide (n = m)
  | .string s, .str t => decide (s.data.toList = t)
  | .pointer none, .nilp => true
  | .slice none 0 0, .psl [] => true
  | .slice none 0 0, .vn => true
  | .map none, .nilmp => true
  | .nilFunc, .nilfn => true
  | .nilIface, .nilif => true
  | _, _ => false

def chkLeaves : List Value → List AV → Bool
  | [], [] => true
  | v :: vs, a :: us => chkLeaf v a && chkLeaves vs us
  | _, _ => false

def chkV : Value → AV → Bool
  | .agg xs, .agg ys => chkLeaves xs.toList ys
  | v, a => chkLeaf v a

def chkO : Operand → Opd → Bool
  | .tmp t, .s t' => decide (t = t')
  | .const v, .c a => chkV v a
  | .func f, .c (.fn g [] []) => decide (f = g)
  | _, _ => false

def chkOs : List Operand → List Opd → Bool
  | [], [] => true
  | x :: xs, y :: ys => chkO x y && chkOs xs ys
  | _, _ => false

def chkOo : Option Operand → Option Opd → Bool
  | none, none => true
  | some x, some y => chkO x y
  | _, _ => false

def aggB (P : Program) (t : TypeId) : Option Bool :=
  match P.underlying t with
  | some (.struct _) | some (.array _ _) => some true
  | some _ => some false
  | none => none

def sizeB (P : Program) (t : TypeId) : Option Nat := (P.info? t).map (·.size)

def isInt (P : Program) (t : TypeId) : Option IntKind :=
  match P.underlying t with
  | some (.int k) => some k
  | _ => none

def chkParts (place : Nat → Option (Nat × Nat)) : List (Nat × Operand) → List (Nat × Nat × Opd) → Bool
  | [], [] => true
  | (i, x) :: r, (off, sz, y) :: r' => decide (place i = some (off, sz)) && chkO x y && chkParts place r r'
  | _, _ => false

/-- Where a struct's fields lie. -/
def placesOf (P : Program) (fs : Array Field) : Option (Array (Nat × Nat)) :=
  (fs.toList.mapM fun f => (sizeB P f.type).map fun n => (f.offset, n)).map List.toArray

/-- The kinds of a type's cells, where it is an integer, a string, a bool, or a struct of such ('==' holds its cells against each other). -/
def leafFs (P : Program) (rec : TypeId → Option (List Nat)) : Nat → List Field → Option (List Nat)
  | _, [] => some []
  | off, f :: fs => if f.name ≠ "_" ∧ f.offset = off then (rec f.type).bind fun ks => if sizeB P f.type = some ks.length then (leafFs P rec (off + ks.length) fs).bind fun r => some (ks ++ r) else none else none

def leafKs (P : Program) : Nat → TypeId → Option (List Nat)
  | 0, _ => none
  | n + 1, t => match P.underlying t with
    | some (.int _) => some [0]
    | some .string => some [1]
    | some .bool => some [2]
    | some (.struct fs) => if P.stoodInHeld t then none else leafFs P (leafKs P n) 0 fs.toList
    | _ => none

def eqTyB (P : Program) (t : TypeId) (k : EqK) : Bool := match P.underlying t, k with
  | some .bool, .bool => true
  | some (.pointer _), .ptr => true
  | some (.interface _), .iface => true
  | some (.func _ _ _), .fn => true
  | some (.map _ _), .map => true
  | some (.struct _), .agg ks => decide (leafKs P 20 t = some ks) && decide (P.eqGuardType P.depth t = false)
  | _, _ => false

def keyTy (P : Program) (k : TypeId) (kk : Nat) : Bool := match P.underlying k, kk with
  | some (.int _), 0 => true
  | some .string, 1 => true
  | some .bool, 2 => true
  | _, _ => false

def chkP (P : Program) (o : Oper) (p : POp) : Bool :=
  match o.op, p with
  | .move x, .mv y | .assign x, .mv y => chkO x y
  | .pick c a b, .pick c' a' b' => chkO c c' && chkO a a' && chkO b b'
  | .load t a, .ld a' => decide (aggB P t = some false) && chkO a a'
  | .load t a, .ldn n a' => decide (aggB P t = some true) && decide (sizeB P t = some n) && chkO a a'
  | .nilCheck x, .nilc y => chkO x y
  | .binOp op _ x y _, .bin op' x' y' => decide (op = op') && chkO x x' && chkO y y'
  | .unOp op _ x, .un op' x' => decide (op = op') && chkO x x'
  | .convert src dst x, .cvt k x' => (isInt P src).isSome && decide (isInt P dst = some k) && chkO x x'
  | .makeInterface t x, .mkif t' x' => decide (t = t') && (match P.underlying t with | some (.interface _) => false | some _ => true | none => false) && chkO x x'
  | .makeFunc fn a b, .mkfn f' a' b' => (match fn with | .func f => decide (f = f') | _ => false) && chkOs a.toList a' && chkOs b.toList b'
  | .fieldAddr s x f, .foff n x' => (match P.underlying s with
      | some (.struct fs) => (match fs[f]? with | some fl => decide (fl.offset = n) && (match P.info? fl.type with | some i => decide (i.size ≠ 0) | none => false) | none => false)
      | _ => false) && chkO x x'
  | .field t x f, .fld off x' => (match P.underlying t with
      | some (.struct fs) => (match fs[f]? with | some fl => decide (fl.offset = off) && decide (aggB P fl.type = some false) | none => false)
      | _ => false) && chkO x x'
  | .field t x f, .fldn off n x' => (match P.underlying t with
      | some (.struct fs) => (match fs[f]? with | some fl => decide (fl.offset = off) && decide (aggB P fl.type = some true) && decide (sizeB P fl.type = some n) | none => false)
      | _ => false) && chkO x x'
  | .indexAddr t x i, .iadr z x' i' => (match P.underlying t with | some (.slice e) => decide (sizeB P e = some z) | _ => false) && chkO x x' && chkO i i'
  | .indexAddr t x i, .iarr len z x' i' => (match P.underlying t with | some (.array n e) => decide (n = len) && decide (sizeB P e = some z) | _ => false) && chkO x x' && chkO i i'
  | .index t x i, .idxs x' i' => (match P.underlying t with | some .string => true | _ => false) && chkO x x' && chkO i i'
  | .extract x i, .ext x' i' => decide (i = i') && chkO x x'
  | .call c, .lens x => (match c.callee, c.args.toList, c.argTypes.toList with
      | .builtin .len, [a], [t] => (match P.underlying t with | some .string => true | _ => false) && chkO a x
      | _, _, _ => false)
  | .call c, .lenl x => (match c.callee, c.args.toList, c.argTypes.toList with
      | .builtin .len, [a], [t] => (match P.underlying t with | some (.slice _) => true | _ => false) && chkO a x
      | _, _, _ => false)
  | .call c, .lenm x => (match c.callee, c.args.toList, c.argTypes.toList with
      | .builtin .len, [a], [t] => (match P.underlying t with | some (.map _ _) => true | _ => false) && chkO a x
      | _, _, _ => false)
  | .slice t x lo hi mx, .slcs x' lo' hi' mx' => (match P.underlying t with | some .string => true | _ => false) && chkO x x' && chkOo lo lo' && chkOo hi hi' && chkOo mx mx'
  | .slice t x lo hi mx, .slcl z x' lo' hi' mx' => (match P.underlying t with | some (.slice e) => decide (sizeB P e = some z) | _ => false) && decide (mx'.isSome = true → hi'.isSome = true) && chkO x x' && chkOo lo lo' && chkOo hi hi' && chkOo mx mx'
  | .lookup t x i ok, .look kk ok' zero x' i' => (match P.underlying t with
      | some (.map k e) => keyTy P k kk && (match (P.info? e).bind (·.zero) with | some zv => chkV zv zero | none => false)
      | _ => false) && decide (ok = ok') && chkO x x' && chkO i i'
  | .call c, .mmax x y => (match c.callee, c.args.toList with
      | .builtin .max, [a, b] => chkO a x && chkO b y
      | _, _ => false)
  | .call c, .mmin x y => (match c.callee, c.args.toList with
      | .builtin .min, [a, b] => chkO a x && chkO b y
      | _, _ => false)
  | .binOp op t x y _, .eqk neg k x' y' => (match op with | .eql => !neg | .neq => neg | _ => false) && eqTyB P t k && chkO x x' && chkO y y'
  | .build t parts, .build zero parts' => (match P.underlying t, (P.info? t).bind (·.zero) with
      | some (.struct fs), some zv => chkLeaves zv.cells.toList zero && (match placesOf P fs with | some pl => chkParts (pl[·]?) parts.toList parts' | none => false)
      | some (.array _ e), some zv => chkLeaves zv.cells.toList zero && (match sizeB P e with | some sz => chkParts (fun i => some (i * sz, sz)) parts.toList parts' | none => false)
      | _, _ => false)
  | .convert src dst x, .b2s x' => (match P.underlying src, P.underlying dst with
      | some (.slice e), some .string => decide (isInt P e = some .u8) && decide (sizeB P e = some 1)
      | _, _ => false) && chkO x x'
  | _, _ => false

/-! ### Values -/

structure ERel (C : Ctx) (w : World) (env : Env) (tmps : Array Value) : Prop where
  slot : ∀ t, vrel C w (eget env t) (tmps.getD t undef)

section
variable {C : Ctx} {w : World}

theorem chkLeaf_sound : ∀ {v : Value} {a : AV}, chkLeaf v a = true → vrel C w a v ∧ a.one = true := by
  intro v a h
  unfold chkLeaf at h
  split at h <;> simp_all [vrel, AV.one]
  obtain rfl := h
  rfl

theorem chkLeaves_sound : ∀ {vs : List Value} {us : List AV}, chkLeaves vs us = true → vrels C w us vs
  | [], [], _ => by simp [vrels]
  | v :: vs, a :: us, h => by
    simp only [chkLeaves, Bool.and_eq_true] at h
    simp only [vrels]
    exact ⟨v, vs, rfl, (chkLeaf_sound h.1).1, chkLeaves_sound h.2⟩
  | [], _ :: _, h => by simp [chkLeaves] at h
  | _ :: _, [], h => by simp [chkLeaves] at h

theorem chkV_sound {v : Value} {a : AV} (h : chkV v a = true) : vrel C w a v := by
  unfold chkV at h
  split at h
  · simp only [vrel]; exact ⟨_, rfl, chkLeaves_sound h⟩
  · exact (chkLeaf_sound h).1

theorem chkO_sound {x : Operand} {y : Opd} {env : Env} {a : Act} (h : chkO x y = true) (he : ERel C w env a.tmps) : vrel C w (y.val env) (a.eval x) := by
  unfold chkO at h
  split at h
  · simp at h; subst h; exact he.slot _
  · exact chkV_sound h
  · simp at h
    subst h
    simp only [Opd.val, Act.eval, vrel]
    exact ⟨#[], #[], rfl, by simp [vrels], by simp [vrels]⟩
  · cases h

theorem under_sound {g : Bool} {x v : AV} {y : Value} (h : AV.under g x = some v) (hg : g = true) (hr : vrel C w x y) : vrel C w v y := by
  unfold AV.under at h
  split at h
  · rename_i c v'
    split at h
    · rename_i hc
      simp at h
      subst h
      subst hg
      rw [impB_of_true] at hc
      simp only [vrel] at hr
      exact hr.1 hc
    · cases h
  · cases h
  · simp at h; subst h; exact hr

theorem ev_sound {x : Operand} {y : Opd} {env : Env} {a : Act} {g : Bool} {v : AV} (hx : chkO x y = true) (he : ERel C w env a.tmps) (h : y.ev env g = some v) (hg : g = true) : vrel C w v (a.eval x) :=
  under_sound h hg (chkO_sound hx he)

theorem ob_eq_some {α β : Type} {x : Option α} {f : α → Option β} {b : β} (h : x.ob f = some b) : ∃ a, x = some a ∧ f a = some b := by
  cases x with
  | none => simp [ob_none] at h
  | some a => exact ⟨a, rfl, h⟩

theorem evs_sound {env : Env} {a : Act} {g : Bool} (he : ERel C w env a.tmps) (hg : g = true) : ∀ {xs : List Operand} {ys : List Opd} {vs : List AV}, chkOs xs ys = true → evs env g ys = some vs → vrels C w vs (xs.map a.eval)
  | [], [], vs, _, h => by simp [evs] at h; subst h; simp [vrels]
  | x :: xs, y :: ys, vs, hc, h => by
    simp only [chkOs, Bool.and_eq_true] at hc
    simp only [evs] at h
    obtain ⟨v, h1, h⟩ := ob_eq_some h
    obtain ⟨vs', h2, h⟩ := ob_eq_some h
    simp at h
    subst h
    simp only [vrels, List.map_cons]
    exact ⟨_, _, rfl, ev_sound hc.1 he h1 hg, evs_sound he hg hc.2 h2⟩
  | [], _ :: _, _, hc, _ => by simp [chkOs] at hc
  | _ :: _, [], _, hc, _ => by simp [chkOs] at hc

theorem run_aggB {P : Program} {t : TypeId} {b : Bool} (h : aggB P t = some b) (w : World) : (isAgg t).run P w = .ok b w := by
  unfold aggB at h
  split at h
  · rename_i fs hu
    simp at h; subst h
    simp [isAgg, run_underlying hu]
  · rename_i n e hu
    simp at h; subst h
    simp [isAgg, run_underlying hu]
  · rename_i d h1 h2 hu
    simp at h; subst h
    simp only [isAgg, Sem.run_bind, run_underlying hu, Result.andThen_ok]
    cases d <;> first | exact absurd rfl (h1 _) | exact absurd rfl (h2 _ _) | rfl
  · cases h

theorem run_sizeB {P : Program} {t : TypeId} {n : Nat} (h : sizeB P t = some n) (w : World) : (sizeOf t).run P w = .ok n w := by
  unfold sizeB at h
  cases hi : P.info? t with
  | none => simp [hi] at h
  | some i => simp [hi] at h; simp [sizeOf, typeInfo, hi, h]

theorem oneCell_of {v : AV} {y : Value} (h : vrel C w v y) (h1 : v.one = true) : y.oneCell' = true := by
  cases v <;> simp [AV.one] at h1 <;> simp only [vrel] at h
  case ptr => obtain ⟨_, ⟨_, rfl⟩, _⟩ := h; rfl
  case sl => obtain ⟨_, ⟨_, _, _, rfl⟩, _⟩ := h; rfl
  case mp => obtain ⟨_, ⟨_, rfl⟩, _⟩ := h; rfl
  case it => obtain ⟨_, ⟨_, rfl⟩, _⟩ := h; rfl
  case pptr => obtain ⟨_, _, rfl, _⟩ := h; rfl
  case psl => obtain ⟨_, _, rfl, _⟩ := h; rfl
  case fn => obtain ⟨_, _, rfl, _⟩ := h; rfl
  case iface => obtain ⟨_, rfl, _⟩ := h; rfl
  all_goals (subst h; rfl)

/-- A row of an object of one's own, in memory. -/
theorem row_sound {h : Heap} (H : HRel C w h) {l s i off : Nat} {cs : List AV} {y : Value} (hr : vrel C w (.ptr l s i off) y) (hrow : h.row l s i = some cs) :
    ∃ b o, y = .pointer (some ⟨b, o + off, none⟩) ∧ ∀ (j : Nat) (v : AV), cs[j]? = some v → ∃ z, w.cell? ⟨b, o + j, none⟩ = some z ∧ vrel C w v z := by
  unfold Heap.row at hrow
  obtain ⟨o, ho, hrow⟩ := ob_eq_some hrow
  have hobj := H.obj l o ho
  cases o <;> simp only [AObj.row] at hrow
  case arr s' imm z es =>
    split at hrow
    · rename_i hs
      subst hs
      simp only [orel] at hobj
      obtain ⟨hlt, ob, hm, hob⟩ := hobj
      simp only [vrel] at hr
      cases ob with
      | none => simp only at hob; subst hob; simp at hrow
      | some b =>
        obtain ⟨arr, t, hb, hsz, hok, hes⟩ := hob
        obtain ⟨hl, hcells⟩ := hes i cs hrow
        refine ⟨b, i * z, hr.2.2 b z hm, fun j v hj => ?_⟩
        obtain ⟨y', hy, _, hv⟩ := hcells j v hj
        exact ⟨y', by rw [cell_of_row w b _ arr t (0, 0) hb]; exact hy, hv⟩
    · cases hrow
  all_goals cases hrow

theorem load_sound {h : Heap} (H : HRel C w h) {p v : AV} {y : Value} (hr : vrel C w p y) (hl : loadV h p = some v) :
    ∃ b o z, y = .pointer (some ⟨b, o, none⟩) ∧ w.cell? ⟨b, o, none⟩ = some z ∧ vrel C w v z := by
  cases p <;> simp only [loadV] at hl
  case ptr l s i off =>
    obtain ⟨cs, h1, h2⟩ := ob_eq_some hl
    obtain ⟨b, o, rfl, hc⟩ := row_sound H hr h1
    obtain ⟨z, hz, hv⟩ := hc off v h2
    exact ⟨b, o + off, z, rfl, hz, hv⟩
  case pptr cs off =>
    simp only [vrel] at hr
    obtain ⟨b, o, rfl, hm⟩ := hr
    obtain ⟨_, z, hz, hv⟩ := hm.get hl
    exact ⟨b, o + off, z, rfl, hz, hv⟩
  all_goals cases hl

theorem cutL_some {α : Type} {off n : Nat} {cs r : List α} (h : cutL off n cs = some r) : off + n ≤ cs.length ∧ r = (cs.drop off).take n := by
  unfold cutL at h
  split at h
  · rename_i hh; simp at h; exact ⟨hh, h.symm⟩
  · cases h

theorem cutL_get {α : Type} {off n : Nat} {cs r : List α} (h : cutL off n cs = some r) : r.length = n ∧ ∀ j v, r[j]? = some v → cs[off + j]? = some v := by
  obtain ⟨h1, rfl⟩ := cutL_some h
  refine ⟨by simp; omega, fun j v hj => ?_⟩
  rw [List.getElem?_take] at hj
  split at hj
  · simpa using hj
  · cases hj

theorem addr_add (b o j : Nat) : (⟨b, o, none⟩ : Addr).add j = ⟨b, o + j, none⟩ := by unfold Addr.add; split <;> simp_all

/-- Cells one by one: a list of values that lie from a place on. -/
theorem cells_list {b o : Nat} : ∀ {r : List AV}, (∀ (j : Nat) (v : AV), r[j]? = some v → ∃ z, w.cell? ⟨b, o + j, none⟩ = some z ∧ vrel C w v z) →
    ∃ ys : List Value, ys.length = r.length ∧ vrels C w r ys ∧ ∀ (j : Nat) (y : Value), ys[j]? = some y → w.cell? ⟨b, o + j, none⟩ = some y := by
  intro r
  induction r generalizing o with
  | nil => exact fun _ => ⟨[], rfl, by simp [vrels], by simp⟩
  | cons v r ih =>
    intro h
    obtain ⟨z, hz, hv⟩ := h 0 v rfl
    obtain ⟨ys, h1, h2, h3⟩ := ih (o := o + 1) fun j v hj => by
      have := h (j + 1) v (by simpa using hj)
      rwa [show o + (j + 1) = o + 1 + j by omega] at this
    refine ⟨z :: ys, by simp [h1], by simp only [vrels]; exact ⟨z, ys, rfl, hv, h2⟩, fun j y hj => ?_⟩
    cases j with
    | zero => simp at hj; subst hj; exact hz
    | succ j =>
      have := h3 j y (by simpa using hj)
      rwa [show o + (j + 1) = o + 1 + j by omega]

theorem loadCells_sound {P : Program} {b o : Nat} {r : List AV} (h : ∀ (j : Nat) (v : AV), r[j]? = some v → ∃ z, w.cell? ⟨b, o + j, none⟩ = some z ∧ vrel C w v z) :
    ∃ ys : List Value, (loadCells ⟨b, o, none⟩ r.length).run P w = .ok ys.toArray w ∧ vrels C w r ys := by
  obtain ⟨ys, h1, h2, h3⟩ := cells_list h
  refine ⟨ys, ?_, h2⟩
  rw [← h1]
  exact run_loadCells_list w _ ys fun j v hj => by rw [addr_add]; exact h3 j v hj

theorem loadN_sound {P : Program} {h : Heap} (H : HRel C w h) {p v : AV} {y : Value} {n : Nat} (hr : vrel C w p y) (hl : loadN n h p = some v) :
    ∃ b o, y = .pointer (some ⟨b, o, none⟩) ∧ ∃ ys : List Value, (loadCells ⟨b, o, none⟩ n).run P w = .ok ys.toArray w ∧ vrel C w v (.agg ys.toArray) := by
  have key : ∀ {b o : Nat} {cs r : List AV} {off : Nat}, (∀ (j : Nat) (v : AV), cs[j]? = some v → ∃ z, w.cell? ⟨b, o + j, none⟩ = some z ∧ vrel C w v z) → cutL off n cs = some r →
      ∃ ys : List Value, (loadCells ⟨b, o + off, none⟩ n).run P w = .ok ys.toArray w ∧ vrel C w (.agg r) (.agg ys.toArray) := by
    intro b o cs r off hc hcut
    obtain ⟨hlen, hget⟩ := cutL_get hcut
    obtain ⟨ys, h1, h2⟩ := loadCells_sound (P := P) (b := b) (o := o + off) (r := r) fun j v hj => by
      have := hc (off + j) v (hget j v hj)
      rwa [← Nat.add_assoc] at this
    rw [hlen] at h1
    exact ⟨ys, h1, by simp only [vrel]; exact ⟨_, rfl, h2⟩⟩
  cases p <;> simp only [loadN] at hl
  case ptr l s i off =>
    obtain ⟨cs, h1, h2⟩ := ob_eq_some hl
    obtain ⟨r, h3, h4⟩ := ob_eq_some h2
    simp at h4
    subst h4
    obtain ⟨b, o, rfl, hc⟩ := row_sound H hr h1
    exact ⟨b, o + off, rfl, key hc h3⟩
  case pptr cs off =>
    obtain ⟨r, h3, h4⟩ := ob_eq_some hl
    simp at h4
    subst h4
    simp only [vrel] at hr
    obtain ⟨b, o, rfl, hm⟩ := hr
    exact ⟨b, o + off, rfl, key (fun j v hj => (hm.get hj).2) h3⟩
  all_goals cases hl

theorem sel_sound {p : Bool} {x y v : AV} {a b : Value} (h : selV p x y = some v) (hx : p = true → vrel C w x a) (hy : p = false → vrel C w y b) : vrel C w v (if p then a else b) := by
  unfold selV at h
  split at h
  · simp at h; subst h
    cases p <;> simp only [vrel] at * <;> simp_all
  · split at h
    · rename_i hk; subst hk; simp at h; subst h
      cases p <;> simp only [vrel] at * <;> simp_all
    · cases h
  · simp at h; subst h
    cases p <;> simp only [vrel] at * <;> simp_all
  · cases p
    · simp only [cond_false, Option.some.injEq] at h; subst h; exact hy rfl
    · simp only [cond_true, Option.some.injEq] at h; subst h; exact hx rfl

theorem bin_sound {P : Program} {op : BinOp} {t : TypeId} {xo yo : Operand} {x y v : AV} {a b : Value} (h : binV op x y = some v) (hx : vrel C w x a) (hy : vrel C w y b) :
    ∃ z, (do eqGuard op t xo yo a b; binOp op t a b : Sem Value).run P w = .ok z w ∧ vrel C w v z := by
  unfold binV at h
  split at h
  · rename_i k n k' m
    simp only [vrel] at hx hy
    subst hx; subst hy
    have hg : (eqGuard op t xo yo (.int k n) (.int k' m)).run P w = .ok () w := by cases op <;> simp [eqGuard]
    simp only [Sem.run_bind, hg, Result.andThen_ok]
    cases op
    case shl => simp only [shV] at h; split at h; · cases h
                rename_i hb; simp at h; subst h; simp [binOp, Op.shift, hb, vrel]
    case shr => simp only [shV] at h; split at h; · cases h
                rename_i hb; simp at h; subst h; simp [binOp, Op.shift, hb, vrel]
    all_goals
      simp only at h
      split at h
      case isFalse => cases h
      rename_i hk
      subst hk
      simp only [binInt] at h
    all_goals first
      | (simp at h; subst h; simp [binOp, Op.intArith, Op.intBits, Op.intCmp, vrel]; done)
      | (split at h
         · cases h
         · rename_i hb; simp at h; subst h; simp [binOp, Op.intDiv, hb, vrel]; done)
      | cases h
  · rename_i s t'
    simp only [vrel] at hx hy
    subst hx; subst hy
    have hg : (eqGuard op t xo yo (.string ⟨s.toArray⟩) (.string ⟨t'.toArray⟩)).run P w = .ok () w := by cases op <;> simp [eqGuard]
    simp only [Sem.run_bind, hg, Result.andThen_ok]
    cases op <;> simp [binStr] at h <;> subst h <;> simp [binOp, Op.stringOp, vrel, ByteArray.toList_eq]
  · cases h

theorem un_sound {P : Program} {op : UnOp} {x v : AV} {a : Value} (h : unV op x = some v) (hx : vrel C w x a) : ∃ z, (Op.unary op a).run P w = .ok z w ∧ vrel C w v z := by
  unfold unV at h
  split at h
  · simp only [vrel] at hx; subst hx
    cases op <;> simp at h
    subst h; exact ⟨_, rfl, by simp [vrel]⟩
  · simp only [vrel] at hx; subst hx
    cases op <;> simp at h <;> subst h
    · exact ⟨_, rfl, by simp [vrel]⟩
    · exact ⟨_, rfl, by simp [vrel]⟩
  · cases h

theorem foff_sound {P : Program} {n f : Nat} {t : TypeId} {x v : AV} {a : Value} (hc : (match P.underlying t with
      | some (.struct fs) => (match fs[f]? with | some fl => decide (fl.offset = n) && (match P.info? fl.type with | some i => decide (i.size ≠ 0) | none => false) | none => false)
      | _ => false) = true) (h : foffV n x = some v) (hx : vrel C w x a) : ∃ z, (Instr.fieldAt t a f).run P w = .ok z w ∧ vrel C w v z := by
  split at hc
  · rename_i fs hu
    split at hc
    · rename_i fl hf
      simp only [Bool.and_eq_true, decide_eq_true_eq] at hc
      obtain ⟨ho, hi⟩ := hc
      split at hi
      · rename_i i hinfo
        simp at hi
        have hs : (sizeOf fl.type).run P w = .ok i.size w := by simp [sizeOf, typeInfo, hinfo]
        have run : ∀ ad : Addr, (Instr.fieldAt t (.pointer (some ad)) f).run P w = .ok (.pointer (some (ad.add n))) w := by
          intro ad
          simp [Instr.fieldAt, run_underlying hu, hf, Instr.sureAddr, fieldPlace, hs, hi, ho]
        cases x <;> simp only [foffV] at h
        case ptr l s j off =>
          simp at h; subst h
          simp only [vrel] at hx
          obtain ⟨h1, ⟨ad, rfl⟩, h3⟩ := hx
          refine ⟨_, run ad, ?_⟩
          simp only [vrel]
          refine ⟨h1, ⟨_, rfl⟩, fun b z hm => ?_⟩
          have := h3 b z hm
          simp at this
          subst this
          rw [addr_add, Nat.add_assoc]
        case pptr cs off =>
          simp at h; subst h
          simp only [vrel] at hx
          obtain ⟨b, o, rfl, hm⟩ := hx
          refine ⟨_, run _, ?_⟩
          simp only [vrel]
          exact ⟨b, o, by rw [addr_add, Nat.add_assoc], hm⟩
        all_goals cases h
      · cases hi
    · cases hc
  · cases hc

theorem iadr_sound {P : Program} {h : Heap} (H : HRel C w h) {z : Nat} {t : TypeId} {x i v : AV} {a c : Value} (hc : (match P.underlying t with | some (.slice e) => decide (sizeB P e = some z) | _ => false) = true)
    (h1 : iadrV h z x i = some v) (hx : vrel C w x a) (hi : vrel C w i c) : ∃ y, (Instr.indexAt t a c).run P w = .ok y w ∧ vrel C w v y := by
  split at hc
  · rename_i e hu
    simp at hc
    have hs := fun w => run_sizeB hc w
    unfold iadrV at h1
    split at h1
    · rename_i es k n
      simp only [vrel] at hi hx
      subst hi
      obtain ⟨ad, cap, rfl, hcap, hes⟩ := hx
      split at h1
      · rename_i hn
        obtain ⟨r, hr, h1⟩ := ob_eq_some h1
        split at h1
        · rename_i hl
          simp at h1; subst h1
          have hlt : n.toNat < es.length := by
            rcases Nat.lt_or_ge n.toNat es.length with h' | h'
            · exact h'
            · simp [List.getElem?_eq_none h'] at hr
          rcases hes with rfl | ⟨b, o, z', rfl, hv⟩
          · simp at hlt
          · obtain ⟨e1, e2⟩ := hv.get hr
            have hz : z' = z := e1.symm.trans hl
            subst hz
            refine ⟨.pointer (some ⟨b, o + n.toNat * z', none⟩), ?_, ?_⟩
            · have hlt' : n < (es.length : Int) := by omega
              simp [Instr.indexAt, asIntOf, run_underlying hu, hn, hlt', hs, addr_add]
            · simp only [vrel]; exact ⟨b, o + n.toNat * z', by simp, e2⟩
        · cases h1
      · cases h1
    · rename_i l s j m k n
      simp only [vrel] at hi
      subst hi
      split at h1
      · rename_i hn
        obtain ⟨r, hr, h1⟩ := ob_eq_some h1
        split at h1
        · rename_i hl
          simp at h1; subst h1
          simp only [vrel] at hx
          obtain ⟨q1, ⟨a', m', c', rfl⟩, q3⟩ := hx
          unfold Heap.row at hr
          obtain ⟨o, ho, hrow⟩ := ob_eq_some hr
          have hobj := H.obj l o ho
          cases o <;> simp only [AObj.row] at hrow
          case arr s' imm z' es =>
            split at hrow
            · rename_i hss
              subst hss
              simp only [orel] at hobj
              obtain ⟨hlt, ob, hm, hob⟩ := hobj
              cases ob with
              | none => simp only at hob; subst hob; simp at hrow
              | some b =>
                obtain ⟨arr, t', hb, hsz, hok, hes⟩ := hob
                obtain ⟨hl', hcells⟩ := hes _ _ hrow
                have hz : z' = z := hl'.symm.trans hl
                subst hz
                obtain ⟨cap, e1, e2, _⟩ := q3 (some b) z' hm
                simp at e1
                obtain ⟨rfl, rfl, rfl⟩ := e1
                refine ⟨.pointer (some ⟨b, j * z' + n.toNat * z', none⟩), ?_, ?_⟩
                · simp [Instr.indexAt, asIntOf, run_underlying hu, hn.1, hn.2, hs, addr_add]
                · simp only [vrel]
                  refine ⟨q1, ⟨_, rfl⟩, fun b' z'' hm' => ?_⟩
                  rw [hm] at hm'
                  simp at hm'
                  obtain ⟨rfl, rfl⟩ := hm'
                  rw [Nat.add_mul]; simp
            · cases hrow
          all_goals cases hrow
        · cases h1
      · cases h1
    · cases h1
  · cases hc

theorem iarr_sound {P : Program} {len z : Nat} {t : TypeId} {x i v : AV} {a c : Value} (hc : (match P.underlying t with | some (.array n e) => decide (n = len) && decide (sizeB P e = some z) | _ => false) = true)
    (h1 : iarrV len z x i = some v) (hx : vrel C w x a) (hi : vrel C w i c) : ∃ y, (Instr.indexAt t a c).run P w = .ok y w ∧ vrel C w v y := by
  split at hc
  · rename_i m e hu
    simp only [Bool.and_eq_true, decide_eq_true_eq] at hc
    obtain ⟨rfl, hz⟩ := hc
    have hs := fun w => run_sizeB hz w
    have run : ∀ (ad : Addr) (k : IntKind) (n : Int), 0 ≤ n ∧ n < (m : Int) → (Instr.indexAt t (.pointer (some ad)) (.int k n)).run P w = .ok (.pointer (some (ad.add (n.toNat * z)))) w := by
      intro ad k n hn
      simp [Instr.indexAt, asIntOf, run_underlying hu, hn.1, hn.2, hs, Instr.sureAddr]
    unfold iarrV at h1
    split at h1
    · rename_i l s j off k n
      simp only [vrel] at hi hx
      subst hi
      obtain ⟨q1, ⟨ad, rfl⟩, q3⟩ := hx
      split at h1
      · rename_i hn
        simp at h1; subst h1
        refine ⟨_, run ad k n hn, ?_⟩
        simp only [vrel]
        refine ⟨q1, ⟨_, rfl⟩, fun b z' hm => ?_⟩
        have := q3 b z' hm
        simp at this
        subst this
        rw [addr_add, Nat.add_assoc]
      · cases h1
    · rename_i cs off k n
      simp only [vrel] at hi hx
      subst hi
      obtain ⟨b, o, rfl, hm⟩ := hx
      split at h1
      · rename_i hn
        simp at h1; subst h1
        refine ⟨_, run _ k n hn, ?_⟩
        simp only [vrel]
        exact ⟨b, o, by rw [addr_add, Nat.add_assoc], hm⟩
      · cases h1
    · cases h1
  · cases hc

theorem fld_sound {P : Program} {off f : Nat} {t : TypeId} {x v : AV} {a : Value} (hc : (match P.underlying t with
      | some (.struct fs) => (match fs[f]? with | some fl => decide (fl.offset = off) && decide (aggB P fl.type = some false) | none => false)
      | _ => false) = true) (h : fldV off x = some v) (hx : vrel C w x a) : ∃ z, (Instr.field t a f).run P w = .ok z w ∧ vrel C w v z := by
  split at hc
  · rename_i fs hu
    split at hc
    · rename_i fl hf
      simp only [Bool.and_eq_true, decide_eq_true_eq] at hc
      obtain ⟨ho, hagg⟩ := hc
      cases x <;> simp only [fldV] at h
      case agg cs =>
        simp only [vrel] at hx
        obtain ⟨xs, rfl, hv⟩ := hx
        obtain ⟨y, hy, hr⟩ := hv.get h
        refine ⟨y, ?_, hr⟩
        have hy' : xs[off]? = some y := by simpa using hy
        simp [Instr.field, run_underlying hu, hf, part, run_aggB hagg, ho, hy', Go.asAgg]
      all_goals cases h
    · cases hc
  · cases hc

theorem fldn_sound {P : Program} {off f n : Nat} {t : TypeId} {x v : AV} {a : Value} (hc : (match P.underlying t with
      | some (.struct fs) => (match fs[f]? with | some fl => decide (fl.offset = off) && decide (aggB P fl.type = some true) && decide (sizeB P fl.type = some n) | none => false)
      | _ => false) = true) (h : fldnV off n x = some v) (hx : vrel C w x a) : ∃ z, (Instr.field t a f).run P w = .ok z w ∧ vrel C w v z := by
  split at hc
  · rename_i fs hu
    split at hc
    · rename_i fl hf
      simp only [Bool.and_eq_true, decide_eq_true_eq] at hc
      obtain ⟨⟨ho, hagg⟩, hsz⟩ := hc
      cases x <;> simp only [fldnV] at h
      case agg cs =>
        obtain ⟨r, h3, h4⟩ := ob_eq_some h
        simp at h4; subst h4
        obtain ⟨hlen, hget⟩ := cutL_get h3
        simp only [vrel] at hx
        obtain ⟨xs, rfl, hv⟩ := hx
        have hl := hv.length
        refine ⟨.agg (xs.extract off (off + n)), ?_, ?_⟩
        · simp [Instr.field, run_underlying hu, hf, part, run_aggB hagg, Go.asAgg, ho, run_sizeB hsz]
        · simp only [vrel]
          refine ⟨_, rfl, vrels.of_get ?_ ?_⟩
          · obtain ⟨h5, _⟩ := cutL_some h3
            simp at hl ⊢
            omega
          · intro j u y hu' hy
            obtain ⟨y', h6, h7⟩ := hv.get (hget j u hu')
            have : xs[off + j]? = some y := by
              simp only [Array.getElem?_toList, Array.getElem?_extract] at hy
              split at hy
              · exact hy
              · cases hy
            simp at h6
            rw [this] at h6
            simp at h6
            subst h6
            exact h7
      all_goals cases h
    · cases hc
  · cases hc

theorem idxs_sound {P : Program} {t : TypeId} {x i v : AV} {a c : Value} (hc : (match P.underlying t with | some .string => true | _ => false) = true) (h : idxsV x i = some v) (hx : vrel C w x a) (hi : vrel C w i c) :
    ∃ z, (Instr.index t a c).run P w = .ok z w ∧ vrel C w v z := by
  split at hc
  · rename_i hu
    unfold idxsV at h
    split at h
    · rename_i s k n
      simp only [vrel] at hx hi
      subst hx; subst hi
      split at h
      · rename_i hn
        obtain ⟨b, hb, h⟩ := ob_eq_some h
        simp at h; subst h
        have hb' : (⟨s.toArray⟩ : ByteArray)[n.toNat]? = some b := by
          have hlt : n.toNat < s.length := by
            rcases Nat.lt_or_ge n.toNat s.length with h' | h'
            · exact h'
            · simp [List.getElem?_eq_none h'] at hb
          have hsz : n.toNat < (⟨s.toArray⟩ : ByteArray).size := by simpa [ByteArray.size] using hlt
          rw [getElem?_pos (⟨s.toArray⟩ : ByteArray) n.toNat hsz]
          rw [List.getElem?_eq_getElem hlt] at hb
          simp only [Option.some.injEq] at hb ⊢
          exact hb
        refine ⟨.int .u8 b.toNat, ?_, by simp [vrel]⟩
        simp [Instr.index, asIntOf, run_underlying hu, hn, hb']
      · cases h
    · cases h
  · cases hc

theorem ext_sound {P : Program} {i : Nat} {x v : AV} {a : Value} (h : extV i x = some v) (hx : vrel C w x a) : ∃ z, (Instr.extract a i).run P w = .ok z w ∧ vrel C w v z := by
  cases x <;> simp only [extV] at h
  case tup vs =>
    simp only [vrel] at hx
    obtain ⟨xs, rfl, hv⟩ := hx
    obtain ⟨y, hy, hr⟩ := hv.get h
    have hy' : xs[i]? = some y := by simpa using hy
    exact ⟨y, by simp [Instr.extract, hy'], hr⟩
  all_goals cases h

theorem lens_sound {P : Program} {t ty : TypeId} {x v : AV} {a : Value} (hc : (match P.underlying t with | some .string => true | _ => false) = true) (h : lensV x = some v) (hx : vrel C w x a) :
    ∃ z, (Builtin.len_ #[t] ty #[a]).run P w = .ok z w ∧ vrel C w v z := by
  split at hc
  · rename_i hu
    cases x <;> simp only [lensV] at h
    case str s =>
      simp at h; subst h
      simp only [vrel] at hx; subst hx
      refine ⟨.int .i64 s.length, ?_, by simp [vrel]⟩
      have hsz : (⟨s.toArray⟩ : ByteArray).size = s.length := by simp [ByteArray.size]
      unfold Builtin.len_
      simp [run_underlying hu, goInt, hsz]
    all_goals cases h
  · cases hc

theorem rows_sound {h : Heap} (H : HRel C w h) {l s i n : Nat} {es : List (List AV)} {y : Value} (hr : vrel C w (.sl l s i n) y) (hrow : h.rows l s = some es) :
    ∃ z, (∃ imm, h[l]? = some (.arr s imm z es)) ∧ ((C.μ l = some (none, s, z) ∧ es = [] ∧ i = 0 ∧ n = 0 ∧ y = .slice none 0 0) ∨
      ∃ b cap arr t, C.μ l = some (some b, s, z) ∧ y = .slice (some ⟨b, i * z, none⟩) n cap ∧ n ≤ cap ∧ w.heap[b]? = some (.cells arr t) ∧ (i + cap) * z ≤ arr.size ∧ es.length * z ≤ arr.size ∧
        ∀ (i : Nat) (e : List AV), es[i]? = some e → e.length = z ∧ ∀ (j : Nat) (v : AV), e[j]? = some v → ∃ y : Value, arr[i * z + j]? = some y ∧ y.oneCell' = true ∧ vrel C w v y) := by
  unfold Heap.rows at hrow
  obtain ⟨o, ho, hrow⟩ := ob_eq_some hrow
  have hobj := H.obj l o ho
  cases o <;> simp only [AObj.rows] at hrow
  case arr s' imm z es' =>
    split at hrow
    · rename_i hs
      subst hs
      simp at hrow
      subst hrow
      simp only [orel] at hobj
      obtain ⟨hlt, ob, hm, hob⟩ := hobj
      simp only [vrel] at hr
      refine ⟨z, ⟨imm, ho⟩, ?_⟩
      cases ob with
      | none =>
        simp only at hob
        obtain ⟨e1, e2, e3⟩ := hr.2.2 none z hm
        exact .inl ⟨hm, hob, e2, e3, e1⟩
      | some b =>
        obtain ⟨arr, t, hb, hsz, hok, hes⟩ := hob
        obtain ⟨cap, e1, e2, arr', t', fz', e3, e4⟩ := hr.2.2 (some b) z hm
        rw [hb] at e3
        simp at e3
        obtain ⟨rfl, rfl, rfl⟩ := e3
        exact .inr ⟨b, cap, arr, t, hm, e1, e2, hb, e4, hsz, hes⟩
    · cases hrow
  all_goals cases hrow

theorem lenl_sound {P : Program} {h : Heap} (H : HRel C w h) {t ty : TypeId} {x v : AV} {a : Value} (hc : (match P.underlying t with | some (.slice _) => true | _ => false) = true) (h1 : lenlV h x = some v) (hx : vrel C w x a) :
    ∃ z, (Builtin.len_ #[t] ty #[a]).run P w = .ok z w ∧ vrel C w v z := by
  split at hc
  · rename_i e hu
    have run : ∀ b n c, (Builtin.len_ #[t] ty #[.slice b n c]).run P w = .ok (.int .i64 n) w := by
      intro b n c; unfold Builtin.len_; simp [run_underlying hu, goInt]
    cases x <;> simp only [lenlV] at h1
    case psl es =>
      simp at h1; subst h1
      simp only [vrel] at hx
      obtain ⟨b, cap, rfl, _⟩ := hx
      exact ⟨_, run _ _ _, by simp [vrel]⟩
    case vn =>
      simp at h1; subst h1
      simp only [vrel] at hx
      subst hx
      exact ⟨_, run _ _ _, by simp [vrel]⟩
    case sl l s i n =>
      obtain ⟨es, h2, h3⟩ := ob_eq_some h1
      simp at h3; subst h3
      obtain ⟨z, _, hcase⟩ := rows_sound H hx h2
      rcases hcase with ⟨_, _, _, rfl, rfl⟩ | ⟨b, cap, arr, t', _, rfl, _⟩
      · exact ⟨_, run _ _ _, by simp [vrel]⟩
      · exact ⟨_, run _ _ _, by simp [vrel]⟩
    all_goals cases h1
  · cases hc


theorem run_sliceBound {P : Program} {k : IntKind} {n : Int} {y : Nat} {code : BoundsCode} (h : 0 ≤ n ∧ n ≤ (y : Int)) (w : World) : (Instr.sliceBound (.int k n) y code).run P w = .ok n.toNat w := by
  simp [Instr.sliceBound, asIntOf, h.1, h.2]

theorem bnd_int {d m : Nat} {v : AV} (h : bnd d (some v) = some m) : ∃ k n, v = .int k n ∧ 0 ≤ n ∧ m = n.toNat := by
  unfold bnd at h
  split at h
  · rename_i hh; cases hh
  · rename_i k n hh
    simp at hh
    subst hh
    split at h
    · rename_i hn; simp at h; exact ⟨k, n, rfl, hn, h.symm⟩
    · cases h
  · cases h

def orelV (C : Ctx) (w : World) : Option AV → Option Value → Prop
  | none, none => True
  | some v, some c => vrel C w v c
  | _, _ => False

theorem evo_sound {env : Env} {a : Act} {g : Bool} (he : ERel C w env a.tmps) (hg : g = true) {x : Option Operand} {y : Option Opd} {v : Option AV} (hc : chkOo x y = true) (h : evo env g y = some v) : orelV C w v (x.map a.eval) := by
  cases x <;> cases y <;> simp [chkOo] at hc
  · simp [evo] at h; subst h; trivial
  · simp only [evo] at h
    obtain ⟨v', h1, h2⟩ := ob_eq_some h
    simp at h2; subst h2
    exact ev_sound hc he h1 hg

/-- Bounds that are in order come to themselves. -/
theorem run_sliceBounds {P : Program} {b : Bool} {len cap l h m : Nat} {lo hi mx : Option AV} {lo' hi' mx' : Option Value} (rl : orelV C w lo lo') (rh : orelV C w hi hi') (rm : orelV C w mx mx')
    (hl : bnd 0 lo = some l) (hh : bnd len hi = some h) (hm : ∀ v, mx = some v → bnd len mx = some m) (hm' : mx = none → m = cap) (h1 : l ≤ h) (h2 : h ≤ m) (h3 : m ≤ cap) (hmh : mx ≠ none → hi ≠ none) :
    (Instr.sliceBounds b len cap lo' hi' mx').run P w = .ok (l, h, m) w := by
  unfold Instr.sliceBounds
  rcases mx with _ | mv <;> rcases mx' with _ | mc <;> first | cases rm; done | skip
  · have em := hm' rfl
    subst em
    rcases hi with _ | hv <;> rcases hi' with _ | hc <;> first | cases rh; done | skip
    · simp [bnd] at hh
      subst hh
      rcases lo with _ | lv <;> rcases lo' with _ | lc <;> first | cases rl; done | skip
      · simp [bnd] at hl; simp [hl]
      · obtain ⟨k, n, rfl, hn, rfl⟩ := bnd_int hl
        simp only [orelV, vrel] at rl
        subst rl
        simp [run_sliceBound (P := P) (k := k) (n := n) (y := len) ⟨hn, by omega⟩]
    · obtain ⟨k, n, rfl, hn, rfl⟩ := bnd_int hh
      simp only [orelV, vrel] at rh
      subst rh
      rcases lo with _ | lv <;> rcases lo' with _ | lc <;> first | cases rl; done | skip
      · simp [bnd] at hl; simp [← hl, run_sliceBound (P := P) (k := k) (n := n) (y := m) ⟨hn, by omega⟩]
      · obtain ⟨k2, n2, rfl, hn2, rfl⟩ := bnd_int hl
        simp only [orelV, vrel] at rl
        subst rl
        simp [run_sliceBound (P := P) (k := k2) (n := n2) (y := n.toNat) ⟨hn2, by omega⟩, run_sliceBound (P := P) (k := k) (n := n) (y := m) ⟨hn, by omega⟩]
  · obtain ⟨k0, n0, rfl, hn0, rfl⟩ := bnd_int (hm mv rfl)
    simp only [orelV, vrel] at rm
    subst rm
    rcases hi with _ | hv <;> rcases hi' with _ | hc <;> first | cases rh; done | skip
    · exact absurd rfl (hmh (by simp))
    · obtain ⟨k, n, rfl, hn, rfl⟩ := bnd_int hh
      simp only [orelV, vrel] at rh
      subst rh
      rcases lo with _ | lv <;> rcases lo' with _ | lc <;> first | cases rl; done | skip
      · simp [bnd] at hl; simp [← hl, run_sliceBound (P := P) (k := k) (n := n) (y := n0.toNat) ⟨hn, by omega⟩, run_sliceBound (P := P) (k := k0) (n := n0) (y := cap) ⟨hn0, by omega⟩]
      · obtain ⟨k2, n2, rfl, hn2, rfl⟩ := bnd_int hl
        simp only [orelV, vrel] at rl
        subst rl
        simp [run_sliceBound (P := P) (k := k2) (n := n2) (y := n.toNat) ⟨hn2, by omega⟩, run_sliceBound (P := P) (k := k) (n := n) (y := n0.toNat) ⟨hn, by omega⟩, run_sliceBound (P := P) (k := k0) (n := n0) (y := cap) ⟨hn0, by omega⟩]

theorem extract_mk (s : Str) (l h : Nat) : (⟨s.toArray⟩ : ByteArray).extract l h = ⟨((s.take h).drop l).toArray⟩ := by
  apply ByteArray.ext
  simp [ByteArray.data_extract, List.extract_toArray, List.extract_eq_take_drop, List.drop_take]

theorem slcs_sound {P : Program} {t : TypeId} {x v : AV} {a : Value} {lo hi mx : Option AV} {lo' hi' mx' : Option Value} (hc : (match P.underlying t with | some .string => true | _ => false) = true) (h : slcsV lo hi mx x = some v) (hx : vrel C w x a)
    (rl : orelV C w lo lo') (rh : orelV C w hi hi') (rm : orelV C w mx mx') : ∃ z, (Instr.sliceAt t a lo' hi' mx').run P w = .ok z w ∧ vrel C w v z := by
  split at hc
  · rename_i hu
    cases x <;> simp only [slcsV] at h
    case str s =>
      split at h
      · cases h
      · rename_i hmx
        have hmx0 : mx = none := by cases mx <;> simp_all
        subst hmx0
        cases mx' with
        | some c => cases rm
        | none =>
          obtain ⟨l, h1, h⟩ := ob_eq_some h
          obtain ⟨n, h2, h⟩ := ob_eq_some h
          split at h
          · rename_i hln
            simp at h; subst h
            simp only [vrel] at hx; subst hx
            have hb := run_sliceBounds (P := P) (b := false) (len := s.length) (cap := s.length) (m := s.length) rl rh (rm) h1 h2 (by simp) (by simp) hln.1 hln.2 (Nat.le_refl _) (by simp)
            refine ⟨.string ⟨((s.take n).drop l).toArray⟩, ?_, by simp [vrel]⟩
            have hsz : (⟨s.toArray⟩ : ByteArray).size = s.length := by simp [ByteArray.size]
            simp [Instr.sliceAt, Instr.slice, run_underlying hu, hsz, hb, extract_mk]
          · cases h
    all_goals cases h
  · cases hc

theorem ves_len {z b o : Nat} {es : List (List AV)} (h : ves C w z es b o) {sz : Nat} (ha : es.all (fun e => decide (e.length = sz)) = true) (hne : es ≠ []) : z = sz := by
  cases es with
  | nil => exact absurd rfl hne
  | cons e es =>
    simp only [ves] at h
    simp at ha
    exact h.1.symm.trans ha.1

theorem slcl_sound {P : Program} {H : Heap} (HR : HRel C w H) {z : Nat} {t : TypeId} {x v : AV} {a : Value} {lo hi mx : Option AV} {lo' hi' mx' : Option Value} (hc : (match P.underlying t with | some (.slice e) => decide (sizeB P e = some z) | _ => false) = true) (h : slclV H z lo hi mx x = some v) (hx : vrel C w x a)
    (rl : orelV C w lo lo') (rh : orelV C w hi hi') (rm : orelV C w mx mx') (hmh : mx ≠ none → hi ≠ none) : ∃ y, (Instr.sliceAt t a lo' hi' mx').run P w = .ok y w ∧ vrel C w v y := by
  split at hc
  · rename_i e hu
    simp at hc
    have hs := fun w => run_sizeB hc w
    cases x <;> simp only [slclV] at h
    case psl es =>
      obtain ⟨l, h1, h⟩ := ob_eq_some h
      obtain ⟨n, h2, h⟩ := ob_eq_some h
      obtain ⟨m, h3, h⟩ := ob_eq_some h
      split at h
      · rename_i hln
        obtain ⟨q1, q2, q3, q4⟩ := hln
        simp at h; subst h
        simp only [vrel] at hx
        obtain ⟨ad, cap, rfl, hcap, hes⟩ := hx
        obtain ⟨m', hm1, hm2, hm3, hm4⟩ : ∃ m', (∀ v, mx = some v → bnd es.length mx = some m') ∧ (mx = none → m' = cap) ∧ n ≤ m' ∧ m' ≤ cap := by
          cases mx with
          | none => exact ⟨cap, by simp, fun _ => rfl, by omega, Nat.le_refl _⟩
          | some v => exact ⟨m, fun v _ => h3, by simp, q2, by omega⟩
        have hb := run_sliceBounds (P := P) (b := true) rl rh rm h1 h2 hm1 hm2 q1 hm3 hm4 hmh
        refine ⟨.slice (if m' = l then ad else ad.map (·.add (l * z))) (n - l) (m' - l), ?_, ?_⟩
        · simp [Instr.sliceAt, Instr.slice, run_underlying hu, hb, hs]
        · simp only [vrel]
          have hlen : ((es.take n).drop l).length = n - l := by simp; omega
          refine ⟨_, _, by rw [hlen], by omega, ?_⟩
          by_cases hnl : n = l
          · left; apply List.eq_nil_of_length_eq_zero; omega
          · right
            have hml : m' ≠ l := by omega
            rcases hes with rfl | ⟨b, o, z', rfl, hv⟩
            · simp at q3; omega
            · have hz : z' = z := ves_len hv q4 (by intro e; subst e; simp at q3; omega)
              subst hz
              refine ⟨b, o + l * z', z', by simp [hml, addr_add], ves.of_get fun i e hi => ?_⟩
              have hi' : es[l + i]? = some e := by
                rw [List.getElem?_drop, List.getElem?_take] at hi
                split at hi
                · exact hi
                · cases hi
              obtain ⟨e1, e2⟩ := hv.get hi'
              refine ⟨e1, ?_⟩
              rwa [Nat.add_assoc, ← Nat.add_mul]
      · cases h
    case sl l s i n =>
      split at h
      · cases h
      · rename_i hno
        have hmx : mx = none := by cases mx <;> simp_all
        subst hmx
        obtain ⟨es, h1, h⟩ := ob_eq_some h
        obtain ⟨zo, hzo, h⟩ := ob_eq_some h
        obtain ⟨q, h0, h⟩ := ob_eq_some h
        obtain ⟨k, h2, h⟩ := ob_eq_some h
        split at h
        · rename_i hkn
          obtain ⟨hqk, hkn, hq⟩ := hkn
          simp at h; subst h
          obtain ⟨z', ⟨imm, hobj⟩, hcase⟩ := rows_sound HR hx h1
          have hlt : s < C.clk := by simp only [vrel] at hx; exact hx.1
          rcases hcase with ⟨hm, rfl, rfl, rfl, rfl⟩ | ⟨b, cap, arr, t', hm, rfl, hcap, hb, hsz, _, _⟩
          · have hb := run_sliceBounds (P := P) (C := C) (w := w) (b := true) (len := 0) (cap := 0) (m := 0) (l := q) (lo := lo) rl rh rm h0 h2 (by simp) (by simp) hqk hkn (Nat.le_refl _) (by simp)
            have hk0 : k = 0 := by omega
            have hq0 : q = 0 := by omega
            subst hk0; subst hq0
            refine ⟨.slice none (0 - 0) 0, ?_, ?_⟩
            · simp [Instr.sliceAt, Instr.slice, run_underlying hu, hb, hs]
            · simp only [vrel]
              refine ⟨hlt, ⟨_, _, _, rfl⟩, fun ob z hm' => ?_⟩
              rw [hm] at hm'
              simp at hm'
              obtain ⟨rfl, rfl⟩ := hm'
              simp
          · have hb2 := run_sliceBounds (P := P) (C := C) (w := w) (b := true) (len := n) (cap := cap) (m := cap) (l := q) (lo := lo) rl rh rm h0 h2 (by simp) (by simp) hqk (by omega) (Nat.le_refl _) (by simp)
            have hz : sizeB P e = some z := hc
            refine ⟨.slice (some ⟨b, i * z' + q * z, none⟩) (k - q) (cap - q), ?_, ?_⟩
            · rcases hq with rfl | hq
              · simp [Instr.sliceAt, Instr.slice, run_underlying hu, hb2, hs, addr_add]
              · obtain ⟨hq, _⟩ := hq
                have : ¬ cap = q := by omega
                simp [Instr.sliceAt, Instr.slice, run_underlying hu, hb2, hs, addr_add, this]
            · simp only [vrel]
              refine ⟨hlt, ⟨_, _, _, rfl⟩, fun ob z2 hm' => ?_⟩
              rw [hm] at hm'
              simp at hm'
              obtain ⟨rfl, rfl⟩ := hm'
              rcases hq with rfl | hq
              · exact ⟨cap, by simp, by omega, arr, t', (0, 0), hb, by simpa using hsz⟩
              · obtain ⟨hq, hzq⟩ := hq
                have hzz : zo = z' := by simp [Heap.zOf, hobj, ob_some, AObj.z] at hzo; exact hzo.symm
                subst hzz; subst hzq
                refine ⟨cap - q, by rw [Nat.add_mul], by omega, arr, t', (0, 0), hb, ?_⟩
                rw [show i + q + (cap - q) = i + cap by omega]
                exact hsz
        · split at h
          · rename_i hkn
            obtain ⟨rfl, hkn⟩ := hkn
            simp at h; subst h
            obtain ⟨z', ⟨imm, hobj⟩, hcase⟩ := rows_sound HR hx h1
            rcases hcase with ⟨hm, rfl, rfl, rfl, rfl⟩ | ⟨b, cap, arr, t', hm, rfl, hcap, hb, hsz, _, _⟩
            · have hb := run_sliceBounds (P := P) (C := C) (w := w) (b := true) (len := 0) (cap := 0) (m := 0) (l := q) (lo := lo) rl rh rm h0 h2 (by simp) (by simp) (Nat.le_refl _) hkn (Nat.le_refl _) (by simp)
              have hq0 : q = 0 := by omega
              subst hq0
              refine ⟨.slice none (0 - 0) 0, ?_, ?_⟩
              · simp [Instr.sliceAt, Instr.slice, run_underlying hu, hb, hs]
              · simp only [vrel]
                exact ⟨none, 0, rfl, Nat.le_refl _, by simp⟩
            · have hb2 := run_sliceBounds (P := P) (C := C) (w := w) (b := true) (len := n) (cap := cap) (m := cap) (l := q) (lo := lo) rl rh rm h0 h2 (by simp) (by simp) (Nat.le_refl _) (by omega) (Nat.le_refl _) (by simp)
              refine ⟨.slice (if cap = q then some ⟨b, i * z', none⟩ else (some ⟨b, i * z', none⟩ : Option Addr).map (·.add (q * z))) (q - q) (cap - q), ?_, ?_⟩
              · simp [Instr.sliceAt, Instr.slice, run_underlying hu, hb2, hs]
              · simp only [vrel]
                exact ⟨_, cap - q, by rw [Nat.sub_self]; rfl, by simp, by simp⟩
          · cases h
    all_goals cases h
  · cases hc

theorem eqCells_append : ∀ {ks1 ks2 : List Nat} {a b : List AV} {r : Bool}, eqCells (ks1 ++ ks2) a b = some r →
    ∃ a1 a2 b1 b2 r1 r2, a = a1 ++ a2 ∧ b = b1 ++ b2 ∧ a1.length = ks1.length ∧ b1.length = ks1.length ∧ eqCells ks1 a1 b1 = some r1 ∧ eqCells ks2 a2 b2 = some r2 ∧ r = (r1 && r2)
  | [], ks2, a, b, r, h => ⟨[], a, [], b, true, r, rfl, rfl, rfl, rfl, rfl, by simpa using h, by simp⟩
  | k :: ks1, ks2, a, b, r, h => by
    simp only [List.cons_append] at h
    unfold eqCells at h
    split at h
    · contradiction
    · rename_i ks k1 x xs k2 y ys h1
      simp at h1
      obtain ⟨rfl, rfl⟩ := h1
      split at h
      · rename_i hk
        obtain ⟨r', h3, h4⟩ := ob_eq_some h
        simp at h4
        obtain ⟨a1, a2, b1, b2, r1, r2, rfl, rfl, e1, e2, e3, e4, rfl⟩ := eqCells_append h3
        exact ⟨_ :: a1, a2, _ :: b1, b2, (x == y) && r1, r2, rfl, rfl, by simp [e1], by simp [e2], by simp [eqCells, hk, e3, ob_some], e4, by rw [← h4]; simp [Bool.and_assoc]⟩
      · cases h
    · rename_i ks x xs y ys h1
      simp at h1
      obtain ⟨rfl, rfl⟩ := h1
      obtain ⟨r', h3, h4⟩ := ob_eq_some h
      simp at h4
      obtain ⟨a1, a2, b1, b2, r1, r2, rfl, rfl, e1, e2, e3, e4, rfl⟩ := eqCells_append h3
      exact ⟨_ :: a1, a2, _ :: b1, b2, (x == y) && r1, r2, rfl, rfl, by simp [e1], by simp [e2], by simp [eqCells, e3, ob_some], e4, by rw [← h4]; simp [Bool.and_assoc]⟩
    · rename_i ks x xs y ys h1
      simp at h1
      obtain ⟨rfl, rfl⟩ := h1
      obtain ⟨r', h3, h4⟩ := ob_eq_some h
      simp at h4
      obtain ⟨a1, a2, b1, b2, r1, r2, rfl, rfl, e1, e2, e3, e4, rfl⟩ := eqCells_append h3
      exact ⟨_ :: a1, a2, _ :: b1, b2, (x == y) && r1, r2, rfl, rfl, by simp [e1], by simp [e2], by simp [eqCells, e3, ob_some], e4, by rw [← h4]; simp [Bool.and_assoc]⟩
    · cases h

theorem vrels_append : ∀ {a b : List AV} {ys : List Value}, vrels C w (a ++ b) ys → ∃ y1 y2, ys = y1 ++ y2 ∧ vrels C w a y1 ∧ vrels C w b y2
  | [], b, ys, h => ⟨[], ys, rfl, by simp [vrels], h⟩
  | x :: xs, b, ys, h => by
    simp only [List.cons_append, vrels] at h
    obtain ⟨y, zs, rfl, h1, h2⟩ := h
    obtain ⟨y1, y2, rfl, h3, h4⟩ := vrels_append h2
    exact ⟨y :: y1, y2, rfl, by simp only [vrels]; exact ⟨y, y1, rfl, h1, h3⟩, h4⟩

/-- The value that a type's cells are. -/
def shapeV (b : Bool) (xs : List Value) : Value := if b then .agg xs.toArray else xs.getD 0 undef

theorem run_part_shape {P : Program} {t : TypeId} {b : Bool} {a1 xs a2 : List Value} (ha : aggB P t = some b) (hs : sizeB P t = some xs.length) (h1 : b = false → xs.length = 1) (w : World) :
    (part t (a1 ++ (xs ++ a2)).toArray a1.length).run P w = .ok (shapeV b xs) w := by
  unfold part
  simp only [Sem.run_bind, run_aggB ha, Result.andThen_ok]
  cases b with
  | true =>
    have e : (a1 ++ (xs ++ a2)).toArray.extract a1.length (a1.length + xs.length) = xs.toArray := by
      rw [List.extract_toArray, List.extract_eq_take_drop]
      simp
    simp only [if_true, Sem.run_bind, run_sizeB hs, Result.andThen_ok, Sem.run_pure, e, shapeV]
  | false =>
    have h2 := h1 rfl
    match xs, h2 with
    | [x], _ => simp [shapeV]

theorem leafKs_agg {P : Program} {n : Nat} {t : TypeId} {ks : List Nat} (h : leafKs P n t = some ks) : ∃ b, aggB P t = some b ∧ (b = false → ks.length = 1) := by
  cases n with
  | zero => simp [leafKs] at h
  | succ n =>
    unfold leafKs at h
    split at h
    · rename_i hu; simp at h; subst h; exact ⟨false, by simp [aggB, hu], by simp⟩
    · rename_i hu; simp at h; subst h; exact ⟨false, by simp [aggB, hu], by simp⟩
    · rename_i hu; simp at h; subst h; exact ⟨false, by simp [aggB, hu], by simp⟩
    · rename_i fs hu; exact ⟨true, by simp [aggB, hu], by simp⟩
    · cases h

theorem leafy_eq {P : Program} : ∀ (n : Nat) (t : TypeId) (d : Nat) (b : Bool) (ks : List Nat), n ≤ d → leafKs P n t = some ks → aggB P t = some b → ∀ {us bs : List AV} {xs ys : List Value} {r : Bool}, vrels C w us xs → vrels C w bs ys →
    eqCells ks us bs = some r → (Op.equalIn d t (shapeV b xs) (shapeV b ys)).run P w = .ok r w
  | 0, _, _, _, _, _, h, _, _, _, _, _, _, _, _, _ => by simp [leafKs] at h
  | n + 1, t, 0, _, _, hd, _, _, _, _, _, _, _, _, _, _ => by omega
  | n + 1, t, d + 1, b, ks, hd, h, hb, us, bs, xs, ys, r, ha, hbs, he => by
    unfold leafKs at h
    split at h
    · rename_i k hu
      simp at h; subst h
      simp [aggB, hu] at hb; subst hb
      unfold eqCells at he
      split at he
      · contradiction
      · rename_i ks k1 x us k2 y bs h1
        simp at h1; subst h1
        split at he
        · rename_i hk
          subst hk
          obtain ⟨r', h3, h4⟩ := ob_eq_some he
          unfold eqCells at h3
          split at h3 <;> simp at *
          subst h3; simp at h4; subst h4
          simp only [vrels, vrel] at ha hbs
          obtain ⟨_, _, rfl, rfl, rfl⟩ := ha
          obtain ⟨_, _, rfl, rfl, rfl⟩ := hbs
          simp only [shapeV, List.getD]
          exact run_equalIn_int w d t _ k x y hu
        · cases he
      · rename_i h1; simp at h1
      · rename_i h1; simp at h1
      · cases he
    · rename_i hu
      simp at h; subst h
      simp [aggB, hu] at hb; subst hb
      unfold eqCells at he
      split at he
      · contradiction
      · rename_i h1; simp at h1
      · rename_i ks x us y bs h1
        simp at h1; subst h1
        obtain ⟨r', h3, h4⟩ := ob_eq_some he
        unfold eqCells at h3
        split at h3 <;> simp at *
        subst h3; simp at h4; subst h4
        simp only [vrels, vrel] at ha hbs
        obtain ⟨_, _, rfl, rfl, rfl⟩ := ha
        obtain ⟨_, _, rfl, rfl, rfl⟩ := hbs
        simp only [shapeV, List.getD]
        have := run_equalIn_string (P := P) w d t ⟨x.toArray⟩ ⟨y.toArray⟩ hu
        simpa [ByteArray.toList_eq] using this
      · rename_i h1; simp at h1
      · cases he
    · rename_i hu
      simp at h; subst h
      simp [aggB, hu] at hb; subst hb
      unfold eqCells at he
      split at he
      · contradiction
      · rename_i h1; simp at h1
      · rename_i h1; simp at h1
      · rename_i ks x us y bs h1
        simp at h1; subst h1
        obtain ⟨r', h3, h4⟩ := ob_eq_some he
        unfold eqCells at h3
        split at h3 <;> simp at *
        subst h3; simp at h4; subst h4
        simp only [vrels, vrel] at ha hbs
        obtain ⟨_, _, rfl, rfl, rfl⟩ := ha
        obtain ⟨_, _, rfl, rfl, rfl⟩ := hbs
        simp only [shapeV, List.getD]
        exact run_equalIn_bool' w d t x y hu
      · cases he
    · rename_i fs hu
      split at h
      · cases h
      · rename_i hst
        simp [aggB, hu] at hb; subst hb
        have hfo : P.fieldsOf t = fs := by simp [Program.fieldsOf, hu]
        simp only [shapeV, if_true]
        rw [run_equalIn_struct w d t _ _ (by rw [hfo]; exact hu) (by simpa using hst), hfo]
        have key : ∀ (fl : List Field) (ks : List Nat) (x1 y1 xs ys : List Value) (us bs : List AV) (r : Bool), x1.length = y1.length → leafFs P (leafKs P n) x1.length fl = some ks → vrels C w us xs → vrels C w bs ys → eqCells ks us bs = some r →
            (Op.eqFields d (x1 ++ xs).toArray (y1 ++ ys).toArray fl).run P w = .ok r w := by
          intro fl
          induction fl with
          | nil =>
            intro ks x1 y1 xs ys us bs r hl hf hx hy he
            simp [leafFs] at hf; subst hf
            unfold eqCells at he
            split at he <;> simp at *
            subst he
            simp [Op.eqFields]
          | cons f fl ih =>
            intro ks x1 y1 xs ys us bs r hl hf hx hy he
            unfold leafFs at hf
            split at hf
            · rename_i hn
              simp only [Option.bind_eq_some_iff] at hf
              obtain ⟨k1, hk1, hf⟩ := hf
              split at hf
              · rename_i hsz
                simp only [Option.bind_eq_some_iff] at hf
                obtain ⟨k2, hk2, hf⟩ := hf
                simp at hf; subst hf
                obtain ⟨a1, a2, b1, b2, r1, r2, rfl, rfl, e1, e2, e3, e4, rfl⟩ := eqCells_append he
                obtain ⟨p1, p2, rfl, hp1, hp2⟩ := vrels_append hx
                obtain ⟨q1, q2, rfl, hq1, hq2⟩ := vrels_append hy
                obtain ⟨b, hb, hb1⟩ := leafKs_agg hk1
                have lp : p1.length = k1.length := hp1.length.trans e1
                have lq : q1.length = k1.length := hq1.length.trans e2
                have hp := run_part_shape (P := P) (a1 := x1) (xs := p1) (a2 := p2) hb (by rw [lp]; exact hsz) (fun e => lp.trans (hb1 e)) w
                have hq := run_part_shape (P := P) (a1 := y1) (xs := q1) (a2 := q2) hb (by rw [lq]; exact hsz) (fun e => lq.trans (hb1 e)) w
                have heq := leafy_eq n f.type d b k1 (by omega) hk1 hb hp1 hq1 e3
                unfold Op.eqFields
                rw [if_pos hn.1]
                rw [hn.2]
                simp only [Sem.run_bind, hp, Result.andThen_ok]
                rw [hl] 
                simp only [hq, Result.andThen_ok, heq]
                cases r1 with
                | false => simp
                | true =>
                  simp only [Bool.not_true, Bool.false_eq_true, if_false, Bool.true_and]
                  have := ih k2 (x1 ++ p1) (y1 ++ q1) p2 q2 a2 b2 r2 (by simp [hl, lp, lq]) (by simpa [lp] using hk2) hp2 hq2 e4
                  simpa using this
              · cases hf
            · cases hf
        simpa using key fs.toList ks [] [] xs ys us bs r rfl (by simpa using h) ha hbs he
    · cases h

def EqTy (P : Program) (t : TypeId) : EqK → Prop
  | .bool => P.underlying t = some .bool
  | .ptr => ∃ e, P.underlying t = some (.pointer e)
  | .iface => ∃ e, P.underlying t = some (.interface e)
  | .fn => ∃ a b c, P.underlying t = some (.func a b c)
  | .map => ∃ a b, P.underlying t = some (.map a b)
  | .agg ks => (∃ fs, P.underlying t = some (.struct fs)) ∧ leafKs P 20 t = some ks ∧ P.eqGuardType P.depth t = false

theorem eqTy_of {P : Program} {t : TypeId} {k : EqK} (hc : eqTyB P t k = true) : EqTy P t k := by
  unfold eqTyB at hc
  split at hc
  · rename_i hu; exact hu
  · rename_i hu; exact ⟨_, hu⟩
  · rename_i hu; exact ⟨_, hu⟩
  · rename_i hu; exact ⟨_, _, _, hu⟩
  · rename_i hu; exact ⟨_, _, hu⟩
  · rename_i hu
    simp only [Bool.and_eq_true, decide_eq_true_eq] at hc
    exact ⟨⟨_, hu⟩, hc.1, hc.2⟩
  · cases hc

theorem eqk_fin {P : Program} {op : BinOp} {t : TypeId} {xo yo : Operand} {neg : Bool} {r : Bool} {a b : Value} (ho : (match op with | .eql => !neg | .neq => neg | _ => false) = true)
    (q : (Op.equal t a b).run P w = .ok r w) (hg : (eqGuard op t xo yo a b).run P w = .ok () w)
    (hb1 : binOp .eql t a b = (do pure (.bool (← Op.equal t a b)))) (hb2 : binOp .neq t a b = (do pure (.bool (!(← Op.equal t a b))))) :
    (do eqGuard op t xo yo a b; binOp op t a b : Sem Value).run P w = .ok (.bool (if neg then !r else r)) w := by
  simp only [Sem.run_bind, hg, Result.andThen_ok]
  cases op <;> simp at ho
  · subst ho; rw [hb1]; simp [q]
  · subst ho; rw [hb2]; simp [q]

/-- A value at which '==' has no guard of its own. -/
def plainEq : Value → Bool
  | .agg _ | .nilIface => false
  | _ => true

theorem eqk_guard {P : Program} {op : BinOp} {t : TypeId} {xo yo : Operand} {a b : Value} (h : plainEq a = true ∨ plainEq b = true) : (eqGuard op t xo yo a b).run P w = .ok () w := by
  have key : ∀ o : BinOp, (match a, b with
      | .nilIface, .nilIface => False
      | .agg _, .agg _ => False
      | _, _ => True) → (eqGuard o t xo yo a b).run P w = .ok () w := by
    intro o hm
    unfold eqGuard
    cases a <;> cases b <;> first | (exact hm.elim) | (cases o <;> rfl)
  refine key op ?_
  clear key
  revert h
  cases a <;> cases b <;> simp [plainEq]

theorem equal_simple {P : Program} {t : TypeId} {d : TypeDesc} (hu : P.underlying t = some d) {a b : Value} {r : Bool} (h : ∀ n, (Op.equalIn (n + 1) t a b).run P w = .ok r w) : (Op.equal t a b).run P w = .ok r w := h 9999

theorem eqk_sound {P : Program} {op : BinOp} {t : TypeId} {xo yo : Operand} {neg : Bool} {k : EqK} {x y : AV} {r : Bool} {a b : Value} (ho : (match op with | .eql => !neg | .neq => neg | _ => false) = true)
    (hc : eqTyB P t k = true) (h : eqkV k x y = some r) (hx : vrel C w x a) (hy : vrel C w y b) :
    (do eqGuard op t xo yo a b; binOp op t a b : Sem Value).run P w = .ok (.bool (if neg then !r else r)) w := by
  have hT := eqTy_of hc
  clear hc
  unfold eqkV at h
  split at h
  · simp only [vrel] at hx hy; subst hx; subst hy
    simp at h; subst h
    simp only [EqTy] at hT
    exact eqk_fin ho (equal_simple hT (fun n => run_equalIn_bool w _ t _ _ hT)) (eqk_guard (.inl rfl)) rfl rfl
  · rename_i ks us bs
    simp only [EqTy] at hT
    obtain ⟨⟨fs, hu⟩, hl, hg⟩ := hT
    simp only [vrel] at hx hy
    obtain ⟨xs, rfl, h1⟩ := hx
    obtain ⟨ys, rfl, h2⟩ := hy
    refine eqk_fin ho ?_ (run_eqGuard_agg w op t xo yo xs ys hg) rfl rfl
    have := leafy_eq (P := P) 20 t 10000 true ks (by decide) hl (by simp [aggB, hu]) h1 h2 h
    simp only [shapeV, if_true] at this
    exact this
  · simp only [vrel] at hx hy; subst hx; subst hy; simp at h; subst h
    obtain ⟨e, hu⟩ := hT
    exact eqk_fin ho (equal_simple hu (fun n => by simp [Op.equalIn, run_underlying hu])) (eqk_guard (.inl rfl)) rfl rfl
  · simp only [vrel] at hx hy; obtain ⟨_, ⟨q, rfl⟩, _⟩ := hx; subst hy; simp at h; subst h
    obtain ⟨e, hu⟩ := hT
    exact eqk_fin ho (equal_simple hu (fun n => by simp [Op.equalIn, run_underlying hu])) (eqk_guard (.inl rfl)) rfl rfl
  · simp only [vrel] at hx hy; obtain ⟨_, ⟨q, rfl⟩, _⟩ := hy; subst hx; simp at h; subst h
    obtain ⟨e, hu⟩ := hT
    exact eqk_fin ho (equal_simple hu (fun n => by simp [Op.equalIn, run_underlying hu])) (eqk_guard (.inl rfl)) rfl rfl
  · simp only [vrel] at hx hy; obtain ⟨_, rfl, _⟩ := hy; subst hx; simp at h; subst h
    obtain ⟨e, hu⟩ := hT
    exact eqk_fin ho (equal_simple hu (fun n => by simp [Op.equalIn, run_underlying hu])) (eqk_guard (.inr rfl)) rfl rfl
  · simp only [vrel] at hx hy; obtain ⟨_, rfl, _⟩ := hx; subst hy; simp at h; subst h
    obtain ⟨e, hu⟩ := hT
    exact eqk_fin ho (equal_simple hu (fun n => by simp [Op.equalIn, run_underlying hu])) (eqk_guard (.inl rfl)) rfl rfl
  · simp only [vrel] at hx hy; obtain ⟨_, _, rfl, _⟩ := hx; subst hy; simp at h; subst h
    obtain ⟨e, e2, e3, hu⟩ := hT
    exact eqk_fin ho (equal_simple hu (fun n => by simp [Op.equalIn, run_underlying hu])) (eqk_guard (.inl rfl)) rfl rfl
  · simp only [vrel] at hx hy; subst hx; subst hy; simp at h; subst h
    obtain ⟨e, e2, e3, hu⟩ := hT
    exact eqk_fin ho (equal_simple hu (fun n => by simp [Op.equalIn, run_underlying hu])) (eqk_guard (.inl rfl)) rfl rfl
  · simp only [vrel] at hx hy; subst hx; subst hy; simp at h; subst h
    obtain ⟨e, e2, hu⟩ := hT
    exact eqk_fin ho (equal_simple hu (fun n => by simp [Op.equalIn, run_underlying hu])) (eqk_guard (.inl rfl)) rfl rfl
  · cases h

theorem cvt_sound {P : Program} {src dst : TypeId} {k : IntKind} {x v : AV} {a : Value} (h1 : (isInt P src).isSome = true) (h2 : isInt P dst = some k) (h : cvtV k x = some v) (hx : vrel C w x a) :
    ∃ z, (convert src dst a).run P w = .ok z w ∧ vrel C w v z := by
  have us : ∃ k', P.underlying src = some (.int k') := by
    unfold isInt at h1; split at h1
    · exact ⟨_, ‹_›⟩
    · cases h1
  have ud : P.underlying dst = some (.int k) := by
    unfold isInt at h2; split at h2
    · simp at h2; subst h2; assumption
    · cases h2
  obtain ⟨k', us⟩ := us
  cases x <;> simp only [cvtV] at h
  case int k2 n =>
    simp at h; subst h
    simp only [vrel] at hx; subst hx
    exact ⟨.int k (k.wrap n), by simp [convert, run_underlying us, run_underlying ud, Conv.intToInt], by simp [vrel]⟩
  all_goals cases h

theorem mkif_sound {P : Program} {t : TypeId} {x : AV} {a : Value} (h1 : (match P.underlying t with | some (.interface _) => false | some _ => true | none => false) = true) (hx : vrel C w x a) :
    ∃ z, (Instr.makeInterface t a).run P w = .ok z w ∧ vrel C w (.iface t x) z := by
  refine ⟨.iface t a, ?_, by simp only [vrel]; exact ⟨a, rfl, hx⟩⟩
  split at h1
  · cases h1
  · rename_i d hd hu
    simp only [Instr.makeInterface, Sem.run_bind, run_underlying hu, Result.andThen_ok]
    cases d <;> first | rfl | exact absurd rfl (hd _)
  · cases h1

theorem mmax_sound {P : Program} {x y v : AV} {a b : Value} {tys : Array TypeId} {ty : TypeId} (h : mmaxV x y = some v) (hx : vrel C w x a) (hy : vrel C w y b) : ∃ z, (Builtin.max_ tys ty #[a, b]).run P w = .ok z w ∧ vrel C w v z := by
  unfold mmaxV at h
  split at h
  · simp at h; subst h
    simp only [vrel] at hx hy; subst hx; subst hy
    exact ⟨_, by simp [Builtin.max_, Builtin.max2]; rfl, by simp [vrel]⟩
  · cases h

theorem mmin_sound {P : Program} {x y v : AV} {a b : Value} {tys : Array TypeId} {ty : TypeId} (h : mminV x y = some v) (hx : vrel C w x a) (hy : vrel C w y b) : ∃ z, (Builtin.min_ tys ty #[a, b]).run P w = .ok z w ∧ vrel C w v z := by
  unfold mminV at h
  split at h
  · simp at h; subst h
    simp only [vrel] at hx hy; subst hx; subst hy
    exact ⟨_, by simp [Builtin.min_, Builtin.min2]; rfl, by simp [vrel]⟩
  · cases h

theorem putL_some {off : Nat} {vs cs r : List AV} (h : putL off vs cs = some r) : off + vs.length ≤ cs.length ∧ r = cs.take off ++ vs ++ cs.drop (off + vs.length) := by
  unfold putL at h
  split at h
  · rename_i hh; exact ⟨hh, (Option.some.inj h).symm⟩
  · cases h

/-- Cells put over cells: the model's own way. -/
theorem foldl_put : ∀ (ys : List Value) (off : Nat) (k : Nat) (arr : Array Value), off + k + ys.length ≤ arr.size →
    (ys.zipIdx k).foldl (fun cs (q : Value × Nat) => cs.setIfInBounds (off + q.2) q.1) arr = (arr.toList.take (off + k) ++ ys ++ arr.toList.drop (off + k + ys.length)).toArray
  | [], off, k, arr, _ => by simp
  | y :: ys, off, k, arr, h => by
    simp only [List.zipIdx_cons, List.foldl_cons]
    rw [foldl_put ys off (k + 1) (arr.setIfInBounds (off + k) y) (by simp at h ⊢; omega)]
    congr 1
    have hlt : off + k < arr.toList.length := by simp at h ⊢; omega
    simp only [Array.toList_setIfInBounds]
    rw [show off + (k + 1) = off + k + 1 by omega, List.take_set, List.drop_set_of_lt (by omega)]
    rw [List.take_succ_eq_append_getElem hlt, List.set_append_right _ _ (by simp; omega), List.length_take, Nat.min_eq_left (by omega), Nat.sub_self]
    simp
    congr 1
    omega

theorem vrels_put {off : Nat} {vs cs r : List AV} {ys xs : List Value} (h : putL off vs cs = some r) (hv : vrels C w vs ys) (hc : vrels C w cs xs) : vrels C w r (xs.take off ++ ys ++ xs.drop (off + ys.length)) := by
  obtain ⟨hl, rfl⟩ := putL_some h
  have l1 := hv.length
  have l2 := hc.length
  refine vrels.of_get (by simp; omega) fun i v y h1 h2 => ?_
  rw [List.append_assoc] at h1 h2
  rcases Nat.lt_or_ge i off with hi | hi
  · rw [List.getElem?_append_left (by simp; omega)] at h1 h2
    rw [List.getElem?_take, if_pos hi] at h1 h2
    obtain ⟨y', e1, e2⟩ := hc.get h1
    rw [h2] at e1; simp at e1; subst e1; exact e2
  · rw [List.getElem?_append_right (by simp; omega)] at h1 h2
    simp only [List.length_take] at h1 h2
    rw [Nat.min_eq_left (by omega)] at h1 h2
    rcases Nat.lt_or_ge (i - off) vs.length with hj | hj
    · rw [List.getElem?_append_left (by omega)] at h1 h2
      obtain ⟨y', e1, e2⟩ := hv.get h1
      rw [h2] at e1; simp at e1; subst e1; exact e2
    · rw [List.getElem?_append_right (by omega)] at h1 h2
      rw [List.getElem?_drop] at h1 h2
      rw [l1] at h2
      obtain ⟨y', e1, e2⟩ := hc.get h1
      rw [h2] at e1; simp at e1; subst e1; exact e2

theorem cells_sound {v : AV} {y : Value} (h : vrel C w v y) (h1 : v.cells.all AV.one = true) : vrels C w v.cells y.cells.toList := by
  have key : v.one = true → v.cells = [v] → vrels C w v.cells y.cells.toList := by
    intro ho hc
    have := oneCell_of h ho
    have hy : y.cells = #[y] := by cases y <;> simp [Value.oneCell'] at this <;> rfl
    rw [hc, hy]
    simp only [vrels]
    exact ⟨y, [], rfl, h, rfl⟩
  cases v
  case agg cs =>
    simp only [vrel] at h
    obtain ⟨xs, rfl, h2⟩ := h
    exact h2
  all_goals exact key (by simpa [AV.cells] using h1) rfl

theorem evParts_sound {env : Env} {a : Act} {g : Bool} (he : ERel C w env a.tmps) (hg : g = true) {place : Nat → Option (Nat × Nat)} :
    ∀ {xs : List (Nat × Operand)} {ys : List (Nat × Nat × Opd)} {ps : List (Nat × Nat × AV)} {zero cs : List AV} {zv : Array Value}, chkParts place xs ys = true → evParts env g ys = some ps → buildV zero ps = some cs → vrels C w zero zv.toList →
      ∃ zc, Instr.fill place zv (xs.map fun q => (q.1, a.eval q.2)) = some zc ∧ vrels C w cs zc.toList
  | [], [], ps, zero, cs, zv, _, h1, h2, hz => by
    simp [evParts] at h1; subst h1
    simp [buildV] at h2; subst h2
    exact ⟨zv, rfl, hz⟩
  | (i, x) :: xs, (off, sz, y) :: ys, ps, zero, cs, zv, hc, h1, h2, hz => by
    simp only [chkParts, Bool.and_eq_true, decide_eq_true_eq] at hc
    obtain ⟨⟨hf, hxy⟩, hrest⟩ := hc
    simp only [evParts] at h1
    obtain ⟨v, e1, h1⟩ := ob_eq_some h1
    obtain ⟨vs, e2, h1⟩ := ob_eq_some h1
    simp at h1; subst h1
    simp only [buildV] at h2
    split at h2
    · rename_i hone
      obtain ⟨hsz, hone⟩ := hone
      obtain ⟨z', e3, h2⟩ := ob_eq_some h2
      have hv := ev_sound hxy he e1 hg
      have hcs := cells_sound hv hone
      have hput := vrels_put e3 hcs hz
      obtain ⟨hle, _⟩ := putL_some e3
      have l1 := hcs.length
      have l2 := hz.length
      simp at l1 l2
      have hfold := foldl_put (a.eval x).cells.toList off 0 zv (by simp; omega)
      obtain ⟨zc, f1, f2⟩ := evParts_sound he hg (zv := (zv.toList.take (off + 0) ++ (a.eval x).cells.toList ++ zv.toList.drop (off + 0 + (a.eval x).cells.toList.length)).toArray) hrest e2 h2 (by simpa using hput)
      refine ⟨zc, ?_, f2⟩
      simp only [List.map_cons, Instr.fill, hf]
      rw [if_neg (by simp; omega)]
      rw [← Array.foldl_toList, Array.toList_zipIdx, hfold]
      exact f1
    · cases h2
  | [], _ :: _, _, _, _, _, hc, _, _, _ => by simp [chkParts] at hc
  | (_, _) :: _, [], _, _, _, _, hc, _, _, _ => by simp [chkParts] at hc

theorem run_places {P : Program} : ∀ {fs : List Field} {pl : List (Nat × Nat)}, (fs.mapM fun f => (sizeB P f.type).map fun n => (f.offset, n)) = some pl →
    (fs.mapM fun f => (Prod.mk f.offset <$> sizeOf f.type) : Sem (List (Nat × Nat))).run P w = .ok pl w
  | [], pl, h => by simp at h; subst h; rfl
  | f :: fs, pl, h => by
    simp only [List.mapM_cons, Option.bind_eq_bind, Option.bind_eq_some_iff, Option.map_eq_some_iff] at h
    obtain ⟨q, ⟨n, hn, rfl⟩, r, hr, h⟩ := h
    simp at h; subst h
    simp [List.mapM_cons, run_sizeB hn, run_places hr]

theorem build_sound {P : Program} {t : TypeId} {env : Env} {a : Act} {g : Bool} (he : ERel C w env a.tmps) (hg : g = true) {parts : Array (Nat × Operand)} {parts' : List (Nat × Nat × Opd)} {zero cs : List AV} {ps : List (Nat × Nat × AV)}
    (hc : (match P.underlying t, (P.info? t).bind (·.zero) with
      | some (.struct fs), some zv => chkLeaves zv.cells.toList zero && (match placesOf P fs with | some pl => chkParts (pl[·]?) parts.toList parts' | none => false)
      | some (.array _ e), some zv => chkLeaves zv.cells.toList zero && (match sizeB P e with | some sz => chkParts (fun i => some (i * sz, sz)) parts.toList parts' | none => false)
      | _, _ => false) = true) (h1 : evParts env g parts' = some ps) (h2 : buildV zero ps = some cs) :
    ∃ z, (Instr.build t (parts.map fun (i, x) => (i, a.eval x))).run P w = .ok z w ∧ vrel C w (.agg cs) z := by
  split at hc
  · rename_i fs zv hu hz
    simp only [Bool.and_eq_true] at hc
    obtain ⟨hl, hc⟩ := hc
    split at hc
    · rename_i pl hpl
      obtain ⟨zc, e1, e2⟩ := evParts_sound he hg hc h1 h2 (chkLeaves_sound hl)
      refine ⟨.agg zc, ?_, by simp only [vrel]; exact ⟨zc, rfl, e2⟩⟩
      unfold placesOf at hpl
      simp only [Option.map_eq_some_iff] at hpl
      obtain ⟨pl', hp', rfl⟩ := hpl
      have hz' : (zeroValue t).run P w = .ok zv w := by
        cases hi : P.info? t with
        | none => simp [hi] at hz
        | some i => simp [hi] at hz; simp [zeroValue, typeInfo, hi, hz]
      have hm : (fs.mapM fun f => do pure (f.offset, ← sizeOf f.type) : Sem (Array (Nat × Nat))).run P w = .ok pl'.toArray w := by
        rw [Array.mapM_eq_mapM_toList]
        simp [run_places hp']
      unfold Instr.build
      simp only [Sem.run_bind, hz', Result.andThen_ok, run_underlying hu, hm]
      have : (parts.map fun (i, x) => (i, a.eval x)).toList = parts.toList.map fun q => (q.1, a.eval q.2) := by simp
      rw [this, e1]
      rfl
    · cases hc
  · rename_i n e zv hu hz
    simp only [Bool.and_eq_true] at hc
    obtain ⟨hl, hc⟩ := hc
    split at hc
    · rename_i sz hsz
      obtain ⟨zc, e1, e2⟩ := evParts_sound he hg hc h1 h2 (chkLeaves_sound hl)
      refine ⟨.agg zc, ?_, by simp only [vrel]; exact ⟨zc, rfl, e2⟩⟩
      have hz' : (zeroValue t).run P w = .ok zv w := by
        cases hi : P.info? t with
        | none => simp [hi] at hz
        | some i => simp [hi] at hz; simp [zeroValue, typeInfo, hi, hz]
      unfold Instr.build
      simp only [Sem.run_bind, hz', Result.andThen_ok, run_underlying hu, run_sizeB hsz]
      have : (parts.map fun (i, x) => (i, a.eval x)).toList = parts.toList.map fun q => (q.1, a.eval q.2) := by simp
      rw [this, e1]
      rfl
    · cases hc
  · cases hc

theorem byteOf_some {e : List AV} {b : UInt8} (h : byteOf e = some b) : ∃ n, e = [.int .u8 n] ∧ b = UInt8.ofNat n.toNat := by
  unfold byteOf at h
  split at h
  · rename_i n
    exact ⟨n, rfl, (Option.some.inj h).symm⟩
  · cases h

theorem bytesOf_some : ∀ {es : List (List AV)} {s : Str}, bytesOf es = some s → ∃ xs : List Int, xs.length = es.length ∧ s = xs.map (fun n => UInt8.ofNat n.toNat) ∧ ∀ (i : Nat) (e : List AV), es[i]? = some e → e = [.int .u8 (xs.getD i 0)]
  | [], s, h => by
    simp [bytesOf] at h; subst h
    exact ⟨[], rfl, rfl, by simp⟩
  | e :: es, s, h => by
    simp only [bytesOf] at h
    obtain ⟨b, h1, h⟩ := ob_eq_some h
    obtain ⟨bs, h2, h⟩ := ob_eq_some h
    simp at h; subst h
    obtain ⟨n, rfl, rfl⟩ := byteOf_some h1
    obtain ⟨xs, e1, rfl, e3⟩ := bytesOf_some h2
    refine ⟨n :: xs, by simp [e1], by simp, fun i e hi => ?_⟩
    cases i with
    | zero => simp at hi; subst hi; simp
    | succ i => simp at hi; simpa using e3 i e hi

theorem b2s_sound {P : Program} {h : Heap} (H : HRel C w h) {src dst : TypeId} {x v : AV} {a : Value} (hc : (match P.underlying src, P.underlying dst with
      | some (.slice e), some .string => decide (isInt P e = some .u8) && decide (sizeB P e = some 1)
      | _, _ => false) = true) (h1 : b2sV h x = some v) (hx : vrel C w x a) : ∃ z, (convert src dst a).run P w = .ok z w ∧ vrel C w v z := by
  split at hc
  · rename_i e hs hd
    simp only [Bool.and_eq_true, decide_eq_true_eq] at hc
    obtain ⟨hint, hsz⟩ := hc
    have he : P.underlying e = some (.int .u8) := by
      unfold isInt at hint
      split at hint
      · rename_i hu; simp at hint; subst hint; exact hu
      · cases hint
    cases x <;> simp only [b2sV] at h1
    case psl es =>
      obtain ⟨s, h2, h1⟩ := ob_eq_some h1
      simp at h1; subst h1
      obtain ⟨xs, e1, rfl, e3⟩ := bytesOf_some h2
      simp only [vrel] at hx
      obtain ⟨b, cap, rfl, _, hb⟩ := hx
      have fin : ∀ {b o z : Nat}, b = b → ves C w z es b o → ∃ z, (convert src dst (.slice (some ⟨b, o, none⟩) es.length cap)).run P w = .ok z w ∧ vrel C w (.str (xs.map fun n => UInt8.ofNat n.toNat)) z := by
        intro b o z _ hv
        refine ⟨_, run_convert_bytes_arg (P := P) w src e hs he b o es.length cap xs e1 (fun i hi => ?_) dst hd, by simp only [vrel]; rfl⟩
        obtain ⟨r, hr⟩ : ∃ r, es[i]? = some r := ⟨_, List.getElem?_eq_getElem hi⟩
        obtain ⟨f1, f2⟩ := hv.get hr
        have := e3 i r hr
        subst this
        simp at f1; subst f1
        obtain ⟨_, y, g1, g2⟩ := f2.get (i := 0) rfl
        simp only [vrel] at g2
        subst g2
        simpa using g1
      rcases hb with rfl | ⟨b', o, z, rfl, hv⟩
      · cases b with
        | none =>
          refine ⟨_, run_convert_bytes_nil (P := P) w src e hs he _ _ dst hd, ?_⟩
          simp at e1; subst e1
          simp only [vrel]; rfl
        | some a =>
          simp at e1; subst e1
          refine ⟨.string ByteArray.empty, ?_, by simp only [vrel]; rfl⟩
          have hl : (loadCells a 0).run P w = .ok (([] : List Int).map (Value.int .u8)).toArray w := by
            have := run_loadCells_list (P := P) w a [] (fun j v hj => by simp at hj)
            simpa using this
          have := run_bytesToString (P := P) w a 0 cap [] hl
          rw [run_convert_bytes_string (P := P) w src dst e _ _ _ hs he hd]
          simpa using this
      · exact fin rfl hv
    case sl l s i n =>
      obtain ⟨es, h2, h1⟩ := ob_eq_some h1
      split at h1
      · rename_i hle
        obtain ⟨s', h3, h1⟩ := ob_eq_some h1
        simp at h1; subst h1
        obtain ⟨xs, e1, rfl, e3⟩ := bytesOf_some h3
        have hl : xs.length = n := by rw [e1]; simp; omega
        obtain ⟨z, _, hcase⟩ := rows_sound H hx h2
        rcases hcase with ⟨_, rfl, rfl, rfl, rfl⟩ | ⟨b, cap, arr, t, _, rfl, _, hb, _, _, hrows⟩
        · refine ⟨_, run_convert_bytes_nil (P := P) w src e hs he _ _ dst hd, ?_⟩
          simp at hl; subst hl
          simp only [vrel]; rfl
        · refine ⟨_, run_convert_bytes_arg (P := P) w src e hs he b (i * z) n cap xs hl (fun k hk => ?_) dst hd, by simp only [vrel]; rfl⟩
          obtain ⟨r, hr⟩ : ∃ r, es[i + k]? = some r := ⟨_, List.getElem?_eq_getElem (by omega)⟩
          obtain ⟨f1, f2⟩ := hrows _ r hr
          have := e3 k r (by rw [List.getElem?_take, if_pos hk, List.getElem?_drop]; exact hr)
          subst this
          simp at f1; subst f1
          obtain ⟨y, g1, g2, g3⟩ := f2 0 _ rfl
          simp only [vrel] at g3
          subst g3
          rw [cell_of_row w b _ arr t (0, 0) hb]
          simpa using g1
      · cases h1
    all_goals cases h1
  · cases hc

theorem kind_of {k : TypeId} {kk : Nat} {P : Program} (h : keyTy P k kk = true) : ∃ d, P.underlying k = some d ∧ ((kk = 0 ∧ ∃ q, d = .int q) ∨ (kk = 1 ∧ d = .string) ∨ (kk = 2 ∧ d = .bool)) := by
  unfold keyTy at h
  split at h
  · rename_i hu; exact ⟨_, hu, .inl ⟨rfl, _, rfl⟩⟩
  · rename_i hu; exact ⟨_, hu, .inr (.inl ⟨rfl, rfl⟩)⟩
  · rename_i hu; exact ⟨_, hu, .inr (.inr ⟨rfl, rfl⟩)⟩
  · cases h

theorem same_sound {kk : Nat} {d : TypeDesc} (hd : (kk = 0 ∧ ∃ q, d = .int q) ∨ (kk = 1 ∧ d = .string) ∨ (kk = 2 ∧ d = .bool)) {x y : AV} {a b : Value} {r : Bool} (h : keyEq kk x y = some r) (hx : vrel C w x a) (hy : vrel C w y b) :
    Instr.sameNow d a b = some r ∧ (r = true → ∀ n, Instr.sameBits n b a = true) := by
  unfold keyEq at h
  split at h
  · rcases hd with ⟨_, q, rfl⟩ | ⟨h0, _⟩ | ⟨h0, _⟩
    · simp only [vrel] at hx hy; subst hx; subst hy
      split at h
      · rename_i hk; subst hk; simp at h; subst h
        simp [Instr.sameNow]
        rintro rfl n
        cases n <;> simp [Instr.sameBits]
      · cases h
    · cases h0
    · cases h0
  · rcases hd with ⟨h0, _⟩ | ⟨_, rfl⟩ | ⟨h0, _⟩
    · cases h0
    · simp only [vrel] at hx hy; subst hx; subst hy
      rename_i u v _
      have e : ((⟨u.toArray⟩ : ByteArray) == ⟨v.toArray⟩) = (u == v) := by
        rw [beq_toListBytes, ByteArray.toList_eq, ByteArray.toList_eq]
      simp at h; subst h
      simp only [Instr.sameNow, e]
      refine ⟨trivial, fun hr n => ?_⟩
      have : u = v := by simpa using hr
      subst this
      cases n <;> (simp only [Instr.sameBits]; rw [e]; exact hr)
    · cases h0
  · rcases hd with ⟨h0, _⟩ | ⟨h0, _⟩ | ⟨_, rfl⟩
    · cases h0
    · cases h0
    · simp only [vrel] at hx hy; subst hx; subst hy
      simp at h; subst h
      simp [Instr.sameNow]
      rintro rfl n
      cases n <;> simp [Instr.sameBits]
  · cases h

def EntRel (C : Ctx) (w : World) (es : List (AV × AV)) (xs : List MapEntry) : Prop := xs.length = es.length ∧ ∀ (i : Nat) (e : AV × AV) (x : MapEntry), es[i]? = some e → xs[i]? = some x → vrel C w e.1 x.key ∧ vrel C w e.2 x.val

theorem find_sound {kk : Nat} {d : TypeDesc} (hd : (kk = 0 ∧ ∃ q, d = .int q) ∨ (kk = 1 ∧ d = .string) ∨ (kk = 2 ∧ d = .bool)) {k : AV} {kv : Value} (hk : vrel C w k kv) :
    ∀ {es : List (AV × AV)} {xs : List MapEntry} {r : Option AV} (i0 : Nat), EntRel C w es xs → mfind kk k es = some r →
      match r with
      | none => Instr.findNow d kv xs i0 = some none ∧ ∀ v, mput kk k v es = some (es ++ [(k, v)])
      | some v => ∃ i x, xs[i]? = some x ∧ Instr.findNow d kv xs i0 = some (some (i0 + i, x.val)) ∧ vrel C w v x.val ∧ (∀ n, Instr.sameBits n x.key kv = true) ∧ ∀ v', mput kk k v' es = some (es.set i (k, v'))
  | [], xs, r, i0, he, h => by
    simp [mfind] at h; subst h
    have : xs = [] := List.eq_nil_of_length_eq_zero he.1
    subst this
    exact ⟨rfl, fun v => rfl⟩
  | e :: es, [], r, i0, he, h => by have := he.1; simp at this
  | e :: es, x :: xs, r, i0, he, h => by
    simp only [mfind] at h
    obtain ⟨b, h1, h2⟩ := ob_eq_some h
    obtain ⟨q1, q2⟩ := he.2 0 e x rfl rfl
    obtain ⟨s1, s2⟩ := same_sound hd h1 hk q1
    cases b with
    | true =>
      simp at h2; subst h2
      exact ⟨0, x, rfl, by simp [Instr.findNow, s1], q2, s2 rfl, fun v' => by simp [mput, h1, ob_some]⟩
    | false =>
      simp at h2
      have he' : EntRel C w es xs := ⟨by simpa using he.1, fun i e x h3 h4 => he.2 (i + 1) e x (by simpa using h3) (by simpa using h4)⟩
      have ih := find_sound hd hk (i0 + 1) he' h2
      cases r with
      | none => exact ⟨by simp [Instr.findNow, s1, ih.1], fun v => by simp [mput, h1, ob_some, ih.2 v]⟩
      | some v =>
        obtain ⟨i, x', f1, f2, f3, f4, f5⟩ := ih
        exact ⟨i + 1, x', by simpa using f1, by simp [Instr.findNow, s1, f2]; omega, f3, f4, fun v' => by simp [mput, h1, ob_some, f5 v']⟩

theorem run_findKey {P : Program} {k : TypeId} {d : TypeDesc} (hu : P.underlying k = some d) {kv : Value} {xs : List MapEntry} {r : Option (Nat × Value)} (h : Instr.findNow d kv xs 0 = some r) : (Instr.findKey k kv xs).run P w = .ok r w := by
  simp [Instr.findKey, run_underlying hu, h]

theorem run_checkKey {P : Program} {k : TypeId} {d : TypeDesc} {kk : Nat} (hu : P.underlying k = some d) (hd : (kk = 0 ∧ ∃ q, d = .int q) ∨ (kk = 1 ∧ d = .string) ∨ (kk = 2 ∧ d = .bool)) (e : Bool) (n : Nat) (kv : Value) : (Instr.checkKey e (n + 1) k kv).run P w = .ok () w := by
  rcases hd with ⟨_, q, rfl⟩ | ⟨_, rfl⟩ | ⟨_, rfl⟩ <;> (unfold Instr.checkKey; simp only [Sem.run_bind, run_underlying hu, Result.andThen_ok]; cases kv <;> rfl)

theorem mp_obj {h : Heap} (H : HRel C w h) {l s : Nat} {y : Value} {es : List (AV × AV)} (hx : vrel C w (.mp l s) y) (ho : h[l]? = some (.mp s es)) : ∃ b xs clock, C.μ l = some (some b, s, 0) ∧ y = .map (some b) ∧ w.heap[b]? = some (.map xs clock) ∧ EntRel C w es xs.toList := by
  have hobj := H.obj l _ ho
  simp only [orel] at hobj
  obtain ⟨_, b, hm, xs, clock, hb, hl, he⟩ := hobj
  simp only [vrel] at hx
  exact ⟨b, xs, clock, hm, hx.2.2 b 0 hm, hb, hl, fun i e x h1 h2 => he i e x h1 (by simpa using h2)⟩

theorem look_sound {P : Program} {h : Heap} (H : HRel C w h) {t : TypeId} {kk : Nat} {ok : Bool} {zero x i v : AV} {a c : Value} (hc : (match P.underlying t with
      | some (.map k e) => keyTy P k kk && (match (P.info? e).bind (·.zero) with | some zv => chkV zv zero | none => false)
      | _ => false) = true) (h1 : lookV h kk ok zero x i = some v) (hx : vrel C w x a) (hi : vrel C w i c) : ∃ z, (Instr.lookup t a c ok).run P w = .ok z w ∧ vrel C w v z := by
  split at hc
  · rename_i k e hu
    simp only [Bool.and_eq_true] at hc
    obtain ⟨hk, hz⟩ := hc
    obtain ⟨d, huk, hd⟩ := kind_of hk
    split at hz
    · rename_i zv hzv
      have hz' : (zeroValue e).run P w = .ok zv w := by
        cases hi : P.info? e with
        | none => simp [hi] at hzv
        | some i => simp [hi] at hzv; simp [zeroValue, typeInfo, hi, hzv]
      have hzr := chkV_sound (C := C) (w := w) hz
      cases x <;> simp only [lookV] at h1
      case mp l s =>
        obtain ⟨o, ho, g1⟩ := ob_eq_some h1
        obtain ⟨q, hq, g2⟩ := ob_eq_some g1
        cases o <;> simp only [asMpO] at hq
        case mp s' es =>
          simp at hq; subst hq
          try simp only at g2
          split at g2
          · rename_i hss; subst hss
            obtain ⟨r, hr, g3⟩ := ob_eq_some g2
            obtain rfl := Option.some.inj g3
            obtain ⟨b, xs, clock, hm, rfl, hb, he⟩ := mp_obj H hx ho
            have hf := find_sound hd hi 0 he hr
            have hck := fun (e : Bool) => run_checkKey (P := P) (w := w) huk hd e 9999 c
            have hgo : (getObj b).run P w = .ok (.map xs clock) w := by simp [getObj, Sem.run, hb]
            cases r with
            | none =>
              refine ⟨if ok then .tuple #[zv, .bool false] else zv, ?_, ?_⟩
              · simp [Instr.lookup, run_underlying hu, hgo, hck, run_findKey huk hf.1, hz']
              · cases ok
                · simpa using hzr
                · simp only [if_true, vrel]; exact ⟨_, rfl, by simp only [vrels]; exact ⟨_, _, rfl, hzr, _, _, rfl, by simp [vrel], rfl⟩⟩
            | some v =>
              obtain ⟨i, x, f1, f2, f3, _⟩ := hf
              refine ⟨if ok then .tuple #[x.val, .bool true] else x.val, ?_, ?_⟩
              · simp [Instr.lookup, run_underlying hu, hgo, hck, run_findKey huk f2]
              · cases ok
                · simpa using f3
                · simp only [if_true, vrel]; exact ⟨_, rfl, by simp only [vrels]; exact ⟨_, _, rfl, f3, _, _, rfl, by simp [vrel], rfl⟩⟩
          · cases g2
        all_goals cases hq
      all_goals cases h1
    · cases hz
  · cases hc

theorem lenm_sound {P : Program} {h : Heap} (H : HRel C w h) {t ty : TypeId} {x v : AV} {a : Value} (hc : (match P.underlying t with | some (.map _ _) => true | _ => false) = true) (h1 : lenmV h x = some v) (hx : vrel C w x a) :
    ∃ z, (Builtin.len_ #[t] ty #[a]).run P w = .ok z w ∧ vrel C w v z := by
  split at hc
  · rename_i k e hu
    cases x <;> simp only [lenmV] at h1
    case mp l s =>
      obtain ⟨o, ho, g1⟩ := ob_eq_some h1
      obtain ⟨q, hq, g2⟩ := ob_eq_some g1
      cases o <;> simp only [asMpO] at hq
      case mp s' es =>
        simp at hq; subst hq
        try simp only at g2
        split at g2
        · rename_i hss; subst hss
          obtain rfl := Option.some.inj g2
          obtain ⟨b, xs, clock, hm, rfl, hb, he⟩ := mp_obj H hx ho
          have hgo : (getObj b).run P w = .ok (.map xs clock) w := by simp [getObj, Sem.run, hb]
          have hl : xs.size = es.length := by simpa using he.1
          refine ⟨.int .i64 xs.size, ?_, by simp [vrel, hl]⟩
          unfold Builtin.len_
          simp [run_underlying hu, hgo, goInt]
        · cases g2
      all_goals cases hq
    case nilmp =>
      simp at h1; subst h1
      simp only [vrel] at hx; subst hx
      refine ⟨.int .i64 0, ?_, by simp [vrel]⟩
      unfold Builtin.len_
      simp [run_underlying hu, goInt]
    all_goals cases h1
  · cases hc

theorem nilc_sound {P : Program} {o : Oper} {x : Operand} {ρ : Operand → Value} {y v : AV} (ho : o.op = .nilCheck x) (h : nilcV y = some v) (hx : vrel C w y (ρ x)) : (execOp ρ o).run P w = .ok (.value (ρ x)) w ∧ v = y := by
  generalize hr : ρ x = r at hx
  cases y <;> simp only [nilcV] at h
  case ptr => simp at h; subst h; simp only [vrel] at hx; obtain ⟨_, ⟨q, rfl⟩, _⟩ := hx; simp [execOp, ho, hr]
  case pptr => simp at h; subst h; simp only [vrel] at hx; obtain ⟨_, _, rfl, _⟩ := hx; simp [execOp, ho, hr]
  case fn => simp at h; subst h; simp only [vrel] at hx; obtain ⟨_, _, rfl, _⟩ := hx; simp [execOp, ho, hr]
  case iface => simp at h; subst h; simp only [vrel] at hx; obtain ⟨_, rfl, _⟩ := hx; simp [execOp, ho, hr]
  all_goals cases h

theorem run_val {P : Program} {s : Sem Value} {z : Value} (hs : s.run P w = .ok z w) : (do pure (Next.value (← s)) : Sem Next).run P w = .ok (.value z) w := by simp [hs]

theorem run_builtin {P : Program} {dst : Option Tmp} {ty : TypeId} {pos : String} {aft : Array Edge} {gd : Option (Nat × Bool)} {args : Array Operand} {tys : Array TypeId} {x : Operand} {t : TypeId} {ρ : Operand → Value} {z : Value}
    (e1 : args.toList = [x]) (e2 : tys.toList = [t]) (h : (Builtin.len_ #[t] ty #[ρ x]).run P w = .ok z w) :
    (execOp ρ ⟨dst, .call ⟨.builtin .len, args, tys⟩, ty, pos, aft, gd⟩).run P w = .ok (.value z) w := by
  obtain ⟨args⟩ := args
  obtain ⟨tys⟩ := tys
  simp only at e1 e2
  subst e1; subst e2
  simp [execOp, resolve, invoke, builtin, h]

theorem run_builtin2 {P : Program} {b : Builtin} {dst : Option Tmp} {ty : TypeId} {pos : String} {aft : Array Edge} {gd : Option (Nat × Bool)} {args : Array Operand} {tys : Array TypeId} {x y : Operand} {ρ : Operand → Value} {z : Value}
    (hb : b = .max ∨ b = .min) (e1 : args.toList = [x, y]) (h : (if b = .max then Builtin.max_ tys ty #[ρ x, ρ y] else Builtin.min_ tys ty #[ρ x, ρ y]).run P w = .ok z w) :
    (execOp ρ ⟨dst, .call ⟨.builtin b, args, tys⟩, ty, pos, aft, gd⟩).run P w = .ok (.value z) w := by
  obtain ⟨args⟩ := args
  simp only at e1
  subst e1
  rcases hb with rfl | rfl
  · simp at h; simp [execOp, resolve, invoke, builtin, h]
  · simp at h; simp [execOp, resolve, invoke, builtin, h]

/-- AN OPERATION THAT LEAVES MEMORY AS IT IS does in the model what part 2 says. -/
theorem POp.sound {P : Program} {o : Oper} {p : POp} {st : St} {a : Act} {g : Bool} {v : AV} (hc : chkP P o p = true) (H : HRel C w st.h) (he : ERel C w st.env a.tmps) (h : p.ev st g = some v) (hg : g = true) :
    ∃ z, (execOp a.eval o).run P w = .ok (.value z) w ∧ vrel C w v z := by
  obtain ⟨dst, op, ty, pos, aft, gd⟩ := o
  cases p
  case mv y =>
    simp only [POp.ev] at h
    cases op <;> first | (cases hc; done) | skip
    all_goals exact ⟨_, rfl, ev_sound hc he h hg⟩
  case pick c x y =>
    cases op <;> first | (cases hc; done) | skip
    rename_i c' x' y'
    simp only [chkP, Bool.and_eq_true] at hc
    simp only [POp.ev] at h
    obtain ⟨cv, h1, h⟩ := ob_eq_some h
    obtain ⟨b, h2, h⟩ := ob_eq_some h
    obtain ⟨xv, h3, h⟩ := ob_eq_some h
    obtain ⟨yv, h4, h⟩ := ob_eq_some h
    have rc := ev_sound hc.1.1 he h1 hg
    cases cv <;> simp only [asBool] at h2
    case bool b' =>
      simp at h2; subst h2
      simp only [vrel] at rc
      refine ⟨if b' then a.eval x' else a.eval y', ?_, sel_sound h (fun hp => ev_sound hc.1.2 he h3 (by simp [hg, hp])) (fun hp => ev_sound hc.2 he h4 (by simp [hg, hp]))⟩
      simp [execOp, rc, Go.asBool]
    all_goals cases h2
  case ld x =>
    cases op <;> first | (cases hc; done) | skip
    rename_i t x'
    simp only [chkP, Bool.and_eq_true, decide_eq_true_eq] at hc
    simp only [POp.ev] at h
    obtain ⟨xv, h1, h⟩ := ob_eq_some h
    obtain ⟨b, o, z, e1, e2, e3⟩ := load_sound H (ev_sound hc.2 he h1 hg) h
    refine ⟨z, ?_, e3⟩
    simp [execOp, Instr.loadAt, e1, Instr.sureAddr, loadVar, run_aggB hc.1, e2]
  case ldn n x =>
    cases op <;> first | (cases hc; done) | skip
    rename_i t x'
    simp only [chkP, Bool.and_eq_true, decide_eq_true_eq] at hc
    simp only [POp.ev] at h
    obtain ⟨xv, h1, h⟩ := ob_eq_some h
    obtain ⟨b, o, e1, ys, e2, e3⟩ := loadN_sound (P := P) H (ev_sound hc.2 he h1 hg) h
    refine ⟨.agg ys.toArray, ?_, e3⟩
    simp [execOp, Instr.loadAt, e1, Instr.sureAddr, loadVar, run_aggB hc.1.1, run_sizeB hc.1.2, e2]
  case nilc x =>
    cases op <;> first | (cases hc; done) | skip
    simp only [POp.ev] at h
    obtain ⟨xv, h1, h⟩ := ob_eq_some h
    have hr := ev_sound hc he h1 hg
    obtain ⟨e1, rfl⟩ := nilc_sound (P := P) (o := ⟨dst, _, ty, pos, aft, gd⟩) rfl h hr
    exact ⟨_, e1, hr⟩
  case bin op' x y =>
    cases op <;> first | (cases hc; done) | skip
    simp only [chkP, Bool.and_eq_true, decide_eq_true_eq] at hc
    simp only [POp.ev] at h
    obtain ⟨xv, h1, h⟩ := ob_eq_some h
    obtain ⟨yv, h2, h⟩ := ob_eq_some h
    obtain ⟨z, e1, e2⟩ := bin_sound (P := P) h (ev_sound hc.1.2 he h1 hg) (ev_sound hc.2 he h2 hg)
    rw [← hc.1.1] at e1
    exact ⟨z, run_val e1, e2⟩
  case eqk neg k x y =>
    cases op <;> first | (cases hc; done) | skip
    simp only [chkP, Bool.and_eq_true] at hc
    simp only [POp.ev] at h
    obtain ⟨xv, h1, h⟩ := ob_eq_some h
    obtain ⟨yv, h2, h⟩ := ob_eq_some h
    obtain ⟨r, h3, h⟩ := ob_eq_some h
    simp at h; subst h
    exact ⟨_, run_val (eqk_sound hc.1.1.1 hc.1.1.2 h3 (ev_sound hc.1.2 he h1 hg) (ev_sound hc.2 he h2 hg)), by simp [vrel]⟩
  case un op' x =>
    cases op <;> first | (cases hc; done) | skip
    simp only [chkP, Bool.and_eq_true, decide_eq_true_eq] at hc
    simp only [POp.ev] at h
    obtain ⟨xv, h1, h⟩ := ob_eq_some h
    obtain ⟨z, e1, e2⟩ := un_sound (P := P) h (ev_sound hc.2 he h1 hg)
    rw [← hc.1] at e1
    exact ⟨z, run_val e1, e2⟩
  case cvt k x =>
    cases op <;> first | (cases hc; done) | skip
    simp only [chkP, Bool.and_eq_true, decide_eq_true_eq] at hc
    simp only [POp.ev] at h
    obtain ⟨xv, h1, h⟩ := ob_eq_some h
    obtain ⟨z, e1, e2⟩ := cvt_sound hc.1.1 hc.1.2 h (ev_sound hc.2 he h1 hg)
    exact ⟨z, run_val e1, e2⟩
  case mkif t x =>
    cases op <;> first | (cases hc; done) | skip
    simp only [chkP, Bool.and_eq_true, decide_eq_true_eq] at hc
    simp only [POp.ev] at h
    obtain ⟨xv, h1, h⟩ := ob_eq_some h
    simp at h; subst h
    obtain ⟨⟨rfl, h3⟩, h4⟩ := hc
    obtain ⟨z, e1, e2⟩ := mkif_sound (P := P) h3 (ev_sound h4 he h1 hg)
    exact ⟨z, run_val e1, e2⟩
  case mkfn f x y =>
    cases op <;> first | (cases hc; done) | skip
    rename_i fn x' y'
    cases fn <;> first | (simp [chkP] at hc; done) | skip
    simp only [chkP, Bool.and_eq_true, decide_eq_true_eq] at hc
    simp only [POp.ev] at h
    obtain ⟨xv, h1, h⟩ := ob_eq_some h
    obtain ⟨yv, h2, h⟩ := ob_eq_some h
    simp at h; subst h
    refine ⟨_, rfl, ?_⟩
    simp only [vrel, hc.1.1]
    exact ⟨_, _, rfl, by simpa using evs_sound he hg hc.1.2 h1, by simpa using evs_sound he hg hc.2 h2⟩
  case foff n x =>
    cases op <;> first | (cases hc; done) | skip
    simp only [chkP, Bool.and_eq_true] at hc
    simp only [POp.ev] at h
    obtain ⟨xv, h1, h⟩ := ob_eq_some h
    obtain ⟨z, e1, e2⟩ := foff_sound (P := P) hc.1 h (ev_sound hc.2 he h1 hg)
    exact ⟨z, run_val e1, e2⟩
  case fld n x =>
    cases op <;> first | (cases hc; done) | skip
    simp only [chkP, Bool.and_eq_true] at hc
    simp only [POp.ev] at h
    obtain ⟨xv, h1, h⟩ := ob_eq_some h
    obtain ⟨z, e1, e2⟩ := fld_sound (P := P) hc.1 h (ev_sound hc.2 he h1 hg)
    exact ⟨z, run_val e1, e2⟩
  case fldn n m x =>
    cases op <;> first | (cases hc; done) | skip
    simp only [chkP, Bool.and_eq_true] at hc
    simp only [POp.ev] at h
    obtain ⟨xv, h1, h⟩ := ob_eq_some h
    obtain ⟨z, e1, e2⟩ := fldn_sound (P := P) hc.1 h (ev_sound hc.2 he h1 hg)
    exact ⟨z, run_val e1, e2⟩
  case iadr z x i =>
    cases op <;> first | (cases hc; done) | skip
    simp only [chkP, Bool.and_eq_true] at hc
    simp only [POp.ev] at h
    obtain ⟨xv, h1, h⟩ := ob_eq_some h
    obtain ⟨yv, h2, h⟩ := ob_eq_some h
    obtain ⟨z, e1, e2⟩ := iadr_sound (P := P) H hc.1.1 h (ev_sound hc.1.2 he h1 hg) (ev_sound hc.2 he h2 hg)
    exact ⟨z, run_val e1, e2⟩
  case iarr n z x i =>
    cases op <;> first | (cases hc; done) | skip
    simp only [chkP, Bool.and_eq_true] at hc
    simp only [POp.ev] at h
    obtain ⟨xv, h1, h⟩ := ob_eq_some h
    obtain ⟨yv, h2, h⟩ := ob_eq_some h
    obtain ⟨z, e1, e2⟩ := iarr_sound (P := P) hc.1.1 h (ev_sound hc.1.2 he h1 hg) (ev_sound hc.2 he h2 hg)
    exact ⟨z, run_val e1, e2⟩
  case idxs x i =>
    cases op <;> first | (cases hc; done) | skip
    simp only [chkP, Bool.and_eq_true] at hc
    simp only [POp.ev] at h
    obtain ⟨xv, h1, h⟩ := ob_eq_some h
    obtain ⟨yv, h2, h⟩ := ob_eq_some h
    obtain ⟨z, e1, e2⟩ := idxs_sound (P := P) hc.1.1 h (ev_sound hc.1.2 he h1 hg) (ev_sound hc.2 he h2 hg)
    exact ⟨z, run_val e1, e2⟩
  case slcs x lo hi mx =>
    cases op <;> first | (cases hc; done) | skip
    simp only [chkP, Bool.and_eq_true] at hc
    simp only [POp.ev] at h
    obtain ⟨xv, h1, h⟩ := ob_eq_some h
    obtain ⟨lv, h2, h⟩ := ob_eq_some h
    obtain ⟨hv, h3, h⟩ := ob_eq_some h
    obtain ⟨mv, h4, h⟩ := ob_eq_some h
    obtain ⟨z, e1, e2⟩ := slcs_sound (P := P) hc.1.1.1.1 h (ev_sound hc.1.1.1.2 he h1 hg) (evo_sound he hg hc.1.1.2 h2) (evo_sound he hg hc.1.2 h3) (evo_sound he hg hc.2 h4)
    exact ⟨z, run_val e1, e2⟩
  case slcl z x lo hi mx =>
    cases op <;> first | (cases hc; done) | skip
    simp only [chkP, Bool.and_eq_true, decide_eq_true_eq] at hc
    simp only [POp.ev] at h
    obtain ⟨xv, h1, h⟩ := ob_eq_some h
    obtain ⟨lv, h2, h⟩ := ob_eq_some h
    obtain ⟨hv, h3, h⟩ := ob_eq_some h
    obtain ⟨mv, h4, h⟩ := ob_eq_some h
    have hmh : mv ≠ none → hv ≠ none := by
      intro hm
      have : mx.isSome = true := by
        cases mx with
        | none => simp [evo] at h4; exact absurd h4.symm hm
        | some _ => rfl
      have := hc.1.1.1.1.2 this
      cases hi with
      | none => cases this
      | some q =>
        simp only [evo] at h3
        obtain ⟨_, _, h5⟩ := ob_eq_some h3
        simp at h5; subst h5; simp
    obtain ⟨z, e1, e2⟩ := slcl_sound (P := P) H hc.1.1.1.1.1 h (ev_sound hc.1.1.1.2 he h1 hg) (evo_sound he hg hc.1.1.2 h2) (evo_sound he hg hc.1.2 h3) (evo_sound he hg hc.2 h4) hmh
    exact ⟨z, run_val e1, e2⟩
  case lens x =>
    cases op <;> first | (cases hc; done) | skip
    rename_i c
    obtain ⟨callee, args, tys⟩ := c
    simp only [chkP] at hc
    split at hc
    · rename_i a0 t0 e1 e2
      simp only [Bool.and_eq_true] at hc
      simp only [POp.ev] at h
      obtain ⟨xv, h1, h⟩ := ob_eq_some h
      obtain ⟨z, q1, q2⟩ := lens_sound (P := P) (ty := ty) hc.1 h (ev_sound hc.2 he h1 hg)
      exact ⟨z, run_builtin e1 e2 q1, q2⟩
    · cases hc
  case lenl x =>
    cases op <;> first | (cases hc; done) | skip
    rename_i c
    obtain ⟨callee, args, tys⟩ := c
    simp only [chkP] at hc
    split at hc
    · rename_i a0 t0 e1 e2
      simp only [Bool.and_eq_true] at hc
      simp only [POp.ev] at h
      obtain ⟨xv, h1, h⟩ := ob_eq_some h
      obtain ⟨z, q1, q2⟩ := lenl_sound (P := P) (ty := ty) H hc.1 h (ev_sound hc.2 he h1 hg)
      exact ⟨z, run_builtin e1 e2 q1, q2⟩
    · cases hc
  case lenm x =>
    cases op <;> first | (cases hc; done) | skip
    rename_i c
    obtain ⟨callee, args, tys⟩ := c
    simp only [chkP] at hc
    split at hc
    · rename_i a0 t0 e1 e2
      simp only [Bool.and_eq_true] at hc
      simp only [POp.ev] at h
      obtain ⟨xv, h1, h⟩ := ob_eq_some h
      obtain ⟨z, q1, q2⟩ := lenm_sound (P := P) (ty := ty) H hc.1 h (ev_sound hc.2 he h1 hg)
      exact ⟨z, run_builtin e1 e2 q1, q2⟩
    · cases hc
  case ext x i =>
    cases op <;> first | (cases hc; done) | skip
    simp only [chkP, Bool.and_eq_true, decide_eq_true_eq] at hc
    simp only [POp.ev] at h
    obtain ⟨xv, h1, h⟩ := ob_eq_some h
    obtain ⟨z, e1, e2⟩ := ext_sound (P := P) h (ev_sound hc.2 he h1 hg)
    rw [← hc.1] at e1
    exact ⟨z, run_val e1, e2⟩
  case build zero parts =>
    cases op <;> first | (cases hc; done) | skip
    simp only [chkP] at hc
    simp only [POp.ev] at h
    obtain ⟨ps, h1, h⟩ := ob_eq_some h
    obtain ⟨cs, h2, h⟩ := ob_eq_some h
    simp at h; subst h
    obtain ⟨z, e1, e2⟩ := build_sound (P := P) he hg hc h1 h2
    exact ⟨z, run_val e1, e2⟩
  case b2s x =>
    cases op <;> first | (cases hc; done) | skip
    simp only [chkP, Bool.and_eq_true] at hc
    simp only [POp.ev] at h
    obtain ⟨xv, h1, h⟩ := ob_eq_some h
    obtain ⟨z, e1, e2⟩ := b2s_sound (P := P) H hc.1 h (ev_sound hc.2 he h1 hg)
    exact ⟨z, run_val e1, e2⟩
  case mmax x y =>
    cases op <;> first | (cases hc; done) | skip
    rename_i c
    obtain ⟨callee, args, tys⟩ := c
    simp only [chkP] at hc
    split at hc
    · rename_i a0 b0 e1
      simp only [Bool.and_eq_true] at hc
      simp only [POp.ev] at h
      obtain ⟨xv, h1, h⟩ := ob_eq_some h
      obtain ⟨yv, h2, h⟩ := ob_eq_some h
      obtain ⟨z, q1, q2⟩ := mmax_sound (P := P) (ty := ty) (tys := tys) h (ev_sound hc.1 he h1 hg) (ev_sound hc.2 he h2 hg)
      exact ⟨z, run_builtin2 (.inl rfl) e1 (by simpa using q1), q2⟩
    · cases hc
  case mmin x y =>
    cases op <;> first | (cases hc; done) | skip
    rename_i c
    obtain ⟨callee, args, tys⟩ := c
    simp only [chkP] at hc
    split at hc
    · rename_i a0 b0 e1
      simp only [Bool.and_eq_true] at hc
      simp only [POp.ev] at h
      obtain ⟨xv, h1, h⟩ := ob_eq_some h
      obtain ⟨yv, h2, h⟩ := ob_eq_some h
      obtain ⟨z, q1, q2⟩ := mmin_sound (P := P) (ty := ty) (tys := tys) h (ev_sound hc.1 he h1 hg) (ev_sound hc.2 he h2 hg)
      exact ⟨z, run_builtin2 (.inr rfl) e1 (by simpa using q1), q2⟩
    · cases hc
  case look kk ok zero x i =>
    cases op <;> first | (cases hc; done) | skip
    simp only [chkP, Bool.and_eq_true, decide_eq_true_eq] at hc
    simp only [POp.ev] at h
    obtain ⟨xv, h1, h⟩ := ob_eq_some h
    obtain ⟨yv, h2, h⟩ := ob_eq_some h
    obtain ⟨z, e1, e2⟩ := look_sound (P := P) H hc.1.1.1 h (ev_sound hc.1.2 he h1 hg) (ev_sound hc.2 he h2 hg)
    rw [← hc.1.1.2] at e1
    exact ⟨z, run_val e1, e2⟩
end
end Go.Ab

/- The layer Ab, part 5: the operations that change memory do what part 2 says. -/
namespace Go.Ab

section
variable {C C' : Ctx} {w w' : World} {P : Program}

/-- An object whose block stands as it did. -/
theorem orel.keepM {l : Nat} {o : AObj} (st : Mono C w C' w') (hm : C'.μ l = C.μ l) (hb : ∀ b s z, C.μ l = some (some b, s, z) → w'.heap[b]? = w.heap[b]?) (hok : ∀ b s z, C.μ l = some (some b, s, z) → ∀ j, C'.ok b j → C.ok b j)
    (h : orel C w l o) : orel C' w' l o := by
  cases o with
  | gone => simp only [orel] at *; rw [hm]; exact h
  | arr s imm z es =>
    simp only [orel] at *
    obtain ⟨h1, ob, h2, h3⟩ := h
    refine ⟨Nat.lt_of_lt_of_le h1 st.clk, ob, by rw [hm]; exact h2, ?_⟩
    cases ob with
    | none => exact h3
    | some b =>
      obtain ⟨arr, t, e1, e2, e3, e4⟩ := h3
      refine ⟨arr, t, by rw [hb b s z h2]; exact e1, e2, fun j hj hk => e3 j hj (hok b s z h2 j hk), fun i e hi => ⟨(e4 i e hi).1, fun j v hj => ?_⟩⟩
      obtain ⟨y, f1, f2, f3⟩ := (e4 i e hi).2 j v hj
      exact ⟨y, f1, f2, f3.monoM st⟩
  | mp s es =>
    simp only [orel] at *
    obtain ⟨h1, b, h2, xs, cl, h3, h4, h5⟩ := h
    exact ⟨Nat.lt_of_lt_of_le h1 st.clk, b, by rw [hm]; exact h2, xs, cl, by rw [hb b s 0 h2]; exact h3, h4, fun i e x hi hx => ⟨(h5 i e x hi hx).1.monoM st, (h5 i e x hi hx).2.monoM st⟩⟩
  | sit s str pos =>
    simp only [orel] at *
    obtain ⟨h1, b, h2, h3⟩ := h
    exact ⟨Nat.lt_of_lt_of_le h1 st.clk, b, by rw [hm]; exact h2, by rw [hb b s 0 h2]; exact h3⟩
  | mit s left => exact h

theorem orel.keep {l : Nat} {o : AObj} (st : Step C w C' w') (hm : C'.μ l = C.μ l) (hb : ∀ b s z, C.μ l = some (some b, s, z) → w'.heap[b]? = w.heap[b]?) (hok : ∀ b s z, C.μ l = some (some b, s, z) → ∀ j, C'.ok b j → C.ok b j)
    (h : orel C w l o) : orel C' w' l o := h.keepM st.toM hm hb hok

/-- The context behind a new object (in a block of its own, or in none yet). -/
def Ctx.new (C : Ctx) (l : Nat) (ob : Option Nat) (z : Nat) : Ctx := { ok := C.ok, μ := fun k => if k = l then some (ob, C.clk, z) else C.μ k, clk := C.clk + 1 }

theorem step_new {h : Heap} (H : HRel C w h) (obj : Obj) (z : Nat) : Step C w (C.new h.length (some w.heap.size) z) (w.alloc obj) where
  os := rfl
  tape := rfl
  output := rfl
  size := by simp
  clk := by simp [Ctx.new]
  ok _ _ hb := hb
  cell b j hb := World.cell?_alloc_lt w obj _ (H.okb b j hb)
  old l ob s z' hl hs := by
    simp only [Ctx.new] at hl
    split at hl
    · simp at hl; omega
    · exact hl
  kind b arr t fz hb := ⟨arr, t, fz, by rw [heap_alloc_old w obj (Array.getElem?_eq_some_iff.1 hb).1]; exact hb, rfl⟩
  out b hb _ := heap_alloc_old w obj hb
  own l b s z' hl hb := by
    simp only [Ctx.new] at hl
    split at hl
    · simp at hl; omega
    · exact ⟨l, s, z', hl⟩
  okn _ _ h _ := .inl h

theorem step_virtual {h : Heap} (z : Nat) : Step C w (C.new h.length none z) w where
  os := rfl
  tape := rfl
  output := rfl
  size := Nat.le_refl _
  clk := by simp [Ctx.new]
  ok _ _ hb := hb
  cell _ _ _ := rfl
  old l ob s z' hl hs := by
    simp only [Ctx.new] at hl
    split at hl
    · simp at hl; omega
    · exact hl
  kind b arr t fz hb := ⟨arr, t, fz, hb, rfl⟩
  out _ _ _ := rfl
  own l b s z' hl hb := by
    simp only [Ctx.new] at hl
    split at hl
    · simp at hl
    · exact ⟨l, s, z', hl⟩
  okn _ _ h _ := .inl h

theorem hrel_new {h : Heap} (H : HRel C w h) (obj : Obj) (z : Nat) {o : AObj} (ho : orel (C.new h.length (some w.heap.size) z) (w.alloc obj) h.length o) : HRel (C.new h.length (some w.heap.size) z) (w.alloc obj) (h ++ [o]) where
  obj l o' hl := by
    rcases Nat.lt_trichotomy l h.length with hlt | rfl | hgt
    · rw [List.getElem?_append_left hlt] at hl
      refine (H.obj l o' hl).keep (step_new H obj z) (by simp [Ctx.new]; omega) (fun b s z' hm => ?_) (fun b s z' hm j hk => hk)
      exact heap_alloc_old w obj (H.blk l b s z' hm)
    · simp at hl; subst hl; exact ho
    · rw [List.getElem?_eq_none (by simp; omega)] at hl; cases hl
  inj l l' b s z1 s' z1' h1 h2 := by
    simp only [Ctx.new] at h1 h2
    split at h1
    · rename_i e1
      split at h2
      · rename_i e2; rw [e1, e2]
      · simp at h1; have := H.blk l' b s' z1' h2; omega
    · split at h2
      · simp at h2; have := H.blk l b s z1 h1; omega
      · exact H.inj l l' b s z1 s' z1' h1 h2
  none l hl := by
    simp at hl
    simp only [Ctx.new]
    rw [if_neg (by omega)]
    exact H.none l (by omega)
  okb b j hb := by simp; exact Nat.lt_succ_of_lt (H.okb b j hb)
  blk l b s z1 h1 := by
    simp only [Ctx.new] at h1
    simp
    split at h1
    · simp at h1; omega
    · exact Nat.lt_succ_of_lt (H.blk l b s z1 h1)
  tb := H.tbS (step_new H obj z)

theorem hrel_virtual {h : Heap} (H : HRel C w h) (z : Nat) {o : AObj} (ho : orel (C.new h.length none z) w h.length o) : HRel (C.new h.length none z) w (h ++ [o]) where
  obj l o' hl := by
    rcases Nat.lt_trichotomy l h.length with hlt | rfl | hgt
    · rw [List.getElem?_append_left hlt] at hl
      exact (H.obj l o' hl).keep (step_virtual z) (by simp [Ctx.new]; omega) (fun _ _ _ _ => rfl) (fun _ _ _ _ _ hk => hk)
    · simp at hl; subst hl; exact ho
    · rw [List.getElem?_eq_none (by simp; omega)] at hl; cases hl
  inj l l' b s z1 s' z1' h1 h2 := by
    simp only [Ctx.new] at h1 h2
    split at h1
    · simp at h1
    · split at h2
      · simp at h2
      · exact H.inj l l' b s z1 s' z1' h1 h2
  none l hl := by
    simp at hl
    simp only [Ctx.new]
    rw [if_neg (by omega)]
    exact H.none l (by omega)
  okb := H.okb
  blk l b s z1 h1 := by
    simp only [Ctx.new] at h1
    split at h1
    · simp at h1
    · exact H.blk l b s z1 h1
  tb := H.tb

theorem ok_new {h : Heap} (H : HRel C w h) (j : Nat) : ¬ C.ok w.heap.size j := fun hk => Nat.lt_irrefl _ (H.okb _ _ hk)

/-- A new block with rows of cells. -/
theorem new_rows {h : Heap} (H : HRel C w h) {arr : Array Value} {t : TypeId} {z : Nat} {es : List (List AV)} (hl : es.length * z ≤ arr.size)
    (he : ∀ (i : Nat) (e : List AV), es[i]? = some e → e.length = z ∧ ∀ (j : Nat) (v : AV), e[j]? = some v → ∃ y : Value, arr[i * z + j]? = some y ∧ y.oneCell' = true ∧ vrel C w v y) :
    HRel (C.new h.length (some w.heap.size) z) (w.alloc (.cells arr t)) (h ++ [.arr C.clk 0 z es]) := by
  refine hrel_new H _ z ?_
  simp only [orel]
  refine ⟨by simp [Ctx.new], some w.heap.size, by simp [Ctx.new], arr, t, heap_alloc_new w _, hl, fun j _ => ok_new H j, fun i e hi => ⟨(he i e hi).1, fun j v hj => ?_⟩⟩
  obtain ⟨y, f1, f2, f3⟩ := (he i e hi).2 j v hj
  exact ⟨y, f1, f2, f3.mono (step_new H _ z)⟩

/-- A new block with one row: what the value of a type holds. -/
theorem new_one {h : Heap} (H : HRel C w h) {arr : Array Value} {t : TypeId} {cs : List AV} (hv : vrels C w cs arr.toList) (h1 : cs.all AV.one = true) :
    HRel (C.new h.length (some w.heap.size) cs.length) (w.alloc (.cells arr t)) (h ++ [.arr C.clk 0 cs.length [cs]]) := by
  have l := hv.length
  simp at l
  refine new_rows H (by simp; omega) fun i e hi => ?_
  cases i with
  | zero =>
    simp at hi; subst hi
    refine ⟨rfl, fun j v hj => ?_⟩
    obtain ⟨y, e1, e2⟩ := hv.get hj
    have hone : v.one = true := List.all_eq_true.1 h1 v (List.mem_of_getElem? hj)
    exact ⟨y, by simpa using e1, oneCell_of e2 hone, e2⟩
  | succ i => simp at hi

theorem ptr_new {h : Heap} {z : Nat} {i off : Nat} : vrel (C.new h.length (some w.heap.size) z) w' (.ptr h.length C.clk i off) (.pointer (some ⟨w.heap.size, i * z + off, none⟩)) := by
  simp only [vrel]
  refine ⟨by simp [Ctx.new], ⟨_, rfl⟩, fun b z' hm => ?_⟩
  simp [Ctx.new] at hm
  obtain ⟨rfl, rfl⟩ := hm
  rfl

/-! ### Stores -/

/-- A row of an object of one's own is written over. -/
theorem set_rel {h : Heap} (H : HRel C w h) {l s imm z i b : Nat} {es : List (List AV)} {arr arr' : Array Value} {t : TypeId} {r r' : List AV} (ho : h[l]? = some (.arr s imm z es)) (hm : C.μ l = some (some b, s, z)) (hb : w.heap[b]? = some (.cells arr t))
    (himm : imm ≤ i) (hr : es[i]? = some r) (hlen : r'.length = r.length) (hsz : arr'.size = arr.size)
    (hsame : ∀ k, k < i * z ∨ (i + 1) * z ≤ k → arr'[k]? = arr[k]?)
    (hrow : ∀ (j : Nat) (v : AV), r'[j]? = some v → ∃ y : Value, arr'[i * z + j]? = some y ∧ y.oneCell' = true ∧ vrel C w v y) :
    Step C w C (w.setRow b arr') ∧ HRel C (w.setRow b arr') (h.set l (.arr s imm z (es.set i r'))) := by
  have hobj := H.obj l _ ho
  simp only [orel] at hobj
  obtain ⟨hlt, ob, hm', hob⟩ := hobj
  rw [hm] at hm'
  simp at hm'
  subst hm'
  obtain ⟨arr0, t0, e1, e2, e3, e4⟩ := hob
  rw [hb] at e1
  simp at e1
  obtain ⟨rfl, rfl⟩ := e1
  have hhb : (w.setRow b arr').heap[b]? = some (.cells arr' t) := setRow_heap w b arr arr' t (0, 0) hb
  have hother : ∀ k, k ≠ b → (w.setRow b arr').heap[k]? = w.heap[k]? := fun k hk => setRow_other w b k arr' hk
  have hcell : ∀ k j, C.ok k j → (w.setRow b arr').cell? ⟨k, j, none⟩ = w.cell? ⟨k, j, none⟩ := by
    intro k j hk
    by_cases hkb : k = b
    · subst hkb
      rw [cell_of_row _ k j arr' t (0, 0) hhb, cell_of_row w k j arr t (0, 0) hb]
      refine hsame j (.inl ?_)
      rcases Nat.lt_or_ge j (imm * z) with hj | hj
      · exact Nat.lt_of_lt_of_le hj (Nat.mul_le_mul_right _ himm)
      · exact absurd hk (e3 j hj)
    · exact World.cell?_of_block (w := w) (hother k hkb)
  have st : Step C w C (w.setRow b arr') := by
    refine ⟨rfl, rfl, rfl, by simp [World.setRow], Nat.le_refl _, fun _ _ h => h, hcell, fun _ _ _ _ h _ => h, ?_, ?_, fun l b s z h _ => ⟨l, s, z, h⟩, fun _ _ h _ => .inl h⟩
    · intro k a t' fz hk
      by_cases hkb : k = b
      · subst hkb
        rw [hb] at hk
        simp at hk
        obtain ⟨rfl, rfl, rfl⟩ := hk
        exact ⟨arr', _, _, hhb, hsz⟩
      · exact ⟨a, t', fz, by rw [hother k hkb]; exact hk, rfl⟩
    · intro k hk hn
      exact hother k (fun e => by subst e; exact hn l s z hm)
  refine ⟨st, ?_⟩
  refine ⟨?_, H.inj, ?_, ?_, ?_, H.tbS st⟩
  · intro k o hk
    by_cases hkl : k = l
    · subst hkl
      have hklt : k < h.length := (List.getElem?_eq_some_iff.1 ho).1
      rw [List.getElem?_set_self hklt] at hk
      simp at hk; subst hk
      simp only [orel]
      refine ⟨hlt, some b, hm, arr', t, hhb, by simpa [hsz] using e2, e3, fun i' e hi' => ?_⟩
      by_cases hii : i' = i
      · subst hii
        have hilt : i' < es.length := (List.getElem?_eq_some_iff.1 hr).1
        rw [List.getElem?_set_self hilt] at hi'
        simp at hi'; subst hi'
        refine ⟨hlen.trans (e4 i' r hr).1, fun j v hj => ?_⟩
        obtain ⟨y, f1, f2, f3⟩ := hrow j v hj
        exact ⟨y, f1, f2, f3.mono st⟩
      · rw [List.getElem?_set_ne (fun e => hii e.symm)] at hi'
        refine ⟨(e4 i' e hi').1, fun j v hj => ?_⟩
        obtain ⟨y, f1, f2, f3⟩ := (e4 i' e hi').2 j v hj
        have hjz : j < z := by rw [← (e4 i' e hi').1]; exact (List.getElem?_eq_some_iff.1 hj).1
        refine ⟨y, ?_, f2, f3.mono st⟩
        rw [hsame _ ?_]; exact f1
        rcases Nat.lt_or_gt_of_ne hii with hlt' | hgt'
        · left
          have : (i' + 1) * z ≤ i * z := Nat.mul_le_mul_right _ hlt'
          rw [Nat.add_mul] at this
          omega
        · right
          have : (i + 1) * z ≤ i' * z := Nat.mul_le_mul_right _ hgt'
          omega
    · rw [List.getElem?_set_ne (fun e => hkl e.symm)] at hk
      refine (H.obj k o hk).keep st rfl (fun b' s' z' hm' => hother b' (fun e => ?_)) (fun _ _ _ _ _ hk => hk)
      subst e
      exact hkl (H.inj k l b' s' z' s z hm' hm)
  · intro k hk; exact H.none k (by simpa using hk)
  · intro b' j hk; have := H.okb b' j hk; simpa [World.setRow] using this
  · intro k b' s' z' hm'; have := H.blk k b' s' z' hm'; simpa [World.setRow] using this

/-- Cells behind the rows of an object of one's own are written over. -/
theorem write_rel {h : Heap} (H : HRel C w h) {l s imm z i b : Nat} {es : List (List AV)} {arr arr' : Array Value} {t : TypeId} (ho : h[l]? = some (.arr s imm z es)) (hm : C.μ l = some (some b, s, z)) (hb : w.heap[b]? = some (.cells arr t))
    (himm : imm ≤ i) (hes : es.length ≤ i) (hsz : arr'.size = arr.size) (hsame : ∀ k, k < i * z → arr'[k]? = arr[k]?) :
    Step C w C (w.setRow b arr') ∧ HRel C (w.setRow b arr') h := by
  have hobj := H.obj l _ ho
  simp only [orel] at hobj
  obtain ⟨hlt, ob, hm', hob⟩ := hobj
  rw [hm] at hm'
  simp at hm'
  subst hm'
  obtain ⟨arr0, t0, e1, e2, e3, e4⟩ := hob
  rw [hb] at e1
  simp at e1
  obtain ⟨rfl, rfl⟩ := e1
  have hhb : (w.setRow b arr').heap[b]? = some (.cells arr' t) := setRow_heap w b arr arr' t (0, 0) hb
  have hother : ∀ k, k ≠ b → (w.setRow b arr').heap[k]? = w.heap[k]? := fun k hk => setRow_other w b k arr' hk
  have hcell : ∀ k j, C.ok k j → (w.setRow b arr').cell? ⟨k, j, none⟩ = w.cell? ⟨k, j, none⟩ := by
    intro k j hk
    by_cases hkb : k = b
    · subst hkb
      rw [cell_of_row _ k j arr' t (0, 0) hhb, cell_of_row w k j arr t (0, 0) hb]
      refine hsame j ?_
      rcases Nat.lt_or_ge j (imm * z) with hj | hj
      · exact Nat.lt_of_lt_of_le hj (Nat.mul_le_mul_right _ himm)
      · exact absurd hk (e3 j hj)
    · exact World.cell?_of_block (w := w) (hother k hkb)
  have st : Step C w C (w.setRow b arr') := by
    refine ⟨rfl, rfl, rfl, by simp [World.setRow], Nat.le_refl _, fun _ _ h => h, hcell, fun _ _ _ _ h _ => h, ?_, ?_, fun l b s z h _ => ⟨l, s, z, h⟩, fun _ _ h _ => .inl h⟩
    · intro k a t' fz hk
      by_cases hkb : k = b
      · subst hkb
        rw [hb] at hk
        simp at hk
        obtain ⟨rfl, rfl, rfl⟩ := hk
        exact ⟨arr', _, _, hhb, hsz⟩
      · exact ⟨a, t', fz, by rw [hother k hkb]; exact hk, rfl⟩
    · intro k hk hn
      exact hother k (fun e => by subst e; exact hn l s z hm)
  refine ⟨st, ?_⟩
  refine ⟨?_, H.inj, H.none, ?_, ?_, H.tbS st⟩
  · intro k o hk
    by_cases hkl : k = l
    · subst hkl
      rw [ho] at hk
      obtain rfl := Option.some.inj hk
      simp only [orel]
      refine ⟨hlt, some b, hm, arr', t, hhb, by simpa [hsz] using e2, e3, fun i' e hi' => ?_⟩
      refine ⟨(e4 i' e hi').1, fun j v hj => ?_⟩
      obtain ⟨y, f1, f2, f3⟩ := (e4 i' e hi').2 j v hj
      have hjz : j < z := by rw [← (e4 i' e hi').1]; exact (List.getElem?_eq_some_iff.1 hj).1
      have hil := (List.getElem?_eq_some_iff.1 hi').1
      refine ⟨y, ?_, f2, f3.mono st⟩
      rw [hsame _ ?_]; exact f1
      have : (i' + 1) * z ≤ i * z := Nat.mul_le_mul_right _ (by omega)
      rw [Nat.add_mul] at this
      omega
    · refine (H.obj k o hk).keep st rfl (fun b' s' z' hm' => hother b' (fun e => ?_)) (fun _ _ _ _ _ hk => hk)
      subst e
      exact hkl (H.inj k l b' s' z' s z hm' hm)
  · intro b' j hk; have := H.okb b' j hk; simpa [World.setRow] using this
  · intro k b' s' z' hm'; have := H.blk k b' s' z' hm'; simpa [World.setRow] using this

/-! ### append -/

def Ctx.move (C : Ctx) (l : Nat) (ob : Option Nat) (z : Nat) : Ctx := { ok := C.ok, μ := fun k => if k = l then some (ob, C.clk, z) else C.μ k, clk := C.clk + 1 }

/-- An object gets another block, or its own anew: what else there is stands as it did. -/
theorem move_rel {h : Heap} (H : HRel C w h) {l s z : Nat} {ob ob' : Option Nat} {z' : Nat} {o o' : AObj} (ho : h[l]? = some o) (hm : C.μ l = some (ob, s, z)) (hos : w'.os = w.os) (htape : w'.tape = w.tape) (hout : w'.output = w.output)
    (hsize : w.heap.size ≤ w'.heap.size) (hcell : ∀ b j, C.ok b j → w'.cell? ⟨b, j, none⟩ = w.cell? ⟨b, j, none⟩)
    (hkind : ∀ (b : Nat) (arr : Array Value) (t : TypeId) (fz : Nat × Nat), w.heap[b]? = some (Obj.cells arr t fz) → ∃ (arr' : Array Value) (t' : TypeId) (fz' : Nat × Nat), w'.heap[b]? = some (Obj.cells arr' t' fz') ∧ arr'.size = arr.size)
    (hother : ∀ k, k < w.heap.size → ob ≠ some k → w'.heap[k]? = w.heap[k]?) (hob : ∀ b, ob' = some b → (ob = some b ∨ w.heap.size ≤ b) ∧ b < w'.heap.size)
    (ho' : Step C w (C.move l ob' z') w' → orel (C.move l ob' z') w' l o') : Step C w (C.move l ob' z') w' ∧ HRel (C.move l ob' z') w' (h.set l o') := by
  have st : Step C w (C.move l ob' z') w' := by
    refine ⟨hos, htape, hout, hsize, by simp [Ctx.move], fun _ _ h => h, hcell, ?_, hkind, ?_, ?_, fun _ _ h _ => .inl h⟩
    · intro k ob s' z'' hk hs
      simp only [Ctx.move] at hk
      split at hk
      · simp at hk; omega
      · exact hk
    · intro k hk hn
      exact hother k hk (fun e => by subst e; exact hn l s z hm)
    · intro k b s' z'' hk hb
      simp only [Ctx.move] at hk
      split at hk
      · simp at hk
        obtain ⟨rfl, _⟩ := hk
        rcases (hob b rfl).1 with e | e
        · subst e; exact ⟨l, s, z, hm⟩
        · omega
      · exact ⟨k, s', z'', hk⟩
  refine ⟨st, ?_, ?_, ?_, ?_, ?_, H.tbS st⟩
  · intro k o1 hk
    by_cases hkl : k = l
    · subst hkl
      have hklt : k < h.length := (List.getElem?_eq_some_iff.1 ho).1
      rw [List.getElem?_set_self hklt] at hk
      simp at hk; subst hk
      exact ho' st
    · rw [List.getElem?_set_ne (fun e => hkl e.symm)] at hk
      refine (H.obj k o1 hk).keep st (by simp [Ctx.move, hkl]) (fun b' s' z1 hm' => hother b' (H.blk k b' s' z1 hm') (fun e => ?_)) (fun _ _ _ _ _ hk => hk)
      subst e
      exact hkl (H.inj k l b' s' z1 s z hm' hm)
  · intro k k' b s1 z1 s2 z2 h1 h2
    simp only [Ctx.move] at h1 h2
    split at h1
    · rename_i e1
      split at h2
      · rename_i e2; rw [e1, e2]
      · simp at h1
        obtain ⟨rfl, _⟩ := h1
        rcases (hob b rfl).1 with e | e
        · subst e; rw [e1]; exact (H.inj k' l b s2 z2 s z h2 hm).symm
        · have := H.blk k' b s2 z2 h2; omega
    · split at h2
      · rename_i e2
        simp at h2
        obtain ⟨rfl, _⟩ := h2
        rcases (hob b rfl).1 with e | e
        · subst e; rw [e2]; exact H.inj k l b s1 z1 s z h1 hm
        · have := H.blk k b s1 z1 h1; omega
      · exact H.inj k k' b s1 z1 s2 z2 h1 h2
  · intro k hk
    simp at hk
    have hllt : l < h.length := (List.getElem?_eq_some_iff.1 ho).1
    simp only [Ctx.move]
    rw [if_neg (by omega)]
    exact H.none k hk
  · intro b j hb; exact Nat.lt_of_lt_of_le (H.okb b j hb) hsize
  · intro k b s1 z1 h1
    simp only [Ctx.move] at h1
    split at h1
    · simp at h1
      obtain ⟨rfl, _⟩ := h1
      exact (hob b rfl).2
    · exact Nat.lt_of_lt_of_le (H.blk k b s1 z1 h1) hsize

/-- What rows of memory hold, one behind the other. -/
theorem ves_flat {z : Nat} : ∀ {es : List (List AV)} {b o : Nat}, ves C w z es b o → ∃ ys : List Value, ys.length = es.length * z ∧ vrels C w es.flatten ys ∧ ∀ (j : Nat) (y : Value), ys[j]? = some y → w.cell? ⟨b, o + j, none⟩ = some y
  | [], b, o, _ => ⟨[], by simp, by simp [vrels], by simp⟩
  | e :: es, b, o, h => by
    simp only [ves] at h
    obtain ⟨h1, h2, h3⟩ := h
    obtain ⟨y1, e1, e2, e3⟩ := cells_list (b := b) (o := o) (r := e) fun j v hj => (h2.get hj).2
    obtain ⟨y2, f1, f2, f3⟩ := ves_flat h3
    refine ⟨y1 ++ y2, by simp [e1, f1, h1, Nat.add_mul, Nat.add_comm], ?_, fun j y hj => ?_⟩
    · simp only [List.flatten_cons]
      refine vrels.of_get (by simp [e1, f2.length]) fun i v y hv hy => ?_
      rcases Nat.lt_or_ge i e.length with hi | hi
      · rw [List.getElem?_append_left hi] at hv
        rw [List.getElem?_append_left (by omega)] at hy
        obtain ⟨y', g1, g2⟩ := e2.get hv
        rw [hy] at g1; simp at g1; subst g1; exact g2
      · rw [List.getElem?_append_right hi] at hv
        rw [List.getElem?_append_right (by omega), e1] at hy
        obtain ⟨y', g1, g2⟩ := f2.get hv
        rw [hy] at g1; simp at g1; subst g1; exact g2
    · rcases Nat.lt_or_ge j e.length with hi | hi
      · rw [List.getElem?_append_left (by omega)] at hj
        exact e3 j y hj
      · rw [List.getElem?_append_right (by omega), e1] at hj
        have := f3 _ y hj
        rwa [show o + z + (j - e.length) = o + j by omega] at this

theorem rows_flat {z : Nat} {arr : Array Value} : ∀ {es : List (List AV)} {i0 : Nat}, (∀ (i : Nat) (e : List AV), es[i]? = some e → e.length = z ∧ ∀ (j : Nat) (v : AV), e[j]? = some v → ∃ y : Value, arr[(i0 + i) * z + j]? = some y ∧ y.oneCell' = true ∧ vrel C w v y) →
    ∃ ys : List Value, ys.length = es.length * z ∧ vrels C w es.flatten ys ∧ (∀ (j : Nat) (y : Value), ys[j]? = some y → arr[i0 * z + j]? = some y) ∧ ∀ y ∈ ys, y.oneCell' = true
  | [], i0, _ => ⟨[], by simp, by simp [vrels], by simp, by simp⟩
  | e :: es, i0, h => by
    obtain ⟨h1, h2⟩ := h 0 e rfl
    simp only [Nat.add_zero] at h2
    have row : ∀ (r : List AV) (k : Nat), (∀ (j : Nat) (v : AV), r[j]? = some v → ∃ y : Value, arr[i0 * z + k + j]? = some y ∧ y.oneCell' = true ∧ vrel C w v y) → ∃ ys : List Value, ys.length = r.length ∧ vrels C w r ys ∧ (∀ (j : Nat) (y : Value), ys[j]? = some y → arr[i0 * z + k + j]? = some y) ∧ ∀ y ∈ ys, y.oneCell' = true := by
      intro r
      induction r with
      | nil => exact fun _ _ => ⟨[], rfl, by simp [vrels], by simp, by simp⟩
      | cons v r ih =>
        intro k hk
        obtain ⟨y, g1, g2, g3⟩ := hk 0 v rfl
        obtain ⟨ys, q1, q2, q3, q4⟩ := ih (k + 1) fun j v hj => by
          have := hk (j + 1) v (by simpa using hj)
          rwa [show i0 * z + k + (j + 1) = i0 * z + (k + 1) + j by omega] at this
        refine ⟨y :: ys, by simp [q1], by simp only [vrels]; exact ⟨y, ys, rfl, g3, q2⟩, fun j y' hj => ?_, by simp [g2]; exact q4⟩
        cases j with
        | zero => simp at hj; subst hj; exact g1
        | succ j =>
          have := q3 j y' (by simpa using hj)
          rwa [show i0 * z + k + (j + 1) = i0 * z + (k + 1) + j by omega]
    obtain ⟨y1, e1, e2, e3, e4⟩ := row e 0 (by simpa using h2)
    obtain ⟨y2, f1, f2, f3, f4⟩ := rows_flat (es := es) (i0 := i0 + 1) fun i e hi => by
      have := h (i + 1) e (by simpa using hi)
      rwa [show i0 + (i + 1) = i0 + 1 + i by omega] at this
    refine ⟨y1 ++ y2, by simp [e1, f1, h1, Nat.add_mul, Nat.add_comm], ?_, fun j y hj => ?_, ?_⟩
    · simp only [List.flatten_cons]
      refine vrels.of_get (by simp [e1, f2.length]) fun i v y hv hy => ?_
      rcases Nat.lt_or_ge i e.length with hi | hi
      · rw [List.getElem?_append_left hi] at hv
        rw [List.getElem?_append_left (by omega)] at hy
        obtain ⟨y', g1, g2⟩ := e2.get hv
        rw [hy] at g1; simp at g1; subst g1; exact g2
      · rw [List.getElem?_append_right hi] at hv
        rw [List.getElem?_append_right (by omega), e1] at hy
        obtain ⟨y', g1, g2⟩ := f2.get hv
        rw [hy] at g1; simp at g1; subst g1; exact g2
    · rcases Nat.lt_or_ge j e.length with hi | hi
      · rw [List.getElem?_append_left (by omega)] at hj
        have := e3 j y hj
        simpa using this
      · rw [List.getElem?_append_right (by omega), e1] at hj
        have := f3 _ y hj
        rwa [show (i0 + 1) * z + (j - e.length) = i0 * z + j by rw [Nat.add_mul]; omega] at this
    · intro y hy
      rcases List.mem_append.1 hy with hy | hy
      · exact e4 y hy
      · exact f4 y hy

theorem flatten_get {z : Nat} : ∀ {xs : List (List AV)} {i j : Nat} {e : List AV} {v : AV}, (∀ e ∈ xs, e.length = z) → xs[i]? = some e → e[j]? = some v → xs.flatten[i * z + j]? = some v
  | [], i, j, e, v, _, h, _ => by simp at h
  | x :: xs, 0, j, e, v, hz, h, hj => by
    simp at h; subst h
    simp only [List.flatten_cons, Nat.zero_mul, Nat.zero_add]
    rw [List.getElem?_append_left (List.getElem?_eq_some_iff.1 hj).1]; exact hj
  | x :: xs, i + 1, j, e, v, hz, h, hj => by
    have hx := hz x (by simp)
    simp only [List.flatten_cons]
    rw [List.getElem?_append_right (by rw [Nat.add_mul]; omega)]
    rw [show (i + 1) * z + j - x.length = i * z + j by rw [Nat.add_mul]; omega]
    exact flatten_get (fun e he => hz e (by simp [he])) (by simpa using h) hj

theorem oneCells {cs : List AV} {ys : List Value} (h : vrels C w cs ys) (h1 : cs.all AV.one = true) : ∀ y ∈ ys, y.oneCell' = true := by
  intro y hy
  obtain ⟨i, hi⟩ := List.getElem?_of_mem hy
  have hlt : i < cs.length := by rw [← h.length]; exact (List.getElem?_eq_some_iff.1 hi).1
  obtain ⟨y', e1, e2⟩ := h.get (List.getElem?_eq_getElem hlt)
  rw [hi] at e1; simp at e1; subst e1
  exact oneCell_of e2 (List.all_eq_true.1 h1 _ (List.getElem_mem hlt))

theorem flatten_single {α β : Type} (f : α → β) : ∀ l : List α, (l.map fun b => [f b]).flatten = l.map f
  | [] => rfl
  | a :: l => by simp [flatten_single f l]

/-- What is appended: its length, and its cells, wherever they are asked for. -/
theorem src_sound {h : Heap} (H : HRel C w h) {x : AV} {y : Value} {xs : List (List AV)} {z : Nat} (hx : vrel C w x y) (hs : srcV h x = some xs) (hz : ∀ e ∈ xs, e.length = z ∧ e.all AV.one = true) (hzp : 0 < z) :
    ∃ news : List Value, news.length = xs.length * z ∧ vrels C w xs.flatten news ∧ (∀ w' : World, (Builtin.lenOf y).run P w' = .ok xs.length w') ∧
      ∀ w' : World, (∀ a v, w.cell? a = some v → w'.cell? a = some v) → (Builtin.firstCells z xs.length y).run P w' = .ok news.toArray w' := by
  cases x <;> simp only [srcV] at hs
  case psl es =>
    simp at hs; subst hs
    simp only [vrel] at hx
    obtain ⟨a, cap, rfl, hcap, hes⟩ := hx
    rcases hes with rfl | ⟨b, o, z', rfl, hv⟩
    · refine ⟨[], by simp, by simp [vrels], fun w' => by simp [Builtin.lenOf], fun w' _ => ?_⟩
      cases a with
      | none => simp [Builtin.firstCells]
      | some ad => simp [Builtin.firstCells, loadCells, loadCellsFrom]
    · obtain ⟨ys, e1, e2, e3⟩ := ves_flat hv
      have hzz : ys.length = es.length * z := by
        rw [e1]
        cases es with
        | nil => simp
        | cons e es => simp only [ves] at hv; rw [← hv.1, (hz e (by simp)).1]
      refine ⟨ys, hzz, e2, fun w' => by simp [Builtin.lenOf], fun w' hw => ?_⟩
      exact run_firstCells_some w' z es.length ⟨b, o, none⟩ _ _ ys hzz fun j v hj => by rw [addr_add]; exact hw _ _ (e3 j v hj)
  case vn =>
    simp at hs; subst hs
    simp only [vrel] at hx
    subst hx
    refine ⟨[], by simp, by simp [vrels], fun w' => by simp [Builtin.lenOf], fun w' _ => ?_⟩
    simp [Builtin.firstCells]
  case sl l s i n =>
    obtain ⟨es, h1, h2⟩ := ob_eq_some hs
    split at h2
    · rename_i hin
      simp at h2; subst h2
      obtain ⟨z', ⟨imm, hobj⟩, hcase⟩ := rows_sound H hx h1
      have hxl : ((es.drop i).take n).length = n := by simp; omega
      rcases hcase with ⟨_, rfl, rfl, rfl, rfl⟩ | ⟨b, cap, arr, t', _, rfl, hcap, hb, _, _, hrows⟩
      · refine ⟨[], by simp, by simp [vrels], fun w' => by simp [Builtin.lenOf], fun w' _ => ?_⟩
        simp [Builtin.firstCells]
      · obtain ⟨ys, e1, e2, e3, e4⟩ := rows_flat (C := C) (w := w) (z := z') (arr := arr) (es := (es.drop i).take n) (i0 := i) fun k e hk => by
          rw [List.getElem?_take] at hk
          split at hk
          · rw [List.getElem?_drop] at hk
            exact hrows _ e hk
          · cases hk
        have hzz : ys.length = n * z := by
          rw [e1, hxl]
          rcases Nat.eq_zero_or_pos n with rfl | hn
          · simp
          · have : ((es.drop i).take n)[0]? = some (es[i]'(by omega)) := by
              rw [List.getElem?_take, if_pos hn, List.getElem?_drop]; simp
            have hm := List.mem_of_getElem? this
            have hz1 := (hz _ hm).1
            have hz2 := (hrows i (es[i]'(by omega)) (List.getElem?_eq_getElem _)).1
            rw [← hz1, ← hz2]
        refine ⟨ys, by rw [hxl]; exact hzz, e2, fun w' => by simp [Builtin.lenOf, hxl], fun w' hw => ?_⟩
        rw [hxl]
        exact run_firstCells_some w' z n ⟨b, i * z', none⟩ _ _ ys hzz fun j v hj => by
          rw [addr_add]
          refine hw _ _ ?_
          rw [cell_of_row w b _ arr t' (0, 0) hb]
          exact e3 j v hj
    · cases h2
  case str s =>
    simp at hs; subst hs
    simp only [vrel] at hx; subst hx
    rcases List.eq_nil_or_concat s with hnil | ⟨s0, c0, hs0⟩
    · subst hnil
      refine ⟨[], by simp, by simp [vrels], fun w' => by simp [Builtin.lenOf, ByteArray.size], fun w' _ => ?_⟩
      have he : (⟨#[]⟩ : ByteArray).extract 0 0 = ⟨#[]⟩ := by have := extract_mk [] 0 0; simpa using this
      simp [Builtin.firstCells, he]
    have hz1 : z = 1 := by
      have := (hz [.int .u8 c0.toNat] (by rw [hs0]; simp)).1
      simp at this; exact this.symm
    subst hz1
    refine ⟨s.map fun b => .int .u8 b.toNat, by simp, ?_, fun w' => by simp [Builtin.lenOf, ByteArray.size], fun w' _ => ?_⟩
    · have hf := flatten_single (fun b : UInt8 => AV.int IntKind.u8 b.toNat) s
      rw [hf]
      refine vrels.of_get (by simp) fun i v y hv hy => ?_
      simp only [List.getElem?_map, Option.map_eq_some_iff] at hv hy
      obtain ⟨b1, q1, rfl⟩ := hv
      obtain ⟨b2, q2, rfl⟩ := hy
      rw [q1] at q2; simp at q2; subst q2
      simp [vrel]
    · have hsz : (⟨s.toArray⟩ : ByteArray).size = s.length := by simp [ByteArray.size]
      have he : (⟨s.toArray⟩ : ByteArray).extract 0 s.length = ⟨s.toArray⟩ := by rw [extract_mk]; simp
      simp [Builtin.firstCells, he]
  all_goals cases hs

theorem zeroCells_size (z : Array Value) (n : Nat) : (Builtin.zeroCells z n).size = n * z.size := by simp [Builtin.zeroCells]

/-- append onto what is one's own. -/
theorem app_sound {h : Heap} (H : HRel C w h) {t t2 ty e : TypeId} {info : TypeInfo} {zv : Value} {d2 : TypeDesc} (ht : P.underlying t = some (.slice e)) (ht2 : P.underlying t2 = some d2) (hd2 : (∃ e', d2 = .slice e') ∨ d2 = .string) (hi : P.info? e = some info)
    (hzv : info.zero = some zv) {z by_ : Nat} (hz : info.size = z) (hby : info.bytes = by_) (hzs : zv.cells.size = z) (hzp : 0 < z) (hbp : 0 < by_)
    {l s imm n : Nat} {es xs : List (List AV)} {sv x : AV} {vy xy : Value} (hsv : sv = .sl l s 0 n) (hs : vrel C w sv vy) (hx : vrel C w x xy) (ho : h[l]? = some (.arr s imm z es)) (hn : n = es.length) (himm : imm ≤ es.length) (hsrc : srcV h x = some xs)
    (hb : (n + xs.length) * by_ ≤ 140737488355328) (hxs : ∀ e ∈ xs, e.length = z ∧ e.all AV.one = true) :
    ∃ C' y w', (Builtin.append_ #[t, t2] ty #[vy, xy]).run P w = .ok y w' ∧ Step C w C' w' ∧ HRel C' w' (h.set l (.arr C.clk imm z (es ++ xs))) ∧ vrel C' w' (.sl l C.clk 0 (n + xs.length)) y := by
  subst hsv
  obtain ⟨news, n1, n2, n3, n4⟩ := src_sound (P := P) H hx hsrc hxs hzp
  have hrows : h.rows l s = some es := by simp [Heap.rows, ho, ob_some, AObj.rows]
  obtain ⟨z', ⟨imm', hobj⟩, hcase⟩ := rows_sound H hs hrows
  rw [ho] at hobj
  simp at hobj
  obtain ⟨_, rfl⟩ := hobj
  have hm63 : ((n + xs.length : Nat) : Int) ≤ 9223372036854775807 := by
    have : n + xs.length ≤ (n + xs.length) * by_ := Nat.le_mul_of_pos_right _ hbp
    omega
  have hone := oneCells n2 (by
    rw [List.all_flatten]
    exact List.all_eq_true.2 fun e he => (hxs e he).2)
  have hallz : ∀ e ∈ xs, e.length = z := fun e he => (hxs e he).1
  have rowsNew : ∀ {arr : Array Value} {k : Nat} (f : List Value) (hf : ∀ j y, f[j]? = some y → arr[k * z + j]? = some y) (hv : f = news), ∀ (i : Nat) (r : List AV), xs[i]? = some r → r.length = z ∧ ∀ (j : Nat) (v : AV), r[j]? = some v → ∃ y : Value, arr[(k + i) * z + j]? = some y ∧ y.oneCell' = true ∧ vrel C w v y := by
    intro arr k f hf hv i r hr
    subst hv
    refine ⟨hallz r (List.mem_of_getElem? hr), fun j v hj => ?_⟩
    obtain ⟨y, e1, e2⟩ := n2.get (flatten_get hallz hr hj)
    exact ⟨y, by have := hf _ y e1; rwa [show k * z + (i * z + j) = (k + i) * z + j by rw [Nat.add_mul]; omega] at this, hone y (List.mem_of_getElem? e1), e2⟩
  -- a new array
  have grow : ∀ (ob : Option Nat) (s' : Nat) (cap : Nat) (base : Option Addr) (olds : List Value), C.μ l = some (ob, s', z) → vy = .slice base n cap → cap < n + xs.length → olds.length = n * z →
      (Builtin.firstCells z n vy).run P w.drew = .ok olds.toArray w.drew → vrels C w es.flatten olds → (∀ y ∈ olds, y.oneCell' = true) → (∀ (i : Nat) (r : List AV), es[i]? = some r → r.length = z) →
      ∃ C' y w', (Builtin.append_ #[t, t2] ty #[vy, xy]).run P w = .ok y w' ∧ Step C w C' w' ∧ HRel C' w' (h.set l (.arr C.clk imm z (es ++ xs))) ∧ vrel C' w' (.sl l C.clk 0 (n + xs.length)) y := by
    intro ob s' cap base olds hmu hvy hcap hol hfo hov hoo hesz
    have hnew := n4 w.drew (fun a v hv => by simpa using hv)
    have hfit := growslice_fits hcap hb
    have hge := grownCap_ge w (n + xs.length) cap e
    have hnn : ¬ (n + xs.length ≤ cap) := by omega
    have h63' : ¬ (9223372036854775807 < ((n : Int) + (xs.length : Int))) := by omega
    have h48' : ¬ (281474976710656 < Builtin.nextslicecap (n + xs.length) cap * info.bytes) := by rw [hby]; omega
    have hrun : (Builtin.append_ #[t, t2] ty #[vy, xy]).run P w = .ok (.slice (some ⟨w.heap.size, 0, none⟩) (n + xs.length) (grownCap w (n + xs.length) cap e))
        (w.drew.alloc (.cells (olds.toArray ++ news.toArray ++ Builtin.zeroCells zv.cells (grownCap w (n + xs.length) cap e - (n + xs.length))) e)) := by
      subst hvy
      rcases hd2 with ⟨e', rfl⟩ | rfl
      · simp [Builtin.append_, run_underlying ht, run_underlying ht2, sizeOf, typeInfo, zeroValue, hi, hzv, hz, n3, hnn, h63', h48', Question.forced, hfo, hnew, newRow, grownCap]
        congr 2
        apply Array.ext'
        simp [List.append_assoc]
      · simp [Builtin.append_, run_underlying ht, run_underlying ht2, sizeOf, typeInfo, zeroValue, hi, hzv, hz, n3, hnn, h63', h48', Question.forced, hfo, hnew, newRow, grownCap]
        congr 2
        apply Array.ext'
        simp [List.append_assoc]
    have hmove := move_rel (w' := w.drew.alloc (.cells (olds.toArray ++ news.toArray ++ Builtin.zeroCells zv.cells (grownCap w (n + xs.length) cap e - (n + xs.length))) e)) H (z' := z) (ob' := some w.heap.size) (o' := .arr C.clk imm z (es ++ xs)) ho hmu rfl rfl rfl (by simp)
      (fun b j hk => World.cell?_alloc_lt w.drew _ _ (H.okb b j hk))
      (fun b arr t fz hb => ⟨arr, t, fz, by rw [heap_alloc_old w.drew _ (Array.getElem?_eq_some_iff.1 hb).1]; exact hb, rfl⟩)
      (fun k hk _ => heap_alloc_old w.drew _ hk) (fun b hb => by simp at hb; subst hb; exact ⟨.inr (Nat.le_refl _), by simp⟩)
      (fun st => by
        simp only [orel]
        refine ⟨by simp [Ctx.move], some w.heap.size, by simp [Ctx.move], _, _, heap_alloc_new w.drew _, ?_, fun j _ => ok_new H j, fun i r hr => ?_⟩
        · have : n + xs.length ≤ grownCap w (n + xs.length) cap e := hge
          simp only [Array.size_append, List.size_toArray, zeroCells_size, hzs, hol, n1, List.length_append, hn]
          rw [← Nat.add_mul, ← Nat.add_mul]
          exact Nat.mul_le_mul_right _ (by omega)
        · have hlook : ∀ (k : Nat) (y : Value), (olds ++ news)[k]? = some y → (olds.toArray ++ news.toArray ++ Builtin.zeroCells zv.cells (grownCap w (n + xs.length) cap e - (n + xs.length)))[k]? = some y := by
            intro k y hk
            have hlt := (List.getElem?_eq_some_iff.1 hk).1
            rw [Array.getElem?_append_left (by simpa using hlt)]
            simpa using hk
          rcases Nat.lt_or_ge i es.length with hlt | hge'
          · rw [List.getElem?_append_left hlt] at hr
            refine ⟨hesz i r hr, fun j v hj => ?_⟩
            have hall : ∀ e ∈ es, e.length = z := fun e he => by obtain ⟨i, hi⟩ := List.getElem?_of_mem he; exact hesz i e hi
            obtain ⟨y, e1, e2⟩ := hov.get (flatten_get hall hr hj)
            refine ⟨y, hlook _ y ?_, hoo y (List.mem_of_getElem? e1), e2.mono st⟩
            rw [List.getElem?_append_left (List.getElem?_eq_some_iff.1 e1).1]; exact e1
          · rw [List.getElem?_append_right hge'] at hr
            refine ⟨hallz r (List.mem_of_getElem? hr), fun j v hj => ?_⟩
            obtain ⟨y, e1, e2⟩ := n2.get (flatten_get hallz hr hj)
            refine ⟨y, hlook _ y ?_, hone y (List.mem_of_getElem? e1), e2.mono st⟩
            have hle : es.length * z ≤ i * z := Nat.mul_le_mul_right _ hge'
            rw [List.getElem?_append_right (by rw [hol, hn]; omega), hol, hn]
            rwa [show i * z + j - es.length * z = (i - es.length) * z + j by rw [Nat.sub_mul]; omega])
    refine ⟨_, _, _, hrun, hmove.1, hmove.2, ?_⟩
    simp only [vrel]
    refine ⟨by simp [Ctx.move], ⟨_, _, _, rfl⟩, fun ob' z'' hm' => ?_⟩
    simp [Ctx.move] at hm'
    obtain ⟨rfl, rfl⟩ := hm'
    refine ⟨grownCap w (n + xs.length) cap e, by simp, hge, _, _, _, heap_alloc_new w.drew _, ?_⟩
    simp only [Array.size_append, List.size_toArray, zeroCells_size, hzs, hol, n1, Nat.zero_add]
    rw [← Nat.add_mul, ← Nat.add_mul]
    exact Nat.mul_le_mul_right _ (by omega)
  rcases hcase with ⟨hmu, rfl, hi0, rfl, rfl⟩ | ⟨b, cap, arr, t', hmu, rfl, hcap, hbk, hsz, hsz2, hr⟩
  · rcases Nat.eq_zero_or_pos xs.length with hx0 | hxp
    · have hxnil : xs = [] := List.eq_nil_of_length_eq_zero hx0
      subst hxnil
      have hmove := move_rel (w' := w) H (z' := z) (ob' := none) (o' := .arr C.clk imm z ([] ++ [])) ho hmu rfl rfl rfl (Nat.le_refl _) (fun _ _ _ => rfl) (fun b arr t fz hb => ⟨arr, t, fz, hb, rfl⟩) (fun _ _ _ => rfl) (fun b hb => by cases hb)
        (fun st => by simp only [orel]; exact ⟨by simp [Ctx.move], none, by simp [Ctx.move], rfl⟩)
      have hnn : news = [] := List.eq_nil_of_length_eq_zero (by simpa using n1)
      subst hnn
      refine ⟨_, .slice none 0 0, _, ?_, hmove.1, hmove.2, ?_⟩
      · have hnew := n4 w (fun a v hv => hv)
        have n3' := n3 w
        simp at n3' hnew
        rcases hd2 with ⟨e', rfl⟩ | rfl <;> simp [Builtin.append_, run_underlying ht, run_underlying ht2, sizeOf, typeInfo, hi, hz, n3', hnew]
      · simp only [vrel]
        refine ⟨by simp [Ctx.move], ⟨_, _, _, rfl⟩, fun ob' z'' hm' => ?_⟩
        simp [Ctx.move] at hm'
        obtain ⟨rfl, rfl⟩ := hm'
        simp
    · exact grow none s 0 none [] hmu rfl (by omega) (by simp) (by simp [Builtin.firstCells]) (by simp [vrels]) (by simp) (by simp)
  · have hrow : ∃ ys : List Value, ys.length = es.length * z ∧ vrels C w es.flatten ys ∧ (∀ (j : Nat) (y : Value), ys[j]? = some y → arr[j]? = some y) ∧ ∀ y ∈ ys, y.oneCell' = true := by
      obtain ⟨ys, e1, e2, e3, e4⟩ := rows_flat (C := C) (w := w) (z := z) (arr := arr) (es := es) (i0 := 0) (fun i e hi => by simpa using hr i e hi)
      exact ⟨ys, e1, e2, by simpa using e3, e4⟩
    obtain ⟨olds, o1, o2, o3, o4⟩ := hrow
    by_cases hroom : n + xs.length ≤ cap
    · have hfit : n * z + news.length ≤ arr.size := by
        rw [n1, ← Nat.add_mul]
        simp only [Nat.zero_add] at hsz
        exact Nat.le_trans (Nat.mul_le_mul_right _ hroom) hsz
      have hst := run_storeCells_at P b (n * z) t' news 0 arr w hbk (by simpa using hfit) hone
      simp only [Nat.add_zero] at hst
      have hnew := n4 w (fun a v hv => hv)
      have hrun : (Builtin.append_ #[t, t2] ty #[.slice (some ⟨b, 0 * z, none⟩) n cap, xy]).run P w = .ok (.slice (some ⟨b, 0 * z, none⟩) (n + xs.length) cap) (w.setRow b (arr.toList.take (n * z) ++ news ++ arr.toList.drop (n * z + news.length)).toArray) := by
        simp only [Nat.zero_mul]
        rcases hd2 with ⟨e', rfl⟩ | rfl <;> simp [Builtin.append_, run_underlying ht, run_underlying ht2, sizeOf, typeInfo, hi, hz, n3, hroom, hnew, addr_add, hst]
      have hhb := setRow_heap w b arr (arr.toList.take (n * z) ++ news ++ arr.toList.drop (n * z + news.length)).toArray t' (0, 0) hbk
      have hother : ∀ k, k ≠ b → (w.setRow b (arr.toList.take (n * z) ++ news ++ arr.toList.drop (n * z + news.length)).toArray).heap[k]? = w.heap[k]? := fun k hk => setRow_other w b k _ hk
      have hsize : (arr.toList.take (n * z) ++ news ++ arr.toList.drop (n * z + news.length)).toArray.size = arr.size := by
        simp only [List.size_toArray, List.length_append, List.length_take, List.length_drop, Array.length_toList]
        omega
      have hlow : ∀ k, k < n * z → (arr.toList.take (n * z) ++ news ++ arr.toList.drop (n * z + news.length)).toArray[k]? = arr[k]? := by
        intro k hk
        rw [List.getElem?_toArray, List.append_assoc, List.getElem?_append_left (by simp; omega), List.getElem?_take, if_pos hk]
        simp
      have hobj := H.obj l _ ho
      simp only [orel] at hobj
      obtain ⟨hlt, ob, hm', hob⟩ := hobj
      rw [hmu] at hm'
      simp at hm'
      subst hm'
      obtain ⟨arr0, t0, q1, q2, q3, q4⟩ := hob
      rw [hbk] at q1
      simp at q1
      obtain ⟨rfl, rfl⟩ := q1
      have hmove := move_rel (w' := w.setRow b (arr.toList.take (n * z) ++ news ++ arr.toList.drop (n * z + news.length)).toArray) H (z' := z) (ob' := some b) (o' := .arr C.clk imm z (es ++ xs)) ho hmu rfl rfl rfl (by simp [World.setRow])
        (fun k j hk => by
          by_cases hkb : k = b
          · subst hkb
            rw [cell_of_row _ k j _ t' (0, 0) hhb, cell_of_row w k j arr t' (0, 0) hbk]
            refine hlow j ?_
            rcases Nat.lt_or_ge j (imm * z) with hj | hj
            · exact Nat.lt_of_lt_of_le hj (by rw [hn]; exact Nat.mul_le_mul_right _ himm)
            · exact absurd hk (q3 j hj)
          · exact World.cell?_of_block (w := w) (hother k hkb))
        (fun k a tt fz hk => by
          by_cases hkb : k = b
          · subst hkb
            rw [hbk] at hk
            simp at hk
            obtain ⟨rfl, rfl, rfl⟩ := hk
            exact ⟨_, _, _, hhb, hsize⟩
          · exact ⟨a, tt, fz, by rw [hother k hkb]; exact hk, rfl⟩)
        (fun k hk hne => hother k (fun e => hne (by rw [e]))) (fun b' hb' => by simp at hb'; subst hb'; exact ⟨.inl rfl, by simp [World.setRow]; exact (Array.getElem?_eq_some_iff.1 hbk).1⟩)
        (fun st => by
          simp only [orel]
          refine ⟨by simp [Ctx.move], some b, by simp [Ctx.move], _, _, hhb, ?_, q3, fun i r hi' => ?_⟩
          · rw [hsize, List.length_append, ← hn]
            simp only [Nat.zero_add] at hsz
            exact Nat.le_trans (Nat.mul_le_mul_right _ hroom) hsz
          · rcases Nat.lt_or_ge i es.length with hilt | hige
            · rw [List.getElem?_append_left hilt] at hi'
              refine ⟨(hr i r hi').1, fun j v hj => ?_⟩
              obtain ⟨y, f1, f2, f3⟩ := (hr i r hi').2 j v hj
              refine ⟨y, ?_, f2, f3.mono st⟩
              rw [hlow]; exact f1
              have hjz : j < z := by rw [← (hr i r hi').1]; exact (List.getElem?_eq_some_iff.1 hj).1
              have : (i + 1) * z ≤ n * z := Nat.mul_le_mul_right _ (by omega)
              rw [Nat.add_mul] at this
              omega
            · rw [List.getElem?_append_right hige] at hi'
              refine ⟨hallz r (List.mem_of_getElem? hi'), fun j v hj => ?_⟩
              obtain ⟨y, e1, e2⟩ := n2.get (flatten_get hallz hi' hj)
              refine ⟨y, ?_, hone y (List.mem_of_getElem? e1), e2.mono st⟩
              have hle : es.length * z ≤ i * z := Nat.mul_le_mul_right _ hige
              have hnz : (arr.toList.take (n * z)).length = n * z := by simp; omega
              rw [List.getElem?_toArray, List.append_assoc, List.getElem?_append_right (by rw [hnz, hn]; omega), hnz, hn]
              rw [show i * z + j - es.length * z = (i - es.length) * z + j by rw [Nat.sub_mul]; omega]
              rw [List.getElem?_append_left (List.getElem?_eq_some_iff.1 e1).1]; exact e1)
      refine ⟨_, _, _, hrun, hmove.1, hmove.2, ?_⟩
      simp only [vrel]
      refine ⟨by simp [Ctx.move], ⟨_, _, _, rfl⟩, fun ob' z'' hm' => ?_⟩
      simp [Ctx.move] at hm'
      obtain ⟨rfl, rfl⟩ := hm'
      exact ⟨cap, rfl, hroom, _, _, _, hhb, by rw [hsize]; exact hsz⟩
    · refine grow (some b) s cap _ olds hmu rfl (by omega) (by rw [o1, hn]) ?_ o2 o4 (fun i r hi' => (hr i r hi').1)
      rw [hn]
      exact run_firstCells_some w.drew z es.length ⟨b, 0 * z, none⟩ _ _ olds o1 fun j v hj => by
        rw [addr_add]
        have := o3 j v hj
        rw [World.cell?_drew, cell_of_row w b _ arr t' (0, 0) hbk]
        simpa using this
end
end Go.Ab
