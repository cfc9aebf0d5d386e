/- The layer Ab, part 10: the orders of a drawn region. -/
import Derived.Test.YtghiionknnpajaaGreatDoorAb9
set_option linter.unusedVariables false
set_option linter.unusedSimpArgs false
namespace Go.Ab

def Ls (listed : Array Bool) (j : Nat) : Prop := listed.getD j false = true

/-- The rows of what is made: a variable, or a slice of so many. -/
def aRows (env : Env) : EOp → Option (Nat × List (List AV))
  | .alloc z => some (z.length, [z])
  | .bsl z len zero parts => (evParts env true parts).ob fun ps => (buildV (fillV zero len) ps).ob fun cs => if cs.length = len * z ∧ cs.all AV.one = true then some (z, chunk z len cs) else none
  | _ => none

def aModel (b : Nat) : EOp → Value
  | .bsl _ len _ _ => .slice (some ⟨b, 0, none⟩) len len
  | _ => .pointer (some ⟨b, 0, none⟩)

def aVal (l s : Nat) : EOp → AV
  | .bsl _ len _ _ => .sl l s 0 len
  | _ => .ptr l s 0 0

def RowsRel (C : Ctx) (w : World) (zv : Array Value) (z : Nat) (es : List (List AV)) : Prop :=
  ∀ (i : Nat) (e : List AV), es[i]? = some e → e.length = z ∧ ∀ (j : Nat) (v : AV), e[j]? = some v → ∃ y : Value, zv[i * z + j]? = some y ∧ y.oneCell' = true ∧ vrel C w v y

theorem RowsRel.mono {C C' : Ctx} {w w' : World} {zv : Array Value} {z : Nat} {es : List (List AV)} (h : RowsRel C w zv z es) (M : Mono C w C' w') : RowsRel C' w' zv z es := fun i e hi => ⟨(h i e hi).1, fun j v hj => by
  obtain ⟨y, f1, f2, f3⟩ := (h i e hi).2 j v hj
  exact ⟨y, f1, f2, f3.monoM M⟩⟩

theorem aRows_env {o : EOp} {env env' : Env} (h : EqOn o.rd env env') : aRows env o = aRows env' o := by
  cases o <;> first | rfl | skip
  simp only [EOp.rd] at h
  simp only [aRows]
  rw [evParts_env true h]

/-- What is made, in its turn. -/
theorem aRows_wp {P : Program} {o : EOp} {st : St} {K Kp : AV → Heap → Prop} {z : Nat} {es : List (List AV)} (hr : aRows st.env o = some (z, es)) (h : o.wp P st K Kp) : ∀ s, K (aVal st.h.length s o) (st.h ++ [.arr s 0 z es]) := by
  cases o <;> simp only [aRows] at hr <;> first | (cases hr; done) | skip
  case alloc zz =>
    simp at hr
    obtain ⟨rfl, rfl⟩ := hr
    exact h
  case bsl z' len zero parts =>
    obtain ⟨ps, h1, hr⟩ := ob_eq_some hr
    obtain ⟨cs, h2, hr⟩ := ob_eq_some hr
    split at hr
    · simp at hr
      obtain ⟨rfl, rfl⟩ := hr
      simp only [EOp.wp, h1, h2, oK_some] at h
      exact h.2
    · cases hr

/-- A block that was made ahead of its turn. -/
structure AheadT (C0 : Ctx) (w0 : World) (C : Ctx) (w : World) (env : Env) (a : Act) (b : Nat) (x : Ent) : Prop where
  is : ∃ d o g z es zv ty, x.c = ⟨some d, .e o, g⟩ ∧ x.A = true ∧ guardB env g = some true ∧ aRows env o = some (z, es) ∧ RowsRel C w zv z es ∧ es.length * z ≤ zv.size ∧ a.tmps.getD d undef = aModel b o ∧ w.heap[b]? = some (Obj.cells zv ty)
  new : w0.heap.size ≤ b
  un : ∀ l s z, C.μ l ≠ some (some b, s, z)
  ok : ∀ j, ¬ C.ok b j

/-- Ahead of its turn it was seen that its guard doesn't hold. -/
structure AheadF (env : Env) (a : Act) (x : Ent) : Prop where
  is : ∃ d o g, x.c = ⟨some d, .e o, g⟩ ∧ x.A = true ∧ guardB env g = some false ∧ a.tmps.getD d undef = undef

def Ahead (C0 : Ctx) (w0 : World) (C : Ctx) (w : World) (env : Env) (a : Act) (bn : Nat) (x : Ent) : Prop :=
  (∃ b, bn = 2 * b ∧ AheadT C0 w0 C w env a b x) ∨ (bn = 2 * x.i + 1 ∧ AheadF env a x)

theorem Ahead.env {C0 C : Ctx} {w0 w : World} {env env' : Env} {a : Act} {b : Nat} {x : Ent} (A : Ahead C0 w0 C w env a b x) (h : EqOn x.rd env env') : Ahead C0 w0 C w env' a b x := by
  have hg : ∀ {d : Option Nat} {o : EOp} {g : Option (Nat × Bool)}, x.c = ⟨d, .e o, g⟩ → guardB env' g = guardB env g ∧ aRows env' o = aRows env o := by
    intro d o g hx
    refine ⟨(guardB_env fun t ht => h t ?_).symm, (aRows_env fun t ht => h t ?_).symm⟩
    · unfold Ent.rd; rw [hx]; exact List.mem_append_right _ ht
    · unfold Ent.rd; rw [hx]; exact List.mem_append_left _ ht
  rcases A with ⟨b', e, ⟨d, o, g, z, es, zv, ty, q1, q2, q3, q4, q5⟩, r1, r2, r3⟩ | ⟨e, d, o, g, q1, q2, q3, q4⟩
  · exact .inl ⟨b', e, ⟨d, o, g, z, es, zv, ty, q1, q2, by rw [(hg q1).1]; exact q3, by rw [(hg q1).2]; exact q4, q5⟩, r1, r2, r3⟩
  · exact .inr ⟨e, d, o, g, q1, q2, by rw [(hg q1).1]; exact q3, q4⟩

section
variable {P : Program} {ops : Array Oper} {n : Nat} {clo : List Nat} {E : List Ent} {Q0 : AExit → St → Prop} {keep : List Nat} {C0 : Ctx} {w0 : World}

structure Inv (P : Program) (ops : Array Oper) (n : Nat) (E : List Ent) (Q0 : AExit → St → Prop) (keep : List Nat) (C0 : Ctx) (w0 : World) (listed : Array Bool) (dn rest : List Ent) (C : Ctx) (w : World) (st : St) (a : Act) (bl : Nat → Nat) : Prop where
  split : E = dn ++ rest
  run : runE P Q0 keep rest st
  S : Step C0 w0 C w
  H : HRel C w st.h
  nle : n ≤ a.tmps.size
  df : a.defers = []
  lsize : listed.size = ops.size
  down : ∀ j o, Ls listed j → ops[j]? = some o → ∀ e ∈ o.after, Region.binds .any e = true → Ls listed e.on
  done : ∀ x ∈ dn, x.P ops = true ∨ Ls listed x.i
  ah : ∀ x ∈ rest, Ls listed x.i → Ahead C0 w0 C w st.env a (bl x.i) x
  last : ∀ x, dn.getLast? = some x → stabs st x.pend
  inj : ∀ x ∈ rest, ∀ y ∈ rest, Ls listed x.i → Ls listed y.i → x.i ≠ y.i → bl x.i ≠ bl y.i
  er : ∀ t, (∀ x ∈ dn, ¬ Ls listed x.i → x.c.d ≠ some t) → (∀ x ∈ rest, Ls listed x.i → x.c.d ≠ some t) → vrel C w (eget st.env t) (a.tmps.getD t undef)
  stb : ∀ x ∈ dn, ¬ Ls listed x.i → ∃ d o g op, x.c.d = some d ∧ ops[x.i]? = some op ∧ chk1 P ops n op ⟨some d, .p o, g⟩ = true ∧ (∀ t ∈ o.rd ++ gRd g, t ∈ x.rd) ∧ (o.mem = true → x.mem = true) ∧ pval st o g = some (eget st.env d)

theorem pair_of (G : Good P ops n clo E) {dn rest : List Ent} (hs : E = dn ++ rest) {x y : Ent} (hx : x ∈ dn) (hy : y ∈ rest) : pairOK P ops n clo x y = true := by
  have := G.pair
  rw [hs, List.pairwise_append] at this
  exact this.2.2 x hx y hy

theorem pair_ne (G : Good P ops n clo E) : ∀ x ∈ E, ∀ y ∈ E, x.i = y.i → x = y := by
  have hp := G.pair.imp (S := fun x y : Ent => x.i ≠ y.i) (fun {x y} h => by
    simp only [pairOK, Bool.and_eq_true, decide_eq_true_eq] at h
    exact h.1.1.1)
  have key : ∀ {l : List Ent}, l.Pairwise (fun x y : Ent => x.i ≠ y.i) → ∀ x ∈ l, ∀ y ∈ l, x.i = y.i → x = y := by
    intro l hl
    induction hl with
    | nil => intro x hx; cases hx
    | cons h1 _ ih =>
      intro x hx y hy he
      rcases List.mem_cons.1 hx with e1 | e1
      · rcases List.mem_cons.1 hy with e2 | e2
        · rw [e1, e2]
        · rw [e1] at he; exact absurd he (h1 y e2)
      · rcases List.mem_cons.1 hy with e2 | e2
        · rw [e2] at he; exact absurd he.symm (h1 x e1)
        · exact ih x e1 y e2 he
  exact key hp

/-- What must come before has come. -/
theorem clo_listed (G : Good P ops n clo E) {listed : Array Bool} (down : ∀ j o, Ls listed j → ops[j]? = some o → ∀ e ∈ o.after, Region.binds .any e = true → Ls listed e.on) :
    ∀ (j : Nat) (o : Oper), ops[j]? = some o → (∀ e ∈ o.after, Region.binds .any e = true → Ls listed e.on) → ∀ k, (clo.getD j 0).testBit k = true → Ls listed k := by
  intro j
  induction j using Nat.strongRecOn with
  | _ j ih =>
    intro o ho hr k hk
    obtain ⟨e, he, hb, h⟩ := G.clo j o ho k hk
    have hl := hr e he hb
    rcases h with rfl | h
    · exact hl
    · have hlt := G.edge j o ho e he hb
      have hsz : e.on < ops.size := Nat.lt_trans hlt (Array.getElem?_eq_some_iff.1 ho).1
      exact ih e.on hlt ops[e.on] (Array.getElem?_eq_getElem hsz) (down e.on _ hl (Array.getElem?_eq_getElem hsz)) k h

structure PairU (P : Program) (ops : Array Oper) (n : Nat) (x y : Ent) : Prop where
  pa : x.P ops = true ∨ y.A = true
  xy : ∀ d, x.c.d = some d → d ∉ y.rd
  yx : ∀ d, y.c.d = some d → d ∉ x.rd
  ne : ∀ d, x.c.d = some d → y.c.d ≠ some d
  pend : x.mem = true → y.eff = true → ∃ s ∈ y.pend, pendOK P ops n x s = true

theorem dOut_spec {x : Ent} {l : List Nat} (h : dOut x l = true) : ∀ d, x.c.d = some d → d ∉ l := by
  intro d hd
  simp only [dOut, hd] at h
  simpa using h

theorem dNe_spec {x y : Ent} (h : dNe x y = true) : ∀ d, x.c.d = some d → y.c.d ≠ some d := by
  intro d hd
  simp only [dNe, hd] at h
  simpa using h

theorem pair_un {x y : Ent} (h : pairOK P ops n clo x y = true) (hu : (clo.getD y.i 0).testBit x.i = false) : PairU P ops n x y := by
  simp only [pairOK, Bool.and_eq_true, hu, Bool.false_or] at h
  obtain ⟨_, ⟨⟨⟨h1, h2⟩, h3⟩, h4⟩, h5⟩ := h
  refine ⟨by simpa using h1, dOut_spec h2, dOut_spec h3, dNe_spec h4, fun hm he => ?_⟩
  rw [hm, he] at h5
  simp only [Bool.and_self, Bool.not_true, Bool.false_or] at h5
  exact List.any_eq_true.1 h5

theorem pair_c5 {x y : Ent} (h : pairOK P ops n clo x y = true) (hy : y.P ops = true ∨ y.A = true) : (∀ d, y.c.d = some d → d ∉ x.rd) ∧ ∀ d, y.c.d = some d → x.c.d ≠ some d := by
  simp only [pairOK, Bool.and_eq_true] at h
  have h1 := h.1.1.2
  have : (y.P ops || y.A) = true := by rcases hy with h | h <;> simp [h]
  rw [this] at h1
  simp only [Bool.not_true, Bool.false_or, Bool.and_eq_true] at h1
  exact ⟨dOut_spec h1.1, dNe_spec h1.2⟩

theorem pair_AA {x y : Ent} (h : pairOK P ops n clo x y = true) (hx : x.A = true) (hy : y.A = true) : ∀ d, x.c.d = some d → d ∉ y.rd := by
  simp only [pairOK, Bool.and_eq_true] at h
  have h1 := h.1.2
  rw [hx, hy] at h1
  exact dOut_spec (by simpa using h1)

theorem pair_i {x y : Ent} (h : pairOK P ops n clo x y = true) : x.i ≠ y.i := by
  simp only [pairOK, Bool.and_eq_true, decide_eq_true_eq] at h
  exact h.1.1.1

theorem A_eff {x : Ent} (h : x.A = true) : x.eff = true ∧ x.P ops = false := by
  obtain ⟨i, ⟨d, o, g⟩, pend⟩ := x
  unfold Ent.A at h
  split at h
  · rename_i heq
    simp only [COper.mk.injEq] at heq
    obtain ⟨rfl, rfl, rfl⟩ := heq
    exact ⟨rfl, rfl⟩
  · rename_i heq
    simp only [COper.mk.injEq] at heq
    obtain ⟨rfl, rfl, rfl⟩ := heq
    exact ⟨rfl, rfl⟩
  · cases h

/-- One that is pending stays so, behind an operation that must not wait for it. -/
theorem stb_keep {x y : Ent} (U : PairU P ops n x y) {st : St} {h' : Heap} {v : AV} (hheap : y.eff = true ∨ h' = st.h) (hp : stabs ⟨eput y.c.d v st.env, h'⟩ y.pend)
    (hx : ∃ d o g op, x.c.d = some d ∧ ops[x.i]? = some op ∧ chk1 P ops n op ⟨some d, .p o, g⟩ = true ∧ (∀ t ∈ o.rd ++ gRd g, t ∈ x.rd) ∧ (o.mem = true → x.mem = true) ∧ pval st o g = some (eget st.env d)) :
    ∃ d o g op, x.c.d = some d ∧ ops[x.i]? = some op ∧ chk1 P ops n op ⟨some d, .p o, g⟩ = true ∧ (∀ t ∈ o.rd ++ gRd g, t ∈ x.rd) ∧ (o.mem = true → x.mem = true) ∧ pval ⟨eput y.c.d v st.env, h'⟩ o g = some (eget (eput y.c.d v st.env) d) := by
  obtain ⟨d, o, g, op, h1, h2, h3, h4, h5, h6⟩ := hx
  have henv : ∀ t, t ∈ x.rd → eget (eput y.c.d v st.env) t = eget st.env t := by
    intro t ht
    cases hd : y.c.d with
    | none => rfl
    | some d' =>
      simp only [eput, eget]
      rw [if_neg]
      intro e; subst e
      exact U.yx _ hd ht
  have hdd : eget (eput y.c.d v st.env) d = eget st.env d := by
    cases hd : y.c.d with
    | none => rfl
    | some d' =>
      simp only [eput, eget]
      rw [if_neg]
      intro e; subst e
      exact U.ne _ h1 hd
  by_cases hmem : x.mem = true ∧ y.eff = true
  · obtain ⟨s, hs, hs'⟩ := U.pend hmem.1 hmem.2
    unfold pendOK at hs'
    split at hs'
    · rename_i o' op' e1 e2
      simp only [Bool.and_eq_true] at hs'
      obtain ⟨⟨q1, q2⟩, q3⟩ := hs'
      rw [h1] at q1 q2
      have hsd : s.d = some d := by
        cases hsd : s.d with
        | none => rw [hsd] at q1; cases q1
        | some d' => rw [hsd] at q1; simp at q1; rw [q1]
      refine ⟨d, o', s.g, op', h1, e2, q2, fun t ht => ?_, fun _ => hmem.1, ?_⟩
      · have := List.all_eq_true.1 q3 t ht
        simpa using this
      · have key : ∀ (l : List COper), stabs ⟨eput y.c.d v st.env, h'⟩ l → s ∈ l → stabK ⟨eput y.c.d v st.env, h'⟩ s.d o' s.g := by
          intro l
          induction l with
          | nil => intro _ hm; cases hm
          | cons c l ih =>
            intro hl hm
            obtain ⟨cd, co, cg⟩ := c
            cases co with
            | s oo =>
              simp only [stabs] at hl
              rcases List.mem_cons.1 hm with rfl | hm
              · simp only [COp.s.injEq] at e1
                subst e1
                exact hl.1
              · exact ih hl.2 hm
            | p oo => exact hl.elim
            | e oo => exact hl.elim
            | b z len zero parts =>
              simp only [stabs] at hl
              rcases List.mem_cons.1 hm with rfl | hm
              · cases e1
              · exact ih hl.2 hm
        have := key y.pend hp hs
        rw [hsd] at this
        exact pval_stab this
    · cases hs'
  · refine ⟨d, o, g, op, h1, h2, h3, h4, h5, ?_⟩
    have e1 : pval ⟨eput y.c.d v st.env, h'⟩ o g = pval ⟨st.env, h'⟩ o g := pval_env fun t ht => henv t (h4 t ht)
    have e2 : pval ⟨st.env, h'⟩ o g = pval st o g := by
      rcases hheap with he | rfl
      · have : o.mem = false := by
          cases hm : o.mem with
          | false => rfl
          | true => exact absurd ⟨h5 hm, he⟩ hmem
        exact pval_heap this
      · rfl
    rw [e1, e2, h6, hdd]

theorem unlisted_not_clo (G : Good P ops n clo E) {listed : Array Bool} (down : ∀ j o, Ls listed j → ops[j]? = some o → ∀ e ∈ o.after, Region.binds .any e = true → Ls listed e.on) {j : Nat} {o : Oper} (ho : ops[j]? = some o)
    (hr : ∀ e ∈ o.after, Region.binds .any e = true → Ls listed e.on) {k : Nat} (hk : ¬ Ls listed k) : (clo.getD j 0).testBit k = false := by
  cases h : (clo.getD j 0).testBit k with
  | false => rfl
  | true => exact absurd (clo_listed G down j o ho hr k h) hk

/-- An operation is carried out ahead. -/
theorem adv_pure (G : Good P ops n clo E) {listed : Array Bool} {dn rest : List Ent} {x : Ent} {C : Ctx} {w : World} {st : St} {a : Act} {bl : Nat → Nat} (I : Inv P ops n E Q0 keep C0 w0 listed dn (x :: rest) C w st a bl) (hp : x.P ops = true) (hl : ¬ Ls listed x.i) :
    ∃ st', Inv P ops n E Q0 keep C0 w0 listed (dn ++ [x]) rest C w st' a bl := by
  have hxE : x ∈ E := by rw [I.split]; simp
  obtain ⟨op, hop, hchk, hself⟩ := G.one x hxE
  obtain ⟨d, hd, hdn⟩ := hself hp
  obtain ⟨i, ⟨d', o, g⟩, pend⟩ := x
  simp only at hd; subst hd
  cases o with
  | e o => simp [Ent.P] at hp
  | s o => simp [Ent.P] at hp
  | b z len zero parts => simp [Ent.P] at hp
  | p o =>
    have hrun := I.run
    simp only [runE] at hrun
    obtain ⟨v, hv, hst, hk⟩ := pval_of hrun
    simp only [eput] at hk hst
    refine ⟨⟨(d, v) :: st.env, st.h⟩, by rw [I.split]; simp, hk, I.S, I.H, I.nle, I.df, I.lsize, I.down, ?_, ?_, ?_, ?_, ?_, ?_⟩
    · intro y hy
      rcases List.mem_append.1 hy with hy | hy
      · exact I.done y hy
      · simp at hy; subst hy; exact .inl hp
    · intro y hy hly
      refine (I.ah y (List.mem_cons_of_mem _ hy) hly).env fun t ht => ?_
      have hyE : y ∈ E := by rw [I.split]; simp [hy]
      obtain ⟨opy, hopy, _⟩ := G.one y hyE
      have hpair := pair_of G (dn := dn ++ [⟨i, ⟨some d, .p o, g⟩, pend⟩]) (rest := rest) (by rw [I.split]; simp) (x := ⟨i, ⟨some d, .p o, g⟩, pend⟩) (y := y) (by simp) hy
      have hu := (pair_un hpair (unlisted_not_clo G I.down hopy (I.down y.i opy hly hopy) hl)).xy d rfl
      simp only [eget]
      rw [if_neg]
      intro e; subst e; exact hu ht
    · intro y hy
      rw [List.getLast?_concat] at hy
      obtain rfl := Option.some.inj hy
      exact hst
    · exact fun y hy z hz => I.inj y (List.mem_cons_of_mem _ hy) z (List.mem_cons_of_mem _ hz)
    · intro t h1 h2
      have hdt : d ≠ t := by
        intro e
        exact h1 _ (List.mem_append_right _ (List.mem_singleton_self _)) hl (by simp [e])
      simp only [eget]
      rw [if_neg hdt]
      refine I.er t (fun y hy => h1 y (List.mem_append_left _ hy)) fun y hy hly => ?_
      rcases List.mem_cons.1 hy with rfl | hy
      · exact absurd hly hl
      · exact h2 y hy hly
    · intro y hy hly
      rcases List.mem_append.1 hy with hy | hy
      · have hpair := pair_of G I.split hy (List.mem_cons_self (a := (⟨i, ⟨some d, .p o, g⟩, pend⟩ : Ent)))
        obtain ⟨c1, c2⟩ := pair_c5 hpair (.inl hp)
        obtain ⟨dy, oy, gy, opy, h1, h2, h3, h4, h5, h6⟩ := I.stb y hy hly
        refine ⟨dy, oy, gy, opy, h1, h2, h3, h4, h5, ?_⟩
        have e1 : pval ⟨(d, v) :: st.env, st.h⟩ oy gy = pval st oy gy := pval_env fun t ht => by
          simp only [eget]
          rw [if_neg]
          intro e; subst e
          exact c1 _ rfl (h4 _ ht)
        rw [e1, h6]
        simp only [eget]
        rw [if_neg]
        intro e; subst e
        exact c2 _ rfl h1
      · simp at hy; subst hy
        refine ⟨d, o, g, op, rfl, hop, hchk, ?_, ?_, ?_⟩
        · exact fun t ht => ht
        · exact fun h => h
        · have e1 : pval ⟨(d, v) :: st.env, st.h⟩ o g = pval st o g := pval_env fun t ht => by
            simp only [eget]
            rw [if_neg]
            intro e; subst e
            exact hdn ht
          rw [e1, hv]
          simp [eget]
end
end Go.Ab
