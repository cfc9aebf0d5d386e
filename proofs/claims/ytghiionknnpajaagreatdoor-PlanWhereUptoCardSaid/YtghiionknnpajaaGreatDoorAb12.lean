/- The layer Ab, part 12: a drawn region, whichever order is picked. -/
import Derived.Test.YtghiionknnpajaaGreatDoorAb11
set_option linter.unusedVariables false
set_option linter.unusedSimpArgs false
namespace Go.Ab

section
variable {P : Program} {ops : Array Oper} {n : Nat} {clo : List Nat} {E : List Ent} {Q0 : AExit → St → Prop} {keep : List Nat} {C0 : Ctx} {w0 : World}

def Goes (P : Program) (ops : Array Oper) (n : Nat) (E : List Ent) (Q0 : AExit → St → Prop) (keep : List Nat) (C0 : Ctx) (w0 : World) (listed : Array Bool) (a : Act) (w : World) : Prop :=
  ∃ dn rest C st bl, Inv P ops n E Q0 keep C0 w0 listed dn rest C w st a bl

theorem wpOp_of_value {i : Nat} {o : Oper} {a : Act} {w : World} {y : Value} {Q : Exit → Act → World → Prop} {K : Act → World → Prop} (ho : ops[i]? = some o) (hr : (Region.wanted o (yielded ops a.tmps) = true ∧ (execOp a.eval o).run P w = .ok (.value y) w) ∨ (Region.wanted o (yielded ops a.tmps) = false ∧ y = undef)) (hk : K (a.put o.dst y) w) :
    wpOp P ops Q i K a w := by
  unfold wpOp
  simp only [ho]
  rcases hr with ⟨hw, hr⟩ | ⟨hw, rfl⟩
  · rw [if_pos hw]
    refine .inl ?_
    unfold Oper.wp
    rw [hr]
    exact hk
  · rw [if_neg (by rw [hw]; simp)]
    exact hk

theorem chk1_d {o : Oper} {c : COper} (h : chk1 P ops n o c = true) : o.dst = c.d ∧ ∀ d, c.d = some d → d < n := by
  simp only [chk1, Bool.and_eq_true, decide_eq_true_eq] at h
  refine ⟨h.1.1.1, fun d hd => ?_⟩
  have := h.1.1.2
  rw [hd] at this
  simpa using this

theorem put_get {a : Act} {d t : Nat} {y : Value} (h : d ≠ t) : (a.put (some d) y).tmps.getD t undef = a.tmps.getD t undef := by
  simp [Act.put, Array.getElem?_setIfInBounds_ne h]
theorem put_got {a : Act} {d : Nat} {y : Value} (h : d < a.tmps.size) : (a.put (some d) y).tmps.getD d undef = y := by
  simp [Act.put, h]

theorem Ahead.step {C C' : Ctx} {w w' : World} {env : Env} {a a' : Act} {b : Nat} {x : Ent} (A : Ahead C0 w0 C w env a b x) (S : Step C w C' w') (ha : ∀ d, x.c.d = some d → a'.tmps.getD d undef = a.tmps.getD d undef) : Ahead C0 w0 C' w' env a' b x := by
  rcases A with ⟨b', e, ⟨d, o, g, z, es, zv, ty, q1, q2, q2', q3, q4, q5, q6, q7⟩, r1, r2, r3⟩ | ⟨e, d, o, g, q1, q2, q3, q4⟩
  · have hlt := (Array.getElem?_eq_some_iff.1 q7).1
    refine .inl ⟨b', e, ⟨d, o, g, z, es, zv, ty, q1, q2, q2', q3, q4.mono S.toM, q5, ?_, ?_⟩, r1, fun l s z hm => ?_, fun j hj => ?_⟩
    · rw [ha d (by rw [q1])]; exact q6
    · rw [S.out b' hlt fun l s z => r2 l s z]; exact q7
    · obtain ⟨l', s', z', h⟩ := S.own l b' s z hm hlt
      exact r2 _ _ _ h
    · rcases S.okn b' j hj hlt with h | ⟨l, s, z, h⟩
      · exact r3 j h
      · exact r2 _ _ _ h
  · exact .inr ⟨e, d, o, g, q1, q2, q3, by rw [ha d (by rw [q1])]; exact q4⟩

theorem Ahead.lt {C : Ctx} {w : World} {env : Env} {a : Act} {b : Nat} {x : Ent} (h : Ahead C0 w0 C w env a b x) : b ≠ 2 * w.heap.size := by
  rcases h with ⟨b', e, ⟨_, _, _, _, _, _, _, _, _, _, _, _, _, _, q⟩, _⟩ | ⟨e, _⟩
  · have := (Array.getElem?_eq_some_iff.1 q).1
    omega
  · omega

/-- A pending one is carried out. -/
theorem exec_pend (G : Good P ops n clo E) {listed : Array Bool} {dn rest : List Ent} {C : Ctx} {w : World} {st : St} {a : Act} {bl : Nat → Nat} (I : Inv P ops n E Q0 keep C0 w0 listed dn rest C w st a bl) {x : Ent} (hx : x ∈ dn) {op : Oper} (hop : ops[x.i]? = some op)
    (hr : ∀ e ∈ op.after, Region.binds .any e = true → Ls listed e.on) (hl : ¬ Ls listed x.i) : wpOp P ops (QM Q0 C0 w0 n) x.i (Goes P ops n E Q0 keep C0 w0 (listed.setIfInBounds x.i true)) a w := by
  have hxE : x ∈ E := by rw [I.split]; exact List.mem_append_left _ hx
  have hP : x.P ops = true := (I.done x hx).resolve_right hl
  have hself : ∀ d, x.c.d = some d → d ∉ x.rd := by
    obtain ⟨_, _, _, hs⟩ := G.one x hxE
    obtain ⟨d, hd, hn⟩ := hs hP
    intro d' hd'
    rw [hd] at hd'
    obtain rfl := Option.some.inj hd'
    exact hn
  have hlt : x.i < listed.size := by rw [I.lsize]; exact (Array.getElem?_eq_some_iff.1 hop).1
  obtain ⟨d, o, g, op', h1, h2, h3, h4, h5, h6⟩ := I.stb x hx hl
  rw [hop] at h2
  obtain rfl := Option.some.inj h2
  have hreads := reads_ok G I (.inl hx) hop hr hl (fun _ => hself)
  obtain ⟨he, heq⟩ := erel_keep hreads
  have hp : pval ⟨keepE st.env x.rd, st.h⟩ o g = some (eget st.env d) := by
    rw [← pval_env (env := st.env) fun t ht => heq t (h4 t ht)]
    exact h6
  obtain ⟨v, y, rfl, hv, hrun⟩ := pure_run (st := ⟨keepE st.env x.rd, st.h⟩) h3 I.H he (pval_to hp)
  obtain ⟨hod, hdn⟩ := chk1_d h3
  have hdlt : d < a.tmps.size := Nat.lt_of_lt_of_le (hdn d rfl) I.nle
  refine wpOp_of_value hop hrun ⟨dn, rest, C, st, bl, I.split, I.run, I.S, I.H, ?_, ?_, ?_, down_set hlt hop hr I.down, ?_, ?_, I.last, ?_, ?_, ?_⟩
  · rw [hod]; simpa [Act.put] using I.nle
  · rw [hod]; exact I.df
  · simpa using I.lsize
  · exact fun y hy => (I.done y hy).imp id fun h => (ls_set hlt).2 (.inr h)
  · intro z hz hlz
    rcases (ls_set hlt).1 hlz with e | hlz
    · exact absurd e.symm (pair_i (pair_of G I.split hx hz))
    · have A := I.ah z hz hlz
      refine A.step (.refl C w) fun dz hdz => ?_
      have := (pair_c5 (pair_of G I.split hx hz) (.inr A.A)).2 dz hdz
      rw [hod, put_get (by intro e; subst e; exact this h1)]
  · intro z1 hz1 z2 hz2 l1 l2 hne
    have hne' : ∀ z ∈ rest, z.i ≠ x.i := by
      intro z hz e
      exact pair_i (pair_of G I.split hx hz) e.symm
    exact I.inj z1 hz1 z2 hz2 (((ls_set hlt).1 l1).resolve_left (hne' z1 hz1)) (((ls_set hlt).1 l2).resolve_left (hne' z2 hz2)) hne
  · intro t ht1 ht2
    by_cases hdt : d = t
    · subst hdt
      rw [hod, put_got hdlt]
      exact hv
    · rw [hod, put_get hdt]
      refine I.er t (fun z hz hlz hzd => ?_) (fun z hz hlz => ht2 z hz ((ls_set hlt).2 (.inr hlz)))
      by_cases hzx : z.i = x.i
      · have := pair_ne G z (by rw [I.split]; exact List.mem_append_left _ hz) x hxE hzx
        subst this
        rw [h1] at hzd
        exact hdt (Option.some.inj hzd)
      · exact ht1 z hz (fun h => ((ls_set hlt).1 h).elim hzx hlz) hzd
  · intro z hz hlz
    exact I.stb z hz fun h => hlz ((ls_set hlt).2 (.inr h))

theorem step_grow {C : Ctx} {w : World} {h : Heap} (H : HRel C w h) (obj : Obj) : Step C w C (w.alloc obj) ∧ HRel C (w.alloc obj) h := by
  have S : Step C w C (w.alloc obj) := by
    refine ⟨rfl, rfl, rfl, by simp, Nat.le_refl _, fun _ _ h => h, fun b j hb => World.cell?_alloc_lt w obj _ (H.okb b j hb), fun _ _ _ _ h _ => h, fun b arr t fz hb => ⟨arr, t, fz, ?_, rfl⟩, fun b hb _ => heap_alloc_old w obj hb, fun l b s z h _ => ⟨l, s, z, h⟩, fun _ _ h _ => .inl h⟩
    rw [heap_alloc_old w obj (Array.getElem?_eq_some_iff.1 hb).1]; exact hb
  refine ⟨S, fun l o hl => ?_, H.inj, H.none, fun b j hb => ?_, fun l b s z hm => ?_, H.tbS S⟩
  · exact (H.obj l o hl).keep S rfl (fun b s z hm => heap_alloc_old w obj (H.blk l b s z hm)) (fun _ _ _ _ _ h => h)
  · simp; exact Nat.lt_succ_of_lt (H.okb b j hb)
  · simp; exact Nat.lt_succ_of_lt (H.blk l b s z hm)

theorem bsl_run {C : Ctx} {w : World} {op : Oper} {z len : Nat} {zero cs : List AV} {parts : List (Nat × Nat × Opd)} {ps : List (Nat × Nat × AV)} {env : Env} {a : Act} (hc : chkE P op (.bsl z len zero parts) = true) (he : ERel C w env a.tmps) (h1 : evParts env true parts = some ps)
    (h2 : buildV (fillV zero len) ps = some cs) (hl : cs.length = len * z) (hone : cs.all AV.one = true) :
    ∃ (zv : Array Value) (ty : TypeId), RowsRel C w zv z (chunk z len cs) ∧ (chunk z len cs).length * z ≤ zv.size ∧ (execOp a.eval op).run P w = .ok (.value (.slice (some ⟨w.heap.size, 0, none⟩) len len)) (w.alloc (.cells zv ty)) := by
  obtain ⟨dst, oo, ty, pp, aft, gd⟩ := op
  cases oo <;> first | (cases hc; done) | skip
  rename_i t len' parts'
  simp only [chkE] at hc
  split at hc
  · rename_i e hu
    simp only [Bool.and_eq_true, decide_eq_true_eq] at hc
    obtain ⟨⟨⟨⟨⟨⟨hsz, hzp⟩, rfl⟩, hbig⟩, hlp⟩, hz⟩, hparts⟩ := hc
    split at hz
    · rename_i zv hzv
      simp only [Bool.and_eq_true, decide_eq_true_eq] at hz
      obtain ⟨hzl, hzs⟩ := hz
      have hz0 := chkLeaves_sound (C := C) (w := w) hzl
      have hz0l := hz0.length
      simp at hz0l
      have hfill : vrels C w (fillV zero len') ((Array.range (len' * z)).map (zv.cells[· % zv.cells.size]!)).toList := by
        refine vrels.of_get (by simp [fillV_length]; rw [← hz0l, hzs]) fun i v y hv hy => ?_
        have hi : i < len' * z := by
          have := (List.getElem?_eq_some_iff.1 hy).1
          simpa using this
        rw [fillV_get (by omega) hzp hi] at hv
        simp [hi] at hy
        subst hy
        obtain ⟨y', g1, g2⟩ := hz0.get hv
        rw [hzs]
        simp at g1
        rw [getElem!_def, g1]
        exact g2
      obtain ⟨zc, e1, e2⟩ := evParts_sound he rfl hparts h1 h2 hfill
      simp only [Bool.or_eq_true, Bool.and_eq_true, decide_eq_true_eq] at hlp
      rcases hlp with hlp | ⟨hl0, hpe⟩
      case inr =>
        subst hl0
        have hpn : parts'.toList = [] := by simpa using hpe
        have hrun : (Instr.buildSlice t 0 (parts'.map fun (i, x) => (i, a.eval x))).run P w = .ok (.slice (some ⟨w.heap.size, 0, none⟩) 0 0) (w.alloc (.cells #[] e)) := by
          have : (parts'.map fun (i, x) => (i, a.eval x)).toList = [] := by simp [hpn]
          unfold Instr.buildSlice
          simp only [Sem.run_bind, run_underlying hu, Result.andThen_ok, run_sizeB hsz]
          rw [if_neg (by omega), if_pos (by omega)]
          simp only [Sem.run_bind, Sem.run_pure, Result.andThen_ok]
          rw [this]
          simp [newRow, Instr.fill, show Array.range 0 = #[] from rfl]
        refine ⟨#[], e, fun i r hi => by simp [chunk] at hi, by simp [chunk], ?_⟩
        simp [execOp, hrun]
      have hrun : (Instr.buildSlice t len' (parts'.map fun (i, x) => (i, a.eval x))).run P w = .ok (.slice (some ⟨w.heap.size, 0, none⟩) len' len') (w.alloc (.cells zc e)) := by
        have hne : ¬ len' * z = 0 := by
          intro h0
          rcases Nat.mul_eq_zero.1 h0 with h0 | h0 <;> omega
        have : (parts'.map fun (i, x) => (i, a.eval x)).toList = parts'.toList.map fun q => (q.1, a.eval q.2) := by simp
        unfold Instr.buildSlice
        simp only [Sem.run_bind, run_underlying hu, Result.andThen_ok, run_sizeB hsz]
        rw [if_neg (by omega), if_neg hne]
        simp only [Sem.run_bind, Sem.run_pure, zero_run hzv, Result.andThen_ok]
        rw [this, e1]
        simp [newRow]
      refine ⟨zc, e, ?_, ?_, ?_⟩
      · intro i r hi
        have hil : i < len' := by have := (List.getElem?_eq_some_iff.1 hi).1; rwa [chunk_length] at this
        rw [chunk_get hil] at hi
        obtain rfl := Option.some.inj hi
        have hb : (i + 1) * z ≤ len' * z := Nat.mul_le_mul_right _ hil
        rw [Nat.add_mul] at hb
        refine ⟨by simp; omega, fun j v hj => ?_⟩
        have hjz : j < z := by
          have := (List.getElem?_eq_some_iff.1 hj).1
          simp at this; omega
        rw [List.getElem?_take, if_pos hjz, List.getElem?_drop] at hj
        obtain ⟨y, g1, g2⟩ := e2.get hj
        exact ⟨y, by simpa using g1, oneCell_of g2 (List.all_eq_true.1 hone v (List.mem_of_getElem? hj)), g2⟩
      · rw [chunk_length]; have := e2.length; simp at this; omega
      · simp [execOp, hrun]
    · cases hz
  · cases hc

theorem bslStat_ok {x : Ent} {z len : Nat} {zero : List AV} {parts : List (Nat × Nat × Opd)} (hc : x.c.o = .e (.bsl z len zero parts)) (h : bslStat x = true) (env : Env) : bslG env z len zero parts x.c.g := by
  unfold bslStat at h
  rw [hc] at h
  simp only [Bool.and_eq_true] at h
  obtain ⟨⟨h0, h1⟩, h2⟩ := h
  have h0 : x.c.g = none := by simpa using h0
  rw [h0]
  show bslOk env z len zero parts
  have hrd : ∀ l : List (Nat × Nat × Opd), (l.all fun p => p.2.2.rd.isEmpty) = true → rdp l = [] := by
    intro l
    induction l with
    | nil => intro _; rfl
    | cons p l ih =>
      intro h
      simp only [List.all_cons, Bool.and_eq_true, List.isEmpty_iff] at h
      obtain ⟨a, b, x⟩ := p
      simp only [rdp]
      rw [ih h.2, h.1]
      rfl
  have he : evParts env true parts = evParts [] true parts := evParts_env true (by rw [hrd parts h1]; intro t ht; cases ht)
  unfold bslOk
  rw [he]
  split at h2
  · rename_i ps hps
    rw [hps, oK_some]
    split at h2
    · rename_i cs hcs
      rw [hcs, oK_some]
      simp only [Bool.and_eq_true, decide_eq_true_eq] at h2
      exact h2
    · cases h2
  · cases h2

theorem item_ok {x : Ent} {z len : Nat} {zero : List AV} {parts : List (Nat × Nat × Opd)} (hc : x.c.o = .e (.bsl z len zero parts)) {st : St} {l : List COper} (hs : stabs st l) {s : COper} (hm : s ∈ l) (hi : itemOK x s = true) : bslG st.env z len zero parts x.c.g := by
  unfold itemOK at hi
  rw [hc] at hi
  split at hi
  · rename_i e1 e2
    simp only [COp.e.injEq, EOp.bsl.injEq] at e1
    obtain ⟨rfl, rfl, rfl, rfl⟩ := e1
    simp only [Bool.and_eq_true, decide_eq_true_eq] at hi
    obtain ⟨⟨⟨⟨hg, rfl⟩, rfl⟩, h3⟩, h4⟩ := hi
    rw [← eqAVs_eq h3, ← eqParts_eq h4] at e2
    rw [hg]
    induction l with
    | nil => cases hm
    | cons c l ih =>
      obtain ⟨cd, co, cg⟩ := c
      cases co with
      | s oo =>
        simp only [stabs] at hs
        rcases List.mem_cons.1 hm with rfl | hm
        · cases e2
        · exact ih hs.2 hm
      | b z' len' zero' parts' =>
        simp only [stabs] at hs
        rcases List.mem_cons.1 hm with rfl | hm
        · simp only [COp.b.injEq] at e2
          obtain ⟨rfl, rfl, rfl, rfl⟩ := e2
          exact hs.1
        · exact ih hs.2 hm
      | p oo => exact hs.elim
      | e oo => exact hs.elim
  · cases hi

theorem bslG_get {env : Env} {z len : Nat} {zero : List AV} {parts : List (Nat × Nat × Opd)} {g : Option (Nat × Bool)} (h : bslG env z len zero parts g) : ∃ b, guardB env g = some b ∧ (b = true → bslOk env z len zero parts) := by
  cases g with
  | none => exact ⟨true, rfl, fun _ => h⟩
  | some g => exact oK_of h

/-- A block is made ahead of its turn. -/
theorem exec_alloc (G : Good P ops n clo E) {listed : Array Bool} {dn rest : List Ent} {C : Ctx} {w : World} {st : St} {a : Act} {bl : Nat → Nat} (I : Inv P ops n E Q0 keep C0 w0 listed dn rest C w st a bl) {x : Ent} (hx : x ∈ rest) {op : Oper} (hop : ops[x.i]? = some op)
    (hr : ∀ e ∈ op.after, Region.binds .any e = true → Ls listed e.on) (hl : ¬ Ls listed x.i) (hA : x.A = true) : wpOp P ops (QM Q0 C0 w0 n) x.i (Goes P ops n E Q0 keep C0 w0 (listed.setIfInBounds x.i true)) a w := by
  have hxE : x ∈ E := by rw [I.split]; exact List.mem_append_right _ hx
  have hlt : x.i < listed.size := by rw [I.lsize]; exact (Array.getElem?_eq_some_iff.1 hop).1
  obtain ⟨op', hop', hchk, -⟩ := G.one x hxE
  rw [hop] at hop'
  obtain rfl := Option.some.inj hop'
  obtain ⟨mid, rest', hsp⟩ := List.append_of_mem hx
  have hc : ∃ d o g, x.c = ⟨some d, .e o, g⟩ ∧ ((g = none ∧ ∃ z, o = .alloc z) ∨ ∃ z len zero parts, o = .bsl z len zero parts) := by
    unfold Ent.A at hA
    split at hA
    · rename_i d z heq; exact ⟨d, _, _, heq, .inl ⟨rfl, z, rfl⟩⟩
    · rename_i d z len zero parts g heq; exact ⟨d, _, _, heq, .inr ⟨z, len, zero, parts, rfl⟩⟩
    · cases hA
  obtain ⟨d, o, g, hc, hform⟩ := hc
  -- what it reads is there
  have hpw := G.pair
  rw [I.split, List.pairwise_append] at hpw
  have hreads : ∀ t ∈ x.rd, vrel C w (eget st.env t) (a.tmps.getD t undef) := by
    intro t ht
    refine I.er t (fun y hy hly hd => ?_) (fun y hy hly hd => ?_)
    · exact (pair_un (hpw.2.2 y hy x hx) (unlisted_not_clo G I.down hop hr hly)).xy t hd ht
    · have hAy := (I.ah y hy hly).A
      have hp2 := hpw.2.1
      rw [hsp, List.pairwise_append, List.pairwise_cons] at hp2
      rw [hsp] at hy
      rcases List.mem_append.1 hy with h | h
      · exact pair_AA (hp2.2.2 y h x (List.mem_cons_self ..)) hAy hA t hd ht
      · rcases List.mem_cons.1 h with rfl | h
        · exact hl hly
        · exact (pair_c5 (hp2.2.1.1 y h) (.inr hAy)).1 t hd ht
  obtain ⟨he, heq⟩ := erel_keep hreads
  -- a slice's parts are well formed
  have hbsl : ∃ b, guardB st.env g = some b ∧ ∀ z len zero parts, o = .bsl z len zero parts → b = true → bslOk st.env z len zero parts := by
    rcases hform with ⟨rfl, z, rfl⟩ | ⟨z, len, zero, parts, rfl⟩
    · exact ⟨true, rfl, fun _ _ _ _ h => by cases h⟩
    have hco : x.c.o = .e (.bsl z len zero parts) := by rw [hc]
    have hcg : x.c.g = g := by rw [hc]
    have key : bslG st.env z len zero parts x.c.g := by
      rcases G.bsl (dn ++ mid) x rest' (by rw [I.split, hsp]; simp) hA with h | h
      · exact bslStat_ok hco h st.env
      · rcases h dn mid rfl with ⟨u, hu, s, hs, hi⟩ | ⟨v, hv, hvA, hvc⟩
        · exact item_ok hco (I.last u hu) hs hi
        · exfalso
          have hvl := clo_listed G I.down x.i op hop hr v.i hvc
          have := (I.ah v (by rw [hsp]; exact List.mem_append_left _ hv) hvl).A
          rw [this] at hvA; cases hvA
    rw [hcg] at key
    obtain ⟨b, h1, h2⟩ := bslG_get key
    refine ⟨b, h1, fun z' len' zero' parts' e => ?_⟩
    simp only [EOp.bsl.injEq] at e
    obtain ⟨rfl, rfl, rfl, rfl⟩ := e
    exact h2
  obtain ⟨bg, hgb, hbsl⟩ := hbsl
  rw [hc] at hchk
  obtain ⟨hod, hdn⟩ := chk1_d hchk
  have hdlt : d < a.tmps.size := Nat.lt_of_lt_of_le (hdn d rfl) I.nle
  simp only [chk1, Bool.and_eq_true, chkOp] at hchk
  obtain ⟨⟨hxx, hg⟩, hE⟩ := hchk
  have hgb' : guardB (keepE st.env x.rd) g = some bg := by
    rw [← guardB_env (env := st.env) fun t ht => heq t (by unfold Ent.rd; rw [hc]; exact List.mem_append_right _ ht)]
    exact hgb
  have hw : Region.wanted op (yielded ops a.tmps) = bg := wanted_sound (c := ⟨some d, .e o, g⟩) hg he hgb'
  have others : ∀ y ∈ rest, y.i ≠ x.i → Ls listed y.i → ∀ v, ∀ dy, y.c.d = some dy → (a.put op.dst v).tmps.getD dy undef = a.tmps.getD dy undef := by
    intro y hy hyx hly' v dy hdy
    rw [hod, put_get]
    intro e; subst e
    -- two made ahead have temporaries of their own
    have hAy : y.A = true := (I.ah y hy hly').A
    have hp2 := hpw.2.1
    rw [hsp, List.pairwise_append, List.pairwise_cons] at hp2
    rw [hsp] at hy
    rcases List.mem_append.1 hy with h | h
    · exact (pair_c5 (hp2.2.2 y h x (List.mem_cons_self ..)) (.inr hA)).2 d (by rw [hc]) hdy
    · rcases List.mem_cons.1 h with rfl | h
      · exact hyx rfl
      · exact (pair_c5 (hp2.2.1.1 y h) (.inr hAy)).2 d hdy (by rw [hc])
  cases bg with
  | false =>
    refine wpOp_of_value hop (.inr ⟨hw, rfl⟩) ⟨dn, rest, C, st, fun k => if k = x.i then 2 * x.i + 1 else bl k, I.split, I.run, I.S, I.H, ?_, ?_, ?_, down_set hlt hop hr I.down, ?_, ?_, I.last, ?_, ?_, ?_⟩
    · rw [hod]; simpa [Act.put] using I.nle
    · rw [hod]; exact I.df
    · simpa using I.lsize
    · exact fun y hy => (I.done y hy).imp id fun h => (ls_set hlt).2 (.inr h)
    · intro y hy hly
      by_cases hyx : y.i = x.i
      · have := pair_ne G y (by rw [I.split]; exact List.mem_append_right _ hy) x hxE hyx
        subst this
        simp only [if_pos]
        exact .inr ⟨rfl, d, o, g, hc, hA, hgb, by rw [hod, put_got hdlt]⟩
      · simp only [if_neg hyx]
        have hly' := ((ls_set hlt).1 hly).resolve_left hyx
        exact (I.ah y hy hly').step (.refl C w) (others y hy hyx hly' _)
    · intro y hy z' hz' l1 l2 hne
      have key : ∀ z ∈ rest, z.i ≠ x.i → Ls listed z.i → bl z.i ≠ 2 * x.i + 1 := by
        intro z hz hzx hlz
        rcases I.ah z hz hlz with ⟨b, e, _⟩ | ⟨e, _⟩ <;> omega
      by_cases h1 : y.i = x.i
      · rw [if_pos h1, if_neg (fun e => hne (h1.trans e.symm))]
        exact (key z' hz' (fun e => hne (h1.trans e.symm)) (((ls_set hlt).1 l2).resolve_left fun e => hne (h1.trans e.symm))).symm
      · rw [if_neg h1]
        have l1' := ((ls_set hlt).1 l1).resolve_left h1
        by_cases h2 : z'.i = x.i
        · rw [if_pos h2]
          exact key y hy h1 l1'
        · rw [if_neg h2]
          exact I.inj y hy z' hz' l1' (((ls_set hlt).1 l2).resolve_left h2) hne
    · intro t ht1 ht2
      have hdt : d ≠ t := by
        intro e; subst e
        exact ht2 x hx ((ls_set hlt).2 (.inl rfl)) (by rw [hc])
      rw [hod, put_get hdt]
      refine I.er t (fun y hy hly => ht1 y hy fun h => ?_) (fun y hy hly => ht2 y hy ((ls_set hlt).2 (.inr hly)))
      rcases (ls_set hlt).1 h with e | h
      · exact pair_i (pair_of G I.split hy hx) e
      · exact hly h
    · intro y hy hly
      exact I.stb y hy fun h => hly ((ls_set hlt).2 (.inr h))
  | true =>
  obtain ⟨z, es, hrow, zv, ty, hrel, hsz, hrun⟩ : ∃ (z : Nat) (es : List (List AV)), aRows st.env o = some (z, es) ∧ ∃ (zv : Array Value) (ty : TypeId), RowsRel C w zv z es ∧ es.length * z ≤ zv.size ∧ (execOp a.eval op).run P w = .ok (.value (aModel w.heap.size o)) (w.alloc (.cells zv ty)) := by
    clear hxx others hod
    clear hw
    obtain ⟨dst, oo, ty, pp, aft, gd⟩ := op
    rcases hform with ⟨-, z, rfl⟩ | ⟨z, len, zero, parts, rfl⟩
    · cases oo <;> first | (cases hE; done) | skip
      rename_i t
      simp only [chkE] at hE
      split at hE
      · rename_i zv hz
        have hv := chkLeaves_sound (C := C) (w := w) hE
        have hone := chkLeaves_one hE
        have hlen := hv.length
        simp at hlen
        refine ⟨_, _, rfl, zv.cells, t, fun i e hi => ?_, by simp; omega, by simp [execOp, Instr.alloc, zero_run hz, newVar, newRow, aModel]⟩
        cases i with
        | zero =>
          simp at hi; subst hi
          refine ⟨rfl, fun j v hj => ?_⟩
          obtain ⟨y, e1, e2⟩ := hv.get hj
          exact ⟨y, by simpa using e1, oneCell_of e2 (List.all_eq_true.1 hone v (List.mem_of_getElem? hj)), e2⟩
        | succ i => simp at hi
      · cases hE
    · have hok := hbsl z len zero parts rfl rfl
      obtain ⟨ps, h1, hok⟩ := oK_of hok
      obtain ⟨cs, h2, hlen, hone⟩ := oK_of hok
      have h1' : evParts (keepE st.env x.rd) true parts = some ps := by
        rw [← evParts_env (env := st.env) true fun t ht => heq t (by unfold Ent.rd; rw [hc]; exact List.mem_append_left _ ht)]
        exact h1
      refine ⟨z, chunk z len cs, ?_, ?_⟩
      · simp only [aRows, h1, h2, ob_some]
        rw [if_pos ⟨hlen, hone⟩]
      · obtain ⟨zv, ty, e1, e2, e3⟩ := bsl_run (C := C) (w := w) (a := a) hE he h1' h2 hlen hone
        exact ⟨zv, ty, e1, e2, by simpa [execOp, aModel] using e3⟩
  obtain ⟨S, H'⟩ := step_grow I.H (.cells zv ty)
  have hbnew : w0.heap.size ≤ w.heap.size := I.S.size
  unfold wpOp
  simp only [hop]
  rw [if_pos hw]
  refine .inl ?_
  unfold Oper.wp
  rw [hrun]
  refine ⟨dn, rest, C, st, fun k => if k = x.i then 2 * w.heap.size else bl k, I.split, I.run, I.S.trans S, H', ?_, ?_, ?_, down_set hlt hop hr I.down, ?_, ?_, I.last, ?_, ?_, ?_⟩
  · rw [hod]; simpa [Act.put] using I.nle
  · rw [hod]; exact I.df
  · simpa using I.lsize
  · exact fun y hy => (I.done y hy).imp id fun h => (ls_set hlt).2 (.inr h)
  · intro y hy hly
    by_cases hyx : y.i = x.i
    · have := pair_ne G y (by rw [I.split]; exact List.mem_append_right _ hy) x hxE hyx
      subst this
      simp only [if_pos]
      refine .inl ⟨_, rfl, ⟨d, o, g, z, es, zv, ty, hc, hA, hgb, hrow, hrel.mono S.toM, hsz, ?_, heap_alloc_new w _⟩, hbnew, fun l s z hm => ?_, fun j hj => ?_⟩
      · rw [hod, put_got hdlt]
      · have := I.H.blk l _ s z hm; omega
      · have := I.H.okb _ j hj; omega
    · simp only [if_neg hyx]
      have hly' := ((ls_set hlt).1 hly).resolve_left hyx
      exact (I.ah y hy hly').step S (others y hy hyx hly' _)
  · intro y hy z' hz' l1 l2 hne
    by_cases h1 : y.i = x.i
    · rw [if_pos h1, if_neg (fun e => hne (h1.trans e.symm))]
      have := (I.ah z' hz' (((ls_set hlt).1 l2).resolve_left fun e => hne (h1.trans e.symm))).lt
      omega
    · rw [if_neg h1]
      have l1' := ((ls_set hlt).1 l1).resolve_left h1
      by_cases h2 : z'.i = x.i
      · rw [if_pos h2]
        have := (I.ah y hy l1').lt
        omega
      · rw [if_neg h2]
        exact I.inj y hy z' hz' l1' (((ls_set hlt).1 l2).resolve_left h2) hne
  · intro t ht1 ht2
    have hdt : d ≠ t := by
      intro e; subst e
      exact ht2 x hx ((ls_set hlt).2 (.inl rfl)) (by rw [hc])
    rw [hod, put_get hdt]
    refine (I.er t (fun y hy hly => ht1 y hy fun h => ?_) (fun y hy hly => ht2 y hy ((ls_set hlt).2 (.inr hly)))).mono S
    rcases (ls_set hlt).1 h with e | h
    · exact pair_i (pair_of G I.split hy hx) e
    · exact hly h
  · intro y hy hly
    exact I.stb y hy fun h => hly ((ls_set hlt).2 (.inr h))
end
end Go.Ab
