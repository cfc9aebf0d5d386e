/- The layer Ab, part 12: a drawn region, whichever order is picked. -/
import Derived.Test.YtghiionknnpajaaGreatDoorAb6
import Derived.Test.YtghiionknnpajaaGreatDoorAb0
import Derived.Test.YtghiionknnpajaaGreatDoorRows
import Derived.Deep.Slices
import Derived.ChangeArms
import Derived.ReadAgain
set_option linter.unusedVariables false
set_option linter.unusedSimpArgs false
namespace Go.Ab

section
variable {P : Program} {ops : Array Oper} {n : Nat} {clo : List Nat} {E : List Ent} {Q0 : AExit → St → Prop} {keep : List Nat} {C0 : Ctx} {w0 : World}

def Goes (P : Program) (ops : Array Oper) (n : Nat) (E : List Ent) (Q0 : AExit → St → Prop) (keep : List Nat) (C0 : Ctx) (w0 : World) (listed : Array Bool) (a : Act) (w : World) : Prop :=
  ∃ dn rest C st bl, Inv P ops n E Q0 keep C0 w0 listed dn rest C w st a bl

theorem wpOp_of_value {i : Nat} {o : Oper} {a : Act} {w : World} {y : Value} {Q : Exit → Act → World → Prop} {K : Act → World → Prop} (ho : ops[i]? = some o) (hr : (Region.wanted o (yielded ops a.tmps) = true ∧ (execOp a.eval o).run P w = .ok (.value y) w) ∨ (Region.wanted o (yielded ops a.tmps) = false ∧ y = undef)) (hk : K (a.put o.dst y) w) :
    wpOp P ops Q i K a w := by
  unfold wpOp
  simp only [ho]
  rcases hr with ⟨hw, hr⟩ | ⟨hw, rfl⟩
  · rw [if_pos hw]
    refine .inl ?_
    unfold Oper.wp
    rw [hr]
    exact hk
  · rw [if_neg (by rw [hw]; simp)]
    exact hk

theorem chk1_d {o : Oper} {c : COper} (h : chk1 P ops n o c = true) : o.dst = c.d ∧ ∀ d, c.d = some d → d < n := by
  simp only [chk1, Bool.and_eq_true, decide_eq_true_eq] at h
  refine ⟨h.1.1.1, fun d hd => ?_⟩
  have := h.1.1.2
  rw [hd] at this
  simpa using this

theorem put_get {a : Act} {d t : Nat} {y : Value} (h : d ≠ t) : (a.put (some d) y).tmps.getD t undef = a.tmps.getD t undef := by
  simp [Act.put, Array.getElem?_setIfInBounds_ne h]
theorem put_got {a : Act} {d : Nat} {y : Value} (h : d < a.tmps.size) : (a.put (some d) y).tmps.getD d undef = y := by
  simp [Act.put, h]

theorem Ahead.step {C C' : Ctx} {w w' : World} {env : Env} {a a' : Act} {b : Nat} {x : Ent} (A : Ahead C0 w0 C w env a b x) (S : Step C w C' w') (ha : ∀ d, x.c.d = some d → a'.tmps.getD d undef = a.tmps.getD d undef) : Ahead C0 w0 C' w' env a' b x := by
  rcases A with ⟨b', e, ⟨d, o, g, z, es, zv, ty, q1, q2, q2', q3, q4, q5, q6, q7⟩, r1, r2, r3⟩ | ⟨e, d, o, g, q1, q2, q3, q4⟩
  · have hlt := (Array.getElem?_eq_some_iff.1 q7).1
    refine .inl ⟨b', e, ⟨d, o, g, z, es, zv, ty, q1, q2, q2', q3, q4.mono S.toM, q5, ?_, ?_⟩, r1, fun l s z hm => ?_, fun j hj => ?_⟩
    · rw [ha d (by rw [q1])]; exact q6
    · rw [S.out b' hlt fun l s z => r2 l s z]; exact q7
    · obtain ⟨l', s', z', h⟩ := S.own l b' s z hm hlt
      exact r2 _ _ _ h
    · rcases S.okn b' j hj hlt with h | ⟨l, s, z, h⟩
      · exact r3 j h
      · exact r2 _ _ _ h
  · exact .inr ⟨e, d, o, g, q1, q2, q3, by rw [ha d (by rw [q1])]; exact q4⟩

theorem Ahead.lt {C : Ctx} {w : World} {env : Env} {a : Act} {b : Nat} {x : Ent} (h : Ahead C0 w0 C w env a b x) : b ≠ 2 * w.heap.size := by
  rcases h with ⟨b', e, ⟨_, _, _, _, _, _, _, _, _, _, _, _, _, _, q⟩, _⟩ | ⟨e, _⟩
  · have := (Array.getElem?_eq_some_iff.1 q).1
    omega
  · omega

/-- A pending one is carried out. -/
theorem exec_pend (G : Good P ops n clo E) {listed : Array Bool} {dn rest : List Ent} {C : Ctx} {w : World} {st : St} {a : Act} {bl : Nat → Nat} (I : Inv P ops n E Q0 keep C0 w0 listed dn rest C w st a bl) {x : Ent} (hx : x ∈ dn) {op : Oper} (hop : ops[x.i]? = some op)
    (hr : ∀ e ∈ op.after, Region.binds .any e = true → Ls listed e.on) (hl : ¬ Ls listed x.i) : wpOp P ops (QM Q0 C0 w0 n) x.i (Goes P ops n E Q0 keep C0 w0 (listed.setIfInBounds x.i true)) a w := by
  have hxE : x ∈ E := by rw [I.split]; exact List.mem_append_left _ hx
  have hP : x.P ops = true := (I.done x hx).resolve_right hl
  have hself : ∀ d, x.c.d = some d → d ∉ x.rd := by
    obtain ⟨_, _, _, hs⟩ := G.one x hxE
    obtain ⟨d, hd, hn⟩ := hs hP
    intro d' hd'
    rw [hd] at hd'
    obtain rfl := Option.some.inj hd'
    exact hn
  have hlt : x.i < listed.size := by rw [I.lsize]; exact (Array.getElem?_eq_some_iff.1 hop).1
  obtain ⟨d, o, g, op', h1, h2, h3, h4, h5, h6⟩ := I.stb x hx hl
  rw [hop] at h2
  obtain rfl := Option.some.inj h2
  have hreads := reads_ok G I (.inl hx) hop hr hl (fun _ => hself)
  obtain ⟨he, heq⟩ := erel_keep hreads
  have hp : pval ⟨keepE st.env x.rd, st.h⟩ o g = some (eget st.env d) := by
    rw [← pval_env (env := st.env) fun t ht => heq t (h4 t ht)]
    exact h6
  obtain ⟨v, y, rfl, hv, hrun⟩ := pure_run (st := ⟨keepE st.env x.rd, st.h⟩) h3 I.H he (pval_to hp)
  obtain ⟨hod, hdn⟩ := chk1_d h3
  have hdlt : d < a.tmps.size := Nat.lt_of_lt_of_le (hdn d rfl) I.nle
  refine wpOp_of_value hop hrun ⟨dn, rest, C, st, bl, I.split, I.run, I.S, I.H, ?_, ?_, ?_, down_set hlt hop hr I.down, ?_, ?_, I.last, ?_, ?_, ?_⟩
  · rw [hod]; simpa [Act.put] using I.nle
  · rw [hod]; exact I.df
  · simpa using I.lsize
  · exact fun y hy => (I.done y hy).imp id fun h => (ls_set hlt).2 (.inr h)
  · intro z hz hlz
    rcases (ls_set hlt).1 hlz with e | hlz
    · exact absurd e.symm (pair_i (pair_of G I.split hx hz))
    · have A := I.ah z hz hlz
      refine A.step (.refl C w) fun dz hdz => ?_
      have := (pair_c5 (pair_of G I.split hx hz) (.inr A.A)).2 dz hdz
      rw [hod, put_get (by intro e; subst e; exact this h1)]
  · intro z1 hz1 z2 hz2 l1 l2 hne
    have hne' : ∀ z ∈ rest, z.i ≠ x.i := by
      intro z hz e
      exact pair_i (pair_of G I.split hx hz) e.symm
    exact I.inj z1 hz1 z2 hz2 (((ls_set hlt).1 l1).resolve_left (hne' z1 hz1)) (((ls_set hlt).1 l2).resolve_left (hne' z2 hz2)) hne
  · intro t ht1 ht2
    by_cases hdt : d = t
    · subst hdt
      rw [hod, put_got hdlt]
      exact hv
    · rw [hod, put_get hdt]
      refine I.er t (fun z hz hlz hzd => ?_) (fun z hz hlz => ht2 z hz ((ls_set hlt).2 (.inr hlz)))
      by_cases hzx : z.i = x.i
      · have := pair_ne G z (by rw [I.split]; exact List.mem_append_left _ hz) x hxE hzx
        subst this
        rw [h1] at hzd
        exact hdt (Option.some.inj hzd)
      · exact ht1 z hz (fun h => ((ls_set hlt).1 h).elim hzx hlz) hzd
  · intro z hz hlz
    exact I.stb z hz fun h => hlz ((ls_set hlt).2 (.inr h))

theorem step_grow {C : Ctx} {w : World} {h : Heap} (H : HRel C w h) (obj : Obj) : Step C w C (w.alloc obj) ∧ HRel C (w.alloc obj) h := by
  have S : Step C w C (w.alloc obj) := by
    refine ⟨rfl, rfl, rfl, by simp, Nat.le_refl _, fun _ _ h => h, fun b j hb => World.cell?_alloc_lt w obj _ (H.okb b j hb), fun _ _ _ _ h _ => h, fun b arr t fz hb => ⟨arr, t, fz, ?_, rfl⟩, fun b hb _ => heap_alloc_old w obj hb, fun l b s z h _ => ⟨l, s, z, h⟩, fun _ _ h _ => .inl h⟩
    rw [heap_alloc_old w obj (Array.getElem?_eq_some_iff.1 hb).1]; exact hb
  refine ⟨S, fun l o hl => ?_, H.inj, H.none, fun b j hb => ?_, fun l b s z hm => ?_, H.tbS S⟩
  · exact (H.obj l o hl).keep S rfl (fun b s z hm => heap_alloc_old w obj (H.blk l b s z hm)) (fun _ _ _ _ _ h => h)
  · simp; exact Nat.lt_succ_of_lt (H.okb b j hb)
  · simp; exact Nat.lt_succ_of_lt (H.blk l b s z hm)

theorem bsl_run {C : Ctx} {w : World} {op : Oper} {z len : Nat} {zero cs : List AV} {parts : List (Nat × Nat × Opd)} {ps : List (Nat × Nat × AV)} {env : Env} {a : Act} (hc : chkE P op (.bsl z len zero parts) = true) (he : ERel C w env a.tmps) (h1 : evParts env true parts = some ps)
    (h2 : buildV (fillV zero len) ps = some cs) (hl : cs.length = len * z) (hone : cs.all AV.one = true) :
    ∃ (zv : Array Value) (ty : TypeId), RowsRel C w zv z (chunk z len cs) ∧ (chunk z len cs).length * z ≤ zv.size ∧ (execOp a.eval op).run P w = .ok (.value (.slice (some ⟨w.heap.size, 0, none⟩) len len)) (w.alloc (.cells zv ty)) := by
  obtain ⟨dst, oo, ty, pp, aft, gd⟩ := op
  cases oo <;> first | (cases hc; done) | skip
  rename_i t len' parts'
  simp only [chkE] at hc
  split at hc
  · rename_i e hu
    simp only [Bool.and_eq_true, decide_eq_true_eq] at hc
    obtain ⟨⟨⟨⟨⟨⟨hsz, hzp⟩, rfl⟩, hbig⟩, hlp⟩, hz⟩, hparts⟩ := hc
    split at hz
    · rename_i zv hzv
      simp only [Bool.and_eq_true, decide_eq_true_eq] at hz
      obtain ⟨hzl, hzs⟩ := hz
      have hz0 := chkLeaves_sound (C := C) (w := w) hzl
      have hz0l := hz0.length
      simp at hz0l
      have hfill : vrels C w (fillV zero len') ((Array.range (len' * z)).map (zv.cells[· % zv.cells.size]!)).toList := by
        refine vrels.of_get (by simp [fillV_length]; rw [← hz0l, hzs]) fun i v y hv hy => ?_
        have hi : i < len' * z := by
          have := (List.getElem?_eq_some_iff.1 hy).1
          simpa using this
        rw [fillV_get (by omega) hzp hi] at hv
        simp [hi] at hy
        subst hy
        obtain ⟨y', g1, g2⟩ := hz0.get hv
        rw [hzs]
        simp at g1
        rw [getElem!_def, g1]
        exact g2
      obtain ⟨zc, e1, e2⟩ := evParts_sound he rfl hparts h1 h2 hfill
      simp only [Bool.or_eq_true, Bool.and_eq_true, decide_eq_true_eq] at hlp
      rcases hlp with hlp | ⟨hl0, hpe⟩
      case inr =>
        subst hl0
        have hpn : parts'.toList = [] := by simpa using hpe
        have hrun : (Instr.buildSlice t 0 (parts'.map fun (i, x) => (i, a.eval x))).run P w = .ok (.slice (some ⟨w.heap.size, 0, none⟩) 0 0) (w.alloc (.cells #[] e)) := by
          have : (parts'.map fun (i, x) => (i, a.eval x)).toList = [] := by simp [hpn]
          unfold Instr.buildSlice
          simp only [Sem.run_bind, run_underlying hu, Result.andThen_ok, run_sizeB hsz]
          rw [if_neg (by omega), if_pos (by omega)]
          simp only [Sem.run_bind, Sem.run_pure, Result.andThen_ok]
          rw [this]
          simp [newRow, Instr.fill, show Array.range 0 = #[] from rfl]
        refine ⟨#[], e, fun i r hi => by simp [chunk] at hi, by simp [chunk], ?_⟩
        simp [execOp, hrun]
      have hrun : (Instr.buildSlice t len' (parts'.map fun (i, x) => (i, a.eval x))).run P w = .ok (.slice (some ⟨w.heap.size, 0, none⟩) len' len') (w.alloc (.cells zc e)) := by
        have hne : ¬ len' * z = 0 := by
          intro h0
          rcases Nat.mul_eq_zero.1 h0 with h0 | h0 <;> omega
        have : (parts'.map fun (i, x) => (i, a.eval x)).toList = parts'.toList.map fun q => (q.1, a.eval q.2) := by simp
        unfold Instr.buildSlice
        simp only [Sem.run_bind, run_underlying hu, Result.andThen_ok, run_sizeB hsz]
        rw [if_neg (by omega), if_neg hne]
        simp only [Sem.run_bind, Sem.run_pure, zero_run hzv, Result.andThen_ok]
        rw [this, e1]
        simp [newRow]
      refine ⟨zc, e, ?_, ?_, ?_⟩
      · intro i r hi
        have hil : i < len' := by have := (List.getElem?_eq_some_iff.1 hi).1; rwa [chunk_length] at this
        rw [chunk_get hil] at hi
        obtain rfl := Option.some.inj hi
        have hb : (i + 1) * z ≤ len' * z := Nat.mul_le_mul_right _ hil
        rw [Nat.add_mul] at hb
        refine ⟨by simp; omega, fun j v hj => ?_⟩
        have hjz : j < z := by
          have := (List.getElem?_eq_some_iff.1 hj).1
          simp at this; omega
        rw [List.getElem?_take, if_pos hjz, List.getElem?_drop] at hj
        obtain ⟨y, g1, g2⟩ := e2.get hj
        exact ⟨y, by simpa using g1, oneCell_of g2 (List.all_eq_true.1 hone v (List.mem_of_getElem? hj)), g2⟩
      · rw [chunk_length]; have := e2.length; simp at this; omega
      · simp [execOp, hrun]
    · cases hz
  · cases hc

theorem bslStat_ok {x : Ent} {z len : Nat} {zero : List AV} {parts : List (Nat × Nat × Opd)} (hc : x.c.o = .e (.bsl z len zero parts)) (h : bslStat x = true) (env : Env) : bslG env z len zero parts x.c.g := by
  unfold bslStat at h
  rw [hc] at h
  simp only [Bool.and_eq_true] at h
  obtain ⟨⟨h0, h1⟩, h2⟩ := h
  have h0 : x.c.g = none := by simpa using h0
  rw [h0]
  show bslOk env z len zero parts
  have hrd : ∀ l : List (Nat × Nat × Opd), (l.all fun p => p.2.2.rd.isEmpty) = true → rdp l = [] := by
    intro l
    induction l with
    | nil => intro _; rfl
    | cons p l ih =>
      intro h
      simp only [List.all_cons, Bool.and_eq_true, List.isEmpty_iff] at h
      obtain ⟨a, b, x⟩ := p
      simp only [rdp]
      rw [ih h.2, h.1]
      rfl
  have he : evParts env true parts = evParts [] true parts := evParts_env true (by rw [hrd parts h1]; intro t ht; cases ht)
  unfold bslOk
  rw [he]
  split at h2
  · rename_i ps hps
    rw [hps, oK_some]
    split at h2
    · rename_i cs hcs
      rw [hcs, oK_some]
      simp only [Bool.and_eq_true, decide_eq_true_eq] at h2
      exact h2
    · cases h2
  · cases h2

theorem item_ok {x : Ent} {z len : Nat} {zero : List AV} {parts : List (Nat × Nat × Opd)} (hc : x.c.o = .e (.bsl z len zero parts)) {st : St} {l : List COper} (hs : stabs st l) {s : COper} (hm : s ∈ l) (hi : itemOK x s = true) : bslG st.env z len zero parts x.c.g := by
  unfold itemOK at hi
  rw [hc] at hi
  split at hi
  · rename_i e1 e2
    simp only [COp.e.injEq, EOp.bsl.injEq] at e1
    obtain ⟨rfl, rfl, rfl, rfl⟩ := e1
    simp only [Bool.and_eq_true, decide_eq_true_eq] at hi
    obtain ⟨⟨⟨⟨hg, rfl⟩, rfl⟩, h3⟩, h4⟩ := hi
    rw [← eqAVs_eq h3, ← eqParts_eq h4] at e2
    rw [hg]
    induction l with
    | nil => cases hm
    | cons c l ih =>
      obtain ⟨cd, co, cg⟩ := c
      cases co with
      | s oo =>
        simp only [stabs] at hs
        rcases List.mem_cons.1 hm with rfl | hm
        · cases e2
        · exact ih hs.2 hm
      | b z' len' zero' parts' =>
        simp only [stabs] at hs
        rcases List.mem_cons.1 hm with rfl | hm
        · simp only [COp.b.injEq] at e2
          obtain ⟨rfl, rfl, rfl, rfl⟩ := e2
          exact hs.1
        · exact ih hs.2 hm
      | p oo => exact hs.elim
      | e oo => exact hs.elim
  · cases hi

theorem bslG_get {env : Env} {z len : Nat} {zero : List AV} {parts : List (Nat × Nat × Opd)} {g : Option (Nat × Bool)} (h : bslG env z len zero parts g) : ∃ b, guardB env g = some b ∧ (b = true → bslOk env z len zero parts) := by
  cases g with
  | none => exact ⟨true, rfl, fun _ => h⟩
  | some g => exact oK_of h

/-- A block is made ahead of its turn. -/
theorem exec_alloc (G : Good P ops n clo E) {listed : Array Bool} {dn rest : List Ent} {C : Ctx} {w : World} {st : St} {a : Act} {bl : Nat → Nat} (I : Inv P ops n E Q0 keep C0 w0 listed dn rest C w st a bl) {x : Ent} (hx : x ∈ rest) {op : Oper} (hop : ops[x.i]? = some op)
    (hr : ∀ e ∈ op.after, Region.binds .any e = true → Ls listed e.on) (hl : ¬ Ls listed x.i) (hA : x.A = true) : wpOp P ops (QM Q0 C0 w0 n) x.i (Goes P ops n E Q0 keep C0 w0 (listed.setIfInBounds x.i true)) a w := by
  have hxE : x ∈ E := by rw [I.split]; exact List.mem_append_right _ hx
  have hlt : x.i < listed.size := by rw [I.lsize]; exact (Array.getElem?_eq_some_iff.1 hop).1
  obtain ⟨op', hop', hchk, -⟩ := G.one x hxE
  rw [hop] at hop'
  obtain rfl := Option.some.inj hop'
  obtain ⟨mid, rest', hsp⟩ := List.append_of_mem hx
  have hc : ∃ d o g, x.c = ⟨some d, .e o, g⟩ ∧ ((g = none ∧ ∃ z, o = .alloc z) ∨ ∃ z len zero parts, o = .bsl z len zero parts) := by
    unfold Ent.A at hA
    split at hA
    · rename_i d z heq; exact ⟨d, _, _, heq, .inl ⟨rfl, z, rfl⟩⟩
    · rename_i d z len zero parts g heq; exact ⟨d, _, _, heq, .inr ⟨z, len, zero, parts, rfl⟩⟩
    · cases hA
  obtain ⟨d, o, g, hc, hform⟩ := hc
  -- what it reads is there
  have hpw := G.pair
  rw [I.split, List.pairwise_append] at hpw
  have hreads : ∀ t ∈ x.rd, vrel C w (eget st.env t) (a.tmps.getD t undef) := by
    intro t ht
    refine I.er t (fun y hy hly hd => ?_) (fun y hy hly hd => ?_)
    · exact (pair_un (hpw.2.2 y hy x hx) (unlisted_not_clo G I.down hop hr hly)).xy t hd ht
    · have hAy := (I.ah y hy hly).A
      have hp2 := hpw.2.1
      rw [hsp, List.pairwise_append, List.pairwise_cons] at hp2
      rw [hsp] at hy
      rcases List.mem_append.1 hy with h | h
      · exact pair_AA (hp2.2.2 y h x (List.mem_cons_self ..)) hAy hA t hd ht
      · rcases List.mem_cons.1 h with rfl | h
        · exact hl hly
        · exact (pair_c5 (hp2.2.1.1 y h) (.inr hAy)).1 t hd ht
  obtain ⟨he, heq⟩ := erel_keep hreads
  -- a slice's parts are well formed
  have hbsl : ∃ b, guardB st.env g = some b ∧ ∀ z len zero parts, o = .bsl z len zero parts → b = true → bslOk st.env z len zero parts := by
    rcases hform with ⟨rfl, z, rfl⟩ | ⟨z, len, zero, parts, rfl⟩
    · exact ⟨true, rfl, fun _ _ _ _ h => by cases h⟩
    have hco : x.c.o = .e (.bsl z len zero parts) := by rw [hc]
    have hcg : x.c.g = g := by rw [hc]
    have key : bslG st.env z len zero parts x.c.g := by
      rcases G.bsl (dn ++ mid) x rest' (by rw [I.split, hsp]; simp) hA with h | h
      · exact bslStat_ok hco h st.env
      · rcases h dn mid rfl with ⟨u, hu, s, hs, hi⟩ | ⟨v, hv, hvA, hvc⟩
        · exact item_ok hco (I.last u hu) hs hi
        · exfalso
          have hvl := clo_listed G I.down x.i op hop hr v.i hvc
          have := (I.ah v (by rw [hsp]; exact List.mem_append_left _ hv) hvl).A
          rw [this] at hvA; cases hvA
    rw [hcg] at key
    obtain ⟨b, h1, h2⟩ := bslG_get key
    refine ⟨b, h1, fun z' len' zero' parts' e => ?_⟩
    simp only [EOp.bsl.injEq] at e
    obtain ⟨rfl, rfl, rfl, rfl⟩ := e
    exact h2
  obtain ⟨bg, hgb, hbsl⟩ := hbsl
  rw [hc] at hchk
  obtain ⟨hod, hdn⟩ := chk1_d hchk
  have hdlt : d < a.tmps.size := Nat.lt_of_lt_of_le (hdn d rfl) I.nle
  simp only [chk1, Bool.and_eq_true, chkOp] at hchk
  obtain ⟨⟨hxx, hg⟩, hE⟩ := hchk
  have hgb' : guardB (keepE st.env x.rd) g = some bg := by
    rw [← guardB_env (env := st.env) fun t ht => heq t (by unfold Ent.rd; rw [hc]; exact List.mem_append_right _ ht)]
    exact hgb
  have hw : Region.wanted op (yielded ops a.tmps) = bg := wanted_sound (c := ⟨some d, .e o, g⟩) hg he hgb'
  have others : ∀ y ∈ rest, y.i ≠ x.i → Ls listed y.i → ∀ v, ∀ dy, y.c.d = some dy → (a.put op.dst v).tmps.getD dy undef = a.tmps.getD dy undef := by
    intro y hy hyx hly' v dy hdy
    rw [hod, put_get]
    intro e; subst e
    -- two made ahead have temporaries of their own
    have hAy : y.A = true := (I.ah y hy hly').A
    have hp2 := hpw.2.1
    rw [hsp, List.pairwise_append, List.pairwise_cons] at hp2
    rw [hsp] at hy
    rcases List.mem_append.1 hy with h | h
    · exact (pair_c5 (hp2.2.2 y h x (List.mem_cons_self ..)) (.inr hA)).2 d (by rw [hc]) hdy
    · rcases List.mem_cons.1 h with rfl | h
      · exact hyx rfl
      · exact (pair_c5 (hp2.2.1.1 y h) (.inr hAy)).2 d hdy (by rw [hc])
  cases bg with
  | false =>
    refine wpOp_of_value hop (.inr ⟨hw, rfl⟩) ⟨dn, rest, C, st, fun k => if k = x.i then 2 * x.i + 1 else bl k, I.split, I.run, I.S, I.H, ?_, ?_, ?_, down_set hlt hop hr I.down, ?_, ?_, I.last, ?_, ?_, ?_⟩
    · rw [hod]; simpa [Act.put] using I.nle
    · rw [hod]; exact I.df
    · simpa using I.lsize
    · exact fun y hy => (I.done y hy).imp id fun h => (ls_set hlt).2 (.inr h)
    · intro y hy hly
      by_cases hyx : y.i = x.i
      · have := pair_ne G y (by rw [I.split]; exact List.mem_append_right _ hy) x hxE hyx
        subst this
        simp only [if_pos]
        exact .inr ⟨rfl, d, o, g, hc, hA, hgb, by rw [hod, put_got hdlt]⟩
      · simp only [if_neg hyx]
        have hly' := ((ls_set hlt).1 hly).resolve_left hyx
        exact (I.ah y hy hly').step (.refl C w) (others y hy hyx hly' _)
    · intro y hy z' hz' l1 l2 hne
      have key : ∀ z ∈ rest, z.i ≠ x.i → Ls listed z.i → bl z.i ≠ 2 * x.i + 1 := by
        intro z hz hzx hlz
        rcases I.ah z hz hlz with ⟨b, e, _⟩ | ⟨e, _⟩ <;> omega
      by_cases h1 : y.i = x.i
      · rw [if_pos h1, if_neg (fun e => hne (h1.trans e.symm))]
        exact (key z' hz' (fun e => hne (h1.trans e.symm)) (((ls_set hlt).1 l2).resolve_left fun e => hne (h1.trans e.symm))).symm
      · rw [if_neg h1]
        have l1' := ((ls_set hlt).1 l1).resolve_left h1
        by_cases h2 : z'.i = x.i
        · rw [if_pos h2]
          exact key y hy h1 l1'
        · rw [if_neg h2]
          exact I.inj y hy z' hz' l1' (((ls_set hlt).1 l2).resolve_left h2) hne
    · intro t ht1 ht2
      have hdt : d ≠ t := by
        intro e; subst e
        exact ht2 x hx ((ls_set hlt).2 (.inl rfl)) (by rw [hc])
      rw [hod, put_get hdt]
      refine I.er t (fun y hy hly => ht1 y hy fun h => ?_) (fun y hy hly => ht2 y hy ((ls_set hlt).2 (.inr hly)))
      rcases (ls_set hlt).1 h with e | h
      · exact pair_i (pair_of G I.split hy hx) e
      · exact hly h
    · intro y hy hly
      exact I.stb y hy fun h => hly ((ls_set hlt).2 (.inr h))
  | true =>
  obtain ⟨z, es, hrow, zv, ty, hrel, hsz, hrun⟩ : ∃ (z : Nat) (es : List (List AV)), aRows st.env o = some (z, es) ∧ ∃ (zv : Array Value) (ty : TypeId), RowsRel C w zv z es ∧ es.length * z ≤ zv.size ∧ (execOp a.eval op).run P w = .ok (.value (aModel w.heap.size o)) (w.alloc (.cells zv ty)) := by
    clear hxx others hod
    clear hw
    obtain ⟨dst, oo, ty, pp, aft, gd⟩ := op
    rcases hform with ⟨-, z, rfl⟩ | ⟨z, len, zero, parts, rfl⟩
    · cases oo <;> first | (cases hE; done) | skip
      rename_i t
      simp only [chkE] at hE
      split at hE
      · rename_i zv hz
        have hv := chkLeaves_sound (C := C) (w := w) hE
        have hone := chkLeaves_one hE
        have hlen := hv.length
        simp at hlen
        refine ⟨_, _, rfl, zv.cells, t, fun i e hi => ?_, by simp; omega, by simp [execOp, Instr.alloc, zero_run hz, newVar, newRow, aModel]⟩
        cases i with
        | zero =>
          simp at hi; subst hi
          refine ⟨rfl, fun j v hj => ?_⟩
          obtain ⟨y, e1, e2⟩ := hv.get hj
          exact ⟨y, by simpa using e1, oneCell_of e2 (List.all_eq_true.1 hone v (List.mem_of_getElem? hj)), e2⟩
        | succ i => simp at hi
      · cases hE
    · have hok := hbsl z len zero parts rfl rfl
      obtain ⟨ps, h1, hok⟩ := oK_of hok
      obtain ⟨cs, h2, hlen, hone⟩ := oK_of hok
      have h1' : evParts (keepE st.env x.rd) true parts = some ps := by
        rw [← evParts_env (env := st.env) true fun t ht => heq t (by unfold Ent.rd; rw [hc]; exact List.mem_append_left _ ht)]
        exact h1
      refine ⟨z, chunk z len cs, ?_, ?_⟩
      · simp only [aRows, h1, h2, ob_some]
        rw [if_pos ⟨hlen, hone⟩]
      · obtain ⟨zv, ty, e1, e2, e3⟩ := bsl_run (C := C) (w := w) (a := a) hE he h1' h2 hlen hone
        exact ⟨zv, ty, e1, e2, by simpa [execOp, aModel] using e3⟩
  obtain ⟨S, H'⟩ := step_grow I.H (.cells zv ty)
  have hbnew : w0.heap.size ≤ w.heap.size := I.S.size
  unfold wpOp
  simp only [hop]
  rw [if_pos hw]
  refine .inl ?_
  unfold Oper.wp
  rw [hrun]
  refine ⟨dn, rest, C, st, fun k => if k = x.i then 2 * w.heap.size else bl k, I.split, I.run, I.S.trans S, H', ?_, ?_, ?_, down_set hlt hop hr I.down, ?_, ?_, I.last, ?_, ?_, ?_⟩
  · rw [hod]; simpa [Act.put] using I.nle
  · rw [hod]; exact I.df
  · simpa using I.lsize
  · exact fun y hy => (I.done y hy).imp id fun h => (ls_set hlt).2 (.inr h)
  · intro y hy hly
    by_cases hyx : y.i = x.i
    · have := pair_ne G y (by rw [I.split]; exact List.mem_append_right _ hy) x hxE hyx
      subst this
      simp only [if_pos]
      refine .inl ⟨_, rfl, ⟨d, o, g, z, es, zv, ty, hc, hA, hgb, hrow, hrel.mono S.toM, hsz, ?_, heap_alloc_new w _⟩, hbnew, fun l s z hm => ?_, fun j hj => ?_⟩
      · rw [hod, put_got hdlt]
      · have := I.H.blk l _ s z hm; omega
      · have := I.H.okb _ j hj; omega
    · simp only [if_neg hyx]
      have hly' := ((ls_set hlt).1 hly).resolve_left hyx
      exact (I.ah y hy hly').step S (others y hy hyx hly' _)
  · intro y hy z' hz' l1 l2 hne
    by_cases h1 : y.i = x.i
    · rw [if_pos h1, if_neg (fun e => hne (h1.trans e.symm))]
      have := (I.ah z' hz' (((ls_set hlt).1 l2).resolve_left fun e => hne (h1.trans e.symm))).lt
      omega
    · rw [if_neg h1]
      have l1' := ((ls_set hlt).1 l1).resolve_left h1
      by_cases h2 : z'.i = x.i
      · rw [if_pos h2]
        have := (I.ah y hy l1').lt
        omega
      · rw [if_neg h2]
        exact I.inj y hy z' hz' l1' (((ls_set hlt).1 l2).resolve_left h2) hne
  · intro t ht1 ht2
    have hdt : d ≠ t := by
      intro e; subst e
      exact ht2 x hx ((ls_set hlt).2 (.inl rfl)) (by rw [hc])
    rw [hod, put_get hdt]
    refine (I.er t (fun y hy hly => ht1 y hy fun h => ?_) (fun y hy hly => ht2 y hy ((ls_set hlt).2 (.inr hly)))).mono S
    rcases (ls_set hlt).1 h with e | h
    · exact pair_i (pair_of G I.split hy hx) e
    · exact hly h
  · intro y hy hly
    exact I.stb y hy fun h => hly ((ls_set hlt).2 (.inr h))
end
end Go.Ab

/- The layer Ab, part 13: the drawn region. -/
namespace Go.Ab

section
variable {P : Program} {ops : Array Oper} {n : Nat} {clo : List Nat} {E : List Ent} {Q0 : AExit → St → Prop} {keep : List Nat} {C0 : Ctx} {w0 : World}

theorem after_head (G : Good P ops n clo E) {listed : Array Bool} {dn rest : List Ent} {x : Ent} {C C' : Ctx} {w w' : World} {st : St} {a : Act} {bl : Nat → Nat} (I : Inv P ops n E Q0 keep C0 w0 listed dn (x :: rest) C w st a bl) {op : Oper} (hop : ops[x.i]? = some op)
    (hr : ∀ e ∈ op.after, Region.binds .any e = true → Ls listed e.on) (hl : ¬ Ls listed x.i) {h' : Heap} {v : AV} {y : Value} (S : Step C w C' w') (H' : HRel C' w' h') (hv : vrel C' w' v y) (hst : stabs ⟨eput x.c.d v st.env, h'⟩ x.pend) (hrun : runE P Q0 keep rest ⟨eput x.c.d v st.env, h'⟩)
    (hh : x.eff = true ∨ h' = st.h) : Goes P ops n E Q0 keep C0 w0 (listed.setIfInBounds x.i true) (a.put op.dst y) w' := by
  have hxE : x ∈ E := by rw [I.split]; simp
  have hlt : x.i < listed.size := by rw [I.lsize]; exact (Array.getElem?_eq_some_iff.1 hop).1
  obtain ⟨op', hop', hchk, _⟩ := G.one x hxE
  rw [hop] at hop'
  obtain rfl := Option.some.inj hop'
  obtain ⟨hod, hdn⟩ := chk1_d hchk
  have hsplit : E = (dn ++ [x]) ++ rest := by rw [I.split]; simp
  have hne : ∀ z ∈ rest, z.i ≠ x.i := by
    intro z hz e
    exact pair_i (pair_of G hsplit (x := x) (y := z) (by simp) hz) e.symm
  have aheadA : ∀ z ∈ rest, Ls listed z.i → z.A = true := by
    intro z hz hlz
    exact (I.ah z (List.mem_cons_of_mem _ hz) hlz).A
  refine ⟨dn ++ [x], rest, C', ⟨eput x.c.d v st.env, h'⟩, bl, hsplit, hrun, I.S.trans S, H', ?_, ?_, ?_, down_set hlt hop hr I.down, ?_, ?_, ?_, ?_, ?_, ?_⟩
  · have := I.nle; rw [hod]; cases x.c.d <;> simpa [Act.put] using this
  · rw [hod]; have := I.df; cases x.c.d <;> exact this
  · simpa using I.lsize
  · intro z hz
    rcases List.mem_append.1 hz with hz | hz
    · exact (I.done z hz).imp id fun h => (ls_set hlt).2 (.inr h)
    · simp at hz; subst hz; exact .inr ((ls_set hlt).2 (.inl rfl))
  · intro z hz hlz
    have hlz' := ((ls_set hlt).1 hlz).resolve_left (hne z hz)
    have henv : EqOn z.rd st.env (eput x.c.d v st.env) := by
      intro t ht
      cases hxd : x.c.d with
      | none => rfl
      | some dx =>
        simp only [eput, eget]
        rw [if_neg]
        intro e; subst e
        have hzE : z ∈ E := by rw [hsplit]; simp [hz]
        obtain ⟨opz, hopz, -⟩ := G.one z hzE
        exact (pair_un (pair_of G hsplit (x := x) (y := z) (by simp) hz) (unlisted_not_clo G I.down hopz (I.down z.i opz hlz' hopz) hl)).xy _ hxd ht
    refine ((I.ah z (List.mem_cons_of_mem _ hz) hlz').step S fun d hd => ?_).env henv
    rw [hod]
    cases hxd : x.c.d with
    | none => rfl
    | some dx =>
      rw [put_get]
      intro e; subst e
      exact (pair_c5 (pair_of G hsplit (x := x) (y := z) (by simp) hz) (.inr (aheadA z hz hlz'))).2 _ hd hxd
  · intro z hz
    rw [List.getLast?_concat] at hz
    obtain rfl := Option.some.inj hz
    exact hst
  · intro z1 h1 z2 h2 l1 l2
    exact I.inj z1 (List.mem_cons_of_mem _ h1) z2 (List.mem_cons_of_mem _ h2) (((ls_set hlt).1 l1).resolve_left (hne z1 h1)) (((ls_set hlt).1 l2).resolve_left (hne z2 h2))
  · intro t ht1 ht2
    have old : x.c.d ≠ some t → vrel C' w' (eget st.env t) (a.tmps.getD t undef) := by
      intro hdt
      refine (I.er t (fun z hz hlz => ht1 z (List.mem_append_left _ hz) fun h => ?_) (fun z hz hlz => ?_)).mono S
      · rcases (ls_set hlt).1 h with e | h
        · exact pair_i (pair_of G I.split hz (List.mem_cons_self (a := x))) e
        · exact hlz h
      · rcases List.mem_cons.1 hz with rfl | hz
        · exact hdt
        · exact ht2 z hz ((ls_set hlt).2 (.inr hlz))
    rw [hod]
    cases hxd : x.c.d with
    | none =>
      have := old (by rw [hxd]; simp)
      simpa [eput, Act.put] using this
    | some dx =>
      by_cases hdt : dx = t
      · subst hdt
        have := hdn dx hxd
        have hsz := I.nle
        rw [put_got (by omega)]
        simp only [eput, eget, if_pos]
        exact hv
      · rw [put_get hdt]
        simp only [eput, eget]
        rw [if_neg hdt]
        exact old (by rw [hxd]; simpa using hdt)
  · intro z hz hlz
    rcases List.mem_append.1 hz with hz | hz
    · have hlz' : ¬ Ls listed z.i := fun h => hlz ((ls_set hlt).2 (.inr h))
      have hu := unlisted_not_clo G I.down hop hr hlz'
      exact stb_keep (pair_un (pair_of G I.split hz (List.mem_cons_self ..)) hu) hh hst (I.stb z hz hlz')
    · simp at hz; subst hz
      exact absurd ((ls_set hlt).2 (.inl rfl)) hlz

/-- What has its turn is carried out. -/
theorem exec_head (G : Good P ops n clo E) {listed : Array Bool} {dn rest : List Ent} {x : Ent} {C : Ctx} {w : World} {st : St} {a : Act} {bl : Nat → Nat} (I : Inv P ops n E Q0 keep C0 w0 listed dn (x :: rest) C w st a bl) {op : Oper} (hop : ops[x.i]? = some op)
    (hr : ∀ e ∈ op.after, Region.binds .any e = true → Ls listed e.on) (hl : ¬ Ls listed x.i) : wpOp P ops (QM Q0 C0 w0 n) x.i (Goes P ops n E Q0 keep C0 w0 (listed.setIfInBounds x.i true)) a w := by
  have hxE : x ∈ E := by rw [I.split]; simp
  obtain ⟨op', hop', hchk, hself⟩ := G.one x hxE
  rw [hop] at hop'
  obtain rfl := Option.some.inj hop'
  by_cases hP : x.P ops = true
  · obtain ⟨st', I'⟩ := adv_pure G I hP hl
    exact exec_pend G I' (by simp) hop hr hl
  · have hnd : x ∉ dn := by
      intro hx
      have := pair_of G I.split hx (List.mem_cons_self (a := x))
      simp [pairOK] at this
    have hreads := reads_ok G I (.inr rfl) hop hr hl (fun h => absurd h hnd)
    obtain ⟨he, heq⟩ := erel_keep hreads
    have fin := fun (C' : Ctx) (w' : World) (h' : Heap) (v : AV) (y : Value) => after_head (C' := C') (w' := w') (h' := h') (v := v) (y := y) G I hop hr hl
    have hrun := I.run
    have hR : ∀ t, t ∈ x.rd → eget st.env t = eget (keepE st.env x.rd) t := heq
    generalize hke : keepE st.env x.rd = env' at he heq
    obtain ⟨i, ⟨d, o, g⟩, pend⟩ := x
    have hnle := I.nle
    have hdf := I.df
    have hS := I.S
    cases o with
    | s o => simp [chk1, chkOp] at hchk
    | b z len zero parts => simp [chk1, chkOp] at hchk
    | p o =>
      simp only [runE] at hrun
      obtain ⟨v, hv, hst, hk⟩ := pval_of hrun
      have hp : pval ⟨env', st.h⟩ o g = some v := by
        rw [← pval_env (env := st.env) heq]; exact hv
      obtain ⟨u, y, rfl, hvr, hrr⟩ := pure_run (st := ⟨env', st.h⟩) hchk I.H he (pval_to hp)
      exact wpOp_of_value hop hrr (fin _ _ _ _ _ (.refl C w) I.H hvr hst hk (.inr rfl))
    | e o =>
      have hchk' := hchk
      simp only [chk1, Bool.and_eq_true, chkOp] at hchk'
      obtain ⟨⟨_, hg⟩, hE⟩ := hchk'
      have main : Region.wanted op (yielded ops a.tmps) = true → o.wp P st (fun v h => stabs ⟨eput d v st.env, h⟩ pend ∧ runE P Q0 keep rest ⟨eput d v st.env, h⟩) (fun v h => Q0 (.pan v) ⟨st.env, h⟩) →
          wpOp P ops (QM Q0 C0 w0 n) i (Goes P ops n E Q0 keep C0 w0 (listed.setIfInBounds i true)) a w := by
        intro hw h
        have h := EOp.wp_env (env' := env') (hp := st.h) heq.left h
        have hs := EOp.sound (st := ⟨env', st.h⟩) (C := C) (w := w) (a := a) hE I.H he h
        unfold wpOp
        simp only [hop]
        rw [if_pos hw]
        refine .inl (Oper.wp_imp hs ?_ ?_)
        · rintro a' w' ⟨C', v, h', y, S', H', hv, rfl, hst, hk⟩
          exact fin _ _ _ _ _ S' H' hv hst hk (.inl rfl)
        · rintro e a' w' ⟨C', v, h', y, S', H', hv, rfl, rfl, hk⟩
          exact ⟨C', ⟨st.env, h'⟩, .pan v, hS.trans S', H', hnle, hdf, hk, y, rfl, hv⟩
      cases g with
      | none =>
        simp only [runE] at hrun
        exact main (wanted_sound (c := ⟨d, .e o, none⟩) hg he rfl) hrun
      | some g =>
        simp only [runE] at hrun
        obtain ⟨b, hb, h⟩ := oK_of hrun
        have hb' : guardB env' (some g) = some b := by rw [← guardB_env (env := st.env) heq.right]; exact hb
        have hw := wanted_sound (c := ⟨d, .e o, some g⟩) hg he hb'
        cases b with
        | true => exact main hw (h.1 rfl)
        | false =>
          obtain ⟨hst, hk⟩ := h.2 rfl
          exact wpOp_of_value hop (.inr ⟨hw, rfl⟩) (fin C w st.h (.cond false .dead) undef (.refl C w) I.H (by simp [vrel]) hst hk (.inr rfl))

/-- Whichever operation is picked. -/
theorem exec_any (G : Good P ops n clo E) {listed : Array Bool} {C : Ctx} {w : World} {a : Act} (Hg : Goes P ops n E Q0 keep C0 w0 listed a w) {j : Nat} {op : Oper} (hop : ops[j]? = some op)
    (hr : ∀ e ∈ op.after, Region.binds .any e = true → Ls listed e.on) (hl : ¬ Ls listed j) : wpOp P ops (QM Q0 C0 w0 n) j (Goes P ops n E Q0 keep C0 w0 (listed.setIfInBounds j true)) a w := by
  obtain ⟨dn, rest, C, st, bl, I⟩ := Hg
  obtain ⟨x, hx, rfl⟩ := G.all j (Array.getElem?_eq_some_iff.1 hop).1
  rw [I.split] at hx
  rcases List.mem_append.1 hx with hx | hx
  · exact exec_pend G I hx hop hr hl
  · by_cases hA : x.A = true
    · exact exec_alloc G I hx hop hr hl hA
    · obtain ⟨mid, rest', hsp⟩ := List.append_of_mem hx
      subst hsp
      have hmid : ∀ y ∈ mid, y.P ops = true ∨ Ls listed y.i := by
        intro y hy
        by_cases hly : Ls listed y.i
        · exact .inr hly
        · have hp := pair_of G (dn := dn ++ mid) (rest := x :: rest') (by rw [I.split]; simp) (x := y) (y := x) (by simp [hy]) (by simp)
          have := (pair_un hp (unlisted_not_clo G I.down hop hr hly)).pa
          exact this.elim .inl fun h => absurd h hA
      obtain ⟨C', st', I'⟩ := advance G mid (rest := x :: rest') I hmid
      exact exec_head G I' hop hr hl

def unl (listed : Array Bool) (m : Nat) : Nat := (List.range m).countP fun j => !listed.getD j false

theorem unl_set {listed : Array Bool} {m j : Nat} (hj : j < m) (hs : j < listed.size) (hl : ¬ Ls listed j) : unl (listed.setIfInBounds j true) m < unl listed m := by
  unfold unl
  have key : ∀ l : List Nat, j ∈ l → l.countP (fun k => !(listed.setIfInBounds j true).getD k false) < l.countP fun k => !listed.getD k false := by
    have le : ∀ l : List Nat, l.countP (fun k => !(listed.setIfInBounds j true).getD k false) ≤ l.countP fun k => !listed.getD k false := by
      intro l
      refine List.countP_mono_left fun k _ hk => ?_
      by_cases hkl : listed.getD k false = true
      · have := (ls_set (j := k) hs).2 (.inr hkl)
        unfold Ls at this
        rw [this] at hk; cases hk
      · simpa using hkl
    intro l
    induction l with
    | nil => intro h; cases h
    | cons k l ih =>
      intro h
      rw [List.countP_cons, List.countP_cons]
      by_cases hkj : k = j
      · subst hkj
        have h1 : (listed.setIfInBounds k true).getD k false = true := (ls_set hs).2 (.inl rfl)
        have h2 : listed.getD k false = false := by
          cases hq : listed.getD k false with
          | false => rfl
          | true => exact absurd hq hl
        rw [h1, h2]
        have := le l
        simp only [Bool.not_true, Bool.not_false, if_true]
        simp
        simp at this
        omega
      · have hjl : j ∈ l := (List.mem_cons.1 h).resolve_left fun e => hkj e.symm
        have := ih hjl
        have h1 : (listed.setIfInBounds j true).getD k false = listed.getD k false := getD_set_ne false (Ne.symm hkj)
        rw [h1]
        omega
  exact key _ (by simpa using hj)

theorem all_of_unl {listed : Array Bool} {m : Nat} (h : unl listed m = 0) : ∀ j, j < m → Ls listed j := by
  intro j hj
  unfold unl at h
  rw [List.countP_eq_zero] at h
  have := h j (by simpa using hj)
  unfold Ls
  simpa using this

theorem fin_any (G : Good P ops n clo E) {listed : Array Bool} {w : World} {a : Act} (Hg : Goes P ops n E Q0 keep C0 w0 listed a w) (hall : ∀ j, j < ops.size → Ls listed j) : QM Q0 C0 w0 n .normal a w := by
  obtain ⟨dn, rest, C, st, bl, I⟩ := Hg
  have hl : ∀ x ∈ E, Ls listed x.i := fun x hx => by
    obtain ⟨o, ho, _⟩ := G.one x hx
    exact hall _ (Array.getElem?_eq_some_iff.1 ho).1
  obtain ⟨C', st', I'⟩ := advance G rest (rest := []) (by simpa using I) fun y hy => .inr (hl y (by rw [I.split]; exact List.mem_append_right _ hy))
  have he : ERel C' w st'.env a.tmps := ⟨fun t => I'.er t (fun x hx hlx => absurd (hl x (by rw [I'.split]; simpa using hx)) hlx) (fun x hx => by cases hx)⟩
  exact ⟨C', ⟨keepE st'.env keep, st'.h⟩, .normal, I'.S, I'.H, I'.nle, I'.df, I'.run, rfl, he.keep keep⟩

theorem any_sound (G : Good P ops n clo E) : ∀ (fuel : Nat) (listed : Array Bool) (a : Act) (w : World), listed.size = ops.size → unl listed ops.size ≤ fuel → Goes P ops n E Q0 keep C0 w0 listed a w → wpAny P .any ops (QM Q0 C0 w0 n) fuel listed a w := by
  have ready_nil : ∀ {listed : Array Bool}, listed.size = ops.size → Region.ready .any ops listed = [] → ∀ j, j < ops.size → Ls listed j := by
    intro listed hs hr j
    induction j using Nat.strongRecOn with
    | _ j ih =>
      intro hj
      cases hl : listed.getD j false with
      | true => exact hl
      | false =>
        exfalso
        have hmem : j ∈ Region.ready .any ops listed := by
          refine mem_ready.2 ⟨?_, ops[j], Array.getElem?_eq_getElem hj, fun e he hb => ?_⟩
          · have : j < listed.size := by omega
            simpa [this] using hl
          · have := G.edge j _ (Array.getElem?_eq_getElem hj) e he hb
            exact ih e.on this (Nat.lt_trans this hj)
        rw [hr] at hmem; cases hmem
  intro fuel
  induction fuel with
  | zero =>
    intro listed a w hs hu Hg
    have hall := all_of_unl (Nat.le_zero.1 hu)
    refine ⟨?_, fin_any G Hg hall⟩
    cases hr : Region.ready .any ops listed with
    | nil => rfl
    | cons j l =>
      exfalso
      have : j ∈ Region.ready .any ops listed := by rw [hr]; simp
      obtain ⟨h1, o, ho, _⟩ := mem_ready.1 this
      have hj := (Array.getElem?_eq_some_iff.1 ho).1
      have h2 := hall j hj
      unfold Ls at h2
      have : j < listed.size := by omega
      simp [this] at h1 h2
      rw [h2] at h1; cases h1
  | succ fuel ih =>
    intro listed a w hs hu Hg
    refine ⟨fun hr => fin_any G Hg (ready_nil hs hr), fun j hj => ?_⟩
    obtain ⟨h1, o, ho, hall⟩ := mem_ready.1 hj
    have hjlt := (Array.getElem?_eq_some_iff.1 ho).1
    have hl : ¬ Ls listed j := by
      unfold Ls
      have : j < listed.size := by omega
      simp [this] at h1 ⊢
      exact h1
    have hlt := unl_set (m := ops.size) hjlt (by omega) hl
    refine wpOp_mono (fun a' w' hg => ih _ a' w' (by simpa using hs) (by omega) hg) (exec_any (C := C0) G Hg ho hall hl)
end

theorem drew_rel {C : Ctx} {w w' : World} {h : Heap} (H : HRel C w h) (hh : w'.heap = w.heap) (hos : w'.os = w.os) (ht : w'.tape = w.tape) (ho : w'.output = w.output) : Step C w C w' ∧ HRel C w' h := by
  have hc : ∀ b j, w'.cell? ⟨b, j, none⟩ = w.cell? ⟨b, j, none⟩ := by intro b j; simp [World.cell?, hh]
  have S : Step C w C w' := ⟨hos, ht, ho, by rw [hh]; exact Nat.le_refl _, Nat.le_refl _, fun _ _ h => h, fun _ _ _ => hc _ _, fun _ _ _ _ h _ => h, fun b arr t fz h => ⟨arr, t, fz, by rw [hh]; exact h, rfl⟩, fun _ _ _ => by rw [hh], fun l b s z h _ => ⟨l, s, z, h⟩, fun _ _ h _ => .inl h⟩
  refine ⟨S, fun l o hl => ?_, H.inj, H.none, fun b j h => by rw [hh]; exact H.okb b j h, fun l b s z h => by rw [hh]; exact H.blk l b s z h, H.tbS S⟩
  exact (H.obj l o hl).keep S rfl (fun _ _ _ _ => by rw [hh]) (fun _ _ _ _ _ h => h)

/-- A REGION WHOSE ORDER IS DRAWN. -/
theorem drawn_sound {P : Program} {ops : Array Oper} {n : Nat} {L : List COper} {ord : List Nat} {Q0 : AExit → St → Prop} {keep : List Nat} {C : Ctx} {w : World} {st : St} {a : Act} {id : Nat} (hc : chkD P ops n L ord = true) (H : HRel C w st.h) (he : ERel C w st.env a.tmps)
    (hn : n ≤ a.tmps.size) (hd : a.defers = []) (h : runOps P (fun v st => Q0 (.pan v) st) (fun st => Q0 .normal ⟨keepE st.env keep, st.h⟩) L st) : (Code.region id ops true).wp P (QM Q0 C w n) a w := by
  unfold chkD at hc
  split at hc
  · cases hc
  · rename_i E hz
    simp only [Bool.and_eq_true] at hc
    have G := good_of hc.2
    obtain ⟨S, H'⟩ := drew_rel (w' := { w with drawn := w.drawn + 1 }) H rfl rfl rfl rfl
    refine wp_region_any hc.1 (any_sound (keep := keep) G ops.size _ a _ (by simp) ?_ ?_)
    · unfold unl
      have := List.countP_le_length (p := fun j => !(Array.replicate ops.size false).getD j false) (l := List.range ops.size)
      simpa using this
    · have hno : ∀ j, ¬ Ls (Array.replicate ops.size false) j := by
        intro j hj
        unfold Ls at hj
        by_cases h : j < ops.size <;> simp [h] at hj
      refine ⟨[], E, C, st, fun _ => 0, rfl, runE_of hz h, S, H', hn, hd, by simp, ?_, ?_, ?_, ?_, ?_, ?_, ?_⟩
      · exact fun j o hj => absurd hj (hno j)
      · intro x hx; cases hx
      · exact fun x _ hl => absurd hl (hno _)
      · intro x hx; cases hx
      · exact fun x _ y _ hl => absurd hl (hno _)
      · exact fun t _ _ => (he.step S).slot t
      · intro x hx; cases hx
end Go.Ab

/- The layer Ab, part 14: whole functions. -/
namespace Go.Ab

def chkC (P : Program) (n : Nat) : Code → LCode → Bool
  | .skip, .skip => true
  | .region _ ops false, .reg cops _ => chkL P ops n ops.toList cops
  | .region _ ops true, .regD cops ord _ => chkD P ops n cops ord
  | .seq a b, .seq a' b' => chkC P n a a' && chkC P n b b'
  | .cond c a b, .cond c' a' b' => chkO c c' && chkC P n a a' && chkC P n b b'
  | .block id c, .block id' c' => decide (id = id') && chkC P n c c'
  | .loop c, .loop c' _ => chkC P n c c'
  | .exit id, .exit id' => decide (id = id')
  | .ret, .ret => true
  | _, _ => false

def chkRes (P : Program) : List ResultVar → List LRes → Bool
  | [], [] => true
  | .tmp t :: r, .t t' :: r' => decide (t = t') && chkRes P r r'
  | .cell t ty :: r, .c t' :: r' => decide (t = t') && decide (aggB P ty = some false) && chkRes P r r'
  | .cell t ty :: r, .cn t' n :: r' => decide (t = t') && decide (aggB P ty = some true) && decide (sizeB P ty = some n) && chkRes P r r'
  | _, _ => false

def chkF (P : Program) (f : FuncId) (F : LFunc) : Bool := match P.funcs[f]? with
  | some fn => (match fn.body with | some c => fn.name != "runtime.NumGoroutine" && decide (F.n ≤ fn.ntmps) && chkC P F.n c F.code && chkRes P fn.results.toList F.res | none => false)
  | none => false

theorem wp_loop_ix {P : Program} {Q : Exit → Act → World → Prop} {a : Act} {w : World} {c : Code} (I : Nat → Act → World → Prop) (h₀ : ∃ m, I m a w)
    (round : ∀ m a w, I m a w → c.wp P (Exit.then (fun a' w' => ∃ m', m' < m ∧ I m' a' w') Q) a w) : (Code.loop c).wp P Q a w := by
  intro b k cs
  have key : ∀ n a w, I n a w →
      ∃ e a' w', Q e a' w' ∧ Arrives P (lone (b.at a (.code c :: .inLoop c :: k)) cs w) b k cs e a' w' := by
    intro n
    induction n using Nat.strongRecOn with
    | _ n ih =>
      intro a w hI
      obtain ⟨e, a₁, w₁, hq, harr⟩ := round n a w hI b (.inLoop c :: k) cs
      cases e with
      | normal =>
        obtain ⟨m', hlt, hI₁⟩ := hq
        obtain ⟨e₂, a₂, w₂, hq₂, harr₂⟩ := ih m' hlt a₁ w₁ hI₁
        exact ⟨e₂, a₂, w₂, hq₂, .of_steps (Steps.trans harr (.one step_inLoop)) harr₂⟩
      | exit id => exact ⟨_, a₁, w₁, hq, .pass (x := .inLoop c) rfl (fun _ _ => .inl (by simp)) harr⟩
      | goto l => exact ⟨_, a₁, w₁, hq, .pass (x := .inLoop c) rfl (fun _ _ => .inl (by simp)) harr⟩
      | ret => exact ⟨_, a₁, w₁, hq, .pass (x := .inLoop c) rfl (fun _ _ => .inl (by simp)) harr⟩
      | panic ch => exact ⟨_, a₁, w₁, hq, .pass (x := .inLoop c) rfl (fun _ _ => .inl (by simp)) harr⟩
      | outgrown => exact ⟨_, a₁, w₁, hq, .pass (x := .inLoop c) rfl (fun _ _ => .inl (by simp)) harr⟩
  obtain ⟨m, h₀⟩ := h₀
  obtain ⟨e, a', w', hq, harr⟩ := key m a w h₀
  exact ⟨e, a', w', hq, .of_steps (.one step_loop) harr⟩

section
variable {P : Program} {n : Nat}

theorem QM.to_then {Q1 Q0 : AExit → St → Prop} {next : Act → World → Prop} {C : Ctx} {w : World} {e : Exit} {a : Act} {w' : World} (h : QM Q1 C w n e a w') (hq : ∀ x st, x ≠ .normal → Q1 x st → Q0 x st)
    (hn : ∀ C' st, Step C w C' w' → HRel C' w' st.h → n ≤ a.tmps.size → a.defers = [] → ERel C' w' st.env a.tmps → Q1 .normal st → next a w') : Exit.then next (QM Q0 C w n) e a w' := by
  obtain ⟨C', st, x, S, H, hle, hd, hk, hx⟩ := h
  cases x with
  | normal =>
    obtain ⟨rfl, he⟩ := hx
    exact hn C' st S H hle hd he hk
  | exit id =>
    obtain ⟨rfl, he⟩ := hx
    exact ⟨C', st, .exit id, S, H, hle, hd, hq _ _ (by simp) hk, rfl, he⟩
  | ret =>
    obtain ⟨rfl, he⟩ := hx
    exact ⟨C', st, .ret, S, H, hle, hd, hq _ _ (by simp) hk, rfl, he⟩
  | pan v =>
    obtain ⟨y, rfl, hv⟩ := hx
    exact ⟨C', st, .pan v, S, H, hle, hd, hq _ _ (by simp) hk, y, rfl, hv⟩

theorem code_sound : ∀ (lc : LCode) (c : Code) {Q0 : AExit → St → Prop} {C : Ctx} {w : World} {st : St} {a : Act}, chkC P n c lc = true → HRel C w st.h → ERel C w st.env a.tmps → n ≤ a.tmps.size → a.defers = [] → wpA P lc Q0 st → c.wp P (QM Q0 C w n) a w := by
  intro lc
  induction lc with
  | skip =>
    intro c Q0 C w st a hc H he hn hd h
    cases c <;> simp only [chkC] at hc <;> first | (cases hc; done) | skip
    exact Go.wp_skip ⟨C, st, .normal, .refl C w, H, hn, hd, h, rfl, he⟩
  | reg cops keep =>
    intro c Q0 C w st a hc H he hn hd h
    cases c with
    | region id ops draw =>
      cases draw with
      | true => simp [chkC] at hc
      | false => exact wp_region_list (list_sound _ _ hc (.refl C w) H he hn hd h)
    | _ => simp [chkC] at hc
  | regD cops ord keep =>
    intro c Q0 C w st a hc H he hn hd h
    cases c with
    | region id ops draw =>
      cases draw with
      | false => simp [chkC] at hc
      | true => exact drawn_sound hc H he hn hd h
    | _ => simp [chkC] at hc
  | seq a' b' iha ihb =>
    intro c Q0 C w st a hc H he hn hd h
    cases c <;> simp only [chkC] at hc <;> first | (cases hc; done) | skip
    rw [Bool.and_eq_true] at hc
    refine wp_seq (wp_mono (iha _ hc.1 H he hn hd h) fun e a1 w1 q => q.to_then (fun x st hx q => ?_) fun C1 st1 S1 H1 hn1 hd1 he1 q => ?_)
    · cases x with
      | normal => exact absurd rfl hx
      | _ => exact q
    · exact wp_mono (ihb _ hc.2 H1 he1 hn1 hd1 q) fun e a2 w2 q => q.step S1
  | cond x a' b' iha ihb =>
    intro c Q0 C w st a hc H he hn hd h
    cases c <;> simp only [chkC] at hc <;> first | (cases hc; done) | skip
    rw [Bool.and_eq_true, Bool.and_eq_true] at hc
    obtain ⟨v, h1, h⟩ := oK_of h
    obtain ⟨p, h2, h⟩ := oK_of h
    have hv := ev_sound hc.1.1 he h1 rfl
    cases v <;> simp only [asBool] at h2 <;> first | (cases h2; done) | skip
    obtain rfl := Option.some.inj h2
    simp only [vrel] at hv
    exact wp_cond_split hv (fun hp => iha _ hc.1.2 H he hn hd (h.1 hp)) (fun hp => ihb _ hc.2 H he hn hd (h.2 hp))
  | block id c' ih =>
    intro c Q0 C w st a hc H he hn hd h
    cases c <;> simp only [chkC] at hc <;> first | (cases hc; done) | skip
    rw [Bool.and_eq_true, decide_eq_true_eq] at hc
    obtain ⟨rfl, hc⟩ := hc
    refine wp_block (wp_mono (ih _ hc H he hn hd h) fun e a1 w1 q => ?_)
    obtain ⟨C', st', x, S, H', hle, hd', hk, hx⟩ := q
    cases x with
    | normal => obtain ⟨rfl, he'⟩ := hx; exact ⟨C', st', .normal, S, H', hle, hd', hk, rfl, he'⟩
    | exit id' =>
      obtain ⟨rfl, he'⟩ := hx
      simp only [inBlk] at hk
      simp only [Exit.inBlock]
      split at hk
      · rename_i e; rw [if_pos e]; exact ⟨C', st', .normal, S, H', hle, hd', hk, rfl, he'⟩
      · rename_i e; rw [if_neg e]; exact ⟨C', st', .exit id', S, H', hle, hd', hk, rfl, he'⟩
    | ret => obtain ⟨rfl, he'⟩ := hx; exact ⟨C', st', .ret, S, H', hle, hd', hk, rfl, he'⟩
    | pan v => obtain ⟨y, rfl, hv⟩ := hx; exact ⟨C', st', .pan v, S, H', hle, hd', hk, y, rfl, hv⟩
  | loop c' live ih =>
    intro c Q0 C w st a hc H he hn hd h
    cases c <;> simp only [chkC] at hc <;> first | (cases hc; done) | skip
    obtain ⟨I, ⟨m0, h0⟩, hround⟩ := h
    refine wp_loop_ix (fun m a1 w1 => ∃ C1 st1, Step C w C1 w1 ∧ HRel C1 w1 st1.h ∧ ERel C1 w1 st1.env a1.tmps ∧ n ≤ a1.tmps.size ∧ a1.defers = [] ∧ I m st1) ⟨m0, C, _, .refl C w, H, he.keep live, hn, hd, h0⟩ ?_
    rintro m a1 w1 ⟨C1, st1, S1, H1, he1, hn1, hd1, hI⟩
    have hb := ih _ hc H1 he1 hn1 hd1 (hround m st1 hI)
    refine wp_mono hb fun e a2 w2 q => (q.step S1).to_then (fun x st hx q => ?_) fun C2 st2 S2 H2 hn2 hd2 he2 q => ?_
    · cases x with
      | normal => exact absurd rfl hx
      | _ => exact q
    · obtain ⟨m', k, hlt, hI'⟩ := q
      obtain ⟨S3, H3⟩ := drop_sound H2 k
      exact ⟨m', hlt, C2.drop k, _, S2.trans S3, H3, (he2.keep live).step S3, hn2, hd2, hI'⟩
  | exit id =>
    intro c Q0 C w st a hc H he hn hd h
    cases c <;> simp only [chkC] at hc <;> first | (cases hc; done) | skip
    rw [decide_eq_true_eq] at hc
    subst hc
    exact wp_exit ⟨C, st, .exit _, .refl C w, H, hn, hd, h, rfl, he⟩
  | ret =>
    intro c Q0 C w st a hc H he hn hd h
    cases c <;> simp only [chkC] at hc <;> first | (cases hc; done) | skip
    exact wp_ret ⟨C, st, .ret, .refl C w, H, hn, hd, h, rfl, he⟩

theorem res_sound {C : Ctx} {w : World} {st : St} {tmps : Array Value} (H : HRel C w st.h) (he : ERel C w st.env tmps) : ∀ {rs : List ResultVar} {ls : List LRes} {vs : List AV}, chkRes P rs ls = true → resAll st ls = some vs →
    ∃ ys : List Value, (rs.mapM (m := Sem) fun
      | .tmp t => pure (tmps.getD t undef)
      | .cell a t => do loadVar t (← asAddr (tmps.getD a undef))).run P w = .ok ys w ∧ vrels C w vs ys
  | [], [], vs, _, h => by
    simp [resAll] at h; subst h
    exact ⟨[], by simp, by simp [vrels]⟩
  | .tmp t :: rs, .t t' :: ls, vs, hc, h => by
    simp only [chkRes, Bool.and_eq_true, decide_eq_true_eq] at hc
    obtain ⟨rfl, hc⟩ := hc
    simp only [resAll, LRes.ev, ob_some] at h
    obtain ⟨vs', h1, h⟩ := ob_eq_some h
    simp at h; subst h
    obtain ⟨ys, e1, e2⟩ := res_sound H he hc h1
    refine ⟨tmps.getD t undef :: ys, by simp only [List.mapM_cons, Sem.run_bind, Sem.run_pure, e1, Result.andThen_ok], ?_⟩
    simp only [vrels]
    exact ⟨_, _, rfl, he.slot t, e2⟩
  | .cell t ty :: rs, .c t' :: ls, vs, hc, h => by
    simp only [chkRes, Bool.and_eq_true, decide_eq_true_eq] at hc
    obtain ⟨⟨rfl, hagg⟩, hc⟩ := hc
    simp only [resAll, LRes.ev] at h
    obtain ⟨v, h0, h⟩ := ob_eq_some h
    obtain ⟨vs', h1, h⟩ := ob_eq_some h
    simp at h; subst h
    obtain ⟨b, o, z, f1, f2, f3⟩ := load_sound H (he.slot t) h0
    obtain ⟨ys, e1, e2⟩ := res_sound H he hc h1
    refine ⟨z :: ys, ?_, ?_⟩
    · have : ((do loadVar ty (← asAddr (tmps.getD t undef))) : Sem Value).run P w = .ok z w := by
        rw [f1]; simp [asAddr, loadVar, run_aggB hagg, f2]
      simp only [List.mapM_cons, Sem.run_bind, Result.andThen_ok]
      simp only [Sem.run_bind] at this
      rw [this]
      simp only [Sem.run_bind, Sem.run_pure, e1, Result.andThen_ok]
    · simp only [vrels]
      exact ⟨_, _, rfl, f3, e2⟩
  | .cell t ty :: rs, .cn t' k :: ls, vs, hc, h => by
    simp only [chkRes, Bool.and_eq_true, decide_eq_true_eq] at hc
    obtain ⟨⟨⟨rfl, hagg⟩, hsz⟩, hc⟩ := hc
    simp only [resAll, LRes.ev] at h
    obtain ⟨v, h0, h⟩ := ob_eq_some h
    obtain ⟨vs', h1, h⟩ := ob_eq_some h
    simp at h; subst h
    obtain ⟨b, o, f1, zs, f2, f3⟩ := loadN_sound (P := P) H (he.slot t) h0
    obtain ⟨ys, e1, e2⟩ := res_sound H he hc h1
    refine ⟨.agg zs.toArray :: ys, ?_, ?_⟩
    · have : ((do loadVar ty (← asAddr (tmps.getD t undef))) : Sem Value).run P w = .ok (.agg zs.toArray) w := by
        rw [f1]; simp [asAddr, loadVar, run_aggB hagg, run_sizeB hsz, f2]
      simp only [List.mapM_cons, Sem.run_bind, Result.andThen_ok]
      simp only [Sem.run_bind] at this
      rw [this]
      simp only [Sem.run_bind, Sem.run_pure, e1, Result.andThen_ok]
    · simp only [vrels]
      exact ⟨_, _, rfl, f3, e2⟩
  | [], _ :: _, _, hc, _ => by simp [chkRes] at hc
  | .tmp _ :: _, [], _, hc, _ => by simp [chkRes] at hc
  | .cell _ _ :: _, [], _, hc, _ => by simp [chkRes] at hc
  | .tmp _ :: _, .c _ :: _, _, hc, _ => by simp [chkRes] at hc
  | .tmp _ :: _, .cn _ _ :: _, _, hc, _ => by simp [chkRes] at hc
  | .cell _ _ :: _, .t _ :: _, _, hc, _ => by simp [chkRes] at hc

theorem results_sound {C : Ctx} {w : World} {st : St} {tmps : Array Value} (H : HRel C w st.h) (he : ERel C w st.env tmps) {fn : Func} {ls : List LRes} {v : AV} (hc : chkRes P fn.results.toList ls = true) (h : resA st ls = some v) :
    ∃ y, (results fn tmps).run P w = .ok y w ∧ vrel C w v y := by
  unfold resA at h
  obtain ⟨vs, h1, h⟩ := ob_eq_some h
  obtain ⟨ys, e1, e2⟩ := res_sound (P := P) H he hc h1
  have hr : (fn.results.mapM (m := Sem) fun
      | .tmp t => pure (tmps.getD t undef)
      | .cell a t => do loadVar t (← asAddr (tmps.getD a undef))).run P w = .ok ys.toArray w := by
    rw [Array.mapM_eq_mapM_toList]
    simp only [Sem.run_map, e1]
    rfl
  have hlen := e2.length
  have hR : (results fn tmps).run P w = .ok (if h : ys.toArray.size = 1 then ys.toArray[0] else .tuple ys.toArray) w := by
    unfold results
    rw [Sem.run_bind]
    erw [hr]
    rfl
  rw [hR]
  by_cases hone : ys.length = 1
  · obtain ⟨y, rfl⟩ := List.length_eq_one_iff.1 hone
    obtain ⟨v', rfl⟩ := List.length_eq_one_iff.1 (hlen ▸ hone)
    simp at h; subst h
    refine ⟨y, by simp, ?_⟩
    simp only [vrels] at e2
    obtain ⟨_, _, e3, e4, _⟩ := e2
    simp at e3
    rw [e3.1]; exact e4
  · refine ⟨.tuple ys.toArray, by simp [hone], ?_⟩
    have : v = .tup vs := by
      cases vs with
      | nil => simp at h; exact h.symm
      | cons v1 vs =>
        cases vs with
        | nil => simp at hlen; omega
        | cons v2 vs => simp at h; exact h.symm
    subst this
    simp only [vrel]
    exact ⟨ys.toArray, rfl, e2⟩

theorem arg_rel {C : Ctx} {w : World} : ∀ {args : List AV} {vs : List Value} {k : Nat}, vrels C w args vs → ∀ t, vrel C w (eget (argEnv k args) t) (if k ≤ t then vs.getD (t - k) undef else undef)
  | [], vs, k, h, t => by simp [argEnv, eget, vrel]
  | v :: args, vs, k, h, t => by
    simp only [vrels] at h
    obtain ⟨y, ys, rfl, h1, h2⟩ := h
    simp only [argEnv, eget]
    by_cases hk : k = t
    · subst hk; simp [h1]
    · rw [if_neg hk]
      have := arg_rel (k := k + 1) h2 t
      by_cases hlt : k ≤ t
      · rw [if_pos hlt, show t - k = (t - (k + 1)) + 1 by omega, List.getD_cons_succ]
        rwa [if_pos (by omega)] at this
      · rw [if_neg hlt]
        rwa [if_neg (by omega)] at this

/-- A FUNCTION DOES WHAT PART 2 SAYS OF ITS CODE. -/
theorem spec_of {f : FuncId} {F : LFunc} {args : List AV} {h : Heap} {R : AEnd → Heap → Prop} (hc : chkF P f F = true) (hw : F.wp P args h R) : SpecA P f args h R := by
  unfold chkF at hc
  split at hc
  · rename_i fn hf
    split at hc
    · rename_i c hb
      simp only [Bool.and_eq_true, decide_eq_true_eq] at hc
      obtain ⟨⟨⟨hname, hn⟩, hcode⟩, hres⟩ := hc
      refine ⟨by simp [goFunc, hf, hb, hname], fun C w vs H ha => ?_⟩
      refine calls_of_wp hf hb ?_
      have he : ERel C w (argEnv 0 args) (vs.toArray ++ Array.replicate (fn.ntmps - vs.toArray.size) undef) := by
        refine ⟨fun t => ?_⟩
        have := arg_rel (k := 0) ha t
        simp only [Nat.zero_le, if_true, Nat.sub_zero] at this
        have e : (vs.toArray ++ Array.replicate (fn.ntmps - vs.toArray.size) undef).getD t undef = vs.getD t undef := by
          simp only [Array.getD_eq_getD_getElem?, List.getD_eq_getElem?_getD]
          by_cases ht : t < vs.length
          · rw [Array.getElem?_append_left (by simpa using ht)]; simp
          · rw [Array.getElem?_append_right (by simp; omega), List.getElem?_eq_none (by omega), Array.getElem?_replicate]
            split <;> rfl
        rw [e]; exact this
      have hcs := code_sound (n := F.n) (a := { tmps := vs.toArray ++ Array.replicate (fn.ntmps - vs.toArray.size) undef, defers := [] }) F.code c hcode H he (by simp; omega) rfl hw
      refine wp_mono hcs fun e a w' q => ?_
      obtain ⟨C', st, x, S, H', _, hd, hk, hx⟩ := q
      -- what is behind a body's end
      have fin : ∀ (mk : AV → AEnd) (v : AV) (y : Value) (en : Ending), endQ h.length R mk v st.h → vrel C' w' v y → (∀ C'' u, vrel C'' w' u y → vtop P C'' w' (mk u) en) → ∃ C'' r h', Step C w C'' w' ∧ HRel C'' w' h' ∧ vtop P C'' w' r en ∧ R r h' := by
        intro mk v y en hq hv ht
        rcases hq with hq | hq
        · obtain ⟨C1, S1, H1, v1⟩ := frzT_sound (n0 := h.length) H' hv
          obtain ⟨S2, H2⟩ := drop_sound H1 h.length
          exact ⟨_, _, _, (S.trans S1).trans S2, H2, ht _ _ (v1.mono S2), hq⟩
        · exact ⟨C', _, _, S, H', ht _ _ hv, hq⟩
      have ret : (resA st F.res).oK (fun v => endQ h.length R .ret v st.h) → ERel C' w' st.env a.tmps → ∃ v, (results fn a.tmps).run P w' = .ok v w' ∧ ∃ C'' r h', Step C w C'' w' ∧ HRel C'' w' h' ∧ vtop P C'' w' r (.returned v) ∧ R r h' := by
        intro hr he'
        obtain ⟨v, h1, h2⟩ := oK_of hr
        obtain ⟨y, e1, e2⟩ := results_sound H' he' hres h1
        exact ⟨y, e1, fin .ret v y _ h2 e2 fun _ _ hv => ⟨y, rfl, hv⟩⟩
      cases x with
      | normal =>
        obtain ⟨rfl, he'⟩ := hx
        exact ⟨hd, ret hk he'⟩
      | ret =>
        obtain ⟨rfl, he'⟩ := hx
        exact ⟨hd, ret hk he'⟩
      | exit id => exact hk.elim
      | pan v =>
        obtain ⟨y, rfl, hv⟩ := hx
        exact ⟨hd, fin .pan v y _ hk hv fun _ _ hv => ⟨y, rfl, hv⟩⟩
    · cases hc
  · cases hc
end
end Go.Ab

/- The layer Ab, part 3: the transformer once more, with what follows kept as data, so that simp can carry it out step by step; the laws by which it does. -/
namespace Go.Ab

inductive Kt where
  | seq (b : LCode)
  | blk (id : Nat)
  | lp (I : Nat → St → Prop) (m : Nat) (live : List Nat)

structure Fin_ where
  P : Program
  n0 : Nat
  res : List LRes
  R : AEnd → Heap → Prop

def contQ (F : Fin_) : List Kt → AExit → St → Prop
  | [] => bodyQ F.n0 F.res F.R
  | .seq b :: ks => andThen (fun st => wpA F.P b (contQ F ks) st) (contQ F ks)
  | .blk id :: ks => inBlk id (contQ F ks)
  | .lp I m live :: ks => fun e st => match e with
      | .normal => ∃ m' k, m' < m ∧ I m' ⟨keepE st.env live, st.h.take k⟩
      | e => contQ F ks e st

def wpS (F : Fin_) (ks : List Kt) (c : LCode) (env : Env) (h : Heap) : Prop := wpA F.P c (contQ F ks) ⟨env, h⟩
def contS (F : Fin_) (ks : List Kt) (e : AExit) (env : Env) (h : Heap) : Prop := contQ F ks e ⟨env, h⟩
def opS (F : Fin_) (ks : List Kt) (keep : List Nat) (ops : List COper) (env : Env) (h : Heap) : Prop :=
  runOps F.P (fun v st => contQ F ks (.pan v) st) (fun st => contQ F ks .normal ⟨keepE st.env keep, st.h⟩) ops ⟨env, h⟩

/-- Where the function ends. -/
def finS (F : Fin_) (v : AV) (h : Heap) : Prop := endQ F.n0 F.R .ret v h
def panS (F : Fin_) (v : AV) (h : Heap) : Prop := endQ F.n0 F.R .pan v h
def resS (F : Fin_) (x : Option AV) (h : Heap) : Prop := x.oK fun v => finS F v h
@[go_sem] theorem resS_some (F : Fin_) (v : AV) (h : Heap) : resS F (some v) h = finS F v h := propext Iff.rfl

section
variable {F : Fin_} {ks : List Kt} {keep : List Nat} {env : Env} {h : Heap}

theorem wp_start (P : Program) (f : LFunc) (args : List AV) (h : Heap) (R : AEnd → Heap → Prop) : f.wp P args h R = wpS ⟨P, h.length, f.res, R⟩ [] f.code (argEnv 0 args) h := rfl

@[go_sem] theorem wpS_skip : wpS F ks .skip env h = contS F ks .normal env h := rfl
@[go_sem] theorem wpS_reg (ops : List COper) (kp : List Nat) : wpS F ks (.reg ops kp) env h = opS F ks kp ops env h := propext Iff.rfl
@[go_sem] theorem wpS_regD (ops : List COper) (ord kp : List Nat) : wpS F ks (.regD ops ord kp) env h = opS F ks kp ops env h := propext Iff.rfl
@[go_sem] theorem wpS_seq (a b : LCode) : wpS F ks (.seq a b) env h = wpS F (.seq b :: ks) a env h := propext Iff.rfl
@[go_sem] theorem wpS_block (id : Nat) (c : LCode) : wpS F ks (.block id c) env h = wpS F (.blk id :: ks) c env h := rfl
@[go_sem] theorem wpS_exit (id : Nat) : wpS F ks (.exit id) env h = contS F ks (.exit id) env h := rfl
@[go_sem] theorem wpS_ret : wpS F ks .ret env h = contS F ks .ret env h := rfl

def condS (F : Fin_) (ks : List Kt) (a b : LCode) (env : Env) (h : Heap) (x : Option Bool) : Prop := x.oK fun p => (p = true → wpS F ks a env h) ∧ (p = false → wpS F ks b env h)
@[go_sem] theorem wpS_cond (c : Opd) (a b : LCode) : wpS F ks (.cond c a b) env h = condS F ks a b env h ((c.ev env true).ob asBool) := by
  unfold wpS; simp only [wpA]; cases c.ev env true with
  | none => rfl
  | some v => rfl
@[go_sem] theorem condS_true (a b : LCode) : condS F ks a b env h (some true) = wpS F ks a env h := by simp [condS, oK_some]
@[go_sem] theorem condS_false (a b : LCode) : condS F ks a b env h (some false) = wpS F ks b env h := by simp [condS, oK_some]
theorem condS_some (a b : LCode) (p : Bool) : condS F ks a b env h (some p) = ((p = true → wpS F ks a env h) ∧ (p = false → wpS F ks b env h)) := rfl

/-- A loop: an invariant over the frame's live slots and the heap, a measure. -/
def loopS (F : Fin_) (ks : List Kt) (c : LCode) (live : List Nat) (env : Env) (h : Heap) : Prop := wpS F ks (.loop c live) env h
theorem loopS_def (c : LCode) (live : List Nat) : loopS F ks c live env h =
    ∃ I : Nat → St → Prop, (∃ m, I m ⟨keepE env live, h⟩) ∧ ∀ m st', I m st' → wpS F (.lp I m live :: ks) c st'.env st'.h := rfl
@[go_sem] theorem wpS_loop (c : LCode) (live : List Nat) : wpS F ks (.loop c live) env h = loopS F ks c live (keepE env live) h := by
  unfold loopS wpS; simp only [wpA, loopK]
  have e : keepE (keepE env live) live = keepE env live := by
    unfold keepE
    refine List.map_congr_left fun t ht => ?_
    congr 1
    induction live with
    | nil => cases ht
    | cons a l ih =>
      simp only [List.map_cons, eget]
      split
      · rename_i e; rw [e]
      · rename_i hn
        rcases List.mem_cons.1 ht with rfl | ht
        · exact absurd rfl hn
        · exact ih ht
  rw [e]

@[go_sem] theorem contS_nil_ret : contS F [] .ret env h = resS F (resA ⟨env, h⟩ F.res) h := rfl
@[go_sem] theorem contS_nil_normal : contS F [] .normal env h = resS F (resA ⟨env, h⟩ F.res) h := rfl
@[go_sem] theorem contS_nil_pan (v : AV) : contS F [] (.pan v) env h = panS F v h := rfl
@[go_sem] theorem contS_nil_exit (id : Nat) : contS F [] (.exit id) env h = False := rfl
@[go_sem] theorem contS_seq_normal (b : LCode) : contS F (.seq b :: ks) .normal env h = wpS F ks b env h := propext Iff.rfl
@[go_sem] theorem contS_seq_ret (b : LCode) : contS F (.seq b :: ks) .ret env h = contS F ks .ret env h := rfl
@[go_sem] theorem contS_seq_exit (b : LCode) (id : Nat) : contS F (.seq b :: ks) (.exit id) env h = contS F ks (.exit id) env h := rfl
@[go_sem] theorem contS_seq_pan (b : LCode) (v : AV) : contS F (.seq b :: ks) (.pan v) env h = contS F ks (.pan v) env h := rfl
@[go_sem] theorem contS_blk_normal (id : Nat) : contS F (.blk id :: ks) .normal env h = contS F ks .normal env h := rfl
@[go_sem] theorem contS_blk_ret (id : Nat) : contS F (.blk id :: ks) .ret env h = contS F ks .ret env h := rfl
@[go_sem] theorem contS_blk_exit (id id' : Nat) : contS F (.blk id :: ks) (.exit id') env h = if id' = id then contS F ks .normal env h else contS F ks (.exit id') env h := rfl
@[go_sem] theorem contS_blk_pan (id : Nat) (v : AV) : contS F (.blk id :: ks) (.pan v) env h = contS F ks (.pan v) env h := rfl
theorem contS_lp_normal (I : Nat → St → Prop) (m : Nat) (live : List Nat) : contS F (.lp I m live :: ks) .normal env h = ∃ m' k, m' < m ∧ I m' ⟨keepE env live, h.take k⟩ := rfl
@[go_sem] theorem contS_lp_ret (I : Nat → St → Prop) (m : Nat) (live : List Nat) : contS F (.lp I m live :: ks) .ret env h = contS F ks .ret env h := rfl
@[go_sem] theorem contS_lp_exit (I : Nat → St → Prop) (m : Nat) (live : List Nat) (id : Nat) : contS F (.lp I m live :: ks) (.exit id) env h = contS F ks (.exit id) env h := rfl
@[go_sem] theorem contS_lp_pan (I : Nat → St → Prop) (m : Nat) (live : List Nat) (v : AV) : contS F (.lp I m live :: ks) (.pan v) env h = contS F ks (.pan v) env h := rfl

/-! operations -/
@[go_sem] theorem opS_nil : opS F ks keep [] env h = contS F ks .normal (keepE env keep) h := propext Iff.rfl

def opP (F : Fin_) (ks : List Kt) (keep : List Nat) (r : List COper) (d : Option Nat) (env : Env) (h : Heap) (x : Option AV) : Prop := x.oK fun v => opS F ks keep r (eput d v env) h
@[go_sem] theorem opP_some (r : List COper) (d : Nat) (v : AV) : opP F ks keep r (some d) env h (some v) = opS F ks keep r ((d, v) :: env) h := propext Iff.rfl
@[go_sem] theorem opP_none (r : List COper) (d : Option Nat) : opP F ks keep r d env h none = False := rfl
@[go_sem] theorem opS_p (d : Option Nat) (o : POp) (r : List COper) : opS F ks keep (⟨d, .p o, none⟩ :: r) env h = opP F ks keep r d env h (o.ev ⟨env, h⟩ true) := rfl

def opGv (F : Fin_) (ks : List Kt) (keep : List Nat) (r : List COper) (d : Option Nat) (env : Env) (h : Heap) (b : Bool) (x : Option AV) : Prop := gK b x fun v => opS F ks keep r (eput d v env) h
@[go_sem] theorem opGv_some (r : List COper) (d : Nat) (b : Bool) (v : AV) : opGv F ks keep r (some d) env h b (some v) = opS F ks keep r ((d, .cond b v) :: env) h := propext Iff.rfl
theorem opGv_none (r : List COper) (d : Nat) (b : Bool) : opGv F ks keep r (some d) env h b none = (b = false ∧ opS F ks keep r ((d, .cond false .dead) :: env) h) := rfl
@[go_sem] theorem opGv_none_false (r : List COper) (d : Nat) : opGv F ks keep r (some d) env h false none = opS F ks keep r ((d, .cond false .dead) :: env) h := by simp [opGv_none]
@[go_sem] theorem opGv_false (r : List COper) (d : Nat) (x : Option AV) (hx : ∀ v, opS F ks keep r ((d, .cond false v) :: env) h = opS F ks keep r ((d, .cond false .dead) :: env) h) : opGv F ks keep r (some d) env h false x = opS F ks keep r ((d, .cond false .dead) :: env) h := by
  cases x with
  | none => exact opGv_none_false r d
  | some v => exact hx v
def opG (F : Fin_) (ks : List Kt) (keep : List Nat) (r : List COper) (d : Option Nat) (o : POp) (env : Env) (h : Heap) (x : Option Bool) : Prop := x.oK fun b => opGv F ks keep r d env h b (o.ev ⟨env, h⟩ b)
@[go_sem] theorem opG_some (r : List COper) (d : Option Nat) (o : POp) (b : Bool) : opG F ks keep r d o env h (some b) = opGv F ks keep r d env h b (o.ev ⟨env, h⟩ b) := rfl
@[go_sem] theorem opS_pg (d : Option Nat) (o : POp) (t : Nat) (wn : Bool) (r : List COper) : opS F ks keep (⟨d, .p o, some (t, wn)⟩ :: r) env h = opG F ks keep r d o env h (gval (eget env t) wn) := rfl

/-- An operation that came ahead would yield what it did. -/
def stab1 (env : Env) (d : Nat) (x : Option AV) : Prop := x.oK fun v => eget env d = v
@[go_sem] theorem stab1_some (d : Nat) (v : AV) : stab1 env d (some v) = (eget env d = v) := rfl
def stab2 (env : Env) (d : Nat) (b : Bool) (x : Option AV) : Prop := gK b x fun v => eget env d = v
@[go_sem] theorem stab2_some (d : Nat) (b : Bool) (v : AV) : stab2 env d b (some v) = (eget env d = .cond b v) := rfl
@[go_sem] theorem stab2_none (d : Nat) (b : Bool) : stab2 env d b none = (b = false ∧ eget env d = .cond false .dead) := rfl
def stabG (env : Env) (h : Heap) (d : Nat) (o : POp) (x : Option Bool) : Prop := x.oK fun b => stab2 env d b (o.ev ⟨env, h⟩ b)
@[go_sem] theorem stabG_some (d : Nat) (o : POp) (b : Bool) : stabG env h d o (some b) = stab2 env d b (o.ev ⟨env, h⟩ b) := rfl
theorem opS_s (d : Nat) (o : POp) (r : List COper) : opS F ks keep (⟨some d, .s o, none⟩ :: r) env h = (stab1 env d (o.ev ⟨env, h⟩ true) ∧ opS F ks keep r env h) := rfl
theorem opS_sg (d : Nat) (o : POp) (t : Nat) (wn : Bool) (r : List COper) : opS F ks keep (⟨some d, .s o, some (t, wn)⟩ :: r) env h = (stabG env h d o (gval (eget env t) wn) ∧ opS F ks keep r env h) := rfl

theorem opS_b (d : Option Nat) (z len : Nat) (zero : List AV) (parts : List (Nat × Nat × Opd)) (r : List COper) : opS F ks keep (⟨d, .b z len zero parts, none⟩ :: r) env h = (bslOk env z len zero parts ∧ opS F ks keep r env h) := rfl
theorem opS_bg (d : Option Nat) (z len : Nat) (zero : List AV) (parts : List (Nat × Nat × Opd)) (t : Nat) (wn : Bool) (r : List COper) : opS F ks keep (⟨d, .b z len zero parts, some (t, wn)⟩ :: r) env h = (((gval (eget env t) wn).oK fun b => b = true → bslOk env z len zero parts) ∧ opS F ks keep r env h) := rfl

/-- An operation that may change memory. -/
def opE (F : Fin_) (ks : List Kt) (keep : List Nat) (r : List COper) (d : Option Nat) (env : Env) (h : Heap) (o : EOp) : Prop :=
  o.wp F.P ⟨env, h⟩ (fun v h => opS F ks keep r (eput d v env) h) (fun v h => contS F ks (.pan v) env h)
@[go_sem] theorem opS_e (d : Option Nat) (o : EOp) (r : List COper) : opS F ks keep (⟨d, .e o, none⟩ :: r) env h = opE F ks keep r d env h o := rfl
def opEg (F : Fin_) (ks : List Kt) (keep : List Nat) (r : List COper) (d : Option Nat) (o : EOp) (env : Env) (h : Heap) (x : Option Bool) : Prop :=
  x.oK fun b => (b = true → opE F ks keep r d env h o) ∧ (b = false → opS F ks keep r (eput d (.cond false .dead) env) h)
@[go_sem] theorem opS_eg (d : Option Nat) (o : EOp) (t : Nat) (wn : Bool) (r : List COper) : opS F ks keep (⟨d, .e o, some (t, wn)⟩ :: r) env h = opEg F ks keep r d o env h (gval (eget env t) wn) := rfl
@[go_sem] theorem opEg_true (d : Option Nat) (o : EOp) (r : List COper) : opEg F ks keep r d o env h (some true) = opE F ks keep r d env h o := by simp [opEg, oK_some]
@[go_sem] theorem opEg_false (d : Nat) (o : EOp) (r : List COper) : opEg F ks keep r (some d) o env h (some false) = opS F ks keep r ((d, .cond false .dead) :: env) h := by simp [opEg, oK_some, eput]
theorem opEg_some (d : Option Nat) (o : EOp) (r : List COper) (b : Bool) : opEg F ks keep r d o env h (some b) = ((b = true → opE F ks keep r d env h o) ∧ (b = false → opS F ks keep r (eput d (.cond false .dead) env) h)) := rfl

@[go_sem] theorem opE_alloc (d : Nat) (r : List COper) (z : List AV) : opE F ks keep r (some d) env h (.alloc z) = ∀ s, opS F ks keep r ((d, .ptr h.length s 0 0) :: env) (h ++ [.arr s 0 z.length [z]]) := rfl
@[go_sem] theorem opE_vnil (d : Nat) (r : List COper) (z : Nat) : opE F ks keep r (some d) env h (.vnil z) = ∀ s, opS F ks keep r ((d, .sl h.length s 0 0) :: env) (h ++ [.arr s 0 z []]) := rfl
@[go_sem] theorem opE_mkmap (d : Nat) (r : List COper) : opE F ks keep r (some d) env h .mkmap = ∀ s, opS F ks keep r ((d, .mp h.length s) :: env) (h ++ [.mp s []]) := rfl

def boxS (F : Fin_) (ks : List Kt) (keep : List Nat) (r : List COper) (d : Nat) (n : Nat) (env : Env) (h : Heap) (x : Option AV) : Prop :=
  x.oK fun v => (v.cells.length = n ∧ v.cells.all AV.one = true) ∧ ∀ s, opS F ks keep r ((d, .ptr h.length s 0 0) :: env) (h ++ [.arr s 0 n [v.cells]])
@[go_sem] theorem opE_box (d : Nat) (r : List COper) (n : Nat) (x : Opd) : opE F ks keep r (some d) env h (.box n x) = boxS F ks keep r d n env h (x.ev env true) := rfl
@[go_sem] theorem boxS_some (d : Nat) (r : List COper) (n : Nat) (v : AV) : boxS F ks keep r d n env h (some v) = ((v.cells.length = n ∧ v.cells.all AV.one = true) ∧ ∀ s, opS F ks keep r ((d, .ptr h.length s 0 0) :: env) (h ++ [.arr s 0 n [v.cells]])) := propext Iff.rfl

def stS (F : Fin_) (ks : List Kt) (keep : List Nat) (r : List COper) (env : Env) (x : Option Heap) : Prop := x.oK fun h => opS F ks keep r env h
@[go_sem] theorem stS_some (r : List COper) : stS F ks keep r env (some h) = opS F ks keep r env h := propext Iff.rfl
def st1 (h : Heap) (p v : AV) : Option Heap := storeH h (setL p.off v) p
def stn (h : Heap) (n : Nat) (p : AV) (cs : List AV) : Option Heap := storeH h (fun r => if cs.length = n ∧ cs.all AV.one = true then putL p.off cs r else none) p
@[go_sem] theorem opE_st (r : List COper) (a x : Opd) : opE F ks keep r none env h (.st a x) = stS F ks keep r env ((a.ev env true).ob fun p => (x.ev env true).ob fun v => st1 h p v) := by
  unfold opE EOp.wp stS st1
  dsimp only
  cases a.ev env true with
  | none => rfl
  | some p => cases x.ev env true with
    | none => rfl
    | some v => rfl
@[go_sem] theorem opE_stn (r : List COper) (n : Nat) (a x : Opd) : opE F ks keep r none env h (.stn n a x) = stS F ks keep r env ((a.ev env true).ob fun p => (x.ev env true).ob fun v => (asAgg v).ob fun cs => stn h n p cs) := by
  unfold opE EOp.wp stS stn
  dsimp only
  cases a.ev env true with
  | none => rfl
  | some p => cases x.ev env true with
    | none => rfl
    | some v => simp only [ob_some, oK_some]; cases asAgg v <;> rfl

/-- A call, with its arguments. -/
def callS (F : Fin_) (ks : List Kt) (keep : List Nat) (r : List COper) (d : Option Nat) (env : Env) (f : FuncId) (args : List AV) (h : Heap) : Prop :=
  callK F.P f args h (onRet (fun v h => opS F ks keep r (eput d v env) h) (fun v h => contS F ks (.pan v) env h))
def callF (F : Fin_) (ks : List Kt) (keep : List Nat) (r : List COper) (d : Option Nat) (env : Env) (f : FuncId) (q : List AV × Heap) : Prop := callS F ks keep r d env f q.1 q.2
@[go_sem] theorem callF_mk (r : List COper) (d : Option Nat) (f : FuncId) (vs : List AV) : callF F ks keep r d env f (vs, h) = callS F ks keep r d env f vs h := propext Iff.rfl
def callA (F : Fin_) (ks : List Kt) (keep : List Nat) (r : List COper) (d : Option Nat) (env : Env) (h : Heap) (f : FuncId) (frz : Bool) (x : Option (List AV)) : Prop :=
  x.oK fun vs => if frz = true then callF F ks keep r d env f (frzs 0 h vs) else callS F ks keep r d env f vs h
@[go_sem] theorem callA_frz (r : List COper) (d : Option Nat) (f : FuncId) (vs : List AV) : callA F ks keep r d env h f true (some vs) = callF F ks keep r d env f (frzs 0 h vs) := rfl
@[go_sem] theorem callA_raw (r : List COper) (d : Option Nat) (f : FuncId) (vs : List AV) : callA F ks keep r d env h f false (some vs) = callS F ks keep r d env f vs h := rfl
@[go_sem] theorem opE_call (r : List COper) (d : Option Nat) (f : FuncId) (args : List Opd) (frz : Bool) : opE F ks keep r d env h (.call f args frz) = callA F ks keep r d env h f frz (evs env true args) := by
  unfold opE EOp.wp callA callF callS
  dsimp only
  cases evs env true args with
  | none => rfl
  | some vs => cases frz <;> rfl
/-- A call of a function value: its arguments are frozen. -/
def callV (F : Fin_) (ks : List Kt) (keep : List Nat) (r : List COper) (d : Option Nat) (env : Env) (fn : Option (FuncId × List AV × List AV)) (q : List AV × Heap) : Prop :=
  fn.oK fun fn => callS F ks keep r d env fn.1 (fn.2.1 ++ q.1 ++ fn.2.2) q.2
@[go_sem] theorem callV_some (r : List COper) (d : Option Nat) (f : FuncId) (a b vs : List AV) : callV F ks keep r d env (some (f, a, b)) (vs, h) = callS F ks keep r d env f (a ++ vs ++ b) h := rfl
def callVo (F : Fin_) (ks : List Kt) (keep : List Nat) (r : List COper) (d : Option Nat) (env : Env) (h : Heap) (fn : Option (FuncId × List AV × List AV)) (x : Option (List AV)) : Prop := x.oK fun vs => callV F ks keep r d env fn (frzs 0 h vs)
@[go_sem] theorem callVo_some (r : List COper) (d : Option Nat) (fn : Option (FuncId × List AV × List AV)) (vs : List AV) : callVo F ks keep r d env h fn (some vs) = callV F ks keep r d env fn (frzs 0 h vs) := rfl
@[go_sem] theorem opE_callv (r : List COper) (d : Option Nat) (x : Opd) (args : List Opd) : opE F ks keep r d env h (.callv x args true) = callVo F ks keep r d env h ((x.ev env true).ob asFn) (evs env true args) := by
  unfold opE EOp.wp callVo callV callS
  dsimp only
  cases x.ev env true with
  | none => simp only [oK_none, ob_none]; cases evs env true args <;> rfl
  | some v =>
    simp only [oK_some, ob_some]
    cases asFn v with
    | none => simp only [oK_none]; cases evs env true args <;> rfl
    | some fn => cases evs env true args <;> rfl

theorem callS_exact {r : List COper} {d : Nat} {f : FuncId} {args : List AV} {x : AV} {H : Heap} (hs : SpecA F.P f args h (fun r h' => r = .ret x ∧ h' = H))
    (hk : opS F ks keep r ((d, x) :: env) H) : callS F ks keep r (some d) env f args h :=
  ⟨_, hs, by rintro _ _ ⟨rfl, rfl⟩; exact hk⟩
theorem callS_exact0 {r : List COper} {f : FuncId} {args : List AV} {x : AV} {H : Heap} (hs : SpecA F.P f args h (fun r h' => r = .ret x ∧ h' = H))
    (hk : opS F ks keep r env H) : callS F ks keep r none env f args h :=
  ⟨_, hs, by rintro _ _ ⟨rfl, rfl⟩; exact hk⟩
theorem callS_pan {r : List COper} {d : Option Nat} {f : FuncId} {args : List AV} {x : AV} {H : Heap} (hs : SpecA F.P f args h (fun r h' => r = .pan x ∧ h' = H))
    (hk : contS F ks (.pan x) env H) : callS F ks keep r d env f args h :=
  ⟨_, hs, by rintro _ _ ⟨rfl, rfl⟩; exact hk⟩
theorem callS_any {r : List COper} {d : Option Nat} {f : FuncId} {args : List AV} {R : AEnd → Heap → Prop} (hs : SpecA F.P f args h R)
    (hk : ∀ x h', R x h' → onRet (fun v h => opS F ks keep r (eput d v env) h) (fun v h => contS F ks (.pan v) env h) x h') : callS F ks keep r d env f args h :=
  ⟨_, hs, hk⟩

end
end Go.Ab

/- The layer Ab, part 15: the equations by which simp carries code out. -/
namespace Go.Ab

attribute [go_sem] List.length_cons List.length_nil Nat.zero_add Nat.add_zero Nat.sub_zero List.append_assoc List.cons_append List.nil_append List.all_cons List.all_nil Bool.and_true Bool.true_and Bool.and_self and_self and_true true_and if_true List.getElem?_cons_zero List.getElem?_cons_succ List.set_cons_zero List.set_cons_succ List.length_append List.length_map List.length_set Nat.add_assoc List.take_zero List.take_succ_cons List.take_nil List.drop_zero List.drop_succ_cons List.drop_nil Nat.zero_le Nat.le_refl List.mem_cons List.not_mem_nil or_false forall_eq List.map_cons List.map_nil Int.natCast_nonneg Int.toNat_natCast Int.toNat_zero List.take_length List.cons.injEq Nat.succ_ne_self Option.some.injEq decide_true decide_false Bool.not_true Bool.not_false Bool.false_or Bool.or_false Bool.true_or Bool.or_true Bool.not_not Bool.false_and Bool.and_false true_or or_true
attribute [go_sem] fillV chunk bslOk ownK.eq_1 ownK.eq_2

attribute [go_sem] loadV.eq_1 loadV.eq_2 loadN.eq_1 loadN.eq_2 nilcV.eq_1 nilcV.eq_2 nilcV.eq_3 nilcV.eq_4 selV.eq_1 selV.eq_2 selV.eq_3 foffV.eq_1 foffV.eq_2 fldV.eq_1 fldnV.eq_1 iadrV.eq_1 iadrV.eq_2 iarrV.eq_1 iarrV.eq_2 idxsV.eq_1 unV.eq_1 unV.eq_2 extV.eq_1 cvtV.eq_1 lensV.eq_1 lenlV.eq_1 lenlV.eq_2 lenlV.eq_3 lenmV.eq_1 lenmV.eq_2 mmaxV.eq_1 mminV.eq_1 slcsV.eq_1 slclV.eq_1 slclV.eq_2 b2sV.eq_1 b2sV.eq_2 lookV.eq_1 bnd.eq_1 bnd.eq_2
  POp.ev.eq_1 POp.ev.eq_2 POp.ev.eq_3 POp.ev.eq_4 POp.ev.eq_5 POp.ev.eq_6 POp.ev.eq_7 POp.ev.eq_8 POp.ev.eq_9 POp.ev.eq_10 POp.ev.eq_11 POp.ev.eq_12 POp.ev.eq_13 POp.ev.eq_14 POp.ev.eq_15 POp.ev.eq_16 POp.ev.eq_17 POp.ev.eq_18 POp.ev.eq_19 POp.ev.eq_20 POp.ev.eq_21 POp.ev.eq_22 POp.ev.eq_23 POp.ev.eq_24 POp.ev.eq_25 POp.ev.eq_26 POp.ev.eq_27 POp.ev.eq_28
  Opd.val.eq_1 Opd.val.eq_2 evs.eq_1 evs.eq_2 evo.eq_1 evo.eq_2 evParts.eq_1 evParts.eq_2 buildV.eq_1 buildV.eq_2 eget.eq_1 eget.eq_2 AObj.row.eq_1 AObj.rows.eq_1 AObj.z.eq_1 Heap.zOf storeH.eq_1 asBool.eq_1 asAgg.eq_1 asArr.eq_1 asSl.eq_1 asFn.eq_1 asIf.eq_1 asStr.eq_1 asMp.eq_1 asMpO.eq_1 asIt.eq_1 asSit.eq_1 resAll.eq_1 resAll.eq_2 LRes.ev.eq_1 LRes.ev.eq_2 LRes.ev.eq_3 argEnv.eq_1 argEnv.eq_2 frzs.eq_1 frzs.eq_2 frzCs.eq_1 frzCs.eq_2 srcV.eq_1 srcV.eq_2 srcV.eq_3 srcV.eq_4 nilLen.eq_1 nilLen.eq_2 consP aggP tupP
  Opd.ev Heap.row Heap.rows st1 stn AV.off.eq_1

@[go_sem] theorem cutL_cons {α : Type} (off n : Nat) (a : α) (l : List α) : cutL off n (a :: l) = if off + n ≤ (a :: l).length then some (((a :: l).drop off).take n) else none := rfl
@[go_sem] theorem setL_cons (off : Nat) (v a : AV) (l : List AV) : setL off v (a :: l) = if off < (a :: l).length ∧ v.one = true then some ((a :: l).set off v) else none := rfl
@[go_sem] theorem putL_cons (off : Nat) (vs : List AV) (a : AV) (l : List AV) : putL off vs (a :: l) = if off + vs.length ≤ (a :: l).length then some ((a :: l).take off ++ vs ++ (a :: l).drop (off + vs.length)) else none := rfl

section
variable (g : Bool)
@[go_sem] theorem under_bool (b : Bool) : AV.under g (.bool b) = some (.bool b) := rfl
@[go_sem] theorem under_int (k : IntKind) (n : Int) : AV.under g (.int k n) = some (.int k n) := rfl
@[go_sem] theorem under_str (s : Str) : AV.under g (.str s) = some (.str s) := rfl
@[go_sem] theorem under_nilp : AV.under g .nilp = some .nilp := rfl
@[go_sem] theorem under_ptr (l s i o : Nat) : AV.under g (.ptr l s i o) = some (.ptr l s i o) := rfl
@[go_sem] theorem under_pptr (cs : List AV) (o : Nat) : AV.under g (.pptr cs o) = some (.pptr cs o) := rfl
@[go_sem] theorem under_sl (l s i n : Nat) : AV.under g (.sl l s i n) = some (.sl l s i n) := rfl
@[go_sem] theorem under_psl (es : List (List AV)) : AV.under g (.psl es) = some (.psl es) := rfl
@[go_sem] theorem under_fn (f : FuncId) (a b : List AV) : AV.under g (.fn f a b) = some (.fn f a b) := rfl
@[go_sem] theorem under_vn : AV.under g .vn = some .vn := rfl
@[go_sem] theorem under_nilfn : AV.under g .nilfn = some .nilfn := rfl
@[go_sem] theorem under_nilif : AV.under g .nilif = some .nilif := rfl
@[go_sem] theorem under_agg (cs : List AV) : AV.under g (.agg cs) = some (.agg cs) := rfl
@[go_sem] theorem under_tup (cs : List AV) : AV.under g (.tup cs) = some (.tup cs) := rfl
@[go_sem] theorem under_iface (t : TypeId) (v : AV) : AV.under g (.iface t v) = some (.iface t v) := rfl
@[go_sem] theorem under_mp (l s : Nat) : AV.under g (.mp l s) = some (.mp l s) := rfl
@[go_sem] theorem under_nilmp : AV.under g .nilmp = some .nilmp := rfl
@[go_sem] theorem under_it (l s : Nat) : AV.under g (.it l s) = some (.it l s) := rfl
@[go_sem] theorem under_cond (c : Bool) (v : AV) : AV.under g (.cond c v) = if impB g c = true then some v else none := rfl
end
@[go_sem] theorem cells_agg (cs : List AV) : AV.cells (.agg cs) = cs := rfl
@[go_sem] theorem cells_bool (b : Bool) : AV.cells (.bool b) = [.bool b] := rfl
@[go_sem] theorem cells_int (k : IntKind) (n : Int) : AV.cells (.int k n) = [.int k n] := rfl
@[go_sem] theorem cells_str (s : Str) : AV.cells (.str s) = [.str s] := rfl
@[go_sem] theorem cells_psl (s : List (List AV)) : AV.cells (.psl s) = [.psl s] := rfl
@[go_sem] theorem cells_sl (l s i n : Nat) : AV.cells (.sl l s i n) = [.sl l s i n] := rfl
@[go_sem] theorem cells_ptr (l s i o : Nat) : AV.cells (.ptr l s i o) = [.ptr l s i o] := rfl
@[go_sem] theorem cells_pptr (cs : List AV) (o : Nat) : AV.cells (.pptr cs o) = [.pptr cs o] := rfl
@[go_sem] theorem cells_fn (f : FuncId) (a b : List AV) : AV.cells (.fn f a b) = [.fn f a b] := rfl
@[go_sem] theorem cells_mp (l s : Nat) : AV.cells (.mp l s) = [.mp l s] := rfl
@[go_sem] theorem cells_vn : AV.cells .vn = [.vn] := rfl
@[go_sem] theorem cells_nilp : AV.cells .nilp = [.nilp] := rfl
@[go_sem] theorem one_bool (b : Bool) : AV.one (.bool b) = true := rfl
@[go_sem] theorem one_int (k : IntKind) (n : Int) : AV.one (.int k n) = true := rfl
@[go_sem] theorem one_str (s : Str) : AV.one (.str s) = true := rfl
@[go_sem] theorem one_psl (s : List (List AV)) : AV.one (.psl s) = true := rfl
@[go_sem] theorem one_sl (l s i n : Nat) : AV.one (.sl l s i n) = true := rfl
@[go_sem] theorem one_ptr (l s i o : Nat) : AV.one (.ptr l s i o) = true := rfl
@[go_sem] theorem one_pptr (cs : List AV) (o : Nat) : AV.one (.pptr cs o) = true := rfl
@[go_sem] theorem one_fn (f : FuncId) (a b : List AV) : AV.one (.fn f a b) = true := rfl
@[go_sem] theorem one_vn : AV.one .vn = true := rfl
@[go_sem] theorem one_nilfn : AV.one .nilfn = true := rfl
@[go_sem] theorem one_nilp : AV.one .nilp = true := rfl
@[go_sem] theorem one_nilif : AV.one .nilif = true := rfl
@[go_sem] theorem one_iface (t : TypeId) (v : AV) : AV.one (.iface t v) = true := rfl
@[go_sem] theorem one_mp (l s : Nat) : AV.one (.mp l s) = true := rfl
@[go_sem] theorem one_nilmp : AV.one .nilmp = true := rfl

section
variable (k : IntKind) (a b : Int) (s t : Str)
@[go_sem] theorem bin_add : binV .add (.int k a) (.int k b) = some (.int k (k.wrap (a + b))) := by simp [binV, binInt]
@[go_sem] theorem bin_sub : binV .sub (.int k a) (.int k b) = some (.int k (k.wrap (a - b))) := by simp [binV, binInt]
@[go_sem] theorem bin_mul : binV .mul (.int k a) (.int k b) = some (.int k (k.wrap (a * b))) := by simp [binV, binInt]
@[go_sem] theorem bin_eql : binV .eql (.int k a) (.int k b) = some (.bool (a == b)) := by simp [binV, binInt]
@[go_sem] theorem bin_neq : binV .neq (.int k a) (.int k b) = some (.bool (a != b)) := by simp [binV, binInt]
@[go_sem] theorem bin_lss : binV .lss (.int k a) (.int k b) = some (.bool (decide (a < b))) := by simp [binV, binInt]
@[go_sem] theorem bin_leq : binV .leq (.int k a) (.int k b) = some (.bool (decide (a ≤ b))) := by simp [binV, binInt]
@[go_sem] theorem bin_gtr : binV .gtr (.int k a) (.int k b) = some (.bool (decide (b < a))) := by simp [binV, binInt]
@[go_sem] theorem bin_geq : binV .geq (.int k a) (.int k b) = some (.bool (decide (b ≤ a))) := by simp [binV, binInt]
@[go_sem] theorem sbin_eql : binV .eql (.str s) (.str t) = some (.bool (s == t)) := rfl
@[go_sem] theorem sbin_neq : binV .neq (.str s) (.str t) = some (.bool (!(s == t))) := rfl
@[go_sem] theorem sbin_lss : binV .lss (.str s) (.str t) = some (.bool (Op.bytesLess s t)) := rfl
@[go_sem] theorem sbin_leq : binV .leq (.str s) (.str t) = some (.bool (Op.bytesLess s t || s == t)) := rfl
@[go_sem] theorem eqk_bool (x y : Bool) : eqkV .bool (.bool x) (.bool y) = some (x == y) := rfl
@[go_sem] theorem eqk_agg (ks : List Nat) (x y : List AV) : eqkV (.agg ks) (.agg x) (.agg y) = eqCells ks x y := rfl
@[go_sem] theorem eqk_nilp : eqkV .ptr .nilp .nilp = some true := rfl
@[go_sem] theorem eqk_ptr (l s i o : Nat) : eqkV .ptr (.ptr l s i o) .nilp = some false := rfl
@[go_sem] theorem eqc_nil : eqCells [] [] [] = some true := rfl
@[go_sem] theorem eqc_int (ks : List Nat) (xs ys : List AV) : eqCells (0 :: ks) (.int k a :: xs) (.int k b :: ys) = (eqCells ks xs ys).ob fun r => some ((a == b) && r) := by simp [eqCells]
@[go_sem] theorem eqc_str (ks : List Nat) (xs ys : List AV) : eqCells (1 :: ks) (.str s :: xs) (.str t :: ys) = (eqCells ks xs ys).ob fun r => some ((s == t) && r) := rfl
@[go_sem] theorem eqc_bool (ks : List Nat) (x y : Bool) (xs ys : List AV) : eqCells (2 :: ks) (.bool x :: xs) (.bool y :: ys) = (eqCells ks xs ys).ob fun r => some ((x == y) && r) := rfl
end

@[go_sem] theorem gval_false (b : Bool) : gval (.bool b) false = some (!b) := by cases b <;> rfl
@[go_sem] theorem gval_true (b : Bool) : gval (.bool b) true = some b := by cases b <;> rfl
@[go_sem] theorem gval_cfalse (c b : Bool) : gval (.cond c (.bool b)) false = some (c && !b) := by cases c <;> cases b <;> rfl
@[go_sem] theorem gval_ctrue (c b : Bool) : gval (.cond c (.bool b)) true = some (c && b) := by cases c <;> cases b <;> rfl
@[go_sem] theorem gval_dead (w : Bool) : gval (.cond false .dead) w = some false := rfl
@[go_sem] theorem cond_or (p x : Bool) : (bif p then true else x) = (p || x) := by cases p <;> rfl
@[go_sem] theorem cond_and (p x : Bool) : (bif p then x else false) = (p && x) := by cases p <;> rfl

@[go_sem] theorem frz1_vn (n : Nat) (h : Heap) : frz1 n h .vn = (.psl [], h) := rfl
@[go_sem] theorem frzT_vn (n : Nat) (h : Heap) : frzT n h .vn = (.psl [], h) := rfl
@[go_sem] theorem frzP_vn (n : Nat) (h : Heap) : frzP n h .vn = (.psl [], h) := rfl
@[go_sem] theorem frz1_bool (n : Nat) (h : Heap) (b : Bool) : frz1 n h (.bool b) = (.bool b, h) := rfl
@[go_sem] theorem frz1_int (n : Nat) (h : Heap) (k : IntKind) (v : Int) : frz1 n h (.int k v) = (.int k v, h) := rfl
@[go_sem] theorem frz1_str (n : Nat) (h : Heap) (s : Str) : frz1 n h (.str s) = (.str s, h) := rfl
@[go_sem] theorem frz1_psl (n : Nat) (h : Heap) (s : List (List AV)) : frz1 n h (.psl s) = (.psl s, h) := rfl
@[go_sem] theorem frz1_ptr (n : Nat) (h : Heap) (l s i o : Nat) : frz1 n h (.ptr l s i o) = (.ptr l s i o, h) := rfl
@[go_sem] theorem frz1_pptr (n : Nat) (h : Heap) (cs : List AV) (o : Nat) : frz1 n h (.pptr cs o) = (.pptr cs o, h) := rfl
@[go_sem] theorem frz1_fn (n : Nat) (h : Heap) (f : FuncId) (a b : List AV) : frz1 n h (.fn f a b) = (.fn f a b, h) := rfl
@[go_sem] theorem frz1_iface (n : Nat) (h : Heap) (t : TypeId) (v : AV) : frz1 n h (.iface t v) = (.iface t v, h) := rfl
@[go_sem] theorem frz1_mp (n : Nat) (h : Heap) (l s : Nat) : frz1 n h (.mp l s) = (.mp l s, h) := rfl
@[go_sem] theorem frz1_nilp (n : Nat) (h : Heap) : frz1 n h .nilp = (.nilp, h) := rfl
@[go_sem] theorem frz1_nilfn (n : Nat) (h : Heap) : frz1 n h .nilfn = (.nilfn, h) := rfl
@[go_sem] theorem frz1_agg (n : Nat) (h : Heap) (cs : List AV) : frz1 n h (.agg cs) = aggP (frzCs n h cs) := rfl
@[go_sem] theorem frz1_sl (n : Nat) (h : Heap) (l s i m : Nat) : frz1 n h (.sl l s i m) = if n ≤ l then frzO h l s i m h[l]? else (.sl l s i m, h) := rfl
@[go_sem] theorem frzP_bool (n : Nat) (h : Heap) (b : Bool) : frzP n h (.bool b) = (.bool b, h) := rfl
@[go_sem] theorem frzP_int (n : Nat) (h : Heap) (k : IntKind) (v : Int) : frzP n h (.int k v) = (.int k v, h) := rfl
@[go_sem] theorem frzP_str (n : Nat) (h : Heap) (s : Str) : frzP n h (.str s) = (.str s, h) := rfl
@[go_sem] theorem frzP_psl (n : Nat) (h : Heap) (s : List (List AV)) : frzP n h (.psl s) = (.psl s, h) := rfl
@[go_sem] theorem frzP_ptr (n : Nat) (h : Heap) (l s i o : Nat) : frzP n h (.ptr l s i o) = (.ptr l s i o, h) := rfl
@[go_sem] theorem frzP_nilp (n : Nat) (h : Heap) : frzP n h .nilp = (.nilp, h) := rfl
@[go_sem] theorem frzP_sl (n : Nat) (h : Heap) (l s i m : Nat) : frzP n h (.sl l s i m) = if n ≤ l then frzO h l s i m h[l]? else (.sl l s i m, h) := rfl
@[go_sem] theorem frzO_arr (h : Heap) (l s i n imm z : Nat) (es : List (List AV)) : frzO h l s i n (some (.arr s imm z es)) = if i + n ≤ es.length then (.psl ((es.drop i).take n), h.set l (.arr s (max imm (i + n)) z es)) else (.dead, h) := by simp [frzO]
@[go_sem] theorem frzT_tup (n : Nat) (h : Heap) (vs : List AV) : frzT n h (.tup vs) = tupP (frzs n h vs) := rfl
@[go_sem] theorem frzT_bool (n : Nat) (h : Heap) (b : Bool) : frzT n h (.bool b) = (.bool b, h) := rfl
@[go_sem] theorem frzT_int (n : Nat) (h : Heap) (k : IntKind) (v : Int) : frzT n h (.int k v) = (.int k v, h) := rfl
@[go_sem] theorem frzT_str (n : Nat) (h : Heap) (s : Str) : frzT n h (.str s) = (.str s, h) := rfl
@[go_sem] theorem frzT_psl (n : Nat) (h : Heap) (s : List (List AV)) : frzT n h (.psl s) = (.psl s, h) := rfl
@[go_sem] theorem frzT_ptr (n : Nat) (h : Heap) (l s i o : Nat) : frzT n h (.ptr l s i o) = (.ptr l s i o, h) := rfl
@[go_sem] theorem frzT_fn (n : Nat) (h : Heap) (f : FuncId) (a b : List AV) : frzT n h (.fn f a b) = (.fn f a b, h) := rfl
@[go_sem] theorem frzT_agg (n : Nat) (h : Heap) (cs : List AV) : frzT n h (.agg cs) = aggP (frzCs n h cs) := rfl
@[go_sem] theorem frzT_sl (n : Nat) (h : Heap) (l s i m : Nat) : frzT n h (.sl l s i m) = if n ≤ l then frzO h l s i m h[l]? else (.sl l s i m, h) := rfl

@[go_sem] theorem resA_nil (st : St) : resA st [] = some (.tup []) := rfl
@[go_sem] theorem resA_one (st : St) (a : LRes) : resA st [a] = (a.ev st).ob fun x => some x := by unfold resA; simp only [resAll]; cases a.ev st <;> rfl
@[go_sem] theorem resA_two (st : St) (a b : LRes) : resA st [a, b] = (a.ev st).ob fun x => (b.ev st).ob fun y => some (.tup [x, y]) := by unfold resA; simp only [resAll]; cases a.ev st <;> cases b.ev st <;> rfl
@[go_sem] theorem resA_three (st : St) (a b c : LRes) : resA st [a, b, c] = (a.ev st).ob fun x => (b.ev st).ob fun y => (c.ev st).ob fun z => some (.tup [x, y, z]) := by unfold resA; simp only [resAll]; cases a.ev st <;> cases b.ev st <;> cases c.ev st <;> rfl

@[go_sem] theorem keepE_nil (env : Env) : keepE env [] = [] := rfl
@[go_sem] theorem keepE_cons (env : Env) (t : Nat) (r : List Nat) : keepE env (t :: r) = (t, eget env t) :: keepE env r := rfl

/-! ### A function's own objects stand behind those that it found -/

section
variable (h r : Heap) (k : Nat) (x : AObj)
@[go_sem] theorem hget0 : (h ++ r)[h.length]? = r[0]? := by rw [List.getElem?_append_right (Nat.le_refl _), Nat.sub_self]
@[go_sem] theorem hgetk : (h ++ r)[h.length + k]? = r[k]? := by rw [List.getElem?_append_right (by omega)]; congr 1; omega
@[go_sem] theorem hset0 : (h ++ r).set h.length x = h ++ r.set 0 x := by rw [List.set_append_right _ _ (Nat.le_refl _), Nat.sub_self]
@[go_sem] theorem hsetk : (h ++ r).set (h.length + k) x = h ++ r.set k x := by rw [List.set_append_right _ _ (by omega)]; congr 2; omega
@[go_sem] theorem htake : (h ++ r).take h.length = h := by simp
@[go_sem] theorem htakek : (h ++ r).take (h.length + k) = h ++ r.take k := by
  rw [List.take_append, List.take_of_length_le (by omega)]; congr 2; omega
@[go_sem] theorem htake_self : h.take h.length = h := by simp
@[go_sem] theorem hle0 : (h.length ≤ h.length) = True := by simp
@[go_sem] theorem hlek : (h.length ≤ h.length + k) = True := by simp
end

theorem wrap64 {n : Int} (h1 : -9223372036854775808 ≤ n) (h2 : n < 9223372036854775808) : IntKind.i64.wrap n = n := by
  simp only [IntKind.wrap, IntKind.signed, IntKind.bits, Bool.true_and]
  split <;> (rename_i hh; simp at hh; omega)

section
variable {F : Fin_} {ks : List Kt} {keep : List Nat} {env : Env} {h : Heap}

@[go_sem] theorem opE_app (r : List COper) (d : Nat) (z by_ : Nat) (s x : Opd) : opE F ks keep r (some d) env h (.app z by_ s x) = ((s.ev env true).oK fun sv => (asSl sv).oK fun q => (x.ev env true).oK fun xv => (h[q.1]?).oK fun o => (asArr o).oK fun r' => (srcV (h.set q.1 (.arr r'.1 r'.2.1 r'.2.2.1 (r'.2.2.2.take q.2.2.2))) xv).oK fun xs =>
      (q.2.1 = r'.1 ∧ z = r'.2.2.1 ∧ q.2.2.1 = 0 ∧ q.2.2.2 ≤ r'.2.2.2.length ∧ r'.2.1 ≤ q.2.2.2 ∧ (q.2.2.2 + xs.length) * by_ ≤ 140737488355328 ∧ ∀ e ∈ xs, e.length = z ∧ e.all AV.one = true) ∧
          ∀ s2, opS F ks keep r ((d, .sl q.1 s2 0 (q.2.2.2 + xs.length)) :: env) (h.set q.1 (.arr s2 r'.2.1 r'.2.2.1 (r'.2.2.2.take q.2.2.2 ++ xs)))) := rfl
@[go_sem] theorem opE_bsl (r : List COper) (d : Nat) (z len : Nat) (zero : List AV) (parts : List (Nat × Nat × Opd)) : opE F ks keep r (some d) env h (.bsl z len zero parts) = ((evParts env true parts).oK fun ps => (buildV (fillV zero len) ps).oK fun cs =>
      (cs.length = len * z ∧ cs.all AV.one = true) ∧ ∀ s, opS F ks keep r ((d, .sl h.length s 0 len) :: env) (h ++ [.arr s 0 z (chunk z len cs)])) := rfl
@[go_sem] theorem opE_bslz (r : List COper) (d : Nat) (z len : Nat) (zero : List AV) (parts : List (Nat × Nat × Opd)) : opE F ks keep r (some d) env h (.bslz z len zero parts) = ((evParts env true parts).oK fun ps => (buildV (fillV zero len) ps).oK fun cs =>
      ((frzCs 0 h cs).1.length = len * z ∧ (frzCs 0 h cs).1.all AV.one = true) ∧ ∀ s, opS F ks keep r ((d, .sl (frzCs 0 h cs).2.length s 0 len) :: env) ((frzCs 0 h cs).2 ++ [.arr s 0 z (chunk z len (frzCs 0 h cs).1)])) := rfl
@[go_sem] theorem opE_mapup (r : List COper) (kk : Nat) (m k v : Opd) : opE F ks keep r none env h (.mapup kk m k v) = ((m.ev env true).oK fun mv => (asMp mv).oK fun q => (k.ev env true).oK fun kv => (v.ev env true).oK fun vv => (h[q.1]?).oK fun o => (asMpO o).oK fun r' =>
      (mput kk kv vv r'.2).oK fun es' => (q.2 = r'.1 ∧ vv.one = true) ∧ opS F ks keep r env (h.set q.1 (.mp r'.1 es'))) := rfl
@[go_sem] theorem opE_panic (r : List COper) (d : Option Nat) (x : Opd) : opE F ks keep r d env h (.panic x) = ((x.ev env true).oK fun v => (asIf v).oK fun q => contS F ks (.pan (.iface q.1 q.2)) env h) := rfl
@[go_sem] theorem opE_rstr (r : List COper) (d : Nat) (x : Opd) : opE F ks keep r (some d) env h (.rstr x) = ((x.ev env true).oK fun v => (asStr v).oK fun str => ∀ s, opS F ks keep r ((d, .it h.length s) :: env) (h ++ [.sit s str 0])) := rfl
@[go_sem] theorem opE_nstr (r : List COper) (d : Nat) (x : Opd) : opE F ks keep r (some d) env h (.nstr x) = ((x.ev env true).oK fun v => (asIt v).oK fun q => (h[q.1]?).oK fun o => (asSit o).oK fun r' => q.2 = r'.1 ∧
      (r'.2.2 < r'.2.1.length → opS F ks keep r ((d, .tup [.bool true, .int .i64 r'.2.2, .int .i32 (Utf8.decode ⟨r'.2.1.toArray⟩ r'.2.2).1]) :: env) (h.set q.1 (.sit r'.1 r'.2.1 (r'.2.2 + (Utf8.decode ⟨r'.2.1.toArray⟩ r'.2.2).2)))) ∧
      (¬ r'.2.2 < r'.2.1.length → opS F ks keep r ((d, .tup [.bool false]) :: env) h)) := rfl
@[go_sem] theorem opE_isnil (r : List COper) (d : Nat) (neg : Bool) (x : Opd) : opE F ks keep r (some d) env h (.isnil neg x) = ((x.ev env true).oK fun v => (nilLen h v).oK fun n => ∀ b : Bool, (0 < n → b = false) → opS F ks keep r ((d, .bool (if neg then !b else b)) :: env) h) := rfl

@[go_sem] theorem opE_clear (r : List COper) (d : Option Nat) (z : Nat) (x : Opd) : opE F ks keep r d env h (.clear z x) = ((x.ev env true).oK fun v => (asSl v).oK fun q => (h[q.1]?).oK fun o => (asArr o).oK fun r' => (q.2.1 = r'.1 ∧ r'.2.1 ≤ q.2.2.1 ∧ z = r'.2.2.1) ∧ opS F ks keep r (eput d .dead env) (h.set q.1 (.arr r'.1 r'.2.1 r'.2.2.1 (r'.2.2.2.take q.2.2.1)))) := rfl
@[go_sem] theorem opE_allocv (r : List COper) (d : Nat) (own : List (Nat × Nat)) (z : List AV) : opE F ks keep r (some d) env h (.allocv own z) = ownK own z h (fun cs h => cs.all AV.one = true ∧ ∀ s, opS F ks keep r ((d, .ptr h.length s 0 0) :: env) (h ++ [.arr s 0 z.length [cs]])) := rfl
@[go_sem] theorem opE_boxv (r : List COper) (d n : Nat) (own : List (Nat × Nat)) (x : Opd) : opE F ks keep r (some d) env h (.boxv n own x) = ((x.ev env true).oK fun v => v.cells.all AV.one = true ∧ ownK own v.cells h fun cs h => (cs.length = n ∧ cs.all AV.one = true) ∧ ∀ s, opS F ks keep r ((d, .ptr h.length s 0 0) :: env) (h ++ [.arr s 0 n [cs]])) := rfl
@[go_sem] theorem opE_stnv (r : List COper) (n : Nat) (own : List (Nat × Nat)) (a x : Opd) : opE F ks keep r none env h (.stnv n own a x) = ((a.ev env true).oK fun p => (x.ev env true).oK fun v => (asAgg v).oK fun cs => ownK own cs h fun cs h => (stn h n p cs).oK fun h => opS F ks keep r env h) := rfl

/-! ### Loops -/

/-- A loop over a list: what is done, what is left. -/
def LI {α σ : Type} (l : List α) (stOf : List α → σ → St) (J : List α → List α → σ → Prop) : Nat → St → Prop := fun m st => ∃ pre post e, l = pre ++ post ∧ m = post.length ∧ J pre post e ∧ st = stOf pre e

theorem loopS_list {c : LCode} {live : List Nat} {α σ : Type} (l : List α) (stOf : List α → σ → St) (J : List α → List α → σ → Prop) (e0 : σ) (h0 : (⟨keepE env live, h⟩ : St) = stOf [] e0) (hJ : J [] l e0)
    (step : ∀ pre post e, l = pre ++ post → J pre post e → wpS F (.lp (LI l stOf J) post.length live :: ks) c (stOf pre e).env (stOf pre e).h) : loopS F ks c live env h := by
  rw [loopS_def]
  refine ⟨LI l stOf J, ⟨_, [], l, e0, rfl, rfl, hJ, h0⟩, ?_⟩
  rintro m st ⟨pre, post, e, h1, rfl, h2, rfl⟩
  exact step pre post e h1 h2

theorem lp_next {live : List Nat} {α σ : Type} {l : List α} {stOf : List α → σ → St} {J : List α → List α → σ → Prop} {pre post : List α} {x : α} (k : Nat) (e : σ) (hl : l = pre ++ x :: post) (hJ : J (pre ++ [x]) post e) (he : keepE env live = (stOf (pre ++ [x]) e).env) (hh : h.take k = (stOf (pre ++ [x]) e).h) :
    contS F (.lp (LI l stOf J) (x :: post).length live :: ks) .normal env h :=
  ⟨post.length, k, by simp, pre ++ [x], post, e, by simp [hl], rfl, hJ, by rw [he, hh]⟩

/-- A loop with a measure. -/
def MI {σ : Type} (stOf : σ → St) (μ : σ → Nat) (J : σ → Prop) : Nat → St → Prop := fun m st => ∃ e, m = μ e ∧ J e ∧ st = stOf e

theorem loopS_meas {c : LCode} {live : List Nat} {σ : Type} (stOf : σ → St) (μ : σ → Nat) (J : σ → Prop) (e0 : σ) (h0 : (⟨keepE env live, h⟩ : St) = stOf e0) (hJ : J e0)
    (step : ∀ e, J e → wpS F (.lp (MI stOf μ J) (μ e) live :: ks) c (stOf e).env (stOf e).h) : loopS F ks c live env h := by
  rw [loopS_def]
  refine ⟨MI stOf μ J, ⟨_, e0, rfl, hJ, h0⟩, ?_⟩
  rintro m st ⟨e, rfl, h2, rfl⟩
  exact step e h2

theorem lpm_next {live : List Nat} {σ : Type} {stOf : σ → St} {μ : σ → Nat} {J : σ → Prop} {m : Nat} (k : Nat) (e : σ) (hm : μ e < m) (hJ : J e) (he : keepE env live = (stOf e).env) (hh : h.take k = (stOf e).h) : contS F (.lp (MI stOf μ J) m live :: ks) .normal env h :=
  ⟨μ e, k, hm, e, rfl, hJ, by rw [he, hh]⟩

theorem finS_pure {v v' : AV} {h' : Heap} (e : frzT F.n0 h v = (v', h')) (hR : F.R (.ret v') (h'.take F.n0)) : finS F v h := .inl (by rw [e]; exact hR)
theorem finS_l {v : AV} (hR : F.R (.ret (frzT F.n0 h v).1) ((frzT F.n0 h v).2.take F.n0)) : finS F v h := .inl hR
theorem finS_keep {v : AV} (hR : F.R (.ret v) h) : finS F v h := .inr hR
end
end Go.Ab

/- The bridge, part 1: what is read of arguments, as values of the layer. -/
namespace Go.Ab
open Go.Proofs.YtghiionknnpajaaGreatDoor

/-- Which values of the layer a type's cells may be, no text and no slice longer than B. -/
def RdF (R : TypeId → List AV → Prop) : List Field → List AV → Prop
  | [], a => a = []
  | f :: r, a => ∃ x y, a = x ++ y ∧ R f.type x ∧ RdF R r y

def Rd (P : Program) (B : Nat) : Nat → TypeId → List AV → Prop
  | 0, _, _ => False
  | n + 1, t, a => match P.underlying t with
    | some .bool => ∃ b, a = [.bool b]
    | some (.int k) => ∃ z, a = [.int k z] ∧ (Lit.int k z).wf = true
    | some .string => ∃ s, a = [.str s] ∧ s.length ≤ B
    | some (.slice e) => ∃ es, a = [.psl es] ∧ es.length ≤ B ∧ ∀ x ∈ es, Rd P B n e x
    | some (.struct fs) => RdF (Rd P B n) fs.toList a
    | _ => False

/-- A struct's fields lie one behind the other, from o on. -/
def tiled (P : Program) : List Field → Nat → Nat → Bool
  | [], o, n => decide (o = n)
  | f :: r, o, n => decide (f.offset = o) && tiled P r (o + P.cellsOf f.type) n

/-- Is a type made of what the bridge knows? -/
def okT (P : Program) : Nat → TypeId → Bool
  | 0, _ => false
  | n + 1, t => match P.underlying t with
    | some .bool => true
    | some (.int _) => true
    | some .string => true
    | some (.slice e) => decide (0 < P.cellsOf e) && okT P n e
    | some (.struct fs) => tiled P fs.toList 0 (P.cellsOf t) && fs.toList.all fun f => okT P n f.type
    | _ => false

/-- The context in which a program's function is called: whatever there is, is not written. -/
def ctx0 (W : World) : Ctx := { ok := fun b _ => b < W.heap.size, μ := fun _ => none, clk := 0 }

section
variable {H : Type} {enc : TypeId × Value → H} {P : Program} {W : World}

theorem bulk_part {d : DataW H} {l : List (DataW H)} (h : d ∈ l) : Rows.uptoBulk d ≤ Rows.uptoBulkAll l := by
  induction l with
  | nil => cases h
  | cons x r ih =>
    simp only [Rows.uptoBulkAll]
    cases List.mem_cons.1 h with
    | inl e => subst e; omega
    | inr e => have := ih e; omega
theorem bulk_one (d : DataW H) : 1 ≤ Rows.uptoBulk d := by
  cases d with
  | lit l => cases l <;> simp [Rows.uptoBulk]
  | nil => simp [Rows.uptoBulk]
  | ptr d => simp [Rows.uptoBulk]
  | slice elems spare => simp [Rows.uptoBulk]
  | agg parts => simp [Rows.uptoBulk]
  | iface t d => simp [Rows.uptoBulk]
  | map entries => simp [Rows.uptoBulk]
  | held h => simp [Rows.uptoBulk]
theorem bulk_len (l : List (DataW H)) : l.length ≤ Rows.uptoBulkAll l := by
  induction l with
  | nil => simp [Rows.uptoBulkAll]
  | cons x r ih => have := bulk_one x; simp only [Rows.uptoBulkAll, List.length_cons]; omega

theorem cell_lt {a : Addr} {v : Value} (h : W.cell? a = some v) : a.block < W.heap.size := by
  unfold World.cell? at h
  split at h
  · rename_i hb; exact (Array.getElem?_eq_some_iff.1 hb).1
  · cases h

theorem vmem_of {b : Nat} : ∀ {a : List AV} {o : Nat} {cs : List Value}, vrels (ctx0 W) W a cs → (∀ i, i < cs.length → W.cell? ⟨b, o + i, none⟩ = cs[i]?) → vmem (ctx0 W) W a b o
  | [], _, _, _, _ => by simp [vmem]
  | x :: xs, o, us, h, hc => by
    simp only [vrels] at h
    obtain ⟨y, ys, rfl, h1, h2⟩ := h
    have h0 := hc 0 (by simp)
    simp only [Nat.add_zero, List.getElem?_cons_zero] at h0
    simp only [vmem]
    refine ⟨cell_lt h0, ⟨y, h0, h1⟩, vmem_of (cs := ys) h2 fun i hi => ?_⟩
    have := hc (i + 1) (by simp; omega)
    rw [List.getElem?_cons_succ] at this
    rw [← this]
    congr 2
    omega

theorem vrels_app {C : Ctx} {w : World} : ∀ {a b : List AV} {us vs : List Value}, vrels C w a us → vrels C w b vs → vrels C w (a ++ b) (us ++ vs)
  | [], b, us, vs, h1, h2 => by simp only [vrels] at h1; subst h1; exact h2
  | x :: a, b, us, vs, h1, h2 => by
    simp only [vrels] at h1
    obtain ⟨y, ys, rfl, q1, q2⟩ := h1
    simp only [List.cons_append, vrels]
    exact ⟨y, ys ++ vs, rfl, q1, vrels_app q2 h2⟩

theorem rows_of {R : List AV → Prop} {b z : Nat} : ∀ {k off : Nat}, (∀ i, i < k → ∃ r : List AV, r.length = z ∧ R r ∧ ∃ cs', W.cells? 0 ⟨b, off + i * z, none⟩ z = some cs' ∧ vrels (ctx0 W) W r cs') →
    ∃ es : List (List AV), es.length = k ∧ (∀ x ∈ es, R x) ∧ ves (ctx0 W) W z es b off
  | 0, off, _ => ⟨[], rfl, by simp, by simp [ves]⟩
  | k + 1, off, h => by
    obtain ⟨r, h1, h2, cs', h3, h4⟩ := h 0 (by omega)
    obtain ⟨es, q1, q2, q3⟩ := rows_of (R := R) (b := b) (z := z) (k := k) (off := off + z) fun i hi => by
      have := h (i + 1) (by omega)
      rwa [show off + (i + 1) * z = off + z + i * z by rw [Nat.add_mul]; omega] at this
    refine ⟨r :: es, by simp [q1], ?_, ?_⟩
    · intro x hx
      rcases List.mem_cons.1 hx with rfl | hx
      · exact h2
      · exact q2 x hx
    · simp only [ves]
      refine ⟨h1, ?_, q3⟩
      obtain ⟨-, hl, hc⟩ := World.cells?_some h3
      refine vmem_of h4 fun i hi => ?_
      have := hc i (by omega)
      rw [← this, Go.WideShapes.add_plain, Nat.zero_mul, Nat.add_zero]

theorem rd_fields {R : TypeId → List AV → Prop} {cs : List Value} : ∀ {fs : List Field} {o : Nat}, tiled P fs o cs.length = true →
    (∀ f ∈ fs, ∃ a, R f.type a ∧ vrels (ctx0 W) W a ((cs.drop f.offset).take (P.cellsOf f.type))) → ∃ a, RdF R fs a ∧ vrels (ctx0 W) W a (cs.drop o)
  | [], o, ht, _ => by
    simp only [tiled, decide_eq_true_eq] at ht
    exact ⟨[], rfl, by simp [vrels, ht]⟩
  | f :: r, o, ht, h => by
    simp only [tiled, Bool.and_eq_true, decide_eq_true_eq] at ht
    obtain ⟨rfl, ht⟩ := ht
    obtain ⟨x, h1, h2⟩ := h f (by simp)
    obtain ⟨y, h3, h4⟩ := rd_fields ht fun g hg => h g (by simp [hg])
    refine ⟨x ++ y, ⟨x, y, rfl, h1, h3⟩, ?_⟩
    have := vrels_app h2 h4
    rwa [← List.drop_drop, List.take_append_drop] at this

theorem rd {B : Nat} : ∀ (m : Nat) (t : TypeId), okT P m t = true → ∀ (n : Nat) (cs : List Value) (x : DataW H × List MemPlace), DataW.trod enc P W 0 (fun _ => true) true n t cs = some x → Rows.uptoBulk x.1 ≤ B →
    ∃ a, Rd P B m t a ∧ vrels (ctx0 W) W a cs
  | 0, _, h, _, _, _, _, _ => by simp [okT] at h
  | m + 1, t, h, n, cs, x, hx, hb => by
    unfold okT at h
    split at h
    · rename_i ht
      obtain ⟨b, rfl, rfl⟩ := DataW.trod_bool ht hx
      exact ⟨[.bool b], by simp [Rd, ht], by simp [vrels, vrel]⟩
    · rename_i k ht
      obtain ⟨z, rfl, rfl, hw⟩ := DataW.trod_int ht hx
      exact ⟨[.int k z], by simp [Rd, ht, hw], by simp [vrels, vrel]⟩
    · rename_i ht
      obtain ⟨s, rfl, rfl, hs⟩ := DataW.trod_string ht hx
      refine ⟨[.str s.data.toList], ?_, ?_⟩
      · simp only [Rd, ht]
        refine ⟨_, rfl, ?_⟩
        simp [Rows.uptoBulk] at hb
        simp; omega
      · simp [vrels, vrel]
    · rename_i e ht
      simp only [Bool.and_eq_true, decide_eq_true_eq] at h
      obtain ⟨hz, he⟩ := h
      rcases Go.Deep.open_slice ht hx with ⟨rfl, rfl⟩ | ⟨a, len, cap, k, n', D, Pl, rfl, -, hl, -, rfl, rfl, hel⟩
      · refine ⟨[.psl []], ?_, ?_⟩
        · simp [Rd, ht]
        · simp only [vrels, vrel]
          exact ⟨_, _, rfl, ⟨none, 0, rfl, Nat.le_refl _, .inl trivial⟩, rfl⟩
      · simp only [if_true] at hb hel
        simp only [Rows.uptoBulk] at hb
        have hlen := bulk_len ((List.range len).map D)
        simp only [List.length_map, List.length_range] at hlen
        have hall : ∀ i, i < len → ∃ r : List AV, r.length = P.cellsOf e ∧ Rd P B m e r ∧ ∃ cs', W.cells? 0 (a.add (i * P.cellsOf e)) (P.cellsOf e) = some cs' ∧ vrels (ctx0 W) W r cs' := by
          intro i hi
          obtain ⟨cs', h1, h2⟩ := hel i (by omega)
          have hp : Rows.uptoBulk (D i) ≤ Rows.uptoBulkAll ((List.range len).map D) := bulk_part (List.mem_map.2 ⟨i, by simpa using hi, rfl⟩)
          obtain ⟨r, q1, q2⟩ := rd (B := B) m e he n' cs' _ h2 (by simp only; omega)
          exact ⟨r, by have e1 := q2.length; have e2 := (World.cells?_some h1).2.1; omega, q1, cs', h1, q2⟩
        by_cases hl0 : len = 0
        · subst hl0
          refine ⟨[.psl []], ?_, ?_⟩
          · simp [Rd, ht]
          · simp only [vrels, vrel]
            exact ⟨_, _, rfl, ⟨some a, _, rfl, Nat.zero_le _, .inl trivial⟩, rfl⟩
        · obtain ⟨b, off, spot⟩ := a
          have hsp : spot = none := by
            obtain ⟨r, hr, -, cs', h1, -⟩ := hall 0 (by omega)
            obtain ⟨-, hcl, hc⟩ := World.cells?_some h1
            have hc0 := hc 0 (by omega)
            obtain ⟨v, hv⟩ : ∃ v, cs'[0]? = some v := ⟨cs'[0], by simp⟩
            rw [hv] at hc0
            simpa [Addr.add] using World.cell?_spot hc0
          subst hsp
          obtain ⟨es, q1, q2, q3⟩ := rows_of (R := Rd P B m e) (b := b) (z := P.cellsOf e) (k := len) (off := off) fun i hi => by
            have := hall i hi
            rwa [Go.WideShapes.add_plain] at this
          refine ⟨[.psl es], ?_, ?_⟩
          · simp only [Rd, ht]
            exact ⟨es, rfl, by omega, q2⟩
          · simp only [vrels, vrel]
            exact ⟨_, _, rfl, ⟨some ⟨b, off, none⟩, _, by rw [q1], by omega, .inr ⟨b, off, _, rfl, q3⟩⟩, rfl⟩
    · rename_i fs ht
      simp only [Bool.and_eq_true, List.all_eq_true] at h
      obtain ⟨htl, hall⟩ := h
      obtain ⟨xs, n', rfl, rfl, hcl, hxl, hf⟩ := DataW.trod_struct ht hx
      simp only [Rows.uptoBulk] at hb
      rw [← hcl] at htl
      obtain ⟨a, h1, h2⟩ := rd_fields (R := Rd P B m) htl fun f hfm => by
        obtain ⟨i, hi, he⟩ := List.mem_iff_getElem.1 hfm
        have hfi : fs[i]? = some f := by
          rw [← Array.getElem?_toList, List.getElem?_eq_getElem hi, he]
        have h3 := hf i f hfi
        obtain ⟨y, hy⟩ : ∃ y, xs[i]? = some y := ⟨xs[i]'(by simp at hi; omega), by simp⟩
        rw [hy] at h3
        have hp : Rows.uptoBulk y.1 ≤ Rows.uptoBulkAll (xs.map (·.1)) := bulk_part (List.mem_map.2 ⟨y, List.mem_of_getElem? hy, rfl⟩)
        exact rd (B := B) m f.type (hall f hfm) n' _ y h3 (by omega)
      exact ⟨a, by simp only [Rd, ht]; exact h1, by simpa using h2⟩
    · cases h
end
end Go.Ab
