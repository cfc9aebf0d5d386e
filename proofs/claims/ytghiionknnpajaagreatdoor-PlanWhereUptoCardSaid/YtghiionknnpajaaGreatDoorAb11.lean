/- The layer Ab, part 11: the orders of a drawn region, brought together. -/
import Derived.Test.YtghiionknnpajaaGreatDoorAb10
set_option linter.unusedVariables false
set_option linter.unusedSimpArgs false
namespace Go.Ab

section
variable {P : Program} {ops : Array Oper} {n : Nat} {clo : List Nat} {E : List Ent} {Q0 : AExit → St → Prop} {keep : List Nat} {C0 : Ctx} {w0 : World}

/-- A block that stands in the world is taken for a new object's. -/
theorem adopt {C : Ctx} {w : World} {h : Heap} (S : Step C0 w0 C w) (H : HRel C w h) {b z : Nat} {es : List (List AV)} {zv : Array Value} {ty : TypeId} (hb : w.heap[b]? = some (Obj.cells zv ty)) (hnew : w0.heap.size ≤ b) (hun : ∀ l s z, C.μ l ≠ some (some b, s, z)) (hok : ∀ j, ¬ C.ok b j)
    (hrows : RowsRel C w zv z es) (hsz : es.length * z ≤ zv.size) : Mono C w (C.new h.length (some b) z) w ∧ Step C0 w0 (C.new h.length (some b) z) w ∧ HRel (C.new h.length (some b) z) w (h ++ [.arr C.clk 0 z es]) := by
  have hold : ∀ {l : Nat} {q : Option Nat × Nat × Nat}, (C.new h.length (some b) z).μ l = some q → (l = h.length ∧ q = (some b, C.clk, z)) ∨ C.μ l = some q := by
    intro l q hq
    simp only [Ctx.new] at hq
    split at hq
    · rename_i e; exact .inl ⟨e, (Option.some.inj hq).symm⟩
    · exact .inr hq
  have M : Mono C w (C.new h.length (some b) z) w := by
    refine ⟨by simp [Ctx.new], fun _ _ h => h, fun _ _ _ => rfl, fun l ob s z' hl hs => ?_, fun _ arr t fz h => ⟨arr, t, fz, h, rfl⟩⟩
    rcases hold hl with ⟨_, e⟩ | e
    · simp at e; omega
    · exact e
  have S' : Step C0 w0 (C.new h.length (some b) z) w := by
    refine ⟨S.os, S.tape, S.output, S.size, Nat.le_trans S.clk M.clk, S.ok, S.cell, fun l ob s z' hl hs => ?_, S.kind, S.out, fun l b' s z' hl hb' => ?_, S.okn⟩
    · rcases hold hl with ⟨_, e⟩ | e
      · simp at e; have := S.clk; omega
      · exact S.old l ob s z' e hs
    · rcases hold hl with ⟨_, e⟩ | e
      · simp at e; omega
      · exact S.own l b' s z' e hb'
  refine ⟨M, S', ?_, ?_, ?_, H.okb, ?_, H.tb⟩
  · intro l o hl
    rcases Nat.lt_trichotomy l h.length with hlt | rfl | hgt
    · rw [List.getElem?_append_left hlt] at hl
      exact (H.obj l o hl).keepM M (by simp [Ctx.new]; omega) (fun _ _ _ _ => rfl) (fun _ _ _ _ _ h => h)
    · simp at hl; subst hl
      simp only [orel]
      exact ⟨by simp [Ctx.new], some b, by simp [Ctx.new], zv, ty, hb, hsz, fun j _ => hok j, hrows.mono M⟩
    · rw [List.getElem?_eq_none (by simp; omega)] at hl; cases hl
  · intro l l' b' s z1 s' z1' h1 h2
    rcases hold h1 with ⟨e1, e2⟩ | e1
    · simp at e2
      obtain ⟨rfl, _⟩ := e2
      rcases hold h2 with ⟨e3, _⟩ | e3
      · rw [e1, e3]
      · exact absurd e3 (hun _ _ _)
    · rcases hold h2 with ⟨_, e4⟩ | e3
      · simp at e4
        obtain ⟨rfl, _⟩ := e4
        exact absurd e1 (hun _ _ _)
      · exact H.inj l l' b' s z1 s' z1' e1 e3
  · intro l hl
    simp at hl
    simp only [Ctx.new]
    rw [if_neg (by omega)]
    exact H.none l (by omega)
  · intro l b' s z' hl
    rcases hold hl with ⟨_, e⟩ | e
    · simp at e
      obtain ⟨rfl, _⟩ := e
      exact (Array.getElem?_eq_some_iff.1 hb).1
    · exact H.blk l b' s z' e

/-- What was made ahead is taken up, in its turn. -/
theorem absorbT (G : Good P ops n clo E) {listed : Array Bool} {dn rest : List Ent} {x : Ent} {C : Ctx} {w : World} {st : St} {a : Act} {bl : Nat → Nat} (I : Inv P ops n E Q0 keep C0 w0 listed dn (x :: rest) C w st a bl) (hl : Ls listed x.i) {bx : Nat} (hbx : bl x.i = 2 * bx) (hA : AheadT C0 w0 C w st.env a bx x) :
    ∃ C' st', Inv P ops n E Q0 keep C0 w0 listed (dn ++ [x]) rest C' w st' a bl := by
  obtain ⟨⟨d, o, g, z, es, zv, ty, hx, hAx, hgt, hrow, hrel, hsz, hd, hb⟩, hnew, hun, hok⟩ := hA
  obtain ⟨i, c, pend⟩ := x
  simp only at hx hd hb hnew hun hok hl hbx
  subst hx
  have hxE : (⟨i, ⟨some d, .e o, g⟩, pend⟩ : Ent) ∈ E := by rw [I.split]; simp
  obtain ⟨op, hop, hchk, -⟩ := G.one _ hxE
  have hrun0 := I.run
  have hrun : o.wp P st (fun v h => stabs ⟨eput (some d) v st.env, h⟩ pend ∧ runE P Q0 keep rest ⟨eput (some d) v st.env, h⟩) (fun v h => Q0 (.pan v) ⟨st.env, h⟩) := by
    cases g with
    | none => simpa only [runE] using hrun0
    | some g =>
      simp only [runE] at hrun0
      obtain ⟨b, h1, h2⟩ := oK_of hrun0
      rw [hgt] at h1
      obtain rfl := Option.some.inj h1
      exact h2.1 rfl
  clear hrun0
  obtain ⟨hst, hk⟩ := aRows_wp hrow hrun C.clk
  obtain ⟨M, S', H'⟩ := adopt I.S I.H hb hnew hun hok hrel hsz
  refine ⟨C.new st.h.length (some bx) z, _, by rw [I.split]; simp, hk, S', H', I.nle, I.df, I.lsize, I.down, ?_, ?_, ?_, ?_, ?_, ?_⟩
  · intro y hy
    rcases List.mem_append.1 hy with hy | hy
    · exact I.done y hy
    · simp at hy; subst hy; exact .inr hl
  · intro y hy hly
    have hpair := pair_of G (dn := dn ++ [⟨i, ⟨some d, .e o, g⟩, pend⟩]) (rest := rest) (by rw [I.split]; simp) (x := ⟨i, ⟨some d, .e o, g⟩, pend⟩) (y := y) (by simp) hy
    have hyA := I.ah y (List.mem_cons_of_mem _ hy) hly
    have hinj := I.inj _ (List.mem_cons_self ..) y (List.mem_cons_of_mem _ hy) hl hly (pair_i hpair)
    simp only at hinj
    have hAy : y.A = true := by
      rcases hyA with ⟨_, _, ⟨_, _, _, _, _, _, _, _, q, _⟩, _⟩ | ⟨_, _, _, _, _, q, _⟩ <;> exact q
    have henv : EqOn y.rd st.env (eput (some d) (aVal st.h.length C.clk o) st.env) := by
      intro t ht
      simp only [eput, eget]
      rw [if_neg]
      intro e; subst e
      exact pair_AA hpair hAx hAy _ rfl ht
    refine Ahead.env ?_ henv
    rcases hyA with ⟨b', e', ⟨d', o', g', z', es', zv', ty', p1, p2, p2', p3, p4, p5⟩, q2, q3, q4⟩ | ⟨e', p⟩
    · refine .inl ⟨b', e', ⟨d', o', g', z', es', zv', ty', p1, p2, p2', p3, p4.mono M, p5⟩, q2, fun l s z' hm => ?_, q4⟩
      simp only [Ctx.new] at hm
      split at hm
      · simp at hm
        omega
      · exact q3 _ _ _ hm
    · exact .inr ⟨e', p⟩
  · intro y hy
    rw [List.getLast?_concat] at hy
    obtain rfl := Option.some.inj hy
    exact hst
  · exact fun y hy z hz => I.inj y (List.mem_cons_of_mem _ hy) z (List.mem_cons_of_mem _ hz)
  · intro t h1 h2
    simp only [eput, eget]
    by_cases hdt : d = t
    · subst hdt
      rw [if_pos rfl, hd]
      cases o <;> simp only [aRows] at hrow <;> first | (cases hrow; done) | skip
      case alloc zz =>
        simp only [aVal, aModel, vrel]
        refine ⟨by simp [Ctx.new], ⟨_, rfl⟩, fun b' z' hm => ?_⟩
        simp [Ctx.new] at hm
        obtain ⟨rfl, rfl⟩ := hm
        simp
      case bsl z1 len zero parts =>
        obtain ⟨ps, h1, hrow⟩ := ob_eq_some hrow
        obtain ⟨cs, h2, hrow⟩ := ob_eq_some hrow
        split at hrow
        · simp at hrow
          obtain ⟨rfl, rfl⟩ := hrow
          rw [chunk_length] at hsz
          simp only [aVal, aModel, vrel]
          refine ⟨by simp [Ctx.new], ⟨_, _, _, rfl⟩, fun ob z' hm => ?_⟩
          simp [Ctx.new] at hm
          obtain ⟨rfl, rfl⟩ := hm
          exact ⟨len, by simp, Nat.le_refl _, zv, ty, _, hb, by simpa using hsz⟩
        · cases hrow
    · rw [if_neg hdt]
      refine (I.er t (fun y hy hly => h1 y (List.mem_append_left _ hy) hly) fun y hy hly => ?_).monoM M
      rcases List.mem_cons.1 hy with rfl | hy
      · simpa using hdt
      · exact h2 y hy hly
  · intro y hy hly
    rcases List.mem_append.1 hy with hy | hy
    · have hpair := pair_of G I.split hy (List.mem_cons_self (a := (⟨i, ⟨some d, .e o, g⟩, pend⟩ : Ent)))
      have hu := unlisted_not_clo G I.down hop (I.down i op hl hop) hly
      exact stb_keep (pair_un hpair hu) (.inl rfl) hst (I.stb y hy hly)
    · simp at hy; subst hy; exact absurd hl hly

/-- Nor was it made: its guard doesn't hold. -/
theorem absorbF (G : Good P ops n clo E) {listed : Array Bool} {dn rest : List Ent} {x : Ent} {C : Ctx} {w : World} {st : St} {a : Act} {bl : Nat → Nat} (I : Inv P ops n E Q0 keep C0 w0 listed dn (x :: rest) C w st a bl) (hl : Ls listed x.i) (hA : AheadF st.env a x) :
    ∃ C' st', Inv P ops n E Q0 keep C0 w0 listed (dn ++ [x]) rest C' w st' a bl := by
  obtain ⟨d, o, g, hx, hAx, hgf, hd⟩ := hA
  obtain ⟨i, c, pend⟩ := x
  simp only at hx hl
  subst hx
  have hxE : (⟨i, ⟨some d, .e o, g⟩, pend⟩ : Ent) ∈ E := by rw [I.split]; simp
  obtain ⟨op, hop, hchk, -⟩ := G.one _ hxE
  have hrun0 := I.run
  have hrun : stabs ⟨eput (some d) (.cond false .dead) st.env, st.h⟩ pend ∧ runE P Q0 keep rest ⟨eput (some d) (.cond false .dead) st.env, st.h⟩ := by
    cases g with
    | none => cases hgf
    | some g =>
      simp only [runE] at hrun0
      obtain ⟨b, h1, h2⟩ := oK_of hrun0
      rw [hgf] at h1
      obtain rfl := Option.some.inj h1
      exact h2.2 rfl
  obtain ⟨hst, hk⟩ := hrun
  refine ⟨C, _, by rw [I.split]; simp, hk, I.S, I.H, I.nle, I.df, I.lsize, I.down, ?_, ?_, ?_, ?_, ?_, ?_⟩
  · intro y hy
    rcases List.mem_append.1 hy with hy | hy
    · exact I.done y hy
    · simp at hy; subst hy; exact .inr hl
  · intro y hy hly
    have hpair := pair_of G (dn := dn ++ [⟨i, ⟨some d, .e o, g⟩, pend⟩]) (rest := rest) (by rw [I.split]; simp) (x := ⟨i, ⟨some d, .e o, g⟩, pend⟩) (y := y) (by simp) hy
    have hyA := I.ah y (List.mem_cons_of_mem _ hy) hly
    have hAy : y.A = true := by
      rcases hyA with ⟨_, _, ⟨_, _, _, _, _, _, _, _, q, _⟩, _⟩ | ⟨_, _, _, _, _, q, _⟩ <;> exact q
    refine Ahead.env hyA fun t ht => ?_
    simp only [eput, eget]
    rw [if_neg]
    intro e; subst e
    exact pair_AA hpair hAx hAy _ rfl ht
  · intro y hy
    rw [List.getLast?_concat] at hy
    obtain rfl := Option.some.inj hy
    exact hst
  · exact fun y hy z hz => I.inj y (List.mem_cons_of_mem _ hy) z (List.mem_cons_of_mem _ hz)
  · intro t h1 h2
    simp only [eput, eget]
    by_cases hdt : d = t
    · subst hdt
      rw [if_pos rfl, hd]
      simp [vrel]
    · rw [if_neg hdt]
      refine I.er t (fun y hy hly => h1 y (List.mem_append_left _ hy) hly) fun y hy hly => ?_
      rcases List.mem_cons.1 hy with rfl | hy
      · simpa using hdt
      · exact h2 y hy hly
  · intro y hy hly
    rcases List.mem_append.1 hy with hy | hy
    · have hpair := pair_of G I.split hy (List.mem_cons_self (a := (⟨i, ⟨some d, .e o, g⟩, pend⟩ : Ent)))
      have hu := unlisted_not_clo G I.down hop (I.down i op hl hop) hly
      exact stb_keep (pair_un hpair hu) (.inl rfl) hst (I.stb y hy hly)
    · simp at hy; subst hy; exact absurd hl hly

theorem absorb (G : Good P ops n clo E) {listed : Array Bool} {dn rest : List Ent} {x : Ent} {C : Ctx} {w : World} {st : St} {a : Act} {bl : Nat → Nat} (I : Inv P ops n E Q0 keep C0 w0 listed dn (x :: rest) C w st a bl) (hl : Ls listed x.i) :
    ∃ C' st', Inv P ops n E Q0 keep C0 w0 listed (dn ++ [x]) rest C' w st' a bl := by
  rcases I.ah x (List.mem_cons_self ..) hl with ⟨b, e, A⟩ | ⟨_, A⟩
  · exact absorbT G I hl e A
  · exact absorbF G I hl A

theorem Ahead.A {C : Ctx} {w : World} {env : Env} {a : Act} {b : Nat} {x : Ent} (h : Ahead C0 w0 C w env a b x) : x.A = true := by
  rcases h with ⟨_, _, ⟨_, _, _, _, _, _, _, _, q, _⟩, _⟩ | ⟨_, _, _, _, _, q, _⟩ <;> exact q

/-- What stands ahead of an operation that may come now has come, or may come ahead. -/
theorem advance (G : Good P ops n clo E) {listed : Array Bool} {w : World} {a : Act} {bl : Nat → Nat} {rest : List Ent} :
    ∀ (mid : List Ent) {dn : List Ent} {C : Ctx} {st : St}, Inv P ops n E Q0 keep C0 w0 listed dn (mid ++ rest) C w st a bl → (∀ y ∈ mid, y.P ops = true ∨ Ls listed y.i) → ∃ C' st', Inv P ops n E Q0 keep C0 w0 listed (dn ++ mid) rest C' w st' a bl
  | [], dn, C, st, I, _ => ⟨C, st, by simpa using I⟩
  | y :: mid, dn, C, st, I, h => by
    have fin : ∀ {C : Ctx} {st : St}, Inv P ops n E Q0 keep C0 w0 listed (dn ++ [y]) (mid ++ rest) C w st a bl → ∃ C' st', Inv P ops n E Q0 keep C0 w0 listed (dn ++ (y :: mid)) rest C' w st' a bl := by
      intro C st I
      obtain ⟨C', st', I'⟩ := advance G mid I fun z hz => h z (List.mem_cons_of_mem _ hz)
      exact ⟨C', st', by simpa using I'⟩
    by_cases hl : Ls listed y.i
    · obtain ⟨C', st', I'⟩ := absorb G I hl
      exact fin I'
    · obtain ⟨st', I'⟩ := adv_pure G I ((h y (List.mem_cons_self ..)).resolve_right hl) hl
      exact fin I'

theorem ls_set {listed : Array Bool} {i j : Nat} (hi : i < listed.size) : Ls (listed.setIfInBounds i true) j ↔ j = i ∨ Ls listed j := by
  unfold Ls
  by_cases h : i = j
  · subst h; simp [hi]
  · have hj : j ≠ i := fun e => h e.symm
    simp [Array.getElem?_setIfInBounds_ne h, hj]

theorem down_set {listed : Array Bool} {i : Nat} {o : Oper} (hi : i < listed.size) (ho : ops[i]? = some o) (hr : ∀ e ∈ o.after, Region.binds .any e = true → Ls listed e.on) (down : ∀ j o, Ls listed j → ops[j]? = some o → ∀ e ∈ o.after, Region.binds .any e = true → Ls listed e.on) :
    ∀ j o, Ls (listed.setIfInBounds i true) j → ops[j]? = some o → ∀ e ∈ o.after, Region.binds .any e = true → Ls (listed.setIfInBounds i true) e.on := by
  intro j o' hj ho' e he hb
  rw [ls_set hi] at hj ⊢
  rcases hj with rfl | hj
  · rw [ho] at ho'
    obtain rfl := Option.some.inj ho'
    exact .inr (hr e he hb)
  · exact .inr (down j o' hj ho' e he hb)

/-- What an operation reads is there. -/
theorem reads_ok (G : Good P ops n clo E) {listed : Array Bool} {dn rest : List Ent} {C : Ctx} {w : World} {st : St} {a : Act} {bl : Nat → Nat} (I : Inv P ops n E Q0 keep C0 w0 listed dn rest C w st a bl) {x : Ent} (hx : x ∈ dn ∨ rest.head? = some x) {op : Oper} (hop : ops[x.i]? = some op)
    (hr : ∀ e ∈ op.after, Region.binds .any e = true → Ls listed e.on) (hl : ¬ Ls listed x.i) (hself : x ∈ dn → ∀ d, x.c.d = some d → d ∉ x.rd) : ∀ t ∈ x.rd, vrel C w (eget st.env t) (a.tmps.getD t undef) := by
  have hxE : x ∈ E := by
    rw [I.split]
    rcases hx with h | h
    · exact List.mem_append_left _ h
    · exact List.mem_append_right _ (List.mem_of_mem_head? h)
  have hclo : ∀ y : Ent, ¬ Ls listed y.i → (clo.getD x.i 0).testBit y.i = false := fun y hy => unlisted_not_clo G I.down hop hr hy
  have before : ∀ {y : Ent}, pairOK P ops n clo y x = true → ¬ Ls listed y.i → ∀ d, y.c.d = some d → d ∉ x.rd := fun hp hy => (pair_un hp (hclo _ hy)).xy
  have hpw := G.pair
  rw [I.split, List.pairwise_append] at hpw
  intro t ht
  refine I.er t (fun y hy hly hd => ?_) (fun y hy hly hd => ?_)
  · -- pending
    rcases hx with hxd | hxr
    · obtain ⟨l1, l2, hsp⟩ := List.append_of_mem hxd
      rw [hsp, List.pairwise_append, List.pairwise_cons] at hpw
      rw [hsp] at hy
      rcases List.mem_append.1 hy with h | h
      · exact before (hpw.1.2.2 y h x (List.mem_cons_self ..)) hly t hd ht
      · rcases List.mem_cons.1 h with rfl | h
        · exact hself hxd t hd ht
        · have hy' : y ∈ dn := by rw [hsp]; simp [h]
          exact (pair_c5 (hpw.1.2.1.1 y h) (.inl ((I.done y hy').resolve_right hly))).1 t hd ht
    · exact before (hpw.2.2 y hy x (List.mem_of_mem_head? hxr)) hly t hd ht
  · -- ahead
    have hA := (I.ah y hy hly).A
    rcases hx with hxd | hxr
    · exact (pair_c5 (hpw.2.2 x hxd y hy) (.inr hA)).1 t hd ht
    · cases rest with
      | nil => cases hxr
      | cons r rest =>
        simp at hxr; subst hxr
        rcases List.mem_cons.1 hy with rfl | hy
        · exact absurd hly hl
        · have := hpw.2.1
          rw [List.pairwise_cons] at this
          exact (pair_c5 (this.1 y hy) (.inr hA)).1 t hd ht

theorem erel_keep {C : Ctx} {w : World} {st : St} {a : Act} {l : List Nat} (h : ∀ t ∈ l, vrel C w (eget st.env t) (a.tmps.getD t undef)) : ERel C w (keepE st.env l) a.tmps ∧ EqOn l st.env (keepE st.env l) := by
  have key : ∀ (l : List Nat) (t : Nat), (t ∈ l → eget (keepE st.env l) t = eget st.env t) ∧ (t ∉ l → eget (keepE st.env l) t = .dead) := by
    intro l t
    induction l with
    | nil => exact ⟨fun h => absurd h (by simp), fun _ => rfl⟩
    | cons x xs ih =>
      simp only [keepE, List.map_cons, eget]
      by_cases hx : x = t
      · rw [if_pos hx]; exact ⟨fun _ => by rw [hx], fun h => absurd (by simp [hx]) h⟩
      · rw [if_neg hx]
        exact ⟨fun h => ih.1 ((List.mem_cons.1 h).resolve_left fun e => hx e.symm), fun h => ih.2 fun hm => h (List.mem_cons_of_mem _ hm)⟩
  refine ⟨⟨fun t => ?_⟩, fun t ht => ((key l t).1 ht).symm⟩
  by_cases ht : t ∈ l
  · rw [(key l t).1 ht]; exact h t ht
  · rw [(key l t).2 ht]; simp [vrel]
end
end Go.Ab
