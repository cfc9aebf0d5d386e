/- The layer Ab, part 13: the drawn region. -/
import Derived.Test.YtghiionknnpajaaGreatDoorAb12
set_option linter.unusedVariables false
set_option linter.unusedSimpArgs false
namespace Go.Ab

section
variable {P : Program} {ops : Array Oper} {n : Nat} {clo : List Nat} {E : List Ent} {Q0 : AExit → St → Prop} {keep : List Nat} {C0 : Ctx} {w0 : World}

theorem after_head (G : Good P ops n clo E) {listed : Array Bool} {dn rest : List Ent} {x : Ent} {C C' : Ctx} {w w' : World} {st : St} {a : Act} {bl : Nat → Nat} (I : Inv P ops n E Q0 keep C0 w0 listed dn (x :: rest) C w st a bl) {op : Oper} (hop : ops[x.i]? = some op)
    (hr : ∀ e ∈ op.after, Region.binds .any e = true → Ls listed e.on) (hl : ¬ Ls listed x.i) {h' : Heap} {v : AV} {y : Value} (S : Step C w C' w') (H' : HRel C' w' h') (hv : vrel C' w' v y) (hst : stabs ⟨eput x.c.d v st.env, h'⟩ x.pend) (hrun : runE P Q0 keep rest ⟨eput x.c.d v st.env, h'⟩)
    (hh : x.eff = true ∨ h' = st.h) : Goes P ops n E Q0 keep C0 w0 (listed.setIfInBounds x.i true) (a.put op.dst y) w' := by
  have hxE : x ∈ E := by rw [I.split]; simp
  have hlt : x.i < listed.size := by rw [I.lsize]; exact (Array.getElem?_eq_some_iff.1 hop).1
  obtain ⟨op', hop', hchk, _⟩ := G.one x hxE
  rw [hop] at hop'
  obtain rfl := Option.some.inj hop'
  obtain ⟨hod, hdn⟩ := chk1_d hchk
  have hsplit : E = (dn ++ [x]) ++ rest := by rw [I.split]; simp
  have hne : ∀ z ∈ rest, z.i ≠ x.i := by
    intro z hz e
    exact pair_i (pair_of G hsplit (x := x) (y := z) (by simp) hz) e.symm
  have aheadA : ∀ z ∈ rest, Ls listed z.i → z.A = true := by
    intro z hz hlz
    exact (I.ah z (List.mem_cons_of_mem _ hz) hlz).A
  refine ⟨dn ++ [x], rest, C', ⟨eput x.c.d v st.env, h'⟩, bl, hsplit, hrun, I.S.trans S, H', ?_, ?_, ?_, down_set hlt hop hr I.down, ?_, ?_, ?_, ?_, ?_, ?_⟩
  · have := I.nle; rw [hod]; cases x.c.d <;> simpa [Act.put] using this
  · rw [hod]; have := I.df; cases x.c.d <;> exact this
  · simpa using I.lsize
  · intro z hz
    rcases List.mem_append.1 hz with hz | hz
    · exact (I.done z hz).imp id fun h => (ls_set hlt).2 (.inr h)
    · simp at hz; subst hz; exact .inr ((ls_set hlt).2 (.inl rfl))
  · intro z hz hlz
    have hlz' := ((ls_set hlt).1 hlz).resolve_left (hne z hz)
    have henv : EqOn z.rd st.env (eput x.c.d v st.env) := by
      intro t ht
      cases hxd : x.c.d with
      | none => rfl
      | some dx =>
        simp only [eput, eget]
        rw [if_neg]
        intro e; subst e
        have hzE : z ∈ E := by rw [hsplit]; simp [hz]
        obtain ⟨opz, hopz, -⟩ := G.one z hzE
        exact (pair_un (pair_of G hsplit (x := x) (y := z) (by simp) hz) (unlisted_not_clo G I.down hopz (I.down z.i opz hlz' hopz) hl)).xy _ hxd ht
    refine ((I.ah z (List.mem_cons_of_mem _ hz) hlz').step S fun d hd => ?_).env henv
    rw [hod]
    cases hxd : x.c.d with
    | none => rfl
    | some dx =>
      rw [put_get]
      intro e; subst e
      exact (pair_c5 (pair_of G hsplit (x := x) (y := z) (by simp) hz) (.inr (aheadA z hz hlz'))).2 _ hd hxd
  · intro z hz
    rw [List.getLast?_concat] at hz
    obtain rfl := Option.some.inj hz
    exact hst
  · intro z1 h1 z2 h2 l1 l2
    exact I.inj z1 (List.mem_cons_of_mem _ h1) z2 (List.mem_cons_of_mem _ h2) (((ls_set hlt).1 l1).resolve_left (hne z1 h1)) (((ls_set hlt).1 l2).resolve_left (hne z2 h2))
  · intro t ht1 ht2
    have old : x.c.d ≠ some t → vrel C' w' (eget st.env t) (a.tmps.getD t undef) := by
      intro hdt
      refine (I.er t (fun z hz hlz => ht1 z (List.mem_append_left _ hz) fun h => ?_) (fun z hz hlz => ?_)).mono S
      · rcases (ls_set hlt).1 h with e | h
        · exact pair_i (pair_of G I.split hz (List.mem_cons_self (a := x))) e
        · exact hlz h
      · rcases List.mem_cons.1 hz with rfl | hz
        · exact hdt
        · exact ht2 z hz ((ls_set hlt).2 (.inr hlz))
    rw [hod]
    cases hxd : x.c.d with
    | none =>
      have := old (by rw [hxd]; simp)
      simpa [eput, Act.put] using this
    | some dx =>
      by_cases hdt : dx = t
      · subst hdt
        have := hdn dx hxd
        have hsz := I.nle
        rw [put_got (by omega)]
        simp only [eput, eget, if_pos]
        exact hv
      · rw [put_get hdt]
        simp only [eput, eget]
        rw [if_neg hdt]
        exact old (by rw [hxd]; simpa using hdt)
  · intro z hz hlz
    rcases List.mem_append.1 hz with hz | hz
    · have hlz' : ¬ Ls listed z.i := fun h => hlz ((ls_set hlt).2 (.inr h))
      have hu := unlisted_not_clo G I.down hop hr hlz'
      exact stb_keep (pair_un (pair_of G I.split hz (List.mem_cons_self ..)) hu) hh hst (I.stb z hz hlz')
    · simp at hz; subst hz
      exact absurd ((ls_set hlt).2 (.inl rfl)) hlz

/-- What has its turn is carried out. -/
theorem exec_head (G : Good P ops n clo E) {listed : Array Bool} {dn rest : List Ent} {x : Ent} {C : Ctx} {w : World} {st : St} {a : Act} {bl : Nat → Nat} (I : Inv P ops n E Q0 keep C0 w0 listed dn (x :: rest) C w st a bl) {op : Oper} (hop : ops[x.i]? = some op)
    (hr : ∀ e ∈ op.after, Region.binds .any e = true → Ls listed e.on) (hl : ¬ Ls listed x.i) : wpOp P ops (QM Q0 C0 w0 n) x.i (Goes P ops n E Q0 keep C0 w0 (listed.setIfInBounds x.i true)) a w := by
  have hxE : x ∈ E := by rw [I.split]; simp
  obtain ⟨op', hop', hchk, hself⟩ := G.one x hxE
  rw [hop] at hop'
  obtain rfl := Option.some.inj hop'
  by_cases hP : x.P ops = true
  · obtain ⟨st', I'⟩ := adv_pure G I hP hl
    exact exec_pend G I' (by simp) hop hr hl
  · have hnd : x ∉ dn := by
      intro hx
      have := pair_of G I.split hx (List.mem_cons_self (a := x))
      simp [pairOK] at this
    have hreads := reads_ok G I (.inr rfl) hop hr hl (fun h => absurd h hnd)
    obtain ⟨he, heq⟩ := erel_keep hreads
    have fin := fun (C' : Ctx) (w' : World) (h' : Heap) (v : AV) (y : Value) => after_head (C' := C') (w' := w') (h' := h') (v := v) (y := y) G I hop hr hl
    have hrun := I.run
    have hR : ∀ t, t ∈ x.rd → eget st.env t = eget (keepE st.env x.rd) t := heq
    generalize hke : keepE st.env x.rd = env' at he heq
    obtain ⟨i, ⟨d, o, g⟩, pend⟩ := x
    have hnle := I.nle
    have hdf := I.df
    have hS := I.S
    cases o with
    | s o => simp [chk1, chkOp] at hchk
    | b z len zero parts => simp [chk1, chkOp] at hchk
    | p o =>
      simp only [runE] at hrun
      obtain ⟨v, hv, hst, hk⟩ := pval_of hrun
      have hp : pval ⟨env', st.h⟩ o g = some v := by
        rw [← pval_env (env := st.env) heq]; exact hv
      obtain ⟨u, y, rfl, hvr, hrr⟩ := pure_run (st := ⟨env', st.h⟩) hchk I.H he (pval_to hp)
      exact wpOp_of_value hop hrr (fin _ _ _ _ _ (.refl C w) I.H hvr hst hk (.inr rfl))
    | e o =>
      have hchk' := hchk
      simp only [chk1, Bool.and_eq_true, chkOp] at hchk'
      obtain ⟨⟨_, hg⟩, hE⟩ := hchk'
      have main : Region.wanted op (yielded ops a.tmps) = true → o.wp P st (fun v h => stabs ⟨eput d v st.env, h⟩ pend ∧ runE P Q0 keep rest ⟨eput d v st.env, h⟩) (fun v h => Q0 (.pan v) ⟨st.env, h⟩) →
          wpOp P ops (QM Q0 C0 w0 n) i (Goes P ops n E Q0 keep C0 w0 (listed.setIfInBounds i true)) a w := by
        intro hw h
        have h := EOp.wp_env (env' := env') (hp := st.h) heq.left h
        have hs := EOp.sound (st := ⟨env', st.h⟩) (C := C) (w := w) (a := a) hE I.H he h
        unfold wpOp
        simp only [hop]
        rw [if_pos hw]
        refine .inl (Oper.wp_imp hs ?_ ?_)
        · rintro a' w' ⟨C', v, h', y, S', H', hv, rfl, hst, hk⟩
          exact fin _ _ _ _ _ S' H' hv hst hk (.inl rfl)
        · rintro e a' w' ⟨C', v, h', y, S', H', hv, rfl, rfl, hk⟩
          exact ⟨C', ⟨st.env, h'⟩, .pan v, hS.trans S', H', hnle, hdf, hk, y, rfl, hv⟩
      cases g with
      | none =>
        simp only [runE] at hrun
        exact main (wanted_sound (c := ⟨d, .e o, none⟩) hg he rfl) hrun
      | some g =>
        simp only [runE] at hrun
        obtain ⟨b, hb, h⟩ := oK_of hrun
        have hb' : guardB env' (some g) = some b := by rw [← guardB_env (env := st.env) heq.right]; exact hb
        have hw := wanted_sound (c := ⟨d, .e o, some g⟩) hg he hb'
        cases b with
        | true => exact main hw (h.1 rfl)
        | false =>
          obtain ⟨hst, hk⟩ := h.2 rfl
          exact wpOp_of_value hop (.inr ⟨hw, rfl⟩) (fin C w st.h (.cond false .dead) undef (.refl C w) I.H (by simp [vrel]) hst hk (.inr rfl))

/-- Whichever operation is picked. -/
theorem exec_any (G : Good P ops n clo E) {listed : Array Bool} {C : Ctx} {w : World} {a : Act} (Hg : Goes P ops n E Q0 keep C0 w0 listed a w) {j : Nat} {op : Oper} (hop : ops[j]? = some op)
    (hr : ∀ e ∈ op.after, Region.binds .any e = true → Ls listed e.on) (hl : ¬ Ls listed j) : wpOp P ops (QM Q0 C0 w0 n) j (Goes P ops n E Q0 keep C0 w0 (listed.setIfInBounds j true)) a w := by
  obtain ⟨dn, rest, C, st, bl, I⟩ := Hg
  obtain ⟨x, hx, rfl⟩ := G.all j (Array.getElem?_eq_some_iff.1 hop).1
  rw [I.split] at hx
  rcases List.mem_append.1 hx with hx | hx
  · exact exec_pend G I hx hop hr hl
  · by_cases hA : x.A = true
    · exact exec_alloc G I hx hop hr hl hA
    · obtain ⟨mid, rest', hsp⟩ := List.append_of_mem hx
      subst hsp
      have hmid : ∀ y ∈ mid, y.P ops = true ∨ Ls listed y.i := by
        intro y hy
        by_cases hly : Ls listed y.i
        · exact .inr hly
        · have hp := pair_of G (dn := dn ++ mid) (rest := x :: rest') (by rw [I.split]; simp) (x := y) (y := x) (by simp [hy]) (by simp)
          have := (pair_un hp (unlisted_not_clo G I.down hop hr hly)).pa
          exact this.elim .inl fun h => absurd h hA
      obtain ⟨C', st', I'⟩ := advance G mid (rest := x :: rest') I hmid
      exact exec_head G I' hop hr hl

def unl (listed : Array Bool) (m : Nat) : Nat := (List.range m).countP fun j => !listed.getD j false

theorem unl_set {listed : Array Bool} {m j : Nat} (hj : j < m) (hs : j < listed.size) (hl : ¬ Ls listed j) : unl (listed.setIfInBounds j true) m < unl listed m := by
  unfold unl
  have key : ∀ l : List Nat, j ∈ l → l.countP (fun k => !(listed.setIfInBounds j true).getD k false) < l.countP fun k => !listed.getD k false := by
    have le : ∀ l : List Nat, l.countP (fun k => !(listed.setIfInBounds j true).getD k false) ≤ l.countP fun k => !listed.getD k false := by
      intro l
      refine List.countP_mono_left fun k _ hk => ?_
      by_cases hkl : listed.getD k false = true
      · have := (ls_set (j := k) hs).2 (.inr hkl)
        unfold Ls at this
        rw [this] at hk; cases hk
      · simpa using hkl
    intro l
    induction l with
    | nil => intro h; cases h
    | cons k l ih =>
      intro h
      rw [List.countP_cons, List.countP_cons]
      by_cases hkj : k = j
      · subst hkj
        have h1 : (listed.setIfInBounds k true).getD k false = true := (ls_set hs).2 (.inl rfl)
        have h2 : listed.getD k false = false := by
          cases hq : listed.getD k false with
          | false => rfl
          | true => exact absurd hq hl
        rw [h1, h2]
        have := le l
        simp only [Bool.not_true, Bool.not_false, if_true]
        simp
        simp at this
        omega
      · have hjl : j ∈ l := (List.mem_cons.1 h).resolve_left fun e => hkj e.symm
        have := ih hjl
        have h1 : (listed.setIfInBounds j true).getD k false = listed.getD k false := getD_set_ne false (Ne.symm hkj)
        rw [h1]
        omega
  exact key _ (by simpa using hj)

theorem all_of_unl {listed : Array Bool} {m : Nat} (h : unl listed m = 0) : ∀ j, j < m → Ls listed j := by
  intro j hj
  unfold unl at h
  rw [List.countP_eq_zero] at h
  have := h j (by simpa using hj)
  unfold Ls
  simpa using this

theorem fin_any (G : Good P ops n clo E) {listed : Array Bool} {w : World} {a : Act} (Hg : Goes P ops n E Q0 keep C0 w0 listed a w) (hall : ∀ j, j < ops.size → Ls listed j) : QM Q0 C0 w0 n .normal a w := by
  obtain ⟨dn, rest, C, st, bl, I⟩ := Hg
  have hl : ∀ x ∈ E, Ls listed x.i := fun x hx => by
    obtain ⟨o, ho, _⟩ := G.one x hx
    exact hall _ (Array.getElem?_eq_some_iff.1 ho).1
  obtain ⟨C', st', I'⟩ := advance G rest (rest := []) (by simpa using I) fun y hy => .inr (hl y (by rw [I.split]; exact List.mem_append_right _ hy))
  have he : ERel C' w st'.env a.tmps := ⟨fun t => I'.er t (fun x hx hlx => absurd (hl x (by rw [I'.split]; simpa using hx)) hlx) (fun x hx => by cases hx)⟩
  exact ⟨C', ⟨keepE st'.env keep, st'.h⟩, .normal, I'.S, I'.H, I'.nle, I'.df, I'.run, rfl, he.keep keep⟩

theorem any_sound (G : Good P ops n clo E) : ∀ (fuel : Nat) (listed : Array Bool) (a : Act) (w : World), listed.size = ops.size → unl listed ops.size ≤ fuel → Goes P ops n E Q0 keep C0 w0 listed a w → wpAny P .any ops (QM Q0 C0 w0 n) fuel listed a w := by
  have ready_nil : ∀ {listed : Array Bool}, listed.size = ops.size → Region.ready .any ops listed = [] → ∀ j, j < ops.size → Ls listed j := by
    intro listed hs hr j
    induction j using Nat.strongRecOn with
    | _ j ih =>
      intro hj
      cases hl : listed.getD j false with
      | true => exact hl
      | false =>
        exfalso
        have hmem : j ∈ Region.ready .any ops listed := by
          refine mem_ready.2 ⟨?_, ops[j], Array.getElem?_eq_getElem hj, fun e he hb => ?_⟩
          · have : j < listed.size := by omega
            simpa [this] using hl
          · have := G.edge j _ (Array.getElem?_eq_getElem hj) e he hb
            exact ih e.on this (Nat.lt_trans this hj)
        rw [hr] at hmem; cases hmem
  intro fuel
  induction fuel with
  | zero =>
    intro listed a w hs hu Hg
    have hall := all_of_unl (Nat.le_zero.1 hu)
    refine ⟨?_, fin_any G Hg hall⟩
    cases hr : Region.ready .any ops listed with
    | nil => rfl
    | cons j l =>
      exfalso
      have : j ∈ Region.ready .any ops listed := by rw [hr]; simp
      obtain ⟨h1, o, ho, _⟩ := mem_ready.1 this
      have hj := (Array.getElem?_eq_some_iff.1 ho).1
      have h2 := hall j hj
      unfold Ls at h2
      have : j < listed.size := by omega
      simp [this] at h1 h2
      rw [h2] at h1; cases h1
  | succ fuel ih =>
    intro listed a w hs hu Hg
    refine ⟨fun hr => fin_any G Hg (ready_nil hs hr), fun j hj => ?_⟩
    obtain ⟨h1, o, ho, hall⟩ := mem_ready.1 hj
    have hjlt := (Array.getElem?_eq_some_iff.1 ho).1
    have hl : ¬ Ls listed j := by
      unfold Ls
      have : j < listed.size := by omega
      simp [this] at h1 ⊢
      exact h1
    have hlt := unl_set (m := ops.size) hjlt (by omega) hl
    refine wpOp_mono (fun a' w' hg => ih _ a' w' (by simpa using hs) (by omega) hg) (exec_any (C := C0) G Hg ho hall hl)
end

theorem drew_rel {C : Ctx} {w w' : World} {h : Heap} (H : HRel C w h) (hh : w'.heap = w.heap) (hos : w'.os = w.os) (ht : w'.tape = w.tape) (ho : w'.output = w.output) : Step C w C w' ∧ HRel C w' h := by
  have hc : ∀ b j, w'.cell? ⟨b, j, none⟩ = w.cell? ⟨b, j, none⟩ := by intro b j; simp [World.cell?, hh]
  have S : Step C w C w' := ⟨hos, ht, ho, by rw [hh]; exact Nat.le_refl _, Nat.le_refl _, fun _ _ h => h, fun _ _ _ => hc _ _, fun _ _ _ _ h _ => h, fun b arr t fz h => ⟨arr, t, fz, by rw [hh]; exact h, rfl⟩, fun _ _ _ => by rw [hh], fun l b s z h _ => ⟨l, s, z, h⟩, fun _ _ h _ => .inl h⟩
  refine ⟨S, fun l o hl => ?_, H.inj, H.none, fun b j h => by rw [hh]; exact H.okb b j h, fun l b s z h => by rw [hh]; exact H.blk l b s z h, H.tbS S⟩
  exact (H.obj l o hl).keep S rfl (fun _ _ _ _ => by rw [hh]) (fun _ _ _ _ _ h => h)

/-- A REGION WHOSE ORDER IS DRAWN. -/
theorem drawn_sound {P : Program} {ops : Array Oper} {n : Nat} {L : List COper} {ord : List Nat} {Q0 : AExit → St → Prop} {keep : List Nat} {C : Ctx} {w : World} {st : St} {a : Act} {id : Nat} (hc : chkD P ops n L ord = true) (H : HRel C w st.h) (he : ERel C w st.env a.tmps)
    (hn : n ≤ a.tmps.size) (hd : a.defers = []) (h : runOps P (fun v st => Q0 (.pan v) st) (fun st => Q0 .normal ⟨keepE st.env keep, st.h⟩) L st) : (Code.region id ops true).wp P (QM Q0 C w n) a w := by
  unfold chkD at hc
  split at hc
  · cases hc
  · rename_i E hz
    simp only [Bool.and_eq_true] at hc
    have G := good_of hc.2
    obtain ⟨S, H'⟩ := drew_rel (w' := { w with drawn := w.drawn + 1 }) H rfl rfl rfl rfl
    refine wp_region_any hc.1 (any_sound (keep := keep) G ops.size _ a _ (by simp) ?_ ?_)
    · unfold unl
      have := List.countP_le_length (p := fun j => !(Array.replicate ops.size false).getD j false) (l := List.range ops.size)
      simpa using this
    · have hno : ∀ j, ¬ Ls (Array.replicate ops.size false) j := by
        intro j hj
        unfold Ls at hj
        by_cases h : j < ops.size <;> simp [h] at hj
      refine ⟨[], E, C, st, fun _ => 0, rfl, runE_of hz h, S, H', hn, hd, by simp, ?_, ?_, ?_, ?_, ?_, ?_, ?_⟩
      · exact fun j o hj => absurd hj (hno j)
      · intro x hx; cases hx
      · exact fun x _ hl => absurd hl (hno _)
      · intro x hx; cases hx
      · exact fun x _ y _ hl => absurd hl (hno _)
      · exact fun t _ _ => (he.step S).slot t
      · intro x hx; cases hx
end Go.Ab
