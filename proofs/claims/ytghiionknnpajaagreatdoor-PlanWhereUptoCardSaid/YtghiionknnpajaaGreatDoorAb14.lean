/- The layer Ab, part 14: whole functions. -/
import Derived.Test.YtghiionknnpajaaGreatDoorAb13
set_option linter.unusedVariables false
set_option linter.unusedSimpArgs false
namespace Go.Ab

def chkC (P : Program) (n : Nat) : Code → LCode → Bool
  | .skip, .skip => true
  | .region _ ops false, .reg cops _ => chkL P ops n ops.toList cops
  | .region _ ops true, .regD cops ord _ => chkD P ops n cops ord
  | .seq a b, .seq a' b' => chkC P n a a' && chkC P n b b'
  | .cond c a b, .cond c' a' b' => chkO c c' && chkC P n a a' && chkC P n b b'
  | .block id c, .block id' c' => decide (id = id') && chkC P n c c'
  | .loop c, .loop c' _ => chkC P n c c'
  | .exit id, .exit id' => decide (id = id')
  | .ret, .ret => true
  | _, _ => false

def chkRes (P : Program) : List ResultVar → List LRes → Bool
  | [], [] => true
  | .tmp t :: r, .t t' :: r' => decide (t = t') && chkRes P r r'
  | .cell t ty :: r, .c t' :: r' => decide (t = t') && decide (aggB P ty = some false) && chkRes P r r'
  | .cell t ty :: r, .cn t' n :: r' => decide (t = t') && decide (aggB P ty = some true) && decide (sizeB P ty = some n) && chkRes P r r'
  | _, _ => false

def chkF (P : Program) (f : FuncId) (F : LFunc) : Bool := match P.funcs[f]? with
  | some fn => (match fn.body with | some c => fn.name != "runtime.NumGoroutine" && decide (F.n ≤ fn.ntmps) && chkC P F.n c F.code && chkRes P fn.results.toList F.res | none => false)
  | none => false

theorem wp_loop_ix {P : Program} {Q : Exit → Act → World → Prop} {a : Act} {w : World} {c : Code} (I : Nat → Act → World → Prop) (h₀ : ∃ m, I m a w)
    (round : ∀ m a w, I m a w → c.wp P (Exit.then (fun a' w' => ∃ m', m' < m ∧ I m' a' w') Q) a w) : (Code.loop c).wp P Q a w := by
  intro b k cs
  have key : ∀ n a w, I n a w →
      ∃ e a' w', Q e a' w' ∧ Arrives P (lone (b.at a (.code c :: .inLoop c :: k)) cs w) b k cs e a' w' := by
    intro n
    induction n using Nat.strongRecOn with
    | _ n ih =>
      intro a w hI
      obtain ⟨e, a₁, w₁, hq, harr⟩ := round n a w hI b (.inLoop c :: k) cs
      cases e with
      | normal =>
        obtain ⟨m', hlt, hI₁⟩ := hq
        obtain ⟨e₂, a₂, w₂, hq₂, harr₂⟩ := ih m' hlt a₁ w₁ hI₁
        exact ⟨e₂, a₂, w₂, hq₂, .of_steps (Steps.trans harr (.one step_inLoop)) harr₂⟩
      | exit id => exact ⟨_, a₁, w₁, hq, .pass (x := .inLoop c) rfl (fun _ _ => .inl (by simp)) harr⟩
      | goto l => exact ⟨_, a₁, w₁, hq, .pass (x := .inLoop c) rfl (fun _ _ => .inl (by simp)) harr⟩
      | ret => exact ⟨_, a₁, w₁, hq, .pass (x := .inLoop c) rfl (fun _ _ => .inl (by simp)) harr⟩
      | panic ch => exact ⟨_, a₁, w₁, hq, .pass (x := .inLoop c) rfl (fun _ _ => .inl (by simp)) harr⟩
      | outgrown => exact ⟨_, a₁, w₁, hq, .pass (x := .inLoop c) rfl (fun _ _ => .inl (by simp)) harr⟩
  obtain ⟨m, h₀⟩ := h₀
  obtain ⟨e, a', w', hq, harr⟩ := key m a w h₀
  exact ⟨e, a', w', hq, .of_steps (.one step_loop) harr⟩

section
variable {P : Program} {n : Nat}

theorem QM.to_then {Q1 Q0 : AExit → St → Prop} {next : Act → World → Prop} {C : Ctx} {w : World} {e : Exit} {a : Act} {w' : World} (h : QM Q1 C w n e a w') (hq : ∀ x st, x ≠ .normal → Q1 x st → Q0 x st)
    (hn : ∀ C' st, Step C w C' w' → HRel C' w' st.h → n ≤ a.tmps.size → a.defers = [] → ERel C' w' st.env a.tmps → Q1 .normal st → next a w') : Exit.then next (QM Q0 C w n) e a w' := by
  obtain ⟨C', st, x, S, H, hle, hd, hk, hx⟩ := h
  cases x with
  | normal =>
    obtain ⟨rfl, he⟩ := hx
    exact hn C' st S H hle hd he hk
  | exit id =>
    obtain ⟨rfl, he⟩ := hx
    exact ⟨C', st, .exit id, S, H, hle, hd, hq _ _ (by simp) hk, rfl, he⟩
  | ret =>
    obtain ⟨rfl, he⟩ := hx
    exact ⟨C', st, .ret, S, H, hle, hd, hq _ _ (by simp) hk, rfl, he⟩
  | pan v =>
    obtain ⟨y, rfl, hv⟩ := hx
    exact ⟨C', st, .pan v, S, H, hle, hd, hq _ _ (by simp) hk, y, rfl, hv⟩

theorem code_sound : ∀ (lc : LCode) (c : Code) {Q0 : AExit → St → Prop} {C : Ctx} {w : World} {st : St} {a : Act}, chkC P n c lc = true → HRel C w st.h → ERel C w st.env a.tmps → n ≤ a.tmps.size → a.defers = [] → wpA P lc Q0 st → c.wp P (QM Q0 C w n) a w := by
  intro lc
  induction lc with
  | skip =>
    intro c Q0 C w st a hc H he hn hd h
    cases c <;> simp only [chkC] at hc <;> first | (cases hc; done) | skip
    exact Go.wp_skip ⟨C, st, .normal, .refl C w, H, hn, hd, h, rfl, he⟩
  | reg cops keep =>
    intro c Q0 C w st a hc H he hn hd h
    cases c with
    | region id ops draw =>
      cases draw with
      | true => simp [chkC] at hc
      | false => exact wp_region_list (list_sound _ _ hc (.refl C w) H he hn hd h)
    | _ => simp [chkC] at hc
  | regD cops ord keep =>
    intro c Q0 C w st a hc H he hn hd h
    cases c with
    | region id ops draw =>
      cases draw with
      | false => simp [chkC] at hc
      | true => exact drawn_sound hc H he hn hd h
    | _ => simp [chkC] at hc
  | seq a' b' iha ihb =>
    intro c Q0 C w st a hc H he hn hd h
    cases c <;> simp only [chkC] at hc <;> first | (cases hc; done) | skip
    rw [Bool.and_eq_true] at hc
    refine wp_seq (wp_mono (iha _ hc.1 H he hn hd h) fun e a1 w1 q => q.to_then (fun x st hx q => ?_) fun C1 st1 S1 H1 hn1 hd1 he1 q => ?_)
    · cases x with
      | normal => exact absurd rfl hx
      | _ => exact q
    · exact wp_mono (ihb _ hc.2 H1 he1 hn1 hd1 q) fun e a2 w2 q => q.step S1
  | cond x a' b' iha ihb =>
    intro c Q0 C w st a hc H he hn hd h
    cases c <;> simp only [chkC] at hc <;> first | (cases hc; done) | skip
    rw [Bool.and_eq_true, Bool.and_eq_true] at hc
    obtain ⟨v, h1, h⟩ := oK_of h
    obtain ⟨p, h2, h⟩ := oK_of h
    have hv := ev_sound hc.1.1 he h1 rfl
    cases v <;> simp only [asBool] at h2 <;> first | (cases h2; done) | skip
    obtain rfl := Option.some.inj h2
    simp only [vrel] at hv
    exact wp_cond_split hv (fun hp => iha _ hc.1.2 H he hn hd (h.1 hp)) (fun hp => ihb _ hc.2 H he hn hd (h.2 hp))
  | block id c' ih =>
    intro c Q0 C w st a hc H he hn hd h
    cases c <;> simp only [chkC] at hc <;> first | (cases hc; done) | skip
    rw [Bool.and_eq_true, decide_eq_true_eq] at hc
    obtain ⟨rfl, hc⟩ := hc
    refine wp_block (wp_mono (ih _ hc H he hn hd h) fun e a1 w1 q => ?_)
    obtain ⟨C', st', x, S, H', hle, hd', hk, hx⟩ := q
    cases x with
    | normal => obtain ⟨rfl, he'⟩ := hx; exact ⟨C', st', .normal, S, H', hle, hd', hk, rfl, he'⟩
    | exit id' =>
      obtain ⟨rfl, he'⟩ := hx
      simp only [inBlk] at hk
      simp only [Exit.inBlock]
      split at hk
      · rename_i e; rw [if_pos e]; exact ⟨C', st', .normal, S, H', hle, hd', hk, rfl, he'⟩
      · rename_i e; rw [if_neg e]; exact ⟨C', st', .exit id', S, H', hle, hd', hk, rfl, he'⟩
    | ret => obtain ⟨rfl, he'⟩ := hx; exact ⟨C', st', .ret, S, H', hle, hd', hk, rfl, he'⟩
    | pan v => obtain ⟨y, rfl, hv⟩ := hx; exact ⟨C', st', .pan v, S, H', hle, hd', hk, y, rfl, hv⟩
  | loop c' live ih =>
    intro c Q0 C w st a hc H he hn hd h
    cases c <;> simp only [chkC] at hc <;> first | (cases hc; done) | skip
    obtain ⟨I, ⟨m0, h0⟩, hround⟩ := h
    refine wp_loop_ix (fun m a1 w1 => ∃ C1 st1, Step C w C1 w1 ∧ HRel C1 w1 st1.h ∧ ERel C1 w1 st1.env a1.tmps ∧ n ≤ a1.tmps.size ∧ a1.defers = [] ∧ I m st1) ⟨m0, C, _, .refl C w, H, he.keep live, hn, hd, h0⟩ ?_
    rintro m a1 w1 ⟨C1, st1, S1, H1, he1, hn1, hd1, hI⟩
    have hb := ih _ hc H1 he1 hn1 hd1 (hround m st1 hI)
    refine wp_mono hb fun e a2 w2 q => (q.step S1).to_then (fun x st hx q => ?_) fun C2 st2 S2 H2 hn2 hd2 he2 q => ?_
    · cases x with
      | normal => exact absurd rfl hx
      | _ => exact q
    · obtain ⟨m', k, hlt, hI'⟩ := q
      obtain ⟨S3, H3⟩ := drop_sound H2 k
      exact ⟨m', hlt, C2.drop k, _, S2.trans S3, H3, (he2.keep live).step S3, hn2, hd2, hI'⟩
  | exit id =>
    intro c Q0 C w st a hc H he hn hd h
    cases c <;> simp only [chkC] at hc <;> first | (cases hc; done) | skip
    rw [decide_eq_true_eq] at hc
    subst hc
    exact wp_exit ⟨C, st, .exit _, .refl C w, H, hn, hd, h, rfl, he⟩
  | ret =>
    intro c Q0 C w st a hc H he hn hd h
    cases c <;> simp only [chkC] at hc <;> first | (cases hc; done) | skip
    exact wp_ret ⟨C, st, .ret, .refl C w, H, hn, hd, h, rfl, he⟩

theorem res_sound {C : Ctx} {w : World} {st : St} {tmps : Array Value} (H : HRel C w st.h) (he : ERel C w st.env tmps) : ∀ {rs : List ResultVar} {ls : List LRes} {vs : List AV}, chkRes P rs ls = true → resAll st ls = some vs →
    ∃ ys : List Value, (rs.mapM (m := Sem) fun
      | .tmp t => pure (tmps.getD t undef)
      | .cell a t => do loadVar t (← asAddr (tmps.getD a undef))).run P w = .ok ys w ∧ vrels C w vs ys
  | [], [], vs, _, h => by
    simp [resAll] at h; subst h
    exact ⟨[], by simp, by simp [vrels]⟩
  | .tmp t :: rs, .t t' :: ls, vs, hc, h => by
    simp only [chkRes, Bool.and_eq_true, decide_eq_true_eq] at hc
    obtain ⟨rfl, hc⟩ := hc
    simp only [resAll, LRes.ev, ob_some] at h
    obtain ⟨vs', h1, h⟩ := ob_eq_some h
    simp at h; subst h
    obtain ⟨ys, e1, e2⟩ := res_sound H he hc h1
    refine ⟨tmps.getD t undef :: ys, by simp only [List.mapM_cons, Sem.run_bind, Sem.run_pure, e1, Result.andThen_ok], ?_⟩
    simp only [vrels]
    exact ⟨_, _, rfl, he.slot t, e2⟩
  | .cell t ty :: rs, .c t' :: ls, vs, hc, h => by
    simp only [chkRes, Bool.and_eq_true, decide_eq_true_eq] at hc
    obtain ⟨⟨rfl, hagg⟩, hc⟩ := hc
    simp only [resAll, LRes.ev] at h
    obtain ⟨v, h0, h⟩ := ob_eq_some h
    obtain ⟨vs', h1, h⟩ := ob_eq_some h
    simp at h; subst h
    obtain ⟨b, o, z, f1, f2, f3⟩ := load_sound H (he.slot t) h0
    obtain ⟨ys, e1, e2⟩ := res_sound H he hc h1
    refine ⟨z :: ys, ?_, ?_⟩
    · have : ((do loadVar ty (← asAddr (tmps.getD t undef))) : Sem Value).run P w = .ok z w := by
        rw [f1]; simp [asAddr, loadVar, run_aggB hagg, f2]
      simp only [List.mapM_cons, Sem.run_bind, Result.andThen_ok]
      simp only [Sem.run_bind] at this
      rw [this]
      simp only [Sem.run_bind, Sem.run_pure, e1, Result.andThen_ok]
    · simp only [vrels]
      exact ⟨_, _, rfl, f3, e2⟩
  | .cell t ty :: rs, .cn t' k :: ls, vs, hc, h => by
    simp only [chkRes, Bool.and_eq_true, decide_eq_true_eq] at hc
    obtain ⟨⟨⟨rfl, hagg⟩, hsz⟩, hc⟩ := hc
    simp only [resAll, LRes.ev] at h
    obtain ⟨v, h0, h⟩ := ob_eq_some h
    obtain ⟨vs', h1, h⟩ := ob_eq_some h
    simp at h; subst h
    obtain ⟨b, o, f1, zs, f2, f3⟩ := loadN_sound (P := P) H (he.slot t) h0
    obtain ⟨ys, e1, e2⟩ := res_sound H he hc h1
    refine ⟨.agg zs.toArray :: ys, ?_, ?_⟩
    · have : ((do loadVar ty (← asAddr (tmps.getD t undef))) : Sem Value).run P w = .ok (.agg zs.toArray) w := by
        rw [f1]; simp [asAddr, loadVar, run_aggB hagg, run_sizeB hsz, f2]
      simp only [List.mapM_cons, Sem.run_bind, Result.andThen_ok]
      simp only [Sem.run_bind] at this
      rw [this]
      simp only [Sem.run_bind, Sem.run_pure, e1, Result.andThen_ok]
    · simp only [vrels]
      exact ⟨_, _, rfl, f3, e2⟩
  | [], _ :: _, _, hc, _ => by simp [chkRes] at hc
  | .tmp _ :: _, [], _, hc, _ => by simp [chkRes] at hc
  | .cell _ _ :: _, [], _, hc, _ => by simp [chkRes] at hc
  | .tmp _ :: _, .c _ :: _, _, hc, _ => by simp [chkRes] at hc
  | .tmp _ :: _, .cn _ _ :: _, _, hc, _ => by simp [chkRes] at hc
  | .cell _ _ :: _, .t _ :: _, _, hc, _ => by simp [chkRes] at hc

theorem results_sound {C : Ctx} {w : World} {st : St} {tmps : Array Value} (H : HRel C w st.h) (he : ERel C w st.env tmps) {fn : Func} {ls : List LRes} {v : AV} (hc : chkRes P fn.results.toList ls = true) (h : resA st ls = some v) :
    ∃ y, (results fn tmps).run P w = .ok y w ∧ vrel C w v y := by
  unfold resA at h
  obtain ⟨vs, h1, h⟩ := ob_eq_some h
  obtain ⟨ys, e1, e2⟩ := res_sound (P := P) H he hc h1
  have hr : (fn.results.mapM (m := Sem) fun
      | .tmp t => pure (tmps.getD t undef)
      | .cell a t => do loadVar t (← asAddr (tmps.getD a undef))).run P w = .ok ys.toArray w := by
    rw [Array.mapM_eq_mapM_toList]
    simp only [Sem.run_map, e1]
    rfl
  have hlen := e2.length
  have hR : (results fn tmps).run P w = .ok (if h : ys.toArray.size = 1 then ys.toArray[0] else .tuple ys.toArray) w := by
    unfold results
    rw [Sem.run_bind]
    erw [hr]
    rfl
  rw [hR]
  by_cases hone : ys.length = 1
  · obtain ⟨y, rfl⟩ := List.length_eq_one_iff.1 hone
    obtain ⟨v', rfl⟩ := List.length_eq_one_iff.1 (hlen ▸ hone)
    simp at h; subst h
    refine ⟨y, by simp, ?_⟩
    simp only [vrels] at e2
    obtain ⟨_, _, e3, e4, _⟩ := e2
    simp at e3
    rw [e3.1]; exact e4
  · refine ⟨.tuple ys.toArray, by simp [hone], ?_⟩
    have : v = .tup vs := by
      cases vs with
      | nil => simp at h; exact h.symm
      | cons v1 vs =>
        cases vs with
        | nil => simp at hlen; omega
        | cons v2 vs => simp at h; exact h.symm
    subst this
    simp only [vrel]
    exact ⟨ys.toArray, rfl, e2⟩

theorem arg_rel {C : Ctx} {w : World} : ∀ {args : List AV} {vs : List Value} {k : Nat}, vrels C w args vs → ∀ t, vrel C w (eget (argEnv k args) t) (if k ≤ t then vs.getD (t - k) undef else undef)
  | [], vs, k, h, t => by simp [argEnv, eget, vrel]
  | v :: args, vs, k, h, t => by
    simp only [vrels] at h
    obtain ⟨y, ys, rfl, h1, h2⟩ := h
    simp only [argEnv, eget]
    by_cases hk : k = t
    · subst hk; simp [h1]
    · rw [if_neg hk]
      have := arg_rel (k := k + 1) h2 t
      by_cases hlt : k ≤ t
      · rw [if_pos hlt, show t - k = (t - (k + 1)) + 1 by omega, List.getD_cons_succ]
        rwa [if_pos (by omega)] at this
      · rw [if_neg hlt]
        rwa [if_neg (by omega)] at this

/-- A FUNCTION DOES WHAT PART 2 SAYS OF ITS CODE. -/
theorem spec_of {f : FuncId} {F : LFunc} {args : List AV} {h : Heap} {R : AEnd → Heap → Prop} (hc : chkF P f F = true) (hw : F.wp P args h R) : SpecA P f args h R := by
  unfold chkF at hc
  split at hc
  · rename_i fn hf
    split at hc
    · rename_i c hb
      simp only [Bool.and_eq_true, decide_eq_true_eq] at hc
      obtain ⟨⟨⟨hname, hn⟩, hcode⟩, hres⟩ := hc
      refine ⟨by simp [goFunc, hf, hb, hname], fun C w vs H ha => ?_⟩
      refine calls_of_wp hf hb ?_
      have he : ERel C w (argEnv 0 args) (vs.toArray ++ Array.replicate (fn.ntmps - vs.toArray.size) undef) := by
        refine ⟨fun t => ?_⟩
        have := arg_rel (k := 0) ha t
        simp only [Nat.zero_le, if_true, Nat.sub_zero] at this
        have e : (vs.toArray ++ Array.replicate (fn.ntmps - vs.toArray.size) undef).getD t undef = vs.getD t undef := by
          simp only [Array.getD_eq_getD_getElem?, List.getD_eq_getElem?_getD]
          by_cases ht : t < vs.length
          · rw [Array.getElem?_append_left (by simpa using ht)]; simp
          · rw [Array.getElem?_append_right (by simp; omega), List.getElem?_eq_none (by omega), Array.getElem?_replicate]
            split <;> rfl
        rw [e]; exact this
      have hcs := code_sound (n := F.n) (a := { tmps := vs.toArray ++ Array.replicate (fn.ntmps - vs.toArray.size) undef, defers := [] }) F.code c hcode H he (by simp; omega) rfl hw
      refine wp_mono hcs fun e a w' q => ?_
      obtain ⟨C', st, x, S, H', _, hd, hk, hx⟩ := q
      -- what is behind a body's end
      have fin : ∀ (mk : AV → AEnd) (v : AV) (y : Value) (en : Ending), endQ h.length R mk v st.h → vrel C' w' v y → (∀ C'' u, vrel C'' w' u y → vtop P C'' w' (mk u) en) → ∃ C'' r h', Step C w C'' w' ∧ HRel C'' w' h' ∧ vtop P C'' w' r en ∧ R r h' := by
        intro mk v y en hq hv ht
        rcases hq with hq | hq
        · obtain ⟨C1, S1, H1, v1⟩ := frzT_sound (n0 := h.length) H' hv
          obtain ⟨S2, H2⟩ := drop_sound H1 h.length
          exact ⟨_, _, _, (S.trans S1).trans S2, H2, ht _ _ (v1.mono S2), hq⟩
        · exact ⟨C', _, _, S, H', ht _ _ hv, hq⟩
      have ret : (resA st F.res).oK (fun v => endQ h.length R .ret v st.h) → ERel C' w' st.env a.tmps → ∃ v, (results fn a.tmps).run P w' = .ok v w' ∧ ∃ C'' r h', Step C w C'' w' ∧ HRel C'' w' h' ∧ vtop P C'' w' r (.returned v) ∧ R r h' := by
        intro hr he'
        obtain ⟨v, h1, h2⟩ := oK_of hr
        obtain ⟨y, e1, e2⟩ := results_sound H' he' hres h1
        exact ⟨y, e1, fin .ret v y _ h2 e2 fun _ _ hv => ⟨y, rfl, hv⟩⟩
      cases x with
      | normal =>
        obtain ⟨rfl, he'⟩ := hx
        exact ⟨hd, ret hk he'⟩
      | ret =>
        obtain ⟨rfl, he'⟩ := hx
        exact ⟨hd, ret hk he'⟩
      | exit id => exact hk.elim
      | pan v =>
        obtain ⟨y, rfl, hv⟩ := hx
        exact ⟨hd, fin .pan v y _ hk hv fun _ _ hv => ⟨y, rfl, hv⟩⟩
    · cases hc
  · cases hc
end
end Go.Ab
