/- The layer Ab, part 7: an operation with its guard; regions carried out as they stand. -/
import Derived.Test.YtghiionknnpajaaGreatDoorAb6
set_option linter.unusedVariables false
set_option linter.unusedSimpArgs false
namespace Go.Ab

def chkG (ops : Array Oper) (o : Oper) (g : Option (Nat × Bool)) : Bool :=
  match o.guard, g with
  | none, none => true
  | some (j, want), some (t, want') => decide (want = want') && decide ((ops[j]?).bind (·.dst) = some t)
  | _, _ => false

def chkOp (P : Program) (o : Oper) : COp → Bool
  | .p e => chkP P o e
  | .e e => chkE P o e
  | .s _ => false
  | .b .. => false

def chk1 (P : Program) (ops : Array Oper) (n : Nat) (o : Oper) (c : COper) : Bool :=
  decide (o.dst = c.d) && (match c.d with | some d => decide (d < n) | none => true) && chkG ops o c.g && chkOp P o c.o

def chkL (P : Program) (ops : Array Oper) (n : Nat) : List Oper → List COper → Bool
  | [], [] => true
  | o :: os, c :: cs => chk1 P ops n o c && chkL P ops n os cs
  | _, _ => false

section
variable {C : Ctx} {w : World} {P : Program}

theorem ERel.put {env : Env} {a : Act} (he : ERel C w env a.tmps) {n : Nat} (hn : n ≤ a.tmps.size) {d : Option Nat} (hd : (match d with | some d => decide (d < n) | none => true) = true) {v : AV} {y : Value} (hv : vrel C w v y) :
    ERel C w (eput d v env) (a.put d y).tmps ∧ n ≤ (a.put d y).tmps.size ∧ (a.put d y).defers = a.defers := by
  cases d with
  | none => exact ⟨he, hn, rfl⟩
  | some d =>
    simp at hd
    refine ⟨⟨fun t => ?_⟩, by simpa [Act.put] using hn, rfl⟩
    simp only [eput, eget, Act.put]
    by_cases ht : d = t
    · subst ht
      have : d < a.tmps.size := by omega
      simp [this, hv]
    · rw [if_neg ht]
      have := he.slot t
      simpa [Array.getElem?_setIfInBounds_ne ht] using this

theorem ERel.keep {env : Env} {tmps : Array Value} (he : ERel C w env tmps) (l : List Nat) : ERel C w (keepE env l) tmps := by
  refine ⟨fun t => ?_⟩
  have key : ∀ l : List Nat, eget (l.map fun t => (t, eget env t)) t = eget env t ∨ eget (l.map fun t => (t, eget env t)) t = .dead := by
    intro l
    induction l with
    | nil => exact .inr rfl
    | cons x xs ih =>
      simp only [List.map_cons, eget]
      by_cases hx : x = t
      · rw [if_pos hx, hx]; exact .inl rfl
      · rw [if_neg hx]; exact ih
  rcases key l with h | h
  · unfold keepE; rw [h]; exact he.slot t
  · unfold keepE; rw [h]; simp [vrel]

theorem ERel.step {C' : Ctx} {w' : World} {env : Env} {tmps : Array Value} (he : ERel C w env tmps) (st : Step C w C' w') : ERel C' w' env tmps := ⟨fun t => (he.slot t).mono st⟩

theorem wanted_sound {ops : Array Oper} {o : Oper} {c : COper} {env : Env} {a : Act} {b : Bool} (hc : chkG ops o c.g = true) (he : ERel C w env a.tmps) (h : guardB env c.g = some b) : Region.wanted o (yielded ops a.tmps) = b := by
  unfold chkG at hc
  unfold Region.wanted
  cases hg : o.guard with
  | none =>
    rw [hg] at hc
    cases hcg : c.g with
    | none => rw [hcg] at h; simp [guardB] at h; simp [h]
    | some q => rw [hcg] at hc; cases hc
  | some q =>
    obtain ⟨j, want⟩ := q
    rw [hg] at hc
    cases hcg : c.g with
    | none => rw [hcg] at hc; cases hc
    | some q =>
      obtain ⟨t, want'⟩ := q
      rw [hcg] at hc h
      simp only [Bool.and_eq_true, decide_eq_true_eq] at hc
      obtain ⟨rfl, hd⟩ := hc
      simp only [guardB] at h
      have hs := he.slot t
      simp only [yielded, hd, Option.bind_some]
      revert h hs
      cases eget env t <;> simp only [gval] <;> (intro h hs)
      case bool b' =>
        simp only [vrel] at hs
        have : a.tmps[t]? = some (.bool b') := by
          cases ht : a.tmps[t]? with
          | none => simp [ht, undef] at hs
          | some y => simp [ht] at hs; rw [hs]
        rw [this]
        have h := Option.some.inj h
        subst h
        cases b' <;> cases want <;> rfl
      case cond c' v =>
        simp only [vrel] at hs
        have hun : a.tmps.getD t undef = undef → a.tmps[t]? = none ∨ a.tmps[t]? = some undef := by
          intro hy
          cases ht : a.tmps[t]? with
          | none => exact .inl rfl
          | some y => simp [ht] at hy; subst hy; exact .inr rfl
        cases v <;> simp only [gval] at h
        case bool b' =>
          have h := Option.some.inj h
          subst h
          cases c' with
          | true =>
            have h1 := hs.1 rfl
            simp only [vrel] at h1
            have : a.tmps[t]? = some (.bool b') := by
              cases ht : a.tmps[t]? with
              | none => simp [ht, undef] at h1
              | some y => simp [ht] at h1; rw [h1]
            rw [this]
            cases b' <;> cases want <;> rfl
          | false => rcases hun (hs.2 rfl) with hq | hq <;> rw [hq] <;> rfl
        case dead =>
          cases c' with
          | true => simp at h
          | false => simp at h; subst h; rcases hun (hs.2 rfl) with hq | hq <;> rw [hq] <;> rfl
        all_goals cases h
      all_goals cases h

theorem Oper.wp_imp {o : Oper} {a : Act} {K K' : Act → World → Prop} {Q Q' : Exit → Act → World → Prop} (hh : o.wp P a w K Q) (h : ∀ a w, K a w → K' a w) (hq : ∀ x a w, Q x a w → Q' x a w) : o.wp P a w K' Q' := by
  unfold Oper.wp at *
  have hl : LetsOut Q → LetsOut Q' := fun ⟨a, w, q⟩ => ⟨a, w, hq _ _ _ q⟩
  generalize (execOp a.eval o).run P w = r at *
  cases r with
  | ok n w' =>
    cases n <;> simp only [Oper.upon] at hh ⊢ <;>
      first
        | exact h _ _ hh
        | exact Calls.mono hh (fun e w'' he => by cases e <;> first | exact h _ _ he | exact hq _ _ _ he | exact hl he)
        | exact Rows.mono hh (fun _ _ he => h _ _ he)
  | halt x w' => cases x <;> simp only [Oper.upon] at hh ⊢ <;> exact hq _ _ _ hh

/-- What a region's operation that leaves memory as it is comes to. -/
def pureK (st : St) (o : POp) (g : Option (Nat × Bool)) (K : AV → Prop) : Prop :=
  match g with
  | none => (o.ev st true).oK K
  | some g => (guardB st.env (some g)).oK fun b => gK b (o.ev st b) K

theorem pure_run {ops : Array Oper} {o : Oper} {d : Option Nat} {e : POp} {g : Option (Nat × Bool)} {n : Nat} {st : St} {a : Act} {K : AV → Prop} (hc : chk1 P ops n o ⟨d, .p e, g⟩ = true) (H : HRel C w st.h) (he : ERel C w st.env a.tmps) (h : pureK st e g K) :
    ∃ v y, K v ∧ vrel C w v y ∧ ((Region.wanted o (yielded ops a.tmps) = true ∧ (execOp a.eval o).run P w = .ok (.value y) w) ∨ (Region.wanted o (yielded ops a.tmps) = false ∧ y = undef)) := by
  unfold chk1 at hc
  simp only [Bool.and_eq_true, chkOp] at hc
  obtain ⟨⟨_, hg⟩, hp⟩ := hc
  cases g with
  | none =>
    obtain ⟨v, h1, hk⟩ := oK_of h
    obtain ⟨y, h2, h3⟩ := POp.sound hp H he h1 rfl
    exact ⟨v, y, hk, h3, .inl ⟨wanted_sound (c := ⟨d, .p e, none⟩) hg he rfl, h2⟩⟩
  | some g =>
    obtain ⟨b, h1, h⟩ := oK_of h
    have hw := wanted_sound (c := ⟨d, .p e, some g⟩) hg he h1
    cases hv : e.ev st b with
    | none =>
      rw [hv, gK_none] at h
      obtain ⟨rfl, hk⟩ := h
      exact ⟨_, undef, hk, by simp [vrel], .inr ⟨hw, rfl⟩⟩
    | some v =>
      rw [hv, gK_some] at h
      cases b with
      | true =>
        obtain ⟨y, h2, h3⟩ := POp.sound hp H he hv rfl
        exact ⟨_, y, h, by simp [vrel, h3], .inl ⟨hw, h2⟩⟩
      | false => exact ⟨_, undef, h, by simp [vrel], .inr ⟨hw, rfl⟩⟩

/-- What is behind a piece of code, in the model: whatever fits what part 2 says may stand there. -/
def QM (Q0 : AExit → St → Prop) (C : Ctx) (w : World) (n : Nat) (e : Exit) (a : Act) (w' : World) : Prop :=
  ∃ C' st x, Step C w C' w' ∧ HRel C' w' st.h ∧ n ≤ a.tmps.size ∧ a.defers = [] ∧ Q0 x st ∧
    match x with
    | .normal => e = .normal ∧ ERel C' w' st.env a.tmps
    | .exit id => e = .exit id ∧ ERel C' w' st.env a.tmps
    | .ret => e = .ret ∧ ERel C' w' st.env a.tmps
    | .pan v => ∃ y, e = .panic [{ v := y, recovered := false }] ∧ vrel C' w' v y

theorem QM.step {Q0 : AExit → St → Prop} {C C1 : Ctx} {w w1 : World} (st : Step C w C1 w1) {n : Nat} {e : Exit} {a : Act} {w' : World} (h : QM Q0 C1 w1 n e a w') : QM Q0 C w n e a w' := by
  obtain ⟨C', s, x, h1, h2⟩ := h
  exact ⟨C', s, x, st.trans h1, h2⟩

/-- A region's operations, one behind the other. -/
theorem list_sound {ops : Array Oper} {n : Nat} {Q0 : AExit → St → Prop} {keep : List Nat} {C0 : Ctx} {w0 : World} :
    ∀ (l : List Oper) (cs : List COper) {C : Ctx} {w : World} {st : St} {a : Act}, chkL P ops n l cs = true → Step C0 w0 C w → HRel C w st.h → ERel C w st.env a.tmps → n ≤ a.tmps.size → a.defers = [] →
      runOps P (fun v st => Q0 (.pan v) st) (fun st => Q0 .normal ⟨keepE st.env keep, st.h⟩) cs st → wpList P ops (QM Q0 C0 w0 n) l a w
  | [], [], C, w, st, a, _, S, H, he, hn, hdf, h => ⟨C, ⟨keepE st.env keep, st.h⟩, .normal, S, H, hn, hdf, h, rfl, he.keep keep⟩
  | [], _ :: _, _, _, _, _, hc, _, _, _, _, _, _ => by simp [chkL] at hc
  | _ :: _, [], _, _, _, _, hc, _, _, _, _, _, _ => by simp [chkL] at hc
  | o :: l, c :: cs, C, w, st, a, hc, S, H, he, hn, hdf, h => by
    simp only [chkL, Bool.and_eq_true] at hc
    obtain ⟨h1, hl⟩ := hc
    obtain ⟨d, co, g⟩ := c
    have h1' := h1
    simp only [chk1, Bool.and_eq_true, decide_eq_true_eq] at h1'
    obtain ⟨⟨⟨hd, hdn⟩, hg⟩, hop⟩ := h1'
    cases co with
    | p e =>
      have hk : pureK st e g fun v => runOps P (fun v st => Q0 (.pan v) st) (fun st => Q0 .normal ⟨keepE st.env keep, st.h⟩) cs ⟨eput d v st.env, st.h⟩ := by
        cases g with
        | none => exact h
        | some g => exact h
      obtain ⟨v, y, hk, hv, hr⟩ := pure_run h1 H he hk
      obtain ⟨he', hn', hd'⟩ := he.put hn hdn hv
      have ih := list_sound (C0 := C0) (w0 := w0) l cs (a := a.put o.dst y) (st := ⟨eput d v st.env, st.h⟩) hl S H (by rw [hd]; exact he') (by rw [hd]; exact hn') (by rw [hd, hd']; exact hdf) hk
      unfold wpList
      rcases hr with ⟨hw, hr⟩ | ⟨hw, rfl⟩
      · rw [if_pos hw]
        refine .inl ?_
        unfold Oper.wp
        rw [hr]
        exact ih
      · rw [if_neg (by rw [hw]; simp)]
        exact ih
    | s e => cases hop
    | b z len zero parts => cases hop
    | e e =>
      simp only [chkOp] at hop
      have main : e.wp P st (fun v h => runOps P (fun v st => Q0 (.pan v) st) (fun st => Q0 .normal ⟨keepE st.env keep, st.h⟩) cs ⟨eput d v st.env, h⟩) (fun v h => Q0 (.pan v) ⟨st.env, h⟩) →
          o.wp P a w (wpList P ops (QM Q0 C0 w0 n) l) (QM Q0 C0 w0 n) := by
        intro h
        have hs := EOp.sound (C := C) (w := w) (a := a) hop H he h
        refine Oper.wp_imp hs ?_ ?_
        · rintro a' w' ⟨C', v, h', y, S', H', hv, rfl, hk⟩
          obtain ⟨he', hn', hd'⟩ := (he.step S').put hn hdn hv
          exact list_sound (C0 := C0) (w0 := w0) l cs hl (S.trans S') H' (by rw [hd]; exact he') (by rw [hd]; exact hn') (by rw [hd, hd']; exact hdf) hk
        · rintro x a' w' ⟨C', v, h', y, S', H', hv, rfl, rfl, hk⟩
          exact ⟨C', ⟨st.env, h'⟩, .pan v, S.trans S', H', hn, hdf, hk, y, rfl, hv⟩
      unfold wpList
      cases g with
      | none =>
        have hw : Region.wanted o (yielded ops a.tmps) = true := wanted_sound (c := ⟨d, .e e, none⟩) hg he rfl
        rw [if_pos hw]
        exact .inl (main h)
      | some g =>
        obtain ⟨b, hb, h⟩ := oK_of h
        have hw := wanted_sound (c := ⟨d, .e e, some g⟩) hg he hb
        cases b with
        | true =>
          rw [if_pos hw]
          exact .inl (main (h.1 rfl))
        | false =>
          rw [if_neg (by rw [hw]; simp)]
          obtain ⟨he', hn', hd'⟩ := he.put hn hdn (v := .cond false .dead) (y := undef) (by simp [vrel])
          exact list_sound (C0 := C0) (w0 := w0) l cs (a := a.put o.dst undef) (st := ⟨eput d (.cond false .dead) st.env, st.h⟩) hl S H (by rw [hd]; exact he') (by rw [hd]; exact hn') (by rw [hd, hd']; exact hdf) (h.2 rfl)
end
end Go.Ab
