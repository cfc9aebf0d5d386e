/- The layer Ab, part 8: regions whose order is drawn. First: what an operation reads. -/
import Derived.Test.YtghiionknnpajaaGreatDoorAb7
set_option linter.unusedVariables false
set_option linter.unusedSimpArgs false
namespace Go.Ab

def Opd.rd : Opd → List Nat
  | .s t => [t]
  | .c _ => []
def rds : List Opd → List Nat
  | [] => []
  | x :: xs => x.rd ++ rds xs
def rdo : Option Opd → List Nat
  | none => []
  | some x => x.rd
def rdp : List (Nat × Nat × Opd) → List Nat
  | [] => []
  | (_, _, x) :: r => x.rd ++ rdp r

def POp.rd : POp → List Nat
  | .mv x | .ld x | .ldn _ x | .nilc x | .un _ x | .cvt _ x | .mkif _ x | .foff _ x | .fld _ x | .fldn _ _ x | .lens x | .lenl x | .lenm x | .ext x _ | .b2s x => x.rd
  | .pick c a b => c.rd ++ (a.rd ++ b.rd)
  | .bin _ x y | .eqk _ _ x y | .iadr _ x y | .iarr _ _ x y | .idxs x y | .mmax x y | .mmin x y | .look _ _ _ x y => x.rd ++ y.rd
  | .mkfn _ a b => rds a ++ rds b
  | .slcs x lo hi mx | .slcl _ x lo hi mx => x.rd ++ (rdo lo ++ (rdo hi ++ rdo mx))
  | .build _ parts => rdp parts

def EOp.rd : EOp → List Nat
  | .alloc _ | .vnil _ | .mkmap | .allocv _ _ => []
  | .clear _ x | .boxv _ _ x | .box _ x | .panic x | .rstr x | .nstr x | .isnil _ x => x.rd
  | .bsl _ _ _ parts | .bslz _ _ _ parts => rdp parts
  | .st a x | .stn _ a x | .stnv _ _ a x => a.rd ++ x.rd
  | .call _ args _ => rds args
  | .callv x args _ => x.rd ++ rds args
  | .app _ _ s x => s.rd ++ x.rd
  | .mapup _ m k v => m.rd ++ (k.rd ++ v.rd)

/-- Does it look at memory? -/
def POp.mem : POp → Bool
  | .ld _ | .ldn _ _ | .iadr .. | .slcl .. | .lenl _ | .lenm _ | .b2s _ | .look .. => true
  | _ => false

section
variable {env env' : Env} {hp hp' : Heap}

def EqOn (l : List Nat) (env env' : Env) : Prop := ∀ t ∈ l, eget env t = eget env' t
theorem EqOn.left {a b : List Nat} (h : EqOn (a ++ b) env env') : EqOn a env env' := fun t ht => h t (List.mem_append_left _ ht)
theorem EqOn.right {a b : List Nat} (h : EqOn (a ++ b) env env') : EqOn b env env' := fun t ht => h t (List.mem_append_right _ ht)

theorem Opd.ev_env {x : Opd} (h : EqOn x.rd env env') (g : Bool) : x.ev env g = x.ev env' g := by
  cases x with
  | s t => simp only [Opd.ev, Opd.val]; rw [h t (by simp [Opd.rd])]
  | c v => rfl

theorem evs_env (g : Bool) : ∀ {xs : List Opd}, EqOn (rds xs) env env' → evs env g xs = evs env' g xs
  | [], _ => rfl
  | x :: xs, h => by simp only [evs]; rw [Opd.ev_env h.left g, evs_env g (xs := xs) h.right]

theorem evo_env {x : Option Opd} (h : EqOn (rdo x) env env') (g : Bool) : evo env g x = evo env' g x := by
  cases x with
  | none => rfl
  | some x => simp only [evo]; rw [Opd.ev_env h g]

theorem evParts_env (g : Bool) : ∀ {xs : List (Nat × Nat × Opd)}, EqOn (rdp xs) env env' → evParts env g xs = evParts env' g xs
  | [], _ => rfl
  | (_, _, x) :: xs, h => by simp only [evParts]; rw [Opd.ev_env h.left g, evParts_env g (xs := xs) h.right]

theorem POp.ev_env {o : POp} (h : EqOn o.rd env env') (g : Bool) : o.ev ⟨env, hp⟩ g = o.ev ⟨env', hp⟩ g := by
  cases o <;> simp only [POp.rd] at h <;> simp only [POp.ev]
  case pick c a b =>
    have h1 := Opd.ev_env h.left
    have h2 := Opd.ev_env h.right.left
    have h3 := Opd.ev_env h.right.right
    simp only [h1, h2, h3]
  case mkfn f a b => rw [evs_env g h.left, evs_env g h.right]
  case slcs x lo hi mx => rw [Opd.ev_env h.left g, evo_env h.right.left g, evo_env h.right.right.left g, evo_env h.right.right.right g]
  case slcl z x lo hi mx => rw [Opd.ev_env h.left g, evo_env h.right.left g, evo_env h.right.right.left g, evo_env h.right.right.right g]
  case build zero parts => rw [evParts_env g h]
  all_goals first
    | exact Opd.ev_env h g
    | rw [Opd.ev_env h g]
    | rw [Opd.ev_env h.left g, Opd.ev_env h.right g]

theorem POp.ev_heap {o : POp} (h : o.mem = false) (g : Bool) : o.ev ⟨env, hp⟩ g = o.ev ⟨env, hp'⟩ g := by
  cases o <;> first | rfl | (simp [POp.mem] at h)

theorem EOp.wp_env {P : Program} {o : EOp} {K Kp : AV → Heap → Prop} (h : EqOn o.rd env env') (hw : o.wp P ⟨env, hp⟩ K Kp) : o.wp P ⟨env', hp⟩ K Kp := by
  cases o <;> simp only [EOp.rd] at h <;> simp only [EOp.wp] at hw ⊢
  case alloc => exact hw
  case vnil => exact hw
  case mkmap => exact hw
  case allocv => exact hw
  case bsl => rw [evParts_env true h] at hw; exact hw
  case bslz => rw [evParts_env true h] at hw; exact hw
  case call => rw [evs_env true h] at hw; exact hw
  case callv => rw [Opd.ev_env h.left true, evs_env true h.right] at hw; exact hw
  case mapup => rw [Opd.ev_env h.left true, Opd.ev_env h.right.left true, Opd.ev_env h.right.right true] at hw; exact hw
  all_goals first
    | (rw [Opd.ev_env h true] at hw; exact hw)
    | (rw [Opd.ev_env h.left true, Opd.ev_env h.right true] at hw; exact hw)

/-- What a guarded operation leaves. -/
def pval (st : St) (o : POp) : Option (Nat × Bool) → Option AV
  | none => o.ev st true
  | some g => (guardB st.env (some g)).ob fun b => match o.ev st b with
    | some v => some (.cond b v)
    | none => if b = true then none else some (.cond false .dead)

theorem pval_of {st : St} {o : POp} {g : Option (Nat × Bool)} {K : AV → Prop} (h : pureK st o g K) : ∃ v, pval st o g = some v ∧ K v := by
  cases g with
  | none => exact oK_of h
  | some g =>
    obtain ⟨b, h1, h⟩ := oK_of h
    simp only [pval, h1, ob_some]
    cases hv : o.ev st b with
    | none =>
      rw [hv, gK_none] at h
      obtain ⟨rfl, hk⟩ := h
      exact ⟨_, rfl, hk⟩
    | some v =>
      rw [hv, gK_some] at h
      exact ⟨_, rfl, h⟩

theorem pval_to {st : St} {o : POp} {g : Option (Nat × Bool)} {v : AV} (h : pval st o g = some v) : pureK st o g (fun u => u = v) := by
  cases g with
  | none => simp only [pval] at h; simp only [pureK, h, oK_some]
  | some g =>
    simp only [pval] at h
    obtain ⟨b, h1, h⟩ := ob_eq_some h
    simp only [pureK, h1, oK_some]
    cases hv : o.ev st b with
    | none =>
      rw [hv] at h
      cases b with
      | true => simp at h
      | false => simp at h; rw [gK_none]; exact ⟨rfl, h⟩
    | some u =>
      rw [hv] at h
      rw [gK_some]
      exact Option.some.inj h

theorem pval_stab {st : St} {d : Nat} {o : POp} {g : Option (Nat × Bool)} (h : stabK st (some d) o g) : pval st o g = some (eget st.env d) := by
  have : pureK st o g fun v => eget st.env d = v := by cases g <;> exact h
  obtain ⟨v, h1, h2⟩ := pval_of this
  rw [h1, h2]

def gRd : Option (Nat × Bool) → List Nat
  | none => []
  | some g => [g.1]

theorem guardB_env {g : Option (Nat × Bool)} (h : EqOn (gRd g) env env') : guardB env g = guardB env' g := by
  cases g with
  | none => rfl
  | some g => simp only [guardB]; rw [h g.1 (by simp [gRd])]

theorem pval_env {o : POp} {g : Option (Nat × Bool)} (h : EqOn (o.rd ++ gRd g) env env') : pval ⟨env, hp⟩ o g = pval ⟨env', hp⟩ o g := by
  cases g with
  | none => exact POp.ev_env h.left true
  | some g =>
    have h1 := guardB_env h.right
    have h2 : ∀ b, o.ev ⟨env, hp⟩ b = o.ev ⟨env', hp⟩ b := fun b => POp.ev_env h.left b
    simp only [pval, h1, h2]

theorem pval_heap {o : POp} {g : Option (Nat × Bool)} (h : o.mem = false) : pval ⟨env, hp⟩ o g = pval ⟨env, hp'⟩ o g := by
  have h2 : ∀ b, o.ev ⟨env, hp⟩ b = o.ev ⟨env, hp'⟩ b := fun b => POp.ev_heap h b
  cases g with
  | none => exact h2 true
  | some g => simp only [pval, h2]
end
end Go.Ab
