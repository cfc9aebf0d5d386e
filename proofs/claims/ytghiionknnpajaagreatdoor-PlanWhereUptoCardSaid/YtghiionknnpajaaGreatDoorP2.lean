/- Small laws for walks over lists. -/
import Derived.Test.YtghiionknnpajaaGreatDoorP1
set_option linter.unusedVariables false
set_option linter.unusedSimpArgs false
namespace Go.Ab

theorem gml {α β : Type} (f : α → β) {l pre post : List α} {x : α} (h : l = pre ++ x :: post) : (l.map f)[pre.length]? = some (f x) := by subst h; simp
theorem gl {α : Type} {l pre post : List α} {x : α} (h : l = pre ++ x :: post) : l[pre.length]? = some x := by subst h; simp
theorem nl {α : Type} {l pre post : List α} {x : α} (h : l = pre ++ x :: post) : l.length = pre.length + (post.length + 1) := by subst h; simp
theorem nl0 {α : Type} {l pre : List α} (h : l = pre ++ []) : l.length = pre.length := by subst h; simp
theorem ltT (n m : Nat) : (((n : Int) < ((n + (m + 1) : Nat) : Int))) = True := by simp; omega
theorem ltF (n : Nat) : (((n : Int) < (n : Int))) = False := by simp
@[go_sem] theorem ints_len (l : List Int) : (ints l).length = l.length := by simp [ints]
@[go_sem] theorem strs_len (l : List Str) : (strs l).length = l.length := by simp [strs]
theorem gints {l pre post : List Int} {x : Int} (h : l = pre ++ x :: post) : (ints l)[pre.length]? = some [.int .i64 x] := gml (fun n => [AV.int .i64 n]) h
theorem gstrs {l pre post : List Str} {x : Str} (h : l = pre ++ x :: post) : (strs l)[pre.length]? = some [.str x] := gml (fun n => [AV.str n]) h
@[go_sem] theorem ints_snoc (l : List Int) (x : Int) : ints l ++ [[.int .i64 x]] = ints (l ++ [x]) := by simp [ints]
@[go_sem] theorem strs_snoc (l : List Str) (x : Str) : strs l ++ [[.str x]] = strs (l ++ [x]) := by simp [strs]
@[go_sem] theorem ints_rows (l : List Int) : (∀ e ∈ ints l, e.length = 1 ∧ e.all AV.one = true) = True := by simp [ints, AV.one]
@[go_sem] theorem strs_rows (l : List Str) : (∀ e ∈ strs l, e.length = 1 ∧ e.all AV.one = true) = True := by simp [strs, AV.one]
@[go_sem] theorem take_map {α β : Type} (f : α → β) (l : List α) : (l.map f).take l.length = l.map f := by rw [← List.length_map (f := f)]; exact List.take_length
@[go_sem] theorem take_ints (l : List Int) : (ints l).take l.length = ints l := take_map _ _
@[go_sem] theorem take_strs (l : List Str) : (strs l).take l.length = strs l := take_map _ _
@[go_sem] theorem take_intsm {α : Type} (g : α → Int) (l : List α) : (ints (l.map g)).take l.length = ints (l.map g) := by have := take_ints (l.map g); simpa using this
@[go_sem] theorem take_strsm {α : Type} (g : α → Str) (l : List α) : (strs (l.map g)).take l.length = strs (l.map g) := by have := take_strs (l.map g); simpa using this
@[go_sem] theorem take_mapm {α β γ : Type} (f : β → γ) (g : α → β) (l : List α) : ((l.map g).map f).take l.length = (l.map g).map f := by have := take_map f (l.map g); simpa using this
@[go_sem] theorem un_dead (op : UnOp) : unV op .dead = none := rfl
@[go_sem] theorem bin_dead1 (op : BinOp) (y : AV) : binV op .dead y = none := rfl
@[go_sem] theorem bin_dead2 (op : BinOp) (x : AV) : binV op x .dead = none := by cases x <;> rfl
@[go_sem] theorem loadV_dead (h : Heap) : loadV h .dead = none := rfl
@[go_sem] theorem loadN_dead (n : Nat) (h : Heap) : loadN n h .dead = none := rfl
@[go_sem] theorem foff_dead (n : Nat) : foffV n .dead = none := rfl
@[go_sem] theorem lenl_dead (h : Heap) : lenlV h .dead = none := rfl
@[go_sem] theorem lens_dead : lensV .dead = none := rfl
@[go_sem] theorem iadr_dead (h : Heap) (z : Nat) (y : AV) : iadrV h z .dead y = none := rfl
@[go_sem] theorem fld_dead (n : Nat) : fldV n .dead = none := rfl
@[go_sem] theorem fldn_dead (n m : Nat) : fldnV n m .dead = none := rfl
@[go_sem] theorem ext_dead (n : Nat) : extV n .dead = none := rfl
@[go_sem] theorem nilc_dead : nilcV .dead = none := rfl
@[go_sem] theorem cvt_dead (k : IntKind) : cvtV k .dead = none := rfl
@[go_sem] theorem eqk_dead1 (k : EqK) (y : AV) : eqkV k .dead y = none := by cases k <;> rfl
@[go_sem] theorem eqk_dead2 (k : EqK) (x : AV) : eqkV k x .dead = none := by cases k <;> cases x <;> rfl
@[go_sem] theorem sel_dead1 (y : AV) : selV false .dead y = some y := by cases y <;> rfl
@[go_sem] theorem sel_dead2 (x : AV) : selV true x .dead = some x := by cases x <;> rfl
@[go_sem] theorem asBool_dead : asBool .dead = none := rfl
section
variable (h r : Heap) (l k : Nat) (o x : AObj)
@[go_sem] theorem sget0 : (h.set l o ++ r)[h.length]? = r[0]? := by rw [List.getElem?_append_right (by simp)]; simp
@[go_sem] theorem sgetk : (h.set l o ++ r)[h.length + k]? = r[k]? := by rw [List.getElem?_append_right (by simp)]; simp
@[go_sem] theorem sset0 : (h.set l o ++ r).set h.length x = h.set l o ++ r.set 0 x := by rw [List.set_append_right _ _ (by simp)]; simp
@[go_sem] theorem ssetk : (h.set l o ++ r).set (h.length + k) x = h.set l o ++ r.set k x := by rw [List.set_append_right _ _ (by simp)]; simp
@[go_sem] theorem stake : (h.set l o ++ r).take h.length = h.set l o := by rw [List.take_append_of_le_length (by simp)]; exact List.take_of_length_le (by simp)
@[go_sem] theorem stake0 : (h.set l o).take h.length = h.set l o := List.take_of_length_le (by simp)
end
attribute [go_sem] Option.isSome_none Option.isSome_some Bool.false_eq_true if_false
attribute [go_sem] ltT ltF eput.eq_1 eput.eq_2 Option.map_none Option.map_some

theorem zl {α : Type} {a b : List α} (hab : a.length = b.length) {pre post : List (α × α)} {x : α × α} (h : a.zip b = pre ++ x :: post) : a[pre.length]? = some x.1 ∧ b[pre.length]? = some x.2 ∧ a.length = pre.length + (post.length + 1) ∧ b.length = pre.length + (post.length + 1) := by
  have h1 : (a.zip b)[pre.length]? = some x := by rw [h]; simp
  rw [List.getElem?_zip_eq_some] at h1
  have h2 : (a.zip b).length = pre.length + (post.length + 1) := by rw [h]; simp
  rw [List.length_zip] at h2
  exact ⟨h1.1, h1.2, by omega, by omega⟩
theorem zn {α : Type} {a b : List α} (hab : a.length = b.length) {pre : List (α × α)} (h : a.zip b = pre ++ []) : a.length = pre.length ∧ b.length = pre.length := by
  have h2 : (a.zip b).length = pre.length := by rw [h]; simp
  rw [List.length_zip] at h2
  omega
theorem gmap {α β : Type} (f : α → β) {l : List α} {i : Nat} {x : α} (h : l[i]? = some x) : (l.map f)[i]? = some (f x) := by simp [h]
theorem zall {α : Type} [DecidableEq α] : ∀ {a b : List α}, a.length = b.length → ((a.zip b).all fun x => decide (x.1 = x.2)) = decide (a = b)
  | [], [], _ => rfl
  | x :: a, y :: b, h => by
    have ih := zall (a := a) (b := b) (by simpa using h)
    simp only [List.zip_cons_cons, List.all_cons, ih, List.cons.injEq]
    rw [Bool.eq_iff_iff]; simp
  | [], _ :: _, h => by simp at h
  | _ :: _, [], h => by simp at h
theorem ints_eq (l : List Int) : ints l = l.map fun n => [AV.int .i64 n] := rfl
theorem neqlen {n m : Nat} : ((n : Int) != (m : Int)) = !decide (n = m) := by
  by_cases h : n = m
  · simp [h]
  · simp [h]; omega
theorem dne {α : Type} {a b : List α} [DecidableEq α] (h : a.length ≠ b.length) : decide (a = b) = false := by
  simp; intro e; exact h (by rw [e])

section
variable {F : Fin_} {ks : List Kt} {keep : List Nat} {env : Env} {h : Heap}
theorem opS_sI {d : Nat} {o : POp} {r : List COper} (h1 : stab1 env d (o.ev ⟨env, h⟩ true)) (h2 : opS F ks keep r env h) : opS F ks keep (⟨some d, .s o, none⟩ :: r) env h := ⟨h1, h2⟩
theorem opS_sgI {d : Nat} {o : POp} {t : Nat} {wn : Bool} {r : List COper} (h1 : stabG env h d o (gval (eget env t) wn)) (h2 : opS F ks keep r env h) : opS F ks keep (⟨some d, .s o, some (t, wn)⟩ :: r) env h := ⟨h1, h2⟩
theorem opS_bI {d : Option Nat} {z len : Nat} {zero : List AV} {parts : List (Nat × Nat × Opd)} {r : List COper} (h1 : bslOk env z len zero parts) (h2 : opS F ks keep r env h) : opS F ks keep (⟨d, .b z len zero parts, none⟩ :: r) env h := ⟨h1, h2⟩
end
end Go.Ab
