/- joistlaw16.PlanChecks, the second form: the row, the card. -/
import Derived.Test.YtghiionknnpajaaGreatDoorC17
import Derived.Test.YtghiionknnpajaaGreatDoorO4
set_option linter.unusedVariables false
set_option linter.unusedSimpArgs false
namespace Go.Proofs.YtghiionknnpajaaGreatDoor
open Go.Ab.S2 Go.Ab Go.ChangeShapes Go.WideShapes Go.ChangeAt Go.RowKit
set_option maxRecDepth 100000
namespace planChecks

theorem arg_int {W : World} {b : Nat} {t : TypeId} {v : Go.Value} {z : Int} (ht : Tryz.prog.underlying t = some (.int .i64)) (hval : Go.Value.okWide Tryz.prog W .any b t v) (h : vrels (ctx0 W) W [.int .i64 z] v.cells.toList) : vrel (ctx0 W) W (.int .i64 z) v := by
  obtain ⟨n, rfl⟩ := okWide_int ht hval
  simp only [Go.Value.cells, vrels] at h
  obtain ⟨y, ys, e1, h1, rfl⟩ := h
  obtain rfl := (List.cons.inj e1).1
  exact h1

theorem contract (H : Type) (enc : TypeId × Go.Value → H) (W : World) (base : Nat) (args : Array Go.Value) (ds gs : List (DataW H)) (before : List MemPlace)
    (hval : ∀ (j : Nat) t v, Tryz.f8.params[j]? = some t → args[j]? = some v → Value.okWide Tryz.prog W .any base t v)
    (hW : DataW.Whole enc Tryz.prog Tryz.f8.params.toList Rows.planChecksSpec.vars false W args.toList ds gs before) (hL : laidMetH Tryz.prog laidTwo W) (hk : Rows.uptoSmall H (ds ++ gs) = true) :
    Calls Tryz.prog 8 args W fun e W' => ∃ v, e = .returned v ∧ Rows.planChecksSpec.post enc Tryz.prog Tryz.f8 false true false false W args v W' := by
  have hW' := hW
  obtain ⟨p, q, hA0, hV, rfl, -, -⟩ := hW
  have hA : DataW.TrodAll enc Tryz.prog W 0 (fun _ => true) true Tryz.f8.params.toList args.toList ds p := hA0
  rw [Tryz.params8] at hA hval
  obtain ⟨v0, v1, v2, d0, d1, d2, p0, p1, p2, rfl, rfl, rfl, h0, h1, h2⟩ := trodAll_three hA
  obtain ⟨rfl, rfl⟩ := trodVars_none hV
  have hB : Rows.uptoBulkAll ([d0, d1, d2] ++ ([] : List (DataW H))) ≤ 1048576 := of_decide_eq_true hk
  simp only [List.append_nil, Rows.uptoBulkAll] at hB
  obtain ⟨n0, h0⟩ := h0
  obtain ⟨a0, r0, s0⟩ := rd (B := 1048576) 8 26 ok_Schema n0 _ _ h0 (by simp only; omega)
  obtain ⟨x0, rfl, w0⟩ := rd_Schema (Nat.le_refl _) r0
  obtain ⟨n1, h1⟩ := h1
  obtain ⟨a1, r1, s1⟩ := rd (B := 1048576) 8 54 ok_Request n1 _ _ h1 (by simp only; omega)
  obtain ⟨x1, rfl, w1⟩ := rd_Request (Nat.le_refl _) r1
  obtain ⟨n2, h2⟩ := h2
  obtain ⟨a2, r2, s2⟩ := rd (B := 1048576) 8 3 ok_int n2 _ _ h2 (by simp only; omega)
  obtain ⟨x2, rfl, l2, w2⟩ := rd_int r2
  refine law_calls (avs := [.agg x0.e, .agg x1.e, .int .i64 x2]) hW' rfl (by rw [Tryz.params8]; decide +kernel) (by kernel_rfl) rfl (tabs hL) ?_ (planchecks_spec x0 x1 x2 w0 w1 l2 w2 [])
  simp only [vrels]
  exact ⟨_, _, rfl, arg_struct Tryz.underlying26 (hval 0 26 v0 rfl rfl) s0, _, _, rfl, arg_struct Tryz.underlying54 (hval 1 54 v1 rfl rfl) s1, _, _, rfl, arg_int Tryz.underlying3 (hval 2 3 v2 rfl rfl) s2, rfl⟩

def wargs : Array Go.Value := #[.agg #[.int .i64 0, .slice none 0 0, .int .i64 0, .string ⟨#[]⟩, .string ⟨#[]⟩, .int .i64 0, .int .i64 0, .int .i64 0, .int .i64 0, .int .i64 0], .agg #[.int .i64 0, .string ⟨#[]⟩, .string ⟨#[]⟩, .slice none 0 0, .string ⟨#[]⟩, .string ⟨#[]⟩, .int .i64 0, .int .i64 0, .string ⟨#[]⟩, .slice none 0 0, .string ⟨#[]⟩, .string ⟨#[]⟩, .int .i64 0, .int .i64 0, .int .i64 0, .int .i64 0], .int .i64 0]
def wds (H : Type) : List (DataW H) := [.agg [.lit (.int .i64 0), .nil, .agg [.lit (.int .i64 0), .lit (.string []), .lit (.string []), .lit (.int .i64 0), .lit (.int .i64 0), .lit (.int .i64 0), .lit (.int .i64 0)], .lit (.int .i64 0)], .agg [.lit (.int .i64 0), .lit (.string []), .lit (.string []), .nil, .lit (.string []), .lit (.string []), .agg [.lit (.int .i64 0), .lit (.int .i64 0), .lit (.string [])], .agg [.nil, .lit (.string []), .lit (.string []), .lit (.int .i64 0), .lit (.int .i64 0), .lit (.int .i64 0), .lit (.int .i64 0)]], .lit (.int .i64 0)]

theorem witness_row (os : Os) {H : Type} (enc : TypeId × Go.Value → H) :
    (Rows.OpenSpec.upto Rows.planChecksSpec).preRow enc Tryz.prog Tryz.f8 Rows.planChecksUptoRow.domain false Rows.planChecksUptoRow.laid ((laidWorld os).forCall (fun _ _ => 0) ⟨#[], wargs, []⟩).memory wargs := by
  have hw : (DataW.whole enc Tryz.prog ((laidWorld os).forCall (fun _ _ => 0) ⟨#[], wargs, []⟩).memory Tryz.f8.params.toList Rows.planChecksSpec.vars false wargs.toList 8).map (fun x => (x.1, x.2.1)) =
      some (wds H, []) := by kernel_rfl
  obtain ⟨⟨x1, x2, x3⟩, hx, hx1⟩ := Option.map_eq_some_iff.1 hw
  simp only [Prod.mk.injEq] at hx1
  obtain ⟨rfl, rfl⟩ := hx1
  exact OpenSpec.preRow_of_cond 8 hx (by kernel_rfl) (fun k hk => by cases hk; kernel_rfl) (by kernel_rfl) (laid_met os _)

theorem lifted (os : Os) (started : os.Started) (H : Type) (enc : TypeId × Go.Value → H) (F : Stop.Interp) :
    ReturnsInHanded {} Tryz.checked os 8 .any ((Rows.OpenSpec.upto Rows.planChecksSpec).preRow enc Tryz.prog Tryz.f8 Rows.planChecksUptoRow.domain false Rows.planChecksUptoRow.laid) (((Rows.OpenSpec.upto Rows.planChecksSpec).at F).post enc Tryz.prog Tryz.f8 false true false false) := by
  refine returnsInHanded_of_row (C := Tryz.checked) (s := Rows.OpenSpec.upto Rows.planChecksSpec) own started (by kernel_rfl) Tryz.func8
    (witness_row_at (enc := enc) (C := Tryz.checked) false (laidWorld os) wargs rfl (by kernel_rfl) (by kernel_rfl) (by kernel_rfl) (witness_row os enc)) ?_
  intro W base args ds gs before hval hW _ hcond _ hL _ _
  exact contract H enc W base args ds gs before hval hW hL (hcond _ rfl)

theorem said : Rows.PlanChecksUptoSaid :=
  OpenClaim.holds_of_cond 8 Tryz.f8 rfl rfl rfl rfl rfl rfl rfl ⟨rfl, rfl, rfl, rfl, rfl⟩ rfl rfl rfl rfl rfl (by kernel_rfl) Tryz.func8 (by kernel_rfl)
    (of_decide_eq_true (by kernel_rfl)) (by unfold Func.isWrapper; first | (rw [if_pos (by decide +kernel)]; kernel_rfl) | (rw [if_neg (by decide +kernel)]; exact ⟨rfl, rfl⟩))
    (fun os started H enc _ F => by rw [OpenClaim.pre_eq_preRow]; exact lifted os started H enc F)

theorem plain (f : FuncId) (fn : Func) (hf : Tryz.pinned.checked.prog.funcNamed "joist/joistlaw16.PlanChecks" = some f) (hfn : Tryz.pinned.checked.prog.funcs[f]? = some fn) :
    false = Tryz.pinned.checked.prog.looks [] ∧ ∀ (j : Nat) t, fn.params[j]? = some t → Tryz.pinned.checked.prog.wantsStandIn t = false := by
  obtain rfl : f = 8 := Option.some.inj ((show Tryz.prog.funcNamed "joist/joistlaw16.PlanChecks" = some 8 by kernel_rfl).symm.trans hf) |>.symm
  obtain rfl : fn = Tryz.f8 := (Option.some.inj (Tryz.func8.symm.trans hfn)).symm
  refine ⟨by kernel_rfl, fun j t ht => ?_⟩
  rw [Tryz.params8] at ht
  have : t = 26 ∨ t = 54 ∨ t = 3 := by simpa using Array.mem_of_getElem? ht
  rcases this with rfl | rfl | rfl
  · exact (show Tryz.prog.wantsStandIn 26 = false by kernel_rfl)
  · exact (show Tryz.prog.wantsStandIn 54 = false by kernel_rfl)
  · exact (show Tryz.prog.wantsStandIn 3 = false by kernel_rfl)

end planChecks

/-- THE CARD of PlanChecks, the second form. -/
theorem planChecksUpto_card : Rows.PlanChecksUptoCardSaid :=
  Claim7.holds_tied_plain_at .later [] _ _ _ _ planChecks.said (fun _ h => by cases h) (by kernel_rfl) (fun _ h => by cases h) planChecksUpto_row_tie rfl ⟨rfl, rfl⟩ (by kernel_rfl) rfl planChecks.plain (by kernel_rfl)
#print axioms planChecksUpto_card
end Go.Proofs.YtghiionknnpajaaGreatDoor
