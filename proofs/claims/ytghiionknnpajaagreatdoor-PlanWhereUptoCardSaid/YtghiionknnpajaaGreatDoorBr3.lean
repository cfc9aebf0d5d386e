/- The bridge, part 3: from a contract of the layer to what a row asks. -/
import Derived.Test.YtghiionknnpajaaGreatDoorBr2
import Derived.Test.YtghiionknnpajaaGreatDoorC11
import Derived.Lib.LaidU8T
import Derived.Below
import Derived.OpenShut
import Derived.ProofKit
import Derived.Deep.DeepHandedRow
import Derived.Deep.DeepWitnessRowRef
import Derived.Lib.LaidIn
set_option linter.unusedVariables false
set_option linter.unusedSimpArgs false
namespace Go.Ab.S2
set_option maxRecDepth 100000
open Go.Ab Go.ChangeShapes Go.WideShapes Go.ChangeAt Go.RowKit

theorem tb_of {W : World} (T : Lib.Utf8Tabs 0 1 W) : ∀ x ∈ TB, (ctx0 W).ok x.1 x.2.1 ∧ W.cell? ⟨x.1, x.2.1, none⟩ = some x.2.2 := by
  have key : ∀ x ∈ TB, W.cell? ⟨x.1, x.2.1, none⟩ = some x.2.2 := by
    obtain ⟨T1, T2⟩ := T
    intro x hx
    rcases List.mem_append.1 hx with hx | hx
    · obtain ⟨c, hc, rfl⟩ := List.mem_map.1 hx
      exact T1 c (by simpa using hc)
    · obtain ⟨j, hj, rfl⟩ := List.mem_map.1 hx
      have hj' : j < 32 := by simpa using hj
      obtain ⟨a, b⟩ := T2 (j / 2) (by omega)
      rcases Nat.mod_two_eq_zero_or_one j with h | h
      · rw [show 2 * (j / 2) = j by omega] at a
        simpa only [h, if_true] using a
      · rw [show 2 * (j / 2) + 1 = j by omega] at b
        rw [if_neg (by omega)]
        exact b
  exact fun x hx => ⟨cell_lt (key x hx), key x hx⟩

theorem hrel0 {W : World} (T : Lib.Utf8Tabs 0 1 W) : HRel (ctx0 W) W [] := by
  refine ⟨fun l o h => by simp at h, fun l l' b s z s' z' h => by simp [ctx0] at h, fun l _ => rfl, fun b j h => h, fun l b s z h => by simp [ctx0] at h, tb_of T⟩

theorem below_of {W W' : World} {C' : Ctx} (s : Step (ctx0 W) W C' W') : Below W.heap.size W W' := ⟨s.os, s.tape, s.output, s.size, fun k hk => s.out k hk (by simp [ctx0])⟩

theorem kidsP : Kids PP (· < PP.types.size) := kids_rows (by kernel_rfl) (by kernel_rfl)
theorem fullP : ∀ t e, t < PP.types.size → PP.underlying t = some (.slice e) → 0 < PP.cellsOf e := slices_full_of PP (by kernel_rfl)

theorem trodAll_carry {H : Type} {enc : TypeId × Go.Value → H} {P : Program} {w w' : World} {base : Nat} {sp : Nat → Bool} {held : Bool} : ∀ {ts : List TypeId} {vs : List Go.Value} {ds : List (DataW H)} {ps : List MemPlace},
    DataW.TrodAll enc P w base sp held ts vs ds ps → (∀ p ∈ ps, w.sameAt w' p) → DataW.TrodAll enc P w' base sp held ts vs ds ps
  | [], [], [], _, h, _ => h
  | _ :: _, _ :: _, _ :: _, _, ⟨p, q, ⟨n, h1⟩, h2, e⟩, hs => ⟨p, q, ⟨n, DataW.trod_carry n _ _ _ h1 fun x hx => hs x (by rw [e]; exact List.mem_append_left _ hx)⟩, trodAll_carry h2 fun x hx => hs x (by rw [e]; exact List.mem_append_right _ hx), e⟩

theorem law_calls {fn : Func} {s : ChangeSpec} {f : FuncId} {H : Type} {enc : TypeId × Go.Value → H} {W : World} {args : Array Go.Value} {ds gs : List (DataW H)} {before : List MemPlace} {avs : List AV}
    (hW : DataW.Whole enc PP fn.params.toList s.vars false W args.toList ds gs before) (hsv : s.vars = []) (hT : ∀ t ∈ fn.params.toList, t < PP.types.size) (hres : fn.resultTypes = #[4])
    (hspec : s.fn H ds = { results := [.lit (.bool true)], args := ds }) (htab : Lib.Utf8Tabs 0 1 W)
    (hrel : vrels (ctx0 W) W avs args.toList) (hA : SpecA PP f avs [] (fun r h' => r = .ret (.bool true) ∧ h' = [])) :
    Calls PP f args W fun e W' => ∃ v, e = .returned v ∧ s.post enc PP fn false true false false W args v W' := by
  have hlt := hW.lt
  have hW' := hW
  obtain ⟨p, q, h1, h2, rfl, -, -⟩ := hW
  rw [hsv] at h2
  obtain ⟨rfl, rfl⟩ := trodVars_none h2
  have hc := hA.2 (ctx0 W) W args.toList (hrel0 htab) hrel
  rw [Array.toArray_toList] at hc
  refine Calls.mono hc ?_
  rintro e W' ⟨C', r, h', S, hH, hv, hR⟩
  obtain ⟨rfl, rfl⟩ := hR
  obtain ⟨y, rfl, hy⟩ := hv
  simp only [vrel] at hy
  subst hy
  have hb := below_of S
  have e1 : s.fn H (ds ++ []) = { results := [.lit (.bool true)], args := ds } := by rw [List.append_nil]; exact hspec
  have hp : ∀ x ∈ p, x.block < W.heap.size := fun x hx => hlt x (by simp [hx])
  refine ⟨_, rfl, ds, [], _, [], p, [], hW', ?_, ?_, ?_, hb.frame _, fun h => by cases h⟩
  · rw [e1, hres]
    exact trodAll_mk1 (shut_bool Go.Proofs.Tryz.underlying4 _)
  · rw [e1]
    exact DataW.TrodAll.respare kidsP fullP hT (trodAll_carry h1 fun x hx => hb.same (hp x hx)) (fun x hx => by simpa using hp x hx)
  · rw [e1, hsv]
    rfl

theorem arg_struct {W : World} {b : Nat} {t : TypeId} {v : Go.Value} {fs : Array Field} {cs : List AV} (ht : PP.underlying t = some (.struct fs)) (hval : Go.Value.okWide PP W .any b t v) (h : vrels (ctx0 W) W cs v.cells.toList) : vrel (ctx0 W) W (.agg cs) v := by
  unfold Go.Value.okWide at hval
  rw [ht] at hval
  obtain ⟨us, rfl, -, -⟩ := hval
  simp only [vrel]
  exact ⟨us, rfl, h⟩

theorem arg_slice {W : World} {b : Nat} {t e : TypeId} {v : Go.Value} {c : AV} (ht : PP.underlying t = some (.slice e)) (hval : Go.Value.okWide PP W .any b t v) (h : vrels (ctx0 W) W [c] v.cells.toList) : vrel (ctx0 W) W c v := by
  obtain ⟨a0, len, cap, rfl⟩ := okWide_slice ht hval
  simp only [Go.Value.cells, vrels] at h
  obtain ⟨y, ys, e1, h1, rfl⟩ := h
  obtain rfl := (List.cons.inj e1).1
  exact h1
end Go.Ab.S2
