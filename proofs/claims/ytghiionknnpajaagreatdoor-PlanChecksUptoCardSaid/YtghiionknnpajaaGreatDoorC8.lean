/- Contracts of the program's names and of its schema. -/
import Derived.Test.YtghiionknnpajaaGreatDoorK2
set_option linter.unusedVariables false
set_option linter.unusedSimpArgs false
namespace Go.Ab.S2
open Go.Ab
set_option maxRecDepth 100000

def otherR (r : Int) : Bool := (decide (r < 97) || decide (122 < r)) && (decide (r < 48) || decide (57 < r))

theorem other_schema (r : Int) : Ans N.schema_name_1 [.int .i32 r] (.bool (otherR r)) := by
  intro h
  refine spec_of ck_schema_name_1 ?_
  rw [wp_start]
  simp (maxSteps := 1000000) (disch := omega) only [go_sem, ↓reduceIte, Nat.reduceEqDiff, reduceCtorEq, F.schema_name_1]
  refine finS_l ?_
  simp (maxSteps := 1000000) (disch := omega) only [go_sem]
  all_goals simp [otherR]
theorem other_filter (r : Int) : Ans N.filter_name_1 [.int .i32 r] (.bool (otherR r)) := by
  intro h
  refine spec_of ck_filter_name_1 ?_
  rw [wp_start]
  simp (maxSteps := 1000000) (disch := omega) only [go_sem, ↓reduceIte, Nat.reduceEqDiff, reduceCtorEq, F.filter_name_1]
  refine finS_l ?_
  simp (maxSteps := 1000000) (disch := omega) only [go_sem]
  all_goals simp [otherR]
theorem other_plan (r : Int) : Ans N.plan_name_1 [.int .i32 r] (.bool (otherR r)) := by
  intro h
  refine spec_of ck_plan_name_1 ?_
  rw [wp_start]
  simp (maxSteps := 1000000) (disch := omega) only [go_sem, ↓reduceIte, Nat.reduceEqDiff, reduceCtorEq, F.plan_name_1]
  refine finS_l ?_
  simp (maxSteps := 1000000) (disch := omega) only [go_sem]
  all_goals simp [otherR]

theorem bt (b : Bool) : (b == true) = b := by cases b <;> rfl
theorem other_lo {b : UInt8} (h : b.toNat < 128) : otherR (b.toNat : Int) = !nameB b := by
  unfold otherR nameB
  rw [Bool.eq_iff_iff]
  simp
  try omega
theorem other_hi {r : Int} (h : 128 ≤ r) : otherR r = true := by
  unfold otherR
  simp
  omega
theorem nameB_hi {b : UInt8} (h : 128 ≤ b.toNat) : nameB b = false := by
  unfold nameB
  simp
  omega

theorem indexOther (s : Str) (f : FuncId) (h : Heap) (hf : ∀ r, Ans f [.int .i32 r] (.bool (otherR r))) :
    SpecA PP N.strings_indexFunc [.str s, .fn f [] [], .bool true] h (fun r h' => r = .ret (.int .i64 (idx (fun b => !nameB b) s)) ∧ h' = h) := by
  refine spec_of ck_strings_indexFunc ?_
  rw [wp_start]
  simp (maxSteps := 1000000) (disch := omega) only [go_sem, ↓reduceIte, Nat.reduceAdd, Nat.reduceEqDiff, Int.reduceNeg, reduceCtorEq, F.strings_indexFunc]
  intro s1
  refine loopS_list s (fun pre (_ : Unit) => ⟨[(1, .fn f [] []), (2, .bool true), (10, .it h.length s1)], h ++ [.sit s1 s pre.length]⟩) (fun pre post _ => s.findIdx? (fun b => !nameB b) = (post.findIdx? (fun b => !nameB b)).map (· + pre.length)) () rfl (by simp) ?_
  rintro pre post ⟨⟩ hpp hJ
  cases post with
  | nil =>
    have hn := nl0 hpp
    simp (maxSteps := 1000000) (disch := omega) only [go_sem, ↓reduceIte, Nat.reduceEqDiff, Int.reduceNeg, hn]
    refine ⟨fun hc => absurd hc (Nat.lt_irrefl _), fun _ => ?_⟩
    try simp (maxSteps := 1000000) (disch := omega) only [go_sem, opS_s, opS_sg, opS_b, opS_bg, ↓reduceIte, Nat.reduceAdd, Nat.reduceMul, Nat.reduceSub, Nat.reduceEqDiff, Nat.reduceLeDiff, Nat.reduceLT, Nat.reduceBEq, Int.reduceBEq, Int.reduceBNe, Int.reduceEq, Int.reduceNeg, Int.reduceAdd, Int.reduceSub, Int.reduceMul, List.cons_beq_cons, BEq.rfl, Int.reduceToNat, Int.reduceLE, Int.reduceLT, reduceCtorEq]
    refine finS_l ?_
    simp (maxSteps := 1000000) (disch := omega) only [go_sem, Int.reduceNeg]
    all_goals simp [idx, hJ]
  | cons x post =>
    have hn := nl hpp
    simp (maxSteps := 1000000) (disch := omega) only [go_sem, ↓reduceIte, Nat.reduceEqDiff, Int.reduceNeg, hn]
    refine ⟨fun _ => ?_, fun hc => absurd (by omega) hc⟩
    refine callS_exact (hf _ _) ?_
    simp (maxSteps := 1000000) (disch := omega) only [go_sem, ↓reduceIte, Nat.reduceEqDiff, Int.reduceNeg]
    by_cases hb : x.toNat < 128
    · simp (maxSteps := 1000000) (disch := omega) only [go_sem, Int.reduceNeg, dec_ascii hpp hb, other_lo hb, bt]
      rw [condS_some]; refine ⟨fun hx => ?_, fun hx => ?_⟩
      · simp (maxSteps := 1000000) (disch := omega) only [go_sem, ↓reduceIte, Nat.reduceEqDiff, Int.reduceNeg]
        refine finS_l ?_
        simp (maxSteps := 1000000) (disch := omega) only [go_sem]
        all_goals simp [(fidx hJ).1 hx]
      · simp (maxSteps := 1000000) (disch := omega) only [go_sem, Int.reduceNeg]
        refine lp_next (h.length + 1) () hpp ((fidx hJ).2 hx) ?_ ?_
        · simp (maxSteps := 1000000) (disch := omega) only [go_sem, ↓reduceIte, Nat.reduceEqDiff]
        · simp (maxSteps := 1000000) (disch := omega) only [go_sem]
    · have hr := dec_high hpp (by omega)
      simp (maxSteps := 1000000) (disch := omega) only [go_sem, ↓reduceIte, Nat.reduceEqDiff, Int.reduceNeg, BEq.rfl, other_hi (r := ((Utf8.decode ⟨s.toArray⟩ pre.length).1 : Int)) (by omega)]
      have hx : (!nameB x) = true := by rw [nameB_hi (by omega)]; rfl
      refine finS_l ?_
      simp (maxSteps := 1000000) (disch := omega) only [go_sem]
      all_goals simp [(fidx hJ).1 hx]

theorem indexOther2 (s : Str) (f : FuncId) (h : Heap) (hf : ∀ r, Ans f [.int .i32 r] (.bool (otherR r))) :
    SpecA PP N.strings_IndexFunc [.str s, .fn f [] []] h (fun r h' => r = .ret (.int .i64 (idx (fun b => !nameB b) s)) ∧ h' = h) := by
  refine spec_of ck_strings_IndexFunc ?_
  rw [wp_start]
  simp (maxSteps := 1000000) (disch := omega) only [go_sem, ↓reduceIte, Nat.reduceAdd, Nat.reduceEqDiff, reduceCtorEq, F.strings_IndexFunc]
  refine callS_exact (indexOther s f h hf) ?_
  simp (maxSteps := 1000000) (disch := omega) only [go_sem, ↓reduceIte]
  refine finS_l ?_
  simp (maxSteps := 1000000) (disch := omega) only [go_sem]
  all_goals simp []

theorem containsOther (s : Str) (f : FuncId) (h : Heap) (hf : ∀ r, Ans f [.int .i32 r] (.bool (otherR r))) :
    SpecA PP N.strings_ContainsFunc [.str s, .fn f [] []] h (fun r h' => r = .ret (.bool (s.any fun b => !nameB b)) ∧ h' = h) := by
  refine spec_of ck_strings_ContainsFunc ?_
  rw [wp_start]
  simp (maxSteps := 1000000) (disch := omega) only [go_sem, ↓reduceIte, Nat.reduceAdd, Nat.reduceEqDiff, reduceCtorEq, F.strings_ContainsFunc]
  refine callS_exact (indexOther2 s f h hf) ?_
  simp (maxSteps := 1000000) (disch := omega) only [go_sem, ↓reduceIte]
  refine finS_l ?_
  simp (maxSteps := 1000000) (disch := omega) only [go_sem]
  all_goals simp [idx_any]

theorem nameR_eq (s : Str) : ((!(s == ([] : Str)) && decide ((s.length : Int) ≤ 8)) && !(s.any fun b => !nameB b)) = nameR s := by
  have h1 : (!(s.any fun b => !nameB b)) = s.all nameB := by rw [List.not_any_eq_all_not]; simp
  rw [h1]
  unfold nameR
  cases s with
  | nil => simp
  | cons x s =>
    have e : ((x :: s) == ([] : Str)) = false := rfl
    have e1 : decide (1 ≤ (((x :: s).length : Nat) : Int)) = true := by simp; omega
    simp only [e, e1, Bool.not_false, Bool.true_and]
    exact Bool.and_comm _ _

theorem name_schema (s : Str) : Ans N.schema_name [.str s] (.bool (nameR s)) := by
  intro h
  refine spec_of ck_schema_name ?_
  rw [wp_start]
  simp (maxSteps := 1000000) (disch := omega) only [go_sem, ↓reduceIte, Nat.reduceEqDiff, reduceCtorEq, F.schema_name]
  rw [← nameR_eq]
  rw [opEg_some]; refine ⟨fun hg => ?_, fun hg => ?_⟩ <;> try simp only [Bool.and_eq_true, Bool.not_eq_true'] at hg
  · simp (maxSteps := 1000000) (disch := omega) only [go_sem, ↓reduceIte, hg]
    refine callS_exact (containsOther s _ h other_schema) ?_
    simp (maxSteps := 1000000) (disch := omega) only [go_sem, ↓reduceIte, Nat.reduceEqDiff]
    refine finS_l ?_
    simp (maxSteps := 1000000) (disch := omega) only [go_sem]
    all_goals simp [hg]
  · simp (maxSteps := 1000000) (disch := omega) only [go_sem, ↓reduceIte, Nat.reduceEqDiff, hg]
    refine finS_l ?_
    simp (maxSteps := 1000000) (disch := omega) only [go_sem]
    all_goals simp [hg]
theorem name_filter (s : Str) : Ans N.filter_name [.str s] (.bool (nameR s)) := by
  intro h
  refine spec_of ck_filter_name ?_
  rw [wp_start]
  simp (maxSteps := 1000000) (disch := omega) only [go_sem, ↓reduceIte, Nat.reduceEqDiff, reduceCtorEq, F.filter_name]
  rw [← nameR_eq]
  rw [opEg_some]; refine ⟨fun hg => ?_, fun hg => ?_⟩ <;> try simp only [Bool.and_eq_true, Bool.not_eq_true'] at hg
  · simp (maxSteps := 1000000) (disch := omega) only [go_sem, ↓reduceIte, hg]
    refine callS_exact (containsOther s _ h other_filter) ?_
    simp (maxSteps := 1000000) (disch := omega) only [go_sem, ↓reduceIte, Nat.reduceEqDiff]
    refine finS_l ?_
    simp (maxSteps := 1000000) (disch := omega) only [go_sem]
    all_goals simp [hg]
  · simp (maxSteps := 1000000) (disch := omega) only [go_sem, ↓reduceIte, Nat.reduceEqDiff, hg]
    refine finS_l ?_
    simp (maxSteps := 1000000) (disch := omega) only [go_sem]
    all_goals simp [hg]
theorem name_plan (s : Str) : Ans N.plan_name [.str s] (.bool (nameR s)) := by
  intro h
  refine spec_of ck_plan_name ?_
  rw [wp_start]
  simp (maxSteps := 1000000) (disch := omega) only [go_sem, ↓reduceIte, Nat.reduceEqDiff, reduceCtorEq, F.plan_name]
  rw [← nameR_eq]
  rw [opEg_some]; refine ⟨fun hg => ?_, fun hg => ?_⟩ <;> try simp only [Bool.and_eq_true, Bool.not_eq_true'] at hg
  · simp (maxSteps := 1000000) (disch := omega) only [go_sem, ↓reduceIte, hg]
    refine callS_exact (containsOther s _ h other_plan) ?_
    simp (maxSteps := 1000000) (disch := omega) only [go_sem, ↓reduceIte, Nat.reduceEqDiff]
    refine finS_l ?_
    simp (maxSteps := 1000000) (disch := omega) only [go_sem]
    all_goals simp [hg]
  · simp (maxSteps := 1000000) (disch := omega) only [go_sem, ↓reduceIte, Nat.reduceEqDiff, hg]
    refine finS_l ?_
    simp (maxSteps := 1000000) (disch := omega) only [go_sem]
    all_goals simp [hg]

theorem within_spec (n a b : Int) : Ans N.schema_within [.int .i64 n, .int .i64 a, .int .i64 b] (.bool (decide (a ≤ n) && decide (n ≤ b))) := by
  intro h
  refine spec_of ck_schema_within ?_
  rw [wp_start]
  simp (maxSteps := 1000000) (disch := omega) only [go_sem, ↓reduceIte, Nat.reduceAdd, Nat.reduceEqDiff, reduceCtorEq, F.schema_within]
  refine finS_l ?_
  simp (maxSteps := 1000000) (disch := omega) only [go_sem]
  all_goals simp []
theorem state_spec (n : Int) : Ans N.schema_state [.int .i64 n] (.bool (decide (1 ≤ n) && decide (n ≤ 3))) := by
  intro h
  refine spec_of ck_schema_state ?_
  rw [wp_start]
  simp (maxSteps := 1000000) (disch := omega) only [go_sem, ↓reduceIte, reduceCtorEq, F.schema_state]
  refine callS_exact (within_spec n 1 3 h) ?_
  simp (maxSteps := 1000000) (disch := omega) only [go_sem, ↓reduceIte]
  refine finS_l ?_
  simp (maxSteps := 1000000) (disch := omega) only [go_sem]
  all_goals simp []
theorem layouts1_spec (l : Layout) : Ans N.schema_layouts_1 [.agg l.e] (.int .i64 l.group) := by
  intro h
  refine spec_of ck_schema_layouts_1 ?_
  rw [wp_start]
  simp (maxSteps := 1000000) (disch := omega) only [go_sem, ↓reduceIte, F.schema_layouts_1]
  intro s
  refine finS_l ?_
  simp (maxSteps := 1000000) (disch := omega) only [go_sem]
  all_goals simp []
theorem cols2_spec (l : Column) : Ans N.schema_cols_2 [.agg l.e] (.str l.qual) := by
  intro h
  refine spec_of ck_schema_cols_2 ?_
  rw [wp_start]
  simp (maxSteps := 1000000) (disch := omega) only [go_sem, ↓reduceIte, F.schema_cols_2]
  intro s
  refine finS_l ?_
  simp (maxSteps := 1000000) (disch := omega) only [go_sem]
  all_goals simp []
theorem right2_spec (l : Family) : Ans N.schema_Right_2 [.agg l.e] (.str l.name) := by
  intro h
  refine spec_of ck_schema_Right_2 ?_
  rw [wp_start]
  simp (maxSteps := 1000000) (disch := omega) only [go_sem, ↓reduceIte, F.schema_Right_2]
  intro s
  refine finS_l ?_
  simp (maxSteps := 1000000) (disch := omega) only [go_sem]
  all_goals simp []
theorem colBad_eq (c : Column) : (decide (12 < (c.qual.length : Int)) || !(decide (1 ≤ c.kind) && decide (c.kind ≤ 5)) || !(decide (1 ≤ c.state) && decide (c.state ≤ 3))) = colBad c := by
  unfold colBad; rw [Bool.eq_iff_iff]; simp; omega
theorem cols1_spec (c : Column) : Ans N.schema_cols_1 [.agg c.e] (.bool (colBad c)) := by
  intro h
  rw [← colBad_eq]
  refine spec_of ck_schema_cols_1 ?_
  rw [wp_start]
  simp (maxSteps := 1000000) (disch := omega) only [go_sem, ↓reduceIte, Nat.reduceEqDiff, F.schema_cols_1]
  intro s
  rw [opEg_some]; refine ⟨fun hg => ?_, fun hg => ?_⟩ <;> try simp only [Bool.not_eq_true', Bool.not_eq_false'] at hg
  · simp (maxSteps := 1000000) (disch := omega) only [go_sem, ↓reduceIte, hg]
    refine callS_exact (within_spec c.kind 1 5 _) ?_
    simp (maxSteps := 1000000) (disch := omega) only [go_sem, ↓reduceIte, Nat.reduceEqDiff]
    have hg1 := hg
    rw [opEg_some]; refine ⟨fun hg => ?_, fun hg => ?_⟩ <;> try simp only [Bool.and_eq_true] at hg
    · simp (maxSteps := 1000000) (disch := omega) only [go_sem, ↓reduceIte, hg]
      refine callS_exact (state_spec c.state _) ?_
      simp (maxSteps := 1000000) (disch := omega) only [go_sem, ↓reduceIte, Nat.reduceEqDiff]
      refine finS_l ?_
      simp (maxSteps := 1000000) (disch := omega) only [go_sem]
      all_goals simp [hg1, hg]
    · simp (maxSteps := 1000000) (disch := omega) only [go_sem, ↓reduceIte, Nat.reduceEqDiff, hg]
      refine finS_l ?_
      simp (maxSteps := 1000000) (disch := omega) only [go_sem]
      all_goals simp [hg1, hg]
  · simp (maxSteps := 1000000) (disch := omega) only [go_sem, ↓reduceIte, Nat.reduceEqDiff, hg]
    refine finS_l ?_
    simp (maxSteps := 1000000) (disch := omega) only [go_sem]
    all_goals simp [hg]

theorem once_string_spec (l : List Family) (f : FuncId) (g : Family → Str) (hl : l.length < 1099511627776) (hf : ∀ x, Ans f [.agg (Family.e x)] (.str (g x))) : Ans N.schema_once_string [.psl (l.map Family.e), .fn f [] []] (.bool (decide (l.map g).Nodup)) := by
  intro h
  refine spec_of ck_schema_once_string ?_
  rw [wp_start]
  simp (maxSteps := 1000000) (disch := omega) only [go_sem, ↓reduceIte, Nat.reduceAdd, Nat.reduceEqDiff, reduceCtorEq, F.schema_once_string]
  intro s1
  refine loopS_list l (fun pre (m : List (Str × Int)) => ⟨[(0, .psl (l.map Family.e)), (1, .fn f [] []), (5, .mp h.length s1), (9, .psl (l.map Family.e)), (10, .int .i64 l.length), (11, .int .i64 pre.length)], h ++ [.mp s1 (mpS m)]⟩) (fun pre post m => Cnt (pre.map g) m) [] rfl .nil ?_
  rintro pre post m hpp hJ
  cases post with
  | nil =>
    have hn := nl0 hpp
    simp only [List.append_nil] at hpp
    simp (maxSteps := 1000000) (disch := omega) only [go_sem, ↓reduceIte, Nat.reduceEqDiff, reduceCtorEq, hn]
    have key : ((m.length : Int) == (pre.length : Int)) = decide (l.map g).Nodup := by
      have := hJ.eq
      rw [List.length_map] at this
      rw [Bool.eq_iff_iff, hpp]
      simp only [beq_iff_eq, Int.natCast_inj, decide_eq_true_eq]
      exact this
    refine finS_l ?_
    simp (maxSteps := 1000000) (disch := omega) only [go_sem]
    all_goals simp [key]
  | cons x post =>
    have hn := nl hpp
    simp (maxSteps := 1000000) (disch := omega) only [go_sem, ↓reduceIte, Nat.reduceAdd, Nat.reduceEqDiff, reduceCtorEq, gml Family.e hpp, hn]
    intro s2
    refine callS_exact (hf x _) ?_
    simp (maxSteps := 1000000) (disch := omega) only [go_sem, ↓reduceIte, Nat.reduceEqDiff]
    cases hlk : List.lookup (g x) m with
    | none =>
      simp (maxSteps := 1000000) (disch := omega) only [go_sem, ↓reduceIte, Nat.reduceEqDiff, Int.reduceAdd, reduceCtorEq]
      refine lp_next (h.length + 1) (putK (g x) (IntKind.i64.wrap 1) m) hpp ?_ ?_ ?_
      · simpa using hJ.step (g x) (IntKind.i64.wrap 1)
      · simp (maxSteps := 1000000) (disch := omega) only [go_sem, ↓reduceIte, Nat.reduceEqDiff, reduceCtorEq, wrap64, Int.natCast_add, Int.cast_ofNat_Int]
      · simp (maxSteps := 1000000) (disch := omega) only [go_sem]
    | some v =>
      simp (maxSteps := 1000000) (disch := omega) only [go_sem, ↓reduceIte, Nat.reduceEqDiff, reduceCtorEq]
      refine lp_next (h.length + 1) (putK (g x) (IntKind.i64.wrap (v + 1)) m) hpp ?_ ?_ ?_
      · simpa using hJ.step (g x) (IntKind.i64.wrap (v + 1))
      · simp (maxSteps := 1000000) (disch := omega) only [go_sem, ↓reduceIte, Nat.reduceEqDiff, reduceCtorEq, wrap64, Int.natCast_add, Int.cast_ofNat_Int]
      · simp (maxSteps := 1000000) (disch := omega) only [go_sem]
theorem once_int_spec (l : List Layout) (f : FuncId) (g : Layout → Int) (hl : l.length < 1099511627776) (hf : ∀ x, Ans f [.agg (Layout.e x)] (.int .i64 (g x))) : Ans N.schema_once_int [.psl (l.map Layout.e), .fn f [] []] (.bool (decide (l.map g).Nodup)) := by
  intro h
  refine spec_of ck_schema_once_int ?_
  rw [wp_start]
  simp (maxSteps := 1000000) (disch := omega) only [go_sem, ↓reduceIte, Nat.reduceAdd, Nat.reduceEqDiff, reduceCtorEq, F.schema_once_int]
  intro s1
  refine loopS_list l (fun pre (m : List (Int × Int)) => ⟨[(0, .psl (l.map Layout.e)), (1, .fn f [] []), (5, .mp h.length s1), (9, .psl (l.map Layout.e)), (10, .int .i64 l.length), (11, .int .i64 pre.length)], h ++ [.mp s1 (mpI m)]⟩) (fun pre post m => Cnt (pre.map g) m) [] rfl .nil ?_
  rintro pre post m hpp hJ
  cases post with
  | nil =>
    have hn := nl0 hpp
    simp only [List.append_nil] at hpp
    simp (maxSteps := 1000000) (disch := omega) only [go_sem, ↓reduceIte, Nat.reduceEqDiff, reduceCtorEq, hn]
    have key : ((m.length : Int) == (pre.length : Int)) = decide (l.map g).Nodup := by
      have := hJ.eq
      rw [List.length_map] at this
      rw [Bool.eq_iff_iff, hpp]
      simp only [beq_iff_eq, Int.natCast_inj, decide_eq_true_eq]
      exact this
    refine finS_l ?_
    simp (maxSteps := 1000000) (disch := omega) only [go_sem]
    all_goals simp [key]
  | cons x post =>
    have hn := nl hpp
    simp (maxSteps := 1000000) (disch := omega) only [go_sem, ↓reduceIte, Nat.reduceAdd, Nat.reduceEqDiff, reduceCtorEq, gml Layout.e hpp, hn]
    intro s2
    refine callS_exact (hf x _) ?_
    simp (maxSteps := 1000000) (disch := omega) only [go_sem, ↓reduceIte, Nat.reduceEqDiff]
    cases hlk : List.lookup (g x) m with
    | none =>
      simp (maxSteps := 1000000) (disch := omega) only [go_sem, ↓reduceIte, Nat.reduceEqDiff, Int.reduceAdd, reduceCtorEq]
      refine lp_next (h.length + 1) (putK (g x) (IntKind.i64.wrap 1) m) hpp ?_ ?_ ?_
      · simpa using hJ.step (g x) (IntKind.i64.wrap 1)
      · simp (maxSteps := 1000000) (disch := omega) only [go_sem, ↓reduceIte, Nat.reduceEqDiff, reduceCtorEq, wrap64, Int.natCast_add, Int.cast_ofNat_Int]
      · simp (maxSteps := 1000000) (disch := omega) only [go_sem]
    | some v =>
      simp (maxSteps := 1000000) (disch := omega) only [go_sem, ↓reduceIte, Nat.reduceEqDiff, reduceCtorEq]
      refine lp_next (h.length + 1) (putK (g x) (IntKind.i64.wrap (v + 1)) m) hpp ?_ ?_ ?_
      · simpa using hJ.step (g x) (IntKind.i64.wrap (v + 1))
      · simp (maxSteps := 1000000) (disch := omega) only [go_sem, ↓reduceIte, Nat.reduceEqDiff, reduceCtorEq, wrap64, Int.natCast_add, Int.cast_ofNat_Int]
      · simp (maxSteps := 1000000) (disch := omega) only [go_sem]
theorem once_string_2_spec (l : List Column) (f : FuncId) (g : Column → Str) (hl : l.length < 1099511627776) (hf : ∀ x, Ans f [.agg (Column.e x)] (.str (g x))) : Ans N.schema_once_string_2 [.psl (l.map Column.e), .fn f [] []] (.bool (decide (l.map g).Nodup)) := by
  intro h
  refine spec_of ck_schema_once_string_2 ?_
  rw [wp_start]
  simp (maxSteps := 1000000) (disch := omega) only [go_sem, ↓reduceIte, Nat.reduceAdd, Nat.reduceEqDiff, reduceCtorEq, F.schema_once_string_2]
  intro s1
  refine loopS_list l (fun pre (m : List (Str × Int)) => ⟨[(0, .psl (l.map Column.e)), (1, .fn f [] []), (5, .mp h.length s1), (9, .psl (l.map Column.e)), (10, .int .i64 l.length), (11, .int .i64 pre.length)], h ++ [.mp s1 (mpS m)]⟩) (fun pre post m => Cnt (pre.map g) m) [] rfl .nil ?_
  rintro pre post m hpp hJ
  cases post with
  | nil =>
    have hn := nl0 hpp
    simp only [List.append_nil] at hpp
    simp (maxSteps := 1000000) (disch := omega) only [go_sem, ↓reduceIte, Nat.reduceEqDiff, reduceCtorEq, hn]
    have key : ((m.length : Int) == (pre.length : Int)) = decide (l.map g).Nodup := by
      have := hJ.eq
      rw [List.length_map] at this
      rw [Bool.eq_iff_iff, hpp]
      simp only [beq_iff_eq, Int.natCast_inj, decide_eq_true_eq]
      exact this
    refine finS_l ?_
    simp (maxSteps := 1000000) (disch := omega) only [go_sem]
    all_goals simp [key]
  | cons x post =>
    have hn := nl hpp
    simp (maxSteps := 1000000) (disch := omega) only [go_sem, ↓reduceIte, Nat.reduceAdd, Nat.reduceEqDiff, reduceCtorEq, gml Column.e hpp, hn]
    intro s2
    refine callS_exact (hf x _) ?_
    simp (maxSteps := 1000000) (disch := omega) only [go_sem, ↓reduceIte, Nat.reduceEqDiff]
    cases hlk : List.lookup (g x) m with
    | none =>
      simp (maxSteps := 1000000) (disch := omega) only [go_sem, ↓reduceIte, Nat.reduceEqDiff, Int.reduceAdd, reduceCtorEq]
      refine lp_next (h.length + 1) (putK (g x) (IntKind.i64.wrap 1) m) hpp ?_ ?_ ?_
      · simpa using hJ.step (g x) (IntKind.i64.wrap 1)
      · simp (maxSteps := 1000000) (disch := omega) only [go_sem, ↓reduceIte, Nat.reduceEqDiff, reduceCtorEq, wrap64, Int.natCast_add, Int.cast_ofNat_Int]
      · simp (maxSteps := 1000000) (disch := omega) only [go_sem]
    | some v =>
      simp (maxSteps := 1000000) (disch := omega) only [go_sem, ↓reduceIte, Nat.reduceEqDiff, reduceCtorEq]
      refine lp_next (h.length + 1) (putK (g x) (IntKind.i64.wrap (v + 1)) m) hpp ?_ ?_ ?_
      · simpa using hJ.step (g x) (IntKind.i64.wrap (v + 1))
      · simp (maxSteps := 1000000) (disch := omega) only [go_sem, ↓reduceIte, Nat.reduceEqDiff, reduceCtorEq, wrap64, Int.natCast_add, Int.cast_ofNat_Int]
      · simp (maxSteps := 1000000) (disch := omega) only [go_sem]
end Go.Ab.S2

/- Contracts of the program's schema. -/
namespace Go.Ab.S2
open Go.Ab
set_option maxRecDepth 100000

def layGood (l : Layout) : Bool := (decide (0 ≤ l.group) && decide (l.group ≤ 2)) && (decide (1 ≤ l.state) && decide (l.state ≤ 3))
def laysP (l : List Layout) : Bool := l.all layGood && (decide (((l.countP fun x => x.state == 3) : Int) < 2) && (decide (1 ≤ (l.length : Int)) && decide ((l.length : Int) ≤ 2)) && decide (l.map Layout.group).Nodup)

theorem layouts_spec (l : List Layout) (hl : l.length < 1099511627776) : Ans N.schema_layouts [.psl (l.map Layout.e)] (.bool (laysP l)) := by
  intro h
  refine spec_of ck_schema_layouts ?_
  rw [wp_start]
  simp (maxSteps := 1000000) (disch := omega) only [go_sem, ↓reduceIte, Nat.reduceEqDiff, reduceCtorEq, F.schema_layouts]
  refine loopS_list l (fun pre (_ : Unit) => ⟨[(0, .psl (l.map Layout.e)), (3, .int .i64 (pre.countP fun l => l.state == 3)), (6, .psl (l.map Layout.e)), (7, .int .i64 l.length), (8, .int .i64 pre.length)], h⟩) (fun pre post _ => l.all layGood = post.all layGood) () rfl rfl ?_
  rintro pre post ⟨⟩ hpp hJ
  have hcp : (pre.countP fun l => l.state == 3) ≤ pre.length := List.countP_le_length
  cases post with
  | nil =>
    have hn := nl0 hpp
    simp only [List.append_nil] at hpp
    simp (maxSteps := 1000000) (disch := omega) only [go_sem, ↓reduceIte, Nat.reduceEqDiff, reduceCtorEq, hn]
    have key : laysP l = (decide (((pre.countP fun x => x.state == 3) : Int) < 2) && (decide (1 ≤ (pre.length : Int)) && decide ((pre.length : Int) ≤ 2)) && decide (l.map Layout.group).Nodup) := by
      rw [← hn, ← hpp]; simp [laysP, hJ]
    rw [opEg_some]; refine ⟨fun hg => ?_, fun hg => ?_⟩ <;> try simp only [Bool.and_eq_true, Bool.or_eq_false_iff, Bool.not_eq_true', Bool.not_eq_false'] at hg
    · simp (maxSteps := 1000000) (disch := omega) only [go_sem, ↓reduceIte, hg]
      refine callS_exact (within_spec pre.length 1 2 _) ?_
      simp (maxSteps := 1000000) (disch := omega) only [go_sem, ↓reduceIte, Nat.reduceEqDiff, reduceCtorEq]
      have hg1 := hg
      rw [opEg_some]; refine ⟨fun hg => ?_, fun hg => ?_⟩ <;> try simp only [Bool.and_eq_true] at hg
      · simp (maxSteps := 1000000) (disch := omega) only [go_sem, ↓reduceIte, hg]
        refine callS_exact (once_int_spec l _ Layout.group hl layouts1_spec _) ?_
        simp (maxSteps := 1000000) (disch := omega) only [go_sem, ↓reduceIte, Nat.reduceEqDiff]
        refine finS_l ?_
        simp (maxSteps := 1000000) (disch := omega) only [go_sem]
        all_goals simp [key, hg1, hg]
      · simp (maxSteps := 1000000) (disch := omega) only [go_sem, ↓reduceIte, Nat.reduceEqDiff, hg]
        refine finS_l ?_
        simp (maxSteps := 1000000) (disch := omega) only [go_sem]
        all_goals simp [key, hg1, hg]
    · simp (maxSteps := 1000000) (disch := omega) only [go_sem, ↓reduceIte, Nat.reduceEqDiff, reduceCtorEq, hg]
      refine finS_l ?_
      simp (maxSteps := 1000000) (disch := omega) only [go_sem]
      all_goals simp [key, hg]
  | cons x post =>
    have hn := nl hpp
    simp (maxSteps := 1000000) (disch := omega) only [go_sem, ↓reduceIte, Nat.reduceAdd, Nat.reduceEqDiff, reduceCtorEq, gml Layout.e hpp, hn]
    intro s2
    refine callS_exact (within_spec x.group 0 2 _) ?_
    simp (maxSteps := 1000000) (disch := omega) only [go_sem, ↓reduceIte, Nat.reduceEqDiff, reduceCtorEq]
    rw [opEg_some]; refine ⟨fun hg => ?_, fun hg => ?_⟩ <;> try simp only [Bool.and_eq_true] at hg
    · simp (maxSteps := 1000000) (disch := omega) only [go_sem, ↓reduceIte, hg]
      refine callS_exact (state_spec x.state _) ?_
      simp (maxSteps := 1000000) (disch := omega) only [go_sem, ↓reduceIte, Nat.reduceEqDiff, reduceCtorEq]
      rw [condS_some]; refine ⟨fun hx => ?_, fun hx => ?_⟩
      · simp (maxSteps := 1000000) (disch := omega) only [go_sem, ↓reduceIte]
        rw [Bool.not_eq_true'] at hx
        have hx2 : layGood x = false := by simp only [layGood, hx, Bool.and_false]
        refine finS_l ?_
        simp (maxSteps := 1000000) (disch := omega) only [go_sem]
        all_goals simp [laysP, hJ, hx2]
      · simp (maxSteps := 1000000) (disch := omega) only [go_sem, ↓reduceIte, Nat.reduceEqDiff, reduceCtorEq]
        rw [Bool.not_eq_false'] at hx
        have hx2 : layGood x = true := by simp only [layGood, hx, hg]; rfl
        rw [condS_some]; refine ⟨fun hx => ?_, fun hx => ?_⟩
        · simp (maxSteps := 1000000) (disch := omega) only [go_sem, ↓reduceIte, Nat.reduceEqDiff, reduceCtorEq]
          refine lp_next (h.length + 0) () hpp ?_ ?_ ?_
          · rw [hJ]; simp [hx2]
          · simp (maxSteps := 1000000) (disch := omega) only [go_sem, ↓reduceIte, Nat.reduceEqDiff, reduceCtorEq, wrap64, Int.natCast_add, Int.cast_ofNat_Int, List.countP_append, List.countP_cons, List.countP_nil, hx]
          · simp (maxSteps := 1000000) (disch := omega) only [go_sem]
        · simp (maxSteps := 1000000) (disch := omega) only [go_sem, ↓reduceIte, Nat.reduceEqDiff, reduceCtorEq]
          refine lp_next (h.length + 0) () hpp ?_ ?_ ?_
          · rw [hJ]; simp [hx2]
          · simp (maxSteps := 1000000) (disch := omega) only [go_sem, ↓reduceIte, Nat.reduceEqDiff, reduceCtorEq, wrap64, Int.natCast_add, Int.cast_ofNat_Int, List.countP_append, List.countP_cons, List.countP_nil, hx, Bool.false_eq_true]
          · simp (maxSteps := 1000000) (disch := omega) only [go_sem]
    · simp (maxSteps := 1000000) (disch := omega) only [go_sem, ↓reduceIte, Nat.reduceEqDiff, reduceCtorEq, hg]
      have hx2 : layGood x = false := by simp only [layGood, hg, Bool.false_and]
      refine finS_l ?_
      simp (maxSteps := 1000000) (disch := omega) only [go_sem]
      all_goals simp [laysP, hJ, hx2]

def colsP (l : List Column) : Bool := (decide ((l.length : Int) ≤ 8) && !(l.any colBad)) && decide (l.map Column.qual).Nodup

theorem cols_spec (l : List Column) (hl : l.length < 1099511627776) : Ans N.schema_cols [.psl (l.map Column.e)] (.bool (colsP l)) := by
  intro h
  refine spec_of ck_schema_cols ?_
  rw [wp_start]
  simp (maxSteps := 1000000) (disch := omega) only [go_sem, ↓reduceIte, Nat.reduceEqDiff, reduceCtorEq, F.schema_cols]
  rw [opEg_some]; refine ⟨fun hg => ?_, fun hg => ?_⟩ <;> try simp only [Bool.and_eq_true, Bool.or_eq_false_iff, Bool.not_eq_true', Bool.not_eq_false'] at hg
  · have g1 := hg
    simp (maxSteps := 1000000) (disch := omega) only [go_sem, ↓reduceIte, g1]
    refine callS_exact (containsFunc_Column l _ [] [] colBad _ hl (fun x _ => cols1_spec x _)) ?_
    simp (maxSteps := 1000000) (disch := omega) only [go_sem, ↓reduceIte, Nat.reduceEqDiff, reduceCtorEq]
    rw [opEg_some]; refine ⟨fun hg => ?_, fun hg => ?_⟩ <;> try simp only [Bool.not_eq_true', Bool.not_eq_false'] at hg
    · have g2 := hg
      simp (maxSteps := 1000000) (disch := omega) only [go_sem, ↓reduceIte, g2]
      refine callS_exact (once_string_2_spec l _ Column.qual hl cols2_spec _) ?_
      simp (maxSteps := 1000000) (disch := omega) only [go_sem, ↓reduceIte, Nat.reduceEqDiff]
      refine finS_l ?_
      simp (maxSteps := 1000000) (disch := omega) only [go_sem, colsP, g1, g2]
      all_goals (try simp [colsP, g1, g2])
    · have g2 := hg
      simp (maxSteps := 1000000) (disch := omega) only [go_sem, ↓reduceIte, Nat.reduceEqDiff, g2]
      refine finS_l ?_
      simp (maxSteps := 1000000) (disch := omega) only [go_sem, colsP, g1, g2]
      all_goals (try simp [colsP, g1, g2])
  · have g1 := hg
    simp (maxSteps := 1000000) (disch := omega) only [go_sem, ↓reduceIte, Nat.reduceEqDiff, reduceCtorEq, g1]
    refine finS_l ?_
    simp (maxSteps := 1000000) (disch := omega) only [go_sem, colsP, g1]
    all_goals (try simp [colsP, g1])

def famP (f : Family) : Bool := (((nameR f.name && (decide (1 ≤ f.versions) && decide (f.versions ≤ 8))) && (decide (0 ≤ f.life) && decide (f.life ≤ 1099511627776))) && laysP f.layouts) && colsP f.cols

theorem family_spec (f : Family) (hf : f.wf) : Ans N.schema_family [.agg f.e] (.bool (famP f)) := by
  intro h
  refine spec_of ck_schema_family ?_
  rw [wp_start]
  simp (maxSteps := 1000000) (disch := omega) only [go_sem, ↓reduceIte, F.schema_family]
  intro s
  refine callS_exact (name_schema _ _) ?_
  simp (maxSteps := 1000000) (disch := omega) only [go_sem, ↓reduceIte, Nat.reduceEqDiff]
  rw [opEg_some]; refine ⟨fun hg => ?_, fun hg => ?_⟩ <;> try simp only [Bool.and_eq_true, Bool.or_eq_false_iff, Bool.not_eq_true', Bool.not_eq_false'] at hg
  · have g1 := hg
    simp (maxSteps := 1000000) (disch := omega) only [go_sem, ↓reduceIte, g1]
    refine callS_exact (within_spec _ _ _ _) ?_
    simp (maxSteps := 1000000) (disch := omega) only [go_sem, ↓reduceIte, Nat.reduceEqDiff]
    rw [opEg_some]; refine ⟨fun hg => ?_, fun hg => ?_⟩ <;> try simp only [Bool.and_eq_true] at hg
    · have g2 := hg
      simp (maxSteps := 1000000) (disch := omega) only [go_sem, ↓reduceIte, g2]
      refine callS_exact (within_spec _ _ _ _) ?_
      simp (maxSteps := 1000000) (disch := omega) only [go_sem, ↓reduceIte, Nat.reduceEqDiff]
      rw [opEg_some]; refine ⟨fun hg => ?_, fun hg => ?_⟩ <;> try simp only [Bool.and_eq_true] at hg
      · have g3 := hg
        simp (maxSteps := 1000000) (disch := omega) only [go_sem, ↓reduceIte, g3]
        refine callS_exact (layouts_spec _ hf.lays _) ?_
        simp (maxSteps := 1000000) (disch := omega) only [go_sem, ↓reduceIte, Nat.reduceEqDiff]
        rw [opEg_some]; refine ⟨fun hg => ?_, fun hg => ?_⟩ <;> try simp only [Bool.and_eq_true, Bool.or_eq_false_iff, Bool.not_eq_true', Bool.not_eq_false'] at hg
        · have g4 := hg
          simp (maxSteps := 1000000) (disch := omega) only [go_sem, ↓reduceIte, g4]
          refine callS_exact (cols_spec _ hf.cols _) ?_
          simp (maxSteps := 1000000) (disch := omega) only [go_sem, ↓reduceIte, Nat.reduceEqDiff]
          refine finS_l ?_
          simp (maxSteps := 1000000) (disch := omega) only [go_sem, famP, g1, g2, g3, g4]
          all_goals (try simp [famP, g1, g2, g3, g4])
        · have g4 := hg
          simp (maxSteps := 1000000) (disch := omega) only [go_sem, ↓reduceIte, Nat.reduceEqDiff, g4]
          refine finS_l ?_
          simp (maxSteps := 1000000) (disch := omega) only [go_sem, famP, g1, g2, g3, g4]
          all_goals (try simp [famP, g1, g2, g3, g4])
      · have g3 := hg
        simp (maxSteps := 1000000) (disch := omega) only [go_sem, ↓reduceIte, Nat.reduceEqDiff, g3]
        refine finS_l ?_
        simp (maxSteps := 1000000) (disch := omega) only [go_sem, famP, g1, g2, g3]
        all_goals (try simp [famP, g1, g2, g3])
    · have g2 := hg
      simp (maxSteps := 1000000) (disch := omega) only [go_sem, ↓reduceIte, Nat.reduceEqDiff, g2]
      refine finS_l ?_
      simp (maxSteps := 1000000) (disch := omega) only [go_sem, famP, g1, g2]
      all_goals (try simp [famP, g1, g2])
  · have g1 := hg
    simp (maxSteps := 1000000) (disch := omega) only [go_sem, ↓reduceIte, Nat.reduceEqDiff, g1]
    refine finS_l ?_
    simp (maxSteps := 1000000) (disch := omega) only [go_sem, famP, g1]
    all_goals (try simp [famP, g1])

theorem rightW1 (f : Family) (hf : f.wf) : Ans N.schema_Right_1 [.agg f.e] (.bool (!famP f)) := by
  intro h
  refine spec_of ck_schema_Right_1 ?_
  rw [wp_start]
  simp (maxSteps := 1000000) (disch := omega) only [go_sem, ↓reduceIte, F.schema_Right_1]
  intro s
  refine callS_exact (family_spec f hf _) ?_
  simp (maxSteps := 1000000) (disch := omega) only [go_sem, ↓reduceIte]
  refine finS_l ?_
  simp (maxSteps := 1000000) (disch := omega) only [go_sem]
  all_goals simp []

def schP (s : Schema) : Bool := ((decide (1 ≤ s.version) && decide (s.version ≤ 1099511627776)) && !(decide (6 < (s.fams.length : Int))) && !(s.fams.any fun f => !famP f) && decide (s.fams.map Family.name).Nodup) && (if s.change.kind = 0 then decide (s.change = Change.zero) && s.step == 0 else (decide (1 ≤ s.change.kind) && decide (s.change.kind ≤ 5)) && (decide (1 ≤ s.step) && decide (s.step ≤ 9)))

theorem right_spec (s : Schema) (hs : s.wf) : Ans N.schema_Right [.agg s.e] (.bool (schP s)) := by
  intro h
  refine spec_of ck_schema_Right ?_
  rw [wp_start]
  simp (maxSteps := 1000000) (disch := omega) only [go_sem, ↓reduceIte, Nat.reduceEqDiff, F.schema_Right]
  intro s1
  refine callS_exact (within_spec _ _ _ _) ?_
  simp (maxSteps := 1000000) (disch := omega) only [go_sem, ↓reduceIte, Nat.reduceEqDiff]
  rw [opEg_some]; refine ⟨fun hg => ?_, fun hg => ?_⟩ <;> try simp only [Bool.and_eq_true, Bool.or_eq_false_iff, Bool.not_eq_true', Bool.not_eq_false'] at hg
  · have g1 := hg
    simp (maxSteps := 1000000) (disch := omega) only [go_sem, ↓reduceIte, g1]
    refine callS_exact (containsFunc_Family s.fams _ [] [] (fun f => !famP f) _ hs.fams (fun x hx => rightW1 x (hs.fam x hx) _)) ?_
    simp (maxSteps := 1000000) (disch := omega) only [go_sem, ↓reduceIte, Nat.reduceEqDiff]
    rw [opEg_some]; refine ⟨fun hg => ?_, fun hg => ?_⟩ <;> try simp only [Bool.not_eq_true', Bool.not_eq_false'] at hg
    · have g2 := hg
      simp (maxSteps := 1000000) (disch := omega) only [go_sem, ↓reduceIte, g2]
      refine callS_exact (once_string_spec s.fams _ Family.name hs.fams right2_spec _) ?_
      simp (maxSteps := 1000000) (disch := omega) only [go_sem, ↓reduceIte, Nat.reduceEqDiff]
      rw [condS_some]; refine ⟨fun hx => ?_, fun hx => ?_⟩
      · simp (maxSteps := 1000000) (disch := omega) only [go_sem, ↓reduceIte]
        rw [Bool.not_eq_true'] at hx
        refine finS_l ?_
        simp (maxSteps := 1000000) (disch := omega) only [go_sem]
        all_goals simp [schP, hx]
      · simp (maxSteps := 1000000) (disch := omega) only [go_sem, ↓reduceIte, Nat.reduceEqDiff]
        rw [Bool.not_eq_false'] at hx
        have g3 : schP s = (if s.change.kind = 0 then decide (s.change = Change.zero) && s.step == 0 else (decide (1 ≤ s.change.kind) && decide (s.change.kind ≤ 5)) && (decide (1 ≤ s.step) && decide (s.step ≤ 9))) := by
          simp only [schP, g1, g2, hx]; simp
        rw [condS_some]; refine ⟨fun hx => ?_, fun hx => ?_⟩
        · simp (maxSteps := 1000000) (disch := omega) only [go_sem, ↓reduceIte, Nat.reduceEqDiff]
          have hk : s.change.kind = 0 := by simpa using hx
          refine finS_l ?_
          simp (maxSteps := 1000000) (disch := omega) only [go_sem]
          all_goals simp [g3, hk, Change.zero]
        · simp (maxSteps := 1000000) (disch := omega) only [go_sem, ↓reduceIte]
          have hk : ¬ s.change.kind = 0 := by simpa using hx
          refine callS_exact (within_spec _ _ _ _) ?_
          simp (maxSteps := 1000000) (disch := omega) only [go_sem, ↓reduceIte, Nat.reduceEqDiff]
          rw [opEg_some]; refine ⟨fun hg => ?_, fun hg => ?_⟩ <;> try simp only [Bool.and_eq_true] at hg
          · have g4 := hg
            simp (maxSteps := 1000000) (disch := omega) only [go_sem, ↓reduceIte, g4]
            refine callS_exact (within_spec _ _ _ _) ?_
            simp (maxSteps := 1000000) (disch := omega) only [go_sem, ↓reduceIte, Nat.reduceEqDiff]
            refine finS_l ?_
            simp (maxSteps := 1000000) (disch := omega) only [go_sem]
            all_goals simp [g3, hk, g4]
          · have g4 := hg
            simp (maxSteps := 1000000) (disch := omega) only [go_sem, ↓reduceIte, Nat.reduceEqDiff, g4]
            refine finS_l ?_
            simp (maxSteps := 1000000) (disch := omega) only [go_sem]
            all_goals simp [g3, hk, g4]
    · have g2 := hg
      simp (maxSteps := 1000000) (disch := omega) only [go_sem, ↓reduceIte, Nat.reduceEqDiff, g2]
      refine finS_l ?_
      simp (maxSteps := 1000000) (disch := omega) only [go_sem]
      all_goals simp [schP, g1, g2]
  · have g1 := hg
    simp (maxSteps := 1000000) (disch := omega) only [go_sem, ↓reduceIte, Nat.reduceEqDiff, g1]
    have g2 : ((decide (1 ≤ s.version) && decide (s.version ≤ 1099511627776)) && !decide (6 < (s.fams.length : Int))) = false := by
      revert g1
      cases (decide (1 ≤ s.version) && decide (s.version ≤ 1099511627776)) <;> cases decide (6 < (s.fams.length : Int)) <;> simp
    have g3 : schP s = false := by simp only [schP, g2, Bool.false_and]
    refine finS_l ?_
    simp (maxSteps := 1000000) (disch := omega) only [go_sem]
    all_goals simp [g3]
end Go.Ab.S2

/- Contracts of the document's schema and of the first questions of its plan (joistref14, joistref16). -/
namespace Go.Ab.S2
open Go.Ab
set_option maxRecDepth 100000

def famsOk : List Family → List Family → Bool
  | _, [] => true
  | p, f :: r => famR f && !(p.any fun d => d.name == f.name) && famsOk (p ++ [f]) r
def sch0 (s : Schema) : Bool := decide (s.version < 1) || decide (1099511627776 < s.version) || decide (6 < (s.fams.length : Int))
def schR (s : Schema) : Bool := !sch0 s && famsOk [] s.fams && (if s.change.kind = 0 then decide (s.change = Change.zero) && s.step == 0 else (decide (1 ≤ s.change.kind) && decide (s.change.kind ≤ 5)) && (decide (1 ≤ s.step) && decide (s.step ≤ 9)))

theorem right14_spec (s : Schema) (hs : s.wf) : Ans N.joistref14_Right [.agg s.e] (.bool (schR s)) := by
  intro h
  refine spec_of ck_joistref14_Right ?_
  rw [wp_start]
  simp (maxSteps := 1000000) (disch := omega) only [go_sem, ↓reduceIte, Nat.reduceEqDiff, F.joistref14_Right]
  intro s1
  have hl := hs.fams
  rw [condS_some]; refine ⟨fun hx => ?_, fun hx => ?_⟩
  · simp (maxSteps := 1000000) (disch := omega) only [go_sem, ↓reduceIte]
    have hx : sch0 s = true := hx
    refine finS_l ?_
    simp (maxSteps := 1000000) (disch := omega) only [go_sem]
    all_goals simp [schR, hx]
  · simp (maxSteps := 1000000) (disch := omega) only [go_sem, ↓reduceIte, Nat.reduceEqDiff]
    have hx0 : sch0 s = false := hx
    refine loopS_list s.fams (fun pre (_ : Unit) => ⟨[(1, .ptr h.length s1 0 0), (3, .int .i64 pre.length)], h ++ [.arr s1 0 10 [s.e]]⟩) (fun pre post _ => famsOk [] s.fams = famsOk pre post) () rfl rfl ?_
    rintro pre post ⟨⟩ hpp hJ
    cases post with
    | nil =>
      have hn := nl0 hpp
      simp (maxSteps := 1000000) (disch := omega) only [go_sem, ↓reduceIte, Nat.reduceEqDiff, hn]
      rw [condS_some]; refine ⟨fun hx => ?_, fun hx => ?_⟩
      · simp (maxSteps := 1000000) (disch := omega) only [go_sem, ↓reduceIte, Nat.reduceEqDiff]
        have hx : s.change.kind = 0 := by simpa using hx
        refine finS_l ?_
        simp (maxSteps := 1000000) (disch := omega) only [go_sem]
        all_goals simp [schR, hx0, hJ, famsOk, hx, Change.zero]
      · simp (maxSteps := 1000000) (disch := omega) only [go_sem, ↓reduceIte, Nat.reduceEqDiff]
        have hx : ¬ s.change.kind = 0 := by simpa using hx
        refine finS_l ?_
        simp (maxSteps := 1000000) (disch := omega) only [go_sem]
        all_goals simp [schR, hx0, hJ, famsOk, hx]
        all_goals simp [Bool.and_assoc]
    | cons x post =>
      have hn := nl hpp
      simp (maxSteps := 1000000) (disch := omega) only [go_sem, ↓reduceIte, Nat.reduceEqDiff, gml Family.e hpp, hn]
      refine callS_exact (family14_spec x (hs.fam x (by simp [hpp])) _) ?_
      simp (maxSteps := 1000000) (disch := omega) only [go_sem, ↓reduceIte, Nat.reduceEqDiff]
      rw [condS_some]; refine ⟨fun hx => ?_, fun hx => ?_⟩
      · simp (maxSteps := 1000000) (disch := omega) only [go_sem, ↓reduceIte]
        have hx : famR x = false := by simpa using hx
        refine finS_l ?_
        simp (maxSteps := 1000000) (disch := omega) only [go_sem]
        all_goals simp [schR, hJ, famsOk, hx]
      · simp (maxSteps := 1000000) (disch := omega) only [go_sem, ↓reduceIte, Nat.reduceEqDiff]
        have hx : famR x = true := by simpa using hx
        refine loopS_list pre (fun pre3 (_ : Unit) => ⟨[(1, .ptr h.length s1 0 0), (3, .int .i64 pre.length), (4, .int .i64 pre3.length)], h ++ [.arr s1 0 10 [s.e]]⟩) (fun pre3 post3 _ => (pre.any fun d => d.name == x.name) = post3.any fun d => d.name == x.name) () rfl rfl ?_
        rintro pre3 post3 ⟨⟩ hpp3 hJ3
        cases post3 with
        | nil =>
          have hn3 := nl0 hpp3
          simp (maxSteps := 1000000) (disch := omega) only [go_sem, ↓reduceIte, Nat.reduceEqDiff, hn3]
          refine lp_next (h.length + 1) () hpp ?_ ?_ ?_
          · rw [hJ, famsOk, hx, hJ3]; simp
          · simp (maxSteps := 1000000) (disch := omega) only [go_sem, ↓reduceIte, Nat.reduceEqDiff, wrap64, Int.natCast_add, Int.cast_ofNat_Int, hn3]
          · simp (maxSteps := 1000000) (disch := omega) only [go_sem]
        | cons y post3 =>
          have hn3 := nl hpp3
          have hpp4 : s.fams = pre3 ++ y :: (post3 ++ x :: post) := by rw [hpp, hpp3]; simp
          have hn4 := nl hpp4
          simp (maxSteps := 1000000) (disch := omega) only [go_sem, ↓reduceIte, Nat.reduceEqDiff, gml Family.e hpp4, hn3]
          rw [← hn3]
          simp (maxSteps := 1000000) (disch := omega) only [go_sem, ↓reduceIte, Nat.reduceEqDiff, gml Family.e hpp]
          rw [condS_some]; refine ⟨fun hx => ?_, fun hx => ?_⟩
          · simp (maxSteps := 1000000) (disch := omega) only [go_sem, ↓reduceIte]
            refine finS_l ?_
            simp (maxSteps := 1000000) (disch := omega) only [go_sem]
            all_goals simp [schR, hJ, famsOk, hJ3, hx]
          · simp (maxSteps := 1000000) (disch := omega) only [go_sem, ↓reduceIte, Nat.reduceEqDiff]
            refine lp_next (h.length + 1) () hpp3 ?_ ?_ ?_
            · simp [hJ3, hx]
            · simp (maxSteps := 1000000) (disch := omega) only [go_sem, ↓reduceIte, Nat.reduceEqDiff, wrap64, Int.natCast_add, Int.cast_ofNat_Int, hn3]
            · simp (maxSteps := 1000000) (disch := omega) only [go_sem]

def layF (l : List Cell) (f : Family) : Bool := l.any fun c => c.fam == f.name
def laysF (s : Schema) (l : List Cell) : List Layouted := (s.fams.filter (layF l)).map fun f => ⟨f.name, f.layouts⟩

def targetsF (l : List Layouted) (c : Cell) : List Int := match l.find? fun x => x.fam == c.fam with
  | none => []
  | some x => if c.kind = 1 then (x.layouts.filter (inG 2)).map Layout.group else (x.layouts.filter (fun l => l.state != 0)).map Layout.group

end Go.Ab.S2

/- Contracts of the program's schema: what is asked of it. -/
namespace Go.Ab.S2
open Go.Ab
set_option maxRecDepth 100000

theorem hgl {h : Heap} {l : Nat} {o : AObj} (hl : h[l]? = some o) (r : Heap) : (h ++ r)[l]? = some o := by
  rw [List.getElem?_append_left (List.getElem?_eq_some_iff.1 hl).1]; exact hl
theorem idx_find {α : Type} (p : α → Bool) (l : List α) : (idx p l < 0 → l.find? p = none) ∧ (¬ idx p l < 0 → ∃ (k : Nat) (x : α), idx p l = (k : Int) ∧ l[k]? = some x ∧ l.find? p = some x) := by
  unfold idx
  cases h : l.findIdx? p with
  | none =>
    rw [List.findIdx?_eq_none_iff] at h
    refine ⟨fun _ => ?_, fun hn => absurd (by simp) hn⟩
    rw [List.find?_eq_none]
    intro x hx
    simp [h x hx]
  | some k =>
    refine ⟨fun hn => absurd hn (by simp), fun _ => ?_⟩
    obtain ⟨hk, hp, hmin⟩ := List.findIdx?_eq_some_iff_getElem.1 h
    refine ⟨k, l[k], rfl, by simp, ?_⟩
    rw [List.find?_eq_some_iff_getElem]
    exact ⟨hp, k, hk, rfl, fun j hj => by simpa using hmin j hj⟩

theorem sclone_spec (f : Family) (h1 : f.layouts.length < 1099511627776) (h2 : f.cols.length < 1099511627776) : Ans N.schema_clone [.agg f.e] (.agg f.e) := by
  intro h
  refine spec_of ck_schema_clone ?_
  rw [wp_start]
  simp (maxSteps := 1000000) (disch := omega) only [go_sem, ↓reduceIte, Nat.reduceAdd, F.schema_clone]
  intro s s2
  refine callS_exact (clone_Layout _ h1 _) ?_
  simp (maxSteps := 1000000) (disch := omega) only [go_sem, ↓reduceIte, Nat.reduceEqDiff]
  refine callS_exact (clone_Column _ h2 _) ?_
  simp (maxSteps := 1000000) (disch := omega) only [go_sem, ↓reduceIte, Nat.reduceEqDiff]
  refine finS_l ?_
  simp (maxSteps := 1000000) (disch := omega) only [go_sem]
  all_goals simp []

theorem find1_spec (f : Family) (n : Str) (h : Heap) (l s imm : Nat) (hl : h[l]? = some (.arr s imm 1 [[.str n]])) : SpecA PP N.schema_Find_1 [.agg f.e, .ptr l s 0 0] h (fun r h' => r = .ret (.bool (f.name == n)) ∧ h' = h) := by
  have hl' := hgl hl
  refine spec_of ck_schema_Find_1 ?_
  rw [wp_start]
  simp (maxSteps := 1000000) (disch := omega) only [go_sem, ↓reduceIte, Nat.reduceAdd, Nat.reduceEqDiff, reduceCtorEq, F.schema_Find_1]
  intro s2
  simp (maxSteps := 1000000) (disch := omega) only [go_sem, ↓reduceIte, hl']
  refine finS_l ?_
  simp (maxSteps := 1000000) (disch := omega) only [go_sem]
  all_goals simp []

theorem sfind_spec (s : Schema) (n : Str) (hs : s.wf) : Ans N.schema_Find [.agg s.e, .str n] (.tup [.agg ((findF s n).getD Family.zero).e, .bool (findF s n).isSome]) := by
  intro h
  refine spec_of ck_schema_Find ?_
  rw [wp_start]
  simp (maxSteps := 1000000) (disch := omega) only [go_sem, ↓reduceIte, Nat.reduceAdd, Nat.reduceEqDiff, reduceCtorEq, F.schema_Find]
  intro s1 s2 s3
  refine callS_exact (indexFunc_Family s.fams _ [] [.ptr (h.length + 1) s2 0 0] (fun f => f.name == n) _ hs.fams (fun x _ => find1_spec x n _ _ s2 0 (by simp (maxSteps := 1000000) (disch := omega) only [go_sem]))) ?_
  simp (maxSteps := 1000000) (disch := omega) only [go_sem, ↓reduceIte, Nat.reduceEqDiff]
  have hi := idx_find (fun f : Family => f.name == n) s.fams
  rw [condS_some]; refine ⟨fun hx => ?_, fun hx => ?_⟩
  · simp (maxSteps := 1000000) (disch := omega) only [go_sem, ↓reduceIte, Nat.reduceAdd, Nat.reduceEqDiff]
    have hx := hi.1 (by simpa using hx)
    refine finS_l ?_
    simp (maxSteps := 1000000) (disch := omega) only [go_sem]
    all_goals simp [findF, hx, Family.zero_e]
  · obtain ⟨k, x, hk, hkx, hf⟩ := hi.2 (by simpa using hx)
    simp (maxSteps := 1000000) (disch := omega) only [go_sem, ↓reduceIte, Nat.reduceEqDiff, hk, gmap Family.e hkx]
    have hw := hs.fam x (List.mem_of_getElem? hkx)
    refine callS_exact (sclone_spec x hw.lays hw.cols _) ?_
    simp (maxSteps := 1000000) (disch := omega) only [go_sem, ↓reduceIte, Nat.reduceEqDiff]
    refine finS_l ?_
    simp (maxSteps := 1000000) (disch := omega) only [go_sem]
    all_goals simp [findF, hf]

theorem column1_spec (f : Column) (n : Str) (h : Heap) (l s imm : Nat) (hl : h[l]? = some (.arr s imm 1 [[.str n]])) : SpecA PP N.schema_Column_1 [.agg f.e, .ptr l s 0 0] h (fun r h' => r = .ret (.bool (f.qual == n)) ∧ h' = h) := by
  have hl' := hgl hl
  refine spec_of ck_schema_Column_1 ?_
  rw [wp_start]
  simp (maxSteps := 1000000) (disch := omega) only [go_sem, ↓reduceIte, Nat.reduceAdd, Nat.reduceEqDiff, reduceCtorEq, F.schema_Column_1]
  intro s2
  simp (maxSteps := 1000000) (disch := omega) only [go_sem, ↓reduceIte, hl']
  refine finS_l ?_
  simp (maxSteps := 1000000) (disch := omega) only [go_sem]
  all_goals simp []

theorem scolumn_spec (f : Family) (n : Str) (hl : f.cols.length < 1099511627776) : Ans N.schema_Column [.agg f.e, .str n] (.tup [.agg ((colF f n).getD Column.zero).e, .bool (colF f n).isSome]) := by
  intro h
  refine spec_of ck_schema_Column ?_
  rw [wp_start]
  simp (maxSteps := 1000000) (disch := omega) only [go_sem, ↓reduceIte, Nat.reduceAdd, Nat.reduceEqDiff, reduceCtorEq, F.schema_Column]
  intro s1 s2 s3
  refine callS_exact (indexFunc_Column f.cols _ [] [.ptr (h.length + 1) s2 0 0] (fun f => f.qual == n) _ hl (fun x _ => column1_spec x n _ _ s2 0 (by simp (maxSteps := 1000000) (disch := omega) only [go_sem]))) ?_
  simp (maxSteps := 1000000) (disch := omega) only [go_sem, ↓reduceIte, Nat.reduceEqDiff]
  have hi := idx_find (fun f : Column => f.qual == n) f.cols
  rw [condS_some]; refine ⟨fun hx => ?_, fun hx => ?_⟩
  · simp (maxSteps := 1000000) (disch := omega) only [go_sem, ↓reduceIte, Nat.reduceAdd, Nat.reduceEqDiff]
    have hx := hi.1 (by simpa using hx)
    refine finS_l ?_
    simp (maxSteps := 1000000) (disch := omega) only [go_sem]
    all_goals simp [colF, hx, Column.zero_e]
  · obtain ⟨k, x, hk, hkx, hf⟩ := hi.2 (by simpa using hx)
    simp (maxSteps := 1000000) (disch := omega) only [go_sem, ↓reduceIte, Nat.reduceEqDiff, hk, gmap Column.e hkx]
    refine finS_l ?_
    simp (maxSteps := 1000000) (disch := omega) only [go_sem]
    all_goals simp [colF, hf]

theorem read1_spec (l : Layout) : Ans N.schema_Read_1 [.agg l.e] (.bool (l.state == 3)) := by
  intro h
  refine spec_of ck_schema_Read_1 ?_
  rw [wp_start]
  simp (maxSteps := 1000000) (disch := omega) only [go_sem, ↓reduceIte, F.schema_Read_1]
  intro s
  refine finS_l ?_
  simp (maxSteps := 1000000) (disch := omega) only [go_sem]
  all_goals simp []

theorem sread_spec (f : Family) (hl : f.layouts.length < 1099511627776) : Ans N.schema_Read [.agg f.e] (.tup [.int .i64 ((readF f).map Layout.group |>.getD 0), .bool (readF f).isSome]) := by
  intro h
  refine spec_of ck_schema_Read ?_
  rw [wp_start]
  simp (maxSteps := 1000000) (disch := omega) only [go_sem, ↓reduceIte, Nat.reduceEqDiff, F.schema_Read]
  intro s1
  refine callS_exact (indexFunc_Layout f.layouts _ [] [] (fun l => l.state == 3) _ hl (fun x _ => read1_spec x _)) ?_
  simp (maxSteps := 1000000) (disch := omega) only [go_sem, ↓reduceIte, Nat.reduceEqDiff]
  have hi := idx_find (fun l : Layout => l.state == 3) f.layouts
  rw [condS_some]; refine ⟨fun hx => ?_, fun hx => ?_⟩
  · simp (maxSteps := 1000000) (disch := omega) only [go_sem, ↓reduceIte, Nat.reduceEqDiff]
    have hx := hi.1 (by simpa using hx)
    refine finS_l ?_
    simp (maxSteps := 1000000) (disch := omega) only [go_sem]
    all_goals simp [readF, hx]
  · obtain ⟨k, x, hk, hkx, hf⟩ := hi.2 (by simpa using hx)
    simp (maxSteps := 1000000) (disch := omega) only [go_sem, ↓reduceIte, Nat.reduceEqDiff, hk, gmap Layout.e hkx]
    refine finS_l ?_
    simp (maxSteps := 1000000) (disch := omega) only [go_sem]
    all_goals simp [readF, hf]

theorem sgroups_spec (f : Family) (fn : FuncId) (p : Int → Bool) (hl : f.layouts.length < 1099511627776) (hf : ∀ n, Ans fn [.int .i64 n] (.bool (p n))) : Ans N.schema_groups [.agg f.e, .fn fn [] []] (.psl (ints ((f.layouts.filter fun l => p l.state).map Layout.group))) := by
  intro h
  refine spec_of ck_schema_groups ?_
  rw [wp_start]
  simp (maxSteps := 1000000) (disch := omega) only [go_sem, ↓reduceIte, Nat.reduceAdd, Nat.reduceEqDiff, reduceCtorEq, F.schema_groups]
  intro s1 s2
  refine loopS_list f.layouts (fun pre s2 => ⟨[(1, .fn fn [] []), (5, .sl (h.length + 1) s2 0 (pre.filter fun l => p l.state).length), (9, .psl (f.layouts.map Layout.e)), (10, .int .i64 f.layouts.length), (11, .int .i64 pre.length)], h ++ [.arr s1 0 5 [f.e], .arr s2 0 1 (ints ((pre.filter fun l => p l.state).map Layout.group))]⟩) (fun pre post _ => True) s2 rfl trivial ?_
  rintro pre post s2 hpp hJ
  have hk : (pre.filter fun l => p l.state).length ≤ pre.length := List.length_filter_le _ _
  cases post with
  | nil =>
    simp (maxSteps := 1000000) (disch := omega) only [go_sem, ↓reduceIte, Nat.reduceEqDiff, nl0 hpp]
    simp only [List.append_nil] at hpp
    refine finS_l ?_
    simp (maxSteps := 1000000) (disch := omega) only [go_sem, ↓reduceIte, hpp]
  | cons x post =>
    have hn := nl hpp
    simp (maxSteps := 1000000) (disch := omega) only [go_sem, ↓reduceIte, Nat.reduceAdd, Nat.reduceEqDiff, gml Layout.e hpp, hn]
    intro s3
    refine callS_exact (hf _ _) ?_
    simp (maxSteps := 1000000) (disch := omega) only [go_sem, ↓reduceIte, Nat.reduceEqDiff]
    rw [condS_some]; refine ⟨fun hx => ?_, fun hx => ?_⟩
    · simp (maxSteps := 1000000) (disch := omega) only [go_sem, ↓reduceIte, Nat.reduceAdd, Nat.reduceMul, Nat.reduceEqDiff]
      refine fun s3 => ⟨by omega, fun s4 => ?_⟩
      refine lp_next (h.length + 2) s4 hpp trivial ?_ ?_
      · simp (maxSteps := 1000000) (disch := omega) only [go_sem, ↓reduceIte, Nat.reduceEqDiff, wrap64, Int.natCast_add, Int.cast_ofNat_Int, List.filter_append]
        all_goals simp [hx]
      · simp (maxSteps := 1000000) (disch := omega) only [go_sem, List.filter_append, List.map_append]
        all_goals simp [hx, ints]
    · simp (maxSteps := 1000000) (disch := omega) only [go_sem, ↓reduceIte, Nat.reduceEqDiff]
      refine lp_next (h.length + 2) s2 hpp trivial ?_ ?_
      · simp (maxSteps := 1000000) (disch := omega) only [go_sem, ↓reduceIte, Nat.reduceEqDiff, wrap64, Int.natCast_add, Int.cast_ofNat_Int, List.filter_append]
        all_goals simp [hx]
      · simp (maxSteps := 1000000) (disch := omega) only [go_sem, List.filter_append]
        all_goals simp [hx]

theorem written1_spec (n : Int) : Ans N.schema_Written_1 [.int .i64 n] (.bool (n == 2 || n == 3)) := by
  intro h
  refine spec_of ck_schema_Written_1 ?_
  rw [wp_start]
  simp (maxSteps := 1000000) (disch := omega) only [go_sem, ↓reduceIte, Nat.reduceEqDiff, reduceCtorEq, F.schema_Written_1]
  refine finS_l ?_
  simp (maxSteps := 1000000) (disch := omega) only [go_sem]
  all_goals simp []
theorem gone1_spec (n : Int) : Ans N.schema_Gone_1 [.int .i64 n] (.bool (n != 0)) := by
  intro h
  refine spec_of ck_schema_Gone_1 ?_
  rw [wp_start]
  simp (maxSteps := 1000000) (disch := omega) only [go_sem, ↓reduceIte, reduceCtorEq, F.schema_Gone_1]
  refine finS_l ?_
  simp (maxSteps := 1000000) (disch := omega) only [go_sem]
  all_goals simp []
theorem inG2 (l : Layout) : (l.state == 2 || l.state == 3) = inG 2 l := by
  unfold inG; rw [Bool.eq_iff_iff]; simp; omega
theorem written_spec (f : Family) (hl : f.layouts.length < 1099511627776) : Ans N.schema_Written [.agg f.e] (.psl (ints ((f.layouts.filter (inG 2)).map Layout.group))) := by
  intro h
  refine spec_of ck_schema_Written ?_
  rw [wp_start]
  simp (maxSteps := 1000000) (disch := omega) only [go_sem, ↓reduceIte, F.schema_Written]
  intro s
  refine callS_exact (sgroups_spec f _ (fun n => n == 2 || n == 3) hl written1_spec _) ?_
  simp (maxSteps := 1000000) (disch := omega) only [go_sem, ↓reduceIte]
  refine finS_l ?_
  simp (maxSteps := 1000000) (disch := omega) only [go_sem, inG2]
  all_goals rfl
theorem sgone_spec (f : Family) (hl : f.layouts.length < 1099511627776) : Ans N.schema_Gone [.agg f.e] (.psl (ints ((f.layouts.filter (fun l => l.state != 0)).map Layout.group))) := by
  intro h
  refine spec_of ck_schema_Gone ?_
  rw [wp_start]
  simp (maxSteps := 1000000) (disch := omega) only [go_sem, ↓reduceIte, F.schema_Gone]
  intro s
  refine callS_exact (sgroups_spec f _ (fun n => n != 0) hl gone1_spec _) ?_
  simp (maxSteps := 1000000) (disch := omega) only [go_sem, ↓reduceIte]
  refine finS_l ?_
  simp (maxSteps := 1000000) (disch := omega) only [go_sem]
  all_goals simp []
end Go.Ab.S2

/- Contracts: is a filter, a mutation, a request well formed? (filter, plan) -/
namespace Go.Ab.S2
open Go.Ab
set_option maxRecDepth 100000

theorem fwithin_spec (n a : Int) : Ans N.filter_within [.int .i64 n, .int .i64 a] (.bool (decide (0 ≤ n) && decide (n ≤ a))) := by
  intro h
  refine spec_of ck_filter_within ?_
  rw [wp_start]
  simp (maxSteps := 1000000) (disch := omega) only [go_sem, ↓reduceIte, Nat.reduceAdd, Nat.reduceEqDiff, reduceCtorEq, F.filter_within]
  refine finS_l ?_
  simp (maxSteps := 1000000) (disch := omega) only [go_sem]
  all_goals simp []
theorem fright1_spec (s : Str) : Ans N.filter_Right_1 [.str s] (.bool (!nameR s)) := by
  intro h
  refine spec_of ck_filter_Right_1 ?_
  rw [wp_start]
  simp (maxSteps := 1000000) (disch := omega) only [go_sem, ↓reduceIte, reduceCtorEq, F.filter_Right_1]
  refine callS_exact (name_filter s _) ?_
  simp (maxSteps := 1000000) (disch := omega) only [go_sem, ↓reduceIte]
  refine finS_l ?_
  simp (maxSteps := 1000000) (disch := omega) only [go_sem]
  all_goals simp []

def filR (f : Filter) : Bool := !(decide (6 < (f.fams.length : Int)) || f.fams.any fun s => !nameR s) &&
  (((((decide ((f.from_.length : Int) ≤ 12) && decide ((f.to.length : Int) ≤ 12)) && (decide (0 ≤ f.since) && decide (f.since ≤ 1099511627776))) && (decide (0 ≤ f.until_) && decide (f.until_ ≤ 1099511627776))) && (decide (0 ≤ f.versions) && decide (f.versions ≤ 8))) && (decide (0 ≤ f.rows) && decide (f.rows ≤ 1000)))

theorem filter_spec (f : Filter) (hf : f.wf) : Ans N.filter_Right [.agg f.e] (.bool (filR f)) := by
  intro h
  refine spec_of ck_filter_Right ?_
  rw [wp_start]
  simp (maxSteps := 1000000) (disch := omega) only [go_sem, ↓reduceIte, Nat.reduceEqDiff, F.filter_Right]
  intro s
  rw [opEg_some]; refine ⟨fun hg => ?_, fun hg => ?_⟩ <;> try simp only [Bool.not_eq_true', Bool.not_eq_false'] at hg
  · have g0 := hg
    simp (maxSteps := 1000000) (disch := omega) only [go_sem, ↓reduceIte, g0]
    refine callS_exact (containsFunc_Str f.fams _ [] [] (fun s => !nameR s) _ hf.fams (fun x _ => fright1_spec x _)) ?_
    simp (maxSteps := 1000000) (disch := omega) only [go_sem, ↓reduceIte, Nat.reduceEqDiff]
    rw [condS_some]; refine ⟨fun hx => ?_, fun hx => ?_⟩
    · simp (maxSteps := 1000000) (disch := omega) only [go_sem, ↓reduceIte]
      refine finS_l ?_
      simp (maxSteps := 1000000) (disch := omega) only [go_sem]
      all_goals simp [filR, g0, hx]
    · simp (maxSteps := 1000000) (disch := omega) only [go_sem, ↓reduceIte, Nat.reduceEqDiff]
      rw [opEg_some]; refine ⟨fun hg => ?_, fun hg => ?_⟩ <;> try simp only [Bool.and_eq_true] at hg
      · have g1 := hg
        simp (maxSteps := 1000000) (disch := omega) only [go_sem, ↓reduceIte, g1]
        refine callS_exact (fwithin_spec _ _ _) ?_
        simp (maxSteps := 1000000) (disch := omega) only [go_sem, ↓reduceIte, Nat.reduceEqDiff]
        rw [opEg_some]; refine ⟨fun hg => ?_, fun hg => ?_⟩ <;> try simp only [Bool.and_eq_true] at hg
        · have g2 := hg
          simp (maxSteps := 1000000) (disch := omega) only [go_sem, ↓reduceIte, g2]
          refine callS_exact (fwithin_spec _ _ _) ?_
          simp (maxSteps := 1000000) (disch := omega) only [go_sem, ↓reduceIte, Nat.reduceEqDiff]
          rw [opEg_some]; refine ⟨fun hg => ?_, fun hg => ?_⟩ <;> try simp only [Bool.and_eq_true] at hg
          · have g3 := hg
            simp (maxSteps := 1000000) (disch := omega) only [go_sem, ↓reduceIte, g3]
            refine callS_exact (fwithin_spec _ _ _) ?_
            simp (maxSteps := 1000000) (disch := omega) only [go_sem, ↓reduceIte, Nat.reduceEqDiff]
            rw [opEg_some]; refine ⟨fun hg => ?_, fun hg => ?_⟩ <;> try simp only [Bool.and_eq_true] at hg
            · have g4 := hg
              simp (maxSteps := 1000000) (disch := omega) only [go_sem, ↓reduceIte, g4]
              refine callS_exact (fwithin_spec _ _ _) ?_
              simp (maxSteps := 1000000) (disch := omega) only [go_sem, ↓reduceIte, Nat.reduceEqDiff]
              refine finS_l ?_
              simp (maxSteps := 1000000) (disch := omega) only [go_sem, filR, hx, g0, g1, g2, g3, g4]
              all_goals (try simp [filR, hx, g0, g1, g2, g3, g4])
            · have g4 := hg
              simp (maxSteps := 1000000) (disch := omega) only [go_sem, ↓reduceIte, Nat.reduceEqDiff, g4]
              refine finS_l ?_
              simp (maxSteps := 1000000) (disch := omega) only [go_sem, filR, hx, g0, g1, g2, g3, g4]
              all_goals (try simp [filR, hx, g0, g1, g2, g3, g4])
          · have g3 := hg
            simp (maxSteps := 1000000) (disch := omega) only [go_sem, ↓reduceIte, Nat.reduceEqDiff, g3]
            refine finS_l ?_
            simp (maxSteps := 1000000) (disch := omega) only [go_sem, filR, hx, g0, g1, g2, g3]
            all_goals (try simp [filR, hx, g0, g1, g2, g3])
        · have g2 := hg
          simp (maxSteps := 1000000) (disch := omega) only [go_sem, ↓reduceIte, Nat.reduceEqDiff, g2]
          refine finS_l ?_
          simp (maxSteps := 1000000) (disch := omega) only [go_sem, filR, hx, g0, g1, g2]
          all_goals (try simp [filR, hx, g0, g1, g2])
      · have g1 := hg
        simp (maxSteps := 1000000) (disch := omega) only [go_sem, ↓reduceIte, Nat.reduceEqDiff, g1]
        refine finS_l ?_
        simp (maxSteps := 1000000) (disch := omega) only [go_sem, filR, hx, g0, g1]
        all_goals (try simp [filR, hx, g0, g1])
  · have g0 := hg
    simp (maxSteps := 1000000) (disch := omega) only [go_sem, ↓reduceIte, Nat.reduceEqDiff, g0]
    refine finS_l ?_
    simp (maxSteps := 1000000) (disch := omega) only [go_sem]
    all_goals simp [filR, g0]

theorem fclone_spec (f : Filter) (hf : f.wf) : Ans N.filter_Clone [.agg f.e] (.agg f.e) := by
  intro h
  refine spec_of ck_filter_Clone ?_
  rw [wp_start]
  simp (maxSteps := 1000000) (disch := omega) only [go_sem, ↓reduceIte, Nat.reduceAdd, F.filter_Clone]
  intro s s2
  refine callS_exact (clone_Str _ hf.fams _) ?_
  simp (maxSteps := 1000000) (disch := omega) only [go_sem, ↓reduceIte, Nat.reduceEqDiff]
  refine finS_l ?_
  simp (maxSteps := 1000000) (disch := omega) only [go_sem]
  all_goals simp []

def colN (fam qual : Str) : Bool := nameR fam && decide ((qual.length : Int) ≤ 12)
theorem pcolumn_spec (fam qual : Str) : Ans N.plan_column [.str fam, .str qual] (.bool (colN fam qual)) := by
  intro h
  refine spec_of ck_plan_column ?_
  rw [wp_start]
  simp (maxSteps := 1000000) (disch := omega) only [go_sem, ↓reduceIte, Nat.reduceAdd, Nat.reduceEqDiff, reduceCtorEq, F.plan_column]
  refine callS_exact (name_plan fam _) ?_
  simp (maxSteps := 1000000) (disch := omega) only [go_sem, ↓reduceIte, Nat.reduceEqDiff, reduceCtorEq]
  refine finS_l ?_
  simp (maxSteps := 1000000) (disch := omega) only [go_sem]
  all_goals simp [colN]
theorem pnone_spec (v : Value) : Ans N.plan_none [.agg v.e] (.bool (decide (v = Value.zero))) := by
  intro h
  refine spec_of ck_plan_none ?_
  rw [wp_start]
  simp (maxSteps := 1000000) (disch := omega) only [go_sem, ↓reduceIte, F.plan_none]
  intro s
  refine finS_l ?_
  simp (maxSteps := 1000000) (disch := omega) only [go_sem]
  all_goals simp [Value.zero]
def empF (f : Filter) : Bool := f.fams.length == 0 && f.from_ == ([] : Str) && f.to == ([] : Str) && f.since == 0 && f.until_ == 0 && f.versions == 0 && f.rows == 0
theorem lenz (n : Nat) : ((n : Int) == 0) = (n == 0) := by rw [Bool.eq_iff_iff]; simp
theorem pempty_spec (f : Filter) : Ans N.plan_empty [.agg f.e] (.bool (empF f)) := by
  intro h
  refine spec_of ck_plan_empty ?_
  rw [wp_start]
  simp (maxSteps := 1000000) (disch := omega) only [go_sem, ↓reduceIte, Nat.reduceEqDiff, F.plan_empty]
  intro s
  simp (maxSteps := 1000000) (disch := omega) only [go_sem, lenz]
  refine finS_l ?_
  simp (maxSteps := 1000000) (disch := omega) only [go_sem, empF]

def mutF (m : Mut) : Bool :=
  if m.kind = 1 then colN m.fam m.qual && valR m.val
  else if m.kind = 2 then colN m.fam m.qual && decide (m.val = Value.zero)
  else if m.kind = 3 then (nameR m.fam && m.qual == ([] : Str)) && decide (m.val = Value.zero)
  else if m.kind = 4 then decide (m = ⟨4, [], [], Value.zero⟩)
  else false

theorem mut4 (m : Mut) : eqCells [0, 1, 1, 0, 0, 1] m.e [.int .i64 4, .str [], .str [], .int .i64 0, .int .i64 0, .str []] = some (decide (m = ⟨4, [], [], Value.zero⟩)) := Mut.eq m ⟨4, [], [], Value.zero⟩

theorem pmut_spec (m : Mut) (hm : m.wf) : Ans N.plan_mut [.agg m.e] (.bool (mutF m)) := by
  intro h
  refine spec_of ck_plan_mut ?_
  rw [wp_start]
  simp (maxSteps := 1000000) (disch := omega) only [go_sem, ↓reduceIte, Nat.reduceEqDiff, F.plan_mut]
  intro s
  rw [condS_some]; refine ⟨fun hx => ?_, fun hx => ?_⟩
  · simp (maxSteps := 1000000) (disch := omega) only [go_sem, ↓reduceIte, Nat.reduceEqDiff]
    have k1 : m.kind = 1 := by simpa using hx
    refine callS_exact (pcolumn_spec _ _ _) ?_
    simp (maxSteps := 1000000) (disch := omega) only [go_sem, ↓reduceIte, Nat.reduceEqDiff]
    rw [opEg_some]; refine ⟨fun hg => ?_, fun hg => ?_⟩ <;> try simp only [Bool.and_eq_true, Bool.or_eq_false_iff, Bool.not_eq_true', Bool.not_eq_false'] at hg
    · have g1 := hg
      simp (maxSteps := 1000000) (disch := omega) only [go_sem, ↓reduceIte, g1]
      refine callS_exact (val_spec _ hm.val _) ?_
      simp (maxSteps := 1000000) (disch := omega) only [go_sem, ↓reduceIte, Nat.reduceEqDiff]
      refine finS_l ?_
      simp (maxSteps := 1000000) (disch := omega) only [go_sem, ↓reduceIte, mutF, k1, g1]
      all_goals (try simp [mutF, k1, g1])
    · have g1 := hg
      simp (maxSteps := 1000000) (disch := omega) only [go_sem, ↓reduceIte, Nat.reduceEqDiff, g1]
      refine finS_l ?_
      simp (maxSteps := 1000000) (disch := omega) only [go_sem, ↓reduceIte, mutF, k1, g1]
      all_goals (try simp [mutF, k1, g1])
  · simp (maxSteps := 1000000) (disch := omega) only [go_sem, ↓reduceIte, Nat.reduceEqDiff]
    have k1 : ¬ m.kind = 1 := by simpa using hx
    rw [condS_some]; refine ⟨fun hx => ?_, fun hx => ?_⟩
    · simp (maxSteps := 1000000) (disch := omega) only [go_sem, ↓reduceIte, Nat.reduceEqDiff]
      have k2 : m.kind = 2 := by simpa using hx
      refine callS_exact (pcolumn_spec _ _ _) ?_
      simp (maxSteps := 1000000) (disch := omega) only [go_sem, ↓reduceIte, Nat.reduceEqDiff]
      rw [opEg_some]; refine ⟨fun hg => ?_, fun hg => ?_⟩ <;> try simp only [Bool.and_eq_true, Bool.or_eq_false_iff, Bool.not_eq_true', Bool.not_eq_false'] at hg
      · have g1 := hg
        simp (maxSteps := 1000000) (disch := omega) only [go_sem, ↓reduceIte, g1]
        refine callS_exact (pnone_spec _ _) ?_
        simp (maxSteps := 1000000) (disch := omega) only [go_sem, ↓reduceIte, Nat.reduceEqDiff]
        refine finS_l ?_
        simp (maxSteps := 1000000) (disch := omega) only [go_sem, ↓reduceIte, Int.reduceEq, mutF, k2, g1]
        all_goals (try simp [mutF, k2, g1])
      · have g1 := hg
        simp (maxSteps := 1000000) (disch := omega) only [go_sem, ↓reduceIte, Nat.reduceEqDiff, g1]
        refine finS_l ?_
        simp (maxSteps := 1000000) (disch := omega) only [go_sem, ↓reduceIte, Int.reduceEq, mutF, k2, g1]
        all_goals (try simp [mutF, k2, g1])
    · simp (maxSteps := 1000000) (disch := omega) only [go_sem, ↓reduceIte, Nat.reduceEqDiff]
      have k2 : ¬ m.kind = 2 := by simpa using hx
      rw [condS_some]; refine ⟨fun hx => ?_, fun hx => ?_⟩
      · simp (maxSteps := 1000000) (disch := omega) only [go_sem, ↓reduceIte]
        have k3 : m.kind = 3 := by simpa using hx
        refine callS_exact (name_plan _ _) ?_
        simp (maxSteps := 1000000) (disch := omega) only [go_sem, ↓reduceIte, Nat.reduceEqDiff]
        rw [opEg_some]; refine ⟨fun hg => ?_, fun hg => ?_⟩ <;> try simp only [Bool.and_eq_true] at hg
        · have g1 := hg
          simp (maxSteps := 1000000) (disch := omega) only [go_sem, ↓reduceIte, g1]
          refine callS_exact (pnone_spec _ _) ?_
          simp (maxSteps := 1000000) (disch := omega) only [go_sem, ↓reduceIte, Nat.reduceEqDiff]
          refine finS_l ?_
          simp (maxSteps := 1000000) (disch := omega) only [go_sem, ↓reduceIte, Int.reduceEq, mutF, k3, g1]
          all_goals (try simp [mutF, k3, g1])
        · have g1 := hg
          simp (maxSteps := 1000000) (disch := omega) only [go_sem, ↓reduceIte, Nat.reduceEqDiff, g1]
          refine finS_l ?_
          simp (maxSteps := 1000000) (disch := omega) only [go_sem, ↓reduceIte, Int.reduceEq, mutF, k3, g1]
          all_goals (try simp [mutF, k3, g1])
      · simp (maxSteps := 1000000) (disch := omega) only [go_sem, ↓reduceIte, Nat.reduceEqDiff]
        have k3 : ¬ m.kind = 3 := by simpa using hx
        rw [condS_some]; refine ⟨fun hx => ?_, fun hx => ?_⟩
        · simp (maxSteps := 1000000) (disch := omega) only [go_sem, ↓reduceIte, Nat.reduceAdd, Nat.reduceLeDiff, mut4]
          have k4 : m.kind = 4 := by simpa using hx
          refine finS_l ?_
          simp (maxSteps := 1000000) (disch := omega) only [go_sem, ↓reduceIte, Int.reduceEq, mutF, k4]
          all_goals (try simp [mutF, k4])
        · simp (maxSteps := 1000000) (disch := omega) only [go_sem, ↓reduceIte]
          have k4 : ¬ m.kind = 4 := by simpa using hx
          refine finS_l ?_
          simp (maxSteps := 1000000) (disch := omega) only [go_sem]
          all_goals simp [mutF, k1, k2, k3, k4]

def readQ (q : Request) : Bool := ((((((decide ((q.row.length : Int) ≤ 16) && decide ((q.to.length : Int) ≤ 16)) && (q.to == ([] : Str) || (Op.bytesLess q.row q.to || q.row == q.to))) && q.muts.length == 0) && q.fam == ([] : Str)) && q.qual == ([] : Str)) && decide (q.val = Value.zero)) && filR q.filter
theorem pread_spec (q : Request) (hq : q.wf) : Ans N.plan_read [.agg q.e] (.bool (readQ q)) := by
  intro h
  refine spec_of ck_plan_read ?_
  rw [wp_start]
  simp (maxSteps := 1000000) (disch := omega) only [go_sem, ↓reduceIte, Nat.reduceEqDiff, F.plan_read]
  intro s
  simp (maxSteps := 1000000) (disch := omega) only [go_sem, lenz]
  rw [opEg_some]; refine ⟨fun hg => ?_, fun hg => ?_⟩ <;> try simp only [Bool.and_eq_true] at hg
  · have g1 := hg
    simp (maxSteps := 1000000) (disch := omega) only [go_sem, ↓reduceIte, g1]
    refine callS_exact (pnone_spec _ _) ?_
    simp (maxSteps := 1000000) (disch := omega) only [go_sem, ↓reduceIte, Nat.reduceEqDiff]
    rw [opEg_some]; refine ⟨fun hg => ?_, fun hg => ?_⟩ <;> try simp only [Bool.and_eq_true, Bool.or_eq_false_iff, Bool.not_eq_true', Bool.not_eq_false'] at hg
    · have g2 := hg
      simp (maxSteps := 1000000) (disch := omega) only [go_sem, ↓reduceIte, g2]
      refine callS_exact (filter_spec _ hq.filter _) ?_
      simp (maxSteps := 1000000) (disch := omega) only [go_sem, ↓reduceIte, Nat.reduceEqDiff]
      refine finS_l ?_
      simp (maxSteps := 1000000) (disch := omega) only [go_sem, readQ, g1, g2]
      all_goals (try simp [readQ, g1, g2])
    · have g2 := hg
      simp (maxSteps := 1000000) (disch := omega) only [go_sem, ↓reduceIte, Nat.reduceEqDiff, g2]
      refine finS_l ?_
      simp (maxSteps := 1000000) (disch := omega) only [go_sem, readQ, g1, g2]
      all_goals (try simp [readQ, g1, g2])
  · have g1 := hg
    simp (maxSteps := 1000000) (disch := omega) only [go_sem, ↓reduceIte, Nat.reduceEqDiff, g1]
    refine finS_l ?_
    simp (maxSteps := 1000000) (disch := omega) only [go_sem, readQ, g1]
    all_goals (try simp [readQ, g1])

theorem write1_spec (m : Mut) (hm : m.wf) : Ans N.plan_write_1 [.agg m.e] (.bool (!mutF m)) := by
  intro h
  refine spec_of ck_plan_write_1 ?_
  rw [wp_start]
  simp (maxSteps := 1000000) (disch := omega) only [go_sem, ↓reduceIte, F.plan_write_1]
  intro s
  refine callS_exact (pmut_spec m hm _) ?_
  simp (maxSteps := 1000000) (disch := omega) only [go_sem, ↓reduceIte]
  refine finS_l ?_
  simp (maxSteps := 1000000) (disch := omega) only [go_sem]
  all_goals simp []
def writeQ (q : Request) : Bool := (((((!(q.row == ([] : Str)) && decide ((q.row.length : Int) ≤ 16)) && q.to == ([] : Str)) && empF q.filter) && decide (0 < (q.muts.length : Int))) && decide ((q.muts.length : Int) ≤ 8)) && !(q.muts.any fun m => !mutF m)
theorem pwrite_spec (q : Request) (hq : q.wf) : Ans N.plan_write [.agg q.e] (.bool (writeQ q)) := by
  intro h
  refine spec_of ck_plan_write ?_
  rw [wp_start]
  simp (maxSteps := 1000000) (disch := omega) only [go_sem, ↓reduceIte, Nat.reduceEqDiff, F.plan_write]
  intro s
  rw [opEg_some]; refine ⟨fun hg => ?_, fun hg => ?_⟩ <;> try simp only [Bool.and_eq_true, Bool.not_eq_true'] at hg
  · have g1 := hg
    simp (maxSteps := 1000000) (disch := omega) only [go_sem, ↓reduceIte, g1]
    refine callS_exact (pempty_spec _ _) ?_
    simp (maxSteps := 1000000) (disch := omega) only [go_sem, ↓reduceIte, Nat.reduceEqDiff]
    rw [opEg_some]; refine ⟨fun hg => ?_, fun hg => ?_⟩ <;> try simp only [Bool.and_eq_true] at hg
    · have g2 := hg
      simp (maxSteps := 1000000) (disch := omega) only [go_sem, ↓reduceIte, g2]
      refine callS_exact (containsFunc_Mut q.muts _ [] [] (fun m => !mutF m) _ hq.muts (fun x hx => write1_spec x (hq.mutw x hx) _)) ?_
      simp (maxSteps := 1000000) (disch := omega) only [go_sem, ↓reduceIte, Nat.reduceEqDiff]
      refine finS_l ?_
      simp (maxSteps := 1000000) (disch := omega) only [go_sem, writeQ, g1, g2]
      all_goals (try simp [writeQ, g1, g2])
    · have g2 := hg
      simp (maxSteps := 1000000) (disch := omega) only [go_sem, ↓reduceIte, Nat.reduceEqDiff, g2]
      refine finS_l ?_
      simp (maxSteps := 1000000) (disch := omega) only [go_sem, writeQ, g1, g2]
      all_goals (try simp [writeQ, g1, g2])
  · have g1 := hg
    simp (maxSteps := 1000000) (disch := omega) only [go_sem, ↓reduceIte, Nat.reduceEqDiff, g1]
    refine finS_l ?_
    simp (maxSteps := 1000000) (disch := omega) only [go_sem, writeQ, g1]
    all_goals (try simp [writeQ, g1])

def formQ (q : Request) : Bool :=
  if q.kind = 3 then readQ q
  else if q.kind = 1 then ((writeQ q && q.fam == ([] : Str)) && q.qual == ([] : Str)) && decide (q.val = Value.zero)
  else if q.kind = 2 then (writeQ q && colN q.fam q.qual) && (decide (q.val = Value.zero) || valR q.val)
  else false
theorem formed_spec (q : Request) (hq : q.wf) : Ans N.plan_Formed [.agg q.e] (.bool (formQ q)) := by
  intro h
  refine spec_of ck_plan_Formed ?_
  rw [wp_start]
  simp (maxSteps := 1000000) (disch := omega) only [go_sem, ↓reduceIte, Nat.reduceEqDiff, F.plan_Formed]
  intro s
  rw [condS_some]; refine ⟨fun hx => ?_, fun hx => ?_⟩
  · simp (maxSteps := 1000000) (disch := omega) only [go_sem, ↓reduceIte]
    have k3 : q.kind = 3 := by simpa using hx
    refine callS_exact (pread_spec q hq _) ?_
    simp (maxSteps := 1000000) (disch := omega) only [go_sem, ↓reduceIte]
    refine finS_l ?_
    simp (maxSteps := 1000000) (disch := omega) only [go_sem]
    all_goals simp [formQ, k3]
  · simp (maxSteps := 1000000) (disch := omega) only [go_sem, ↓reduceIte, Nat.reduceEqDiff]
    have k3 : ¬ q.kind = 3 := by simpa using hx
    rw [condS_some]; refine ⟨fun hx => ?_, fun hx => ?_⟩
    · simp (maxSteps := 1000000) (disch := omega) only [go_sem, ↓reduceIte]
      have k1 : q.kind = 1 := by simpa using hx
      refine callS_exact (pwrite_spec q hq _) ?_
      simp (maxSteps := 1000000) (disch := omega) only [go_sem, ↓reduceIte, Nat.reduceEqDiff]
      rw [opEg_some]; refine ⟨fun hg => ?_, fun hg => ?_⟩ <;> try simp only [Bool.and_eq_true] at hg
      · have g1 := hg
        simp (maxSteps := 1000000) (disch := omega) only [go_sem, ↓reduceIte, g1]
        refine callS_exact (pnone_spec _ _) ?_
        simp (maxSteps := 1000000) (disch := omega) only [go_sem, ↓reduceIte, Nat.reduceEqDiff]
        refine finS_l ?_
        simp (maxSteps := 1000000) (disch := omega) only [go_sem, ↓reduceIte, Int.reduceEq, formQ, k1, g1]
        all_goals (try simp [formQ, k1, g1])
      · have g1 := hg
        simp (maxSteps := 1000000) (disch := omega) only [go_sem, ↓reduceIte, Nat.reduceEqDiff, g1]
        refine finS_l ?_
        simp (maxSteps := 1000000) (disch := omega) only [go_sem, ↓reduceIte, Int.reduceEq, formQ, k1, g1]
        all_goals (try simp [formQ, k1, g1])
    · simp (maxSteps := 1000000) (disch := omega) only [go_sem, ↓reduceIte, Nat.reduceEqDiff]
      have k1 : ¬ q.kind = 1 := by simpa using hx
      rw [condS_some]; refine ⟨fun hx => ?_, fun hx => ?_⟩
      · simp (maxSteps := 1000000) (disch := omega) only [go_sem, ↓reduceIte]
        have k2 : q.kind = 2 := by simpa using hx
        refine callS_exact (pwrite_spec q hq _) ?_
        simp (maxSteps := 1000000) (disch := omega) only [go_sem, ↓reduceIte, Nat.reduceEqDiff]
        rw [opEg_some]; refine ⟨fun hg => ?_, fun hg => ?_⟩ <;> try simp only [Bool.and_eq_true, Bool.or_eq_false_iff, Bool.not_eq_true', Bool.not_eq_false'] at hg
        · have g1 := hg
          simp (maxSteps := 1000000) (disch := omega) only [go_sem, ↓reduceIte, Nat.reduceEqDiff, g1]
          refine callS_exact (pcolumn_spec _ _ _) ?_
          simp (maxSteps := 1000000) (disch := omega) only [go_sem, ↓reduceIte, Nat.reduceEqDiff]
          rw [opEg_some]; refine ⟨fun hg => ?_, fun hg => ?_⟩ <;> try simp only [Bool.and_eq_true, Bool.or_eq_false_iff, Bool.not_eq_true', Bool.not_eq_false'] at hg
          · have g2 := hg
            simp (maxSteps := 1000000) (disch := omega) only [go_sem, ↓reduceIte, g2]
            refine callS_exact (pnone_spec _ _) ?_
            simp (maxSteps := 1000000) (disch := omega) only [go_sem, ↓reduceIte, Nat.reduceEqDiff]
            rw [opEg_some]; refine ⟨fun hg => ?_, fun hg => ?_⟩ <;> try simp only [Bool.not_eq_true', Bool.not_eq_false'] at hg
            · have g3 := hg
              simp (maxSteps := 1000000) (disch := omega) only [go_sem, ↓reduceIte, g3]
              refine callS_exact (val_spec _ hq.val _) ?_
              simp (maxSteps := 1000000) (disch := omega) only [go_sem, ↓reduceIte, Nat.reduceEqDiff]
              refine finS_l ?_
              simp (maxSteps := 1000000) (disch := omega) only [go_sem, ↓reduceIte, Int.reduceEq, formQ, k2, g1, g2, g3]
              all_goals (try simp [formQ, k2, g1, g2, g3])
            · have g3 := hg
              simp (maxSteps := 1000000) (disch := omega) only [go_sem, ↓reduceIte, Nat.reduceEqDiff, g3]
              refine finS_l ?_
              simp (maxSteps := 1000000) (disch := omega) only [go_sem, ↓reduceIte, Int.reduceEq, formQ, k2, g1, g2, g3]
              all_goals (try simp [formQ, k2, g1, g2, g3])
          · have g2 := hg
            simp (maxSteps := 1000000) (disch := omega) only [go_sem, ↓reduceIte, Nat.reduceEqDiff, g2]
            refine finS_l ?_
            simp (maxSteps := 1000000) (disch := omega) only [go_sem, ↓reduceIte, Int.reduceEq, formQ, k2, g1, g2]
            all_goals (try simp [formQ, k2, g1, g2])
        · have g1 := hg
          simp (maxSteps := 1000000) (disch := omega) only [go_sem, ↓reduceIte, Nat.reduceEqDiff, g1]
          refine finS_l ?_
          simp (maxSteps := 1000000) (disch := omega) only [go_sem, ↓reduceIte, Int.reduceEq, formQ, k2, g1]
          all_goals (try simp [formQ, k2, g1])
      · simp (maxSteps := 1000000) (disch := omega) only [go_sem, ↓reduceIte]
        have k2 : ¬ q.kind = 2 := by simpa using hx
        refine finS_l ?_
        simp (maxSteps := 1000000) (disch := omega) only [go_sem]
        all_goals simp [formQ, k1, k2, k3]

theorem pclone_spec (q : Request) (hq : q.wf) : Ans N.plan_Clone [.agg q.e] (.agg q.e) := by
  intro h
  refine spec_of ck_plan_Clone ?_
  rw [wp_start]
  simp (maxSteps := 1000000) (disch := omega) only [go_sem, ↓reduceIte, Nat.reduceAdd, F.plan_Clone]
  intro s s2
  refine callS_exact (clone_Mut _ hq.muts _) ?_
  simp (maxSteps := 1000000) (disch := omega) only [go_sem, ↓reduceIte, Nat.reduceEqDiff]
  refine callS_exact (fclone_spec _ hq.filter _) ?_
  simp (maxSteps := 1000000) (disch := omega) only [go_sem, ↓reduceIte, Nat.reduceEqDiff]
  refine finS_l ?_
  simp (maxSteps := 1000000) (disch := omega) only [go_sem]
  all_goals simp []
end Go.Ab.S2

/- Contracts: a request held against a schema (plan). -/
namespace Go.Ab.S2
open Go.Ab
set_option maxRecDepth 100000

def famU (s : Schema) (n : Str) : Bool := (readF ((findF s n).getD Family.zero)).isSome
theorem findF_mem {s : Schema} {n : Str} {f : Family} (h : findF s n = some f) : f ∈ s.fams ∧ f.name = n := by
  unfold findF at h
  exact ⟨List.mem_of_find?_eq_some h, by simpa using List.find?_some h⟩
theorem findF_lays {s : Schema} (hs : s.wf) (n : Str) : ((findF s n).getD Family.zero).layouts.length < 1099511627776 ∧ ((findF s n).getD Family.zero).cols.length < 1099511627776 := by
  cases h : findF s n with
  | none => simp [Family.zero]
  | some f => have := hs.fam f (findF_mem h).1; exact ⟨this.lays, this.cols⟩

theorem vfamily_spec (s : Schema) (n : Str) (hs : s.wf) : Ans N.plan_view_family [.agg s.e, .str n] (.tup [.agg ((findF s n).getD Family.zero).e, .bool (famU s n)]) := by
  intro h
  refine spec_of ck_plan_view_family ?_
  rw [wp_start]
  simp (maxSteps := 1000000) (disch := omega) only [go_sem, ↓reduceIte, Nat.reduceAdd, Nat.reduceEqDiff, reduceCtorEq, F.plan_view_family]
  intro s1 s2
  refine callS_exact (sfind_spec s n hs _) ?_
  simp (maxSteps := 1000000) (disch := omega) only [go_sem, ↓reduceIte, Nat.reduceAdd, Nat.reduceEqDiff]
  intro s3
  refine callS_exact (sread_spec _ (findF_lays hs n).1 _) ?_
  simp (maxSteps := 1000000) (disch := omega) only [go_sem, ↓reduceIte, Nat.reduceEqDiff]
  refine finS_l ?_
  simp (maxSteps := 1000000) (disch := omega) only [go_sem]
  all_goals simp [famU]

def namE (s : Schema) (n : Str) : Int := if famU s n then 0 else 12
theorem vnamed_spec (s : Schema) (n : Str) (hs : s.wf) : Ans N.plan_view_named [.agg s.e, .str n] (.int .i64 (namE s n)) := by
  intro h
  refine spec_of ck_plan_view_named ?_
  rw [wp_start]
  simp (maxSteps := 1000000) (disch := omega) only [go_sem, ↓reduceIte, Nat.reduceAdd, Nat.reduceEqDiff, reduceCtorEq, F.plan_view_named]
  intro s1
  refine callS_exact (vfamily_spec s n hs _) ?_
  simp (maxSteps := 1000000) (disch := omega) only [go_sem, ↓reduceIte, Nat.reduceAdd, Nat.reduceEqDiff]
  intro s2
  rw [condS_some]; refine ⟨fun hx => ?_, fun hx => ?_⟩
  · simp (maxSteps := 1000000) (disch := omega) only [go_sem, ↓reduceIte]
    rw [Bool.not_eq_true'] at hx
    refine finS_l ?_
    simp (maxSteps := 1000000) (disch := omega) only [go_sem, ↓reduceIte, namE, hx]
    all_goals (try simp [namE, hx])
  · simp (maxSteps := 1000000) (disch := omega) only [go_sem, ↓reduceIte]
    rw [Bool.not_eq_false'] at hx
    refine finS_l ?_
    simp (maxSteps := 1000000) (disch := omega) only [go_sem, ↓reduceIte, namE, hx]
    all_goals (try simp [namE, hx])

def valE (s : Schema) (fam qual : Str) (x : Value) : Int :=
  if !famU s fam || !(colF ((findF s fam).getD Family.zero) qual).isSome || ((colF ((findF s fam).getD Family.zero) qual).getD Column.zero).state != 3 then 12
  else if x.kind != 0 && x.kind != ((colF ((findF s fam).getD Family.zero) qual).getD Column.zero).kind then 14 else 0
theorem vvalue_spec (s : Schema) (fam qual : Str) (x : Value) (hs : s.wf) : Ans N.plan_view_value [.agg s.e, .str fam, .str qual, .agg x.e] (.int .i64 (valE s fam qual x)) := by
  intro h
  refine spec_of ck_plan_view_value ?_
  rw [wp_start]
  simp (maxSteps := 1000000) (disch := omega) only [go_sem, ↓reduceIte, Nat.reduceAdd, Nat.reduceEqDiff, reduceCtorEq, F.plan_view_value]
  intro s1 s2
  refine callS_exact (vfamily_spec s fam hs _) ?_
  simp (maxSteps := 1000000) (disch := omega) only [go_sem, ↓reduceIte, Nat.reduceAdd, Nat.reduceEqDiff]
  intro s3
  refine callS_exact (scolumn_spec _ qual (findF_lays hs fam).2 _) ?_
  simp (maxSteps := 1000000) (disch := omega) only [go_sem, ↓reduceIte, Nat.reduceAdd, Nat.reduceEqDiff]
  intro s4
  rw [condS_some]; refine ⟨fun hx => ?_, fun hx => ?_⟩
  · simp (maxSteps := 1000000) (disch := omega) only [go_sem, ↓reduceIte]
    refine finS_l ?_
    simp (maxSteps := 1000000) (disch := omega) only [go_sem, ↓reduceIte, valE, hx]
    all_goals (try simp [valE, hx])
  · simp (maxSteps := 1000000) (disch := omega) only [go_sem, ↓reduceIte, Nat.reduceEqDiff]
    have hx1 := hx
    rw [condS_some]; refine ⟨fun hx => ?_, fun hx => ?_⟩
    · simp (maxSteps := 1000000) (disch := omega) only [go_sem, ↓reduceIte]
      refine finS_l ?_
      simp (maxSteps := 1000000) (disch := omega) only [go_sem, ↓reduceIte, valE, hx1, hx]
      all_goals (try simp [valE, hx1, hx])
    · simp (maxSteps := 1000000) (disch := omega) only [go_sem, ↓reduceIte]
      refine finS_l ?_
      simp (maxSteps := 1000000) (disch := omega) only [go_sem, ↓reduceIte, valE, hx1, hx]
      all_goals (try simp [valE, hx1, hx])

def mutE (s : Schema) (m : Mut) : Int := if m.kind = 1 ∨ m.kind = 2 then valE s m.fam m.qual m.val else if m.kind = 3 then namE s m.fam else 0
theorem vmut_spec (s : Schema) (m : Mut) (hs : s.wf) : Ans N.plan_view_mut [.agg s.e, .agg m.e] (.int .i64 (mutE s m)) := by
  intro h
  refine spec_of ck_plan_view_mut ?_
  rw [wp_start]
  simp (maxSteps := 1000000) (disch := omega) only [go_sem, ↓reduceIte, Nat.reduceAdd, Nat.reduceEqDiff, reduceCtorEq, F.plan_view_mut]
  intro s1 s2
  have c1 : (m.kind == 1) = true ∨ (m.kind == 1) = false := by cases (m.kind == 1) <;> simp
  have c2 : (m.kind == 2) = true ∨ (m.kind == 2) = false := by cases (m.kind == 2) <;> simp
  rcases c1 with c1 | c1
  · simp (maxSteps := 1000000) (disch := omega) only [go_sem, ↓reduceIte, Nat.reduceEqDiff, c1]
    have k1 : m.kind = 1 := by simpa using c1
    refine callS_exact (vvalue_spec s _ _ _ hs _) ?_
    simp (maxSteps := 1000000) (disch := omega) only [go_sem, ↓reduceIte]
    refine finS_l ?_
    simp (maxSteps := 1000000) (disch := omega) only [go_sem]
    all_goals simp [mutE, k1]
  · rcases c2 with c2 | c2
    · simp (maxSteps := 1000000) (disch := omega) only [go_sem, ↓reduceIte, Nat.reduceEqDiff, c1, c2]
      have k2 : m.kind = 2 := by simpa using c2
      refine callS_exact (vvalue_spec s _ _ _ hs _) ?_
      simp (maxSteps := 1000000) (disch := omega) only [go_sem, ↓reduceIte]
      refine finS_l ?_
      simp (maxSteps := 1000000) (disch := omega) only [go_sem]
      all_goals simp [mutE, k2]
    · simp (maxSteps := 1000000) (disch := omega) only [go_sem, ↓reduceIte, Nat.reduceEqDiff, c1, c2]
      have k1 : ¬ m.kind = 1 := by simpa using c1
      have k2 : ¬ m.kind = 2 := by simpa using c2
      rw [condS_some]; refine ⟨fun hx => ?_, fun hx => ?_⟩
      · simp (maxSteps := 1000000) (disch := omega) only [go_sem, ↓reduceIte, Nat.reduceEqDiff]
        have k3 : m.kind = 3 := by simpa using hx
        refine callS_exact (vnamed_spec s _ hs _) ?_
        simp (maxSteps := 1000000) (disch := omega) only [go_sem, ↓reduceIte]
        refine finS_l ?_
        simp (maxSteps := 1000000) (disch := omega) only [go_sem]
        all_goals simp [mutE, k3]
      · simp (maxSteps := 1000000) (disch := omega) only [go_sem, ↓reduceIte]
        have k3 : ¬ m.kind = 3 := by simpa using hx
        refine finS_l ?_
        simp (maxSteps := 1000000) (disch := omega) only [go_sem]
        all_goals simp [mutE, k1, k2, k3]

def firstE {α : Type} (g : α → Int) : List α → Int
  | [] => 0
  | x :: r => if g x = 0 then firstE g r else g x

theorem first_Str (l : List Str) (f : FuncId) (fi ca : List AV) (g : Str → Int) (h : Heap) (hl : l.length < 1099511627776) (hf : ∀ x ∈ l, Ans f (fi ++ (.str x :: ca)) (.int .i64 (g x))) : SpecA PP N.plan_first_string [.psl (strs l), .fn f fi ca] h (fun r h' => r = .ret (.int .i64 (firstE g l)) ∧ h' = h) := by
  refine spec_of ck_plan_first_string ?_
  rw [wp_start]
  simp (maxSteps := 1000000) (disch := omega) only [go_sem, ↓reduceIte, Nat.reduceAdd, Nat.reduceEqDiff, reduceCtorEq, F.plan_first_string]
  refine loopS_list l (fun pre (_ : Unit) => ⟨[(1, .fn f fi ca), (8, .psl (strs l)), (9, .int .i64 l.length), (10, .int .i64 pre.length)], h⟩) (fun pre post _ => firstE g l = firstE g post) () rfl rfl ?_
  rintro pre post ⟨⟩ hpp hJ
  cases post with
  | nil =>
    simp (maxSteps := 1000000) (disch := omega) only [go_sem, ↓reduceIte, Nat.reduceEqDiff, nl0 hpp]
    refine finS_l ?_
    simp (maxSteps := 1000000) (disch := omega) only [go_sem, hJ]
    all_goals simp [firstE]
  | cons x post =>
    have hn := nl hpp
    simp (maxSteps := 1000000) (disch := omega) only [go_sem, ↓reduceIte, Nat.reduceEqDiff, gstrs hpp, hn]
    try intro s2
    refine callS_exact (hf x (by simp [hpp]) _) ?_
    simp (maxSteps := 1000000) (disch := omega) only [go_sem, ↓reduceIte, Nat.reduceEqDiff]
    rw [condS_some]; refine ⟨fun hx => ?_, fun hx => ?_⟩
    · simp (maxSteps := 1000000) (disch := omega) only [go_sem, ↓reduceIte, Nat.reduceEqDiff]
      have hx : ¬ g x = 0 := by simpa using hx
      refine finS_l ?_
      simp (maxSteps := 1000000) (disch := omega) only [go_sem, hJ]
      all_goals simp [firstE, hx]
    · simp (maxSteps := 1000000) (disch := omega) only [go_sem, ↓reduceIte, Nat.reduceEqDiff]
      have hx : g x = 0 := by simpa using hx
      refine lp_next (h.length + 0) () hpp ?_ ?_ ?_
      · rw [hJ]; simp [firstE, hx]
      · simp (maxSteps := 1000000) (disch := omega) only [go_sem, ↓reduceIte, Nat.reduceEqDiff, wrap64, Int.natCast_add, Int.cast_ofNat_Int]
      · simp (maxSteps := 1000000) (disch := omega) only [go_sem]
theorem first_Mut (l : List Mut) (f : FuncId) (fi ca : List AV) (g : Mut → Int) (h : Heap) (hl : l.length < 1099511627776) (hf : ∀ x ∈ l, Ans f (fi ++ (.agg x.e :: ca)) (.int .i64 (g x))) : SpecA PP N.plan_first_apiMut [.psl (l.map Mut.e), .fn f fi ca] h (fun r h' => r = .ret (.int .i64 (firstE g l)) ∧ h' = h) := by
  refine spec_of ck_plan_first_apiMut ?_
  rw [wp_start]
  simp (maxSteps := 1000000) (disch := omega) only [go_sem, ↓reduceIte, Nat.reduceAdd, Nat.reduceEqDiff, reduceCtorEq, F.plan_first_apiMut]
  refine loopS_list l (fun pre (_ : Unit) => ⟨[(1, .fn f fi ca), (8, .psl (l.map Mut.e)), (9, .int .i64 l.length), (10, .int .i64 pre.length)], h⟩) (fun pre post _ => firstE g l = firstE g post) () rfl rfl ?_
  rintro pre post ⟨⟩ hpp hJ
  cases post with
  | nil =>
    simp (maxSteps := 1000000) (disch := omega) only [go_sem, ↓reduceIte, Nat.reduceEqDiff, nl0 hpp]
    refine finS_l ?_
    simp (maxSteps := 1000000) (disch := omega) only [go_sem, hJ]
    all_goals simp [firstE]
  | cons x post =>
    have hn := nl hpp
    simp (maxSteps := 1000000) (disch := omega) only [go_sem, ↓reduceIte, Nat.reduceAdd, Nat.reduceEqDiff, gml Mut.e hpp, hn]
    try intro s2
    refine callS_exact (hf x (by simp [hpp]) _) ?_
    simp (maxSteps := 1000000) (disch := omega) only [go_sem, ↓reduceIte, Nat.reduceEqDiff]
    rw [condS_some]; refine ⟨fun hx => ?_, fun hx => ?_⟩
    · simp (maxSteps := 1000000) (disch := omega) only [go_sem, ↓reduceIte, Nat.reduceEqDiff]
      have hx : ¬ g x = 0 := by simpa using hx
      refine finS_l ?_
      simp (maxSteps := 1000000) (disch := omega) only [go_sem, hJ]
      all_goals simp [firstE, hx]
    · simp (maxSteps := 1000000) (disch := omega) only [go_sem, ↓reduceIte, Nat.reduceEqDiff]
      have hx : g x = 0 := by simpa using hx
      refine lp_next (h.length + 0) () hpp ?_ ?_ ?_
      · rw [hJ]; simp [firstE, hx]
      · simp (maxSteps := 1000000) (disch := omega) only [go_sem, ↓reduceIte, Nat.reduceEqDiff, wrap64, Int.natCast_add, Int.cast_ofNat_Int]
      · simp (maxSteps := 1000000) (disch := omega) only [go_sem]

def chkE (s : Schema) (q : Request) : Int :=
  if !schP s || !formQ q then 10
  else if q.kind = 3 then firstE (namE s) q.filter.fams
  else if q.kind = 2 ∧ valE s q.fam q.qual q.val ≠ 0 then valE s q.fam q.qual q.val
  else firstE (mutE s) q.muts

theorem check_spec (s : Schema) (q : Request) (hs : s.wf) (hq : q.wf) : Ans N.plan_Check [.agg s.e, .agg q.e] (.int .i64 (chkE s q)) := by
  intro h
  refine spec_of ck_plan_Check ?_
  rw [wp_start]
  simp (maxSteps := 1000000) (disch := omega) only [go_sem, ↓reduceIte, Nat.reduceAdd, Nat.reduceEqDiff, reduceCtorEq, F.plan_Check]
  intro s1 s2
  refine callS_exact (right_spec s hs _) ?_
  simp (maxSteps := 1000000) (disch := omega) only [go_sem, ↓reduceIte, Nat.reduceEqDiff]
  rw [opEg_some]; refine ⟨fun hg => ?_, fun hg => ?_⟩ <;> try simp only [Bool.and_eq_true, Bool.or_eq_false_iff, Bool.not_eq_true', Bool.not_eq_false'] at hg
  · have g1 := hg
    simp (maxSteps := 1000000) (disch := omega) only [go_sem, ↓reduceIte, g1]
    refine callS_exact (formed_spec q hq _) ?_
    simp (maxSteps := 1000000) (disch := omega) only [go_sem, ↓reduceIte, Nat.reduceEqDiff]
    rw [condS_some]; refine ⟨fun hx => ?_, fun hx => ?_⟩
    · simp (maxSteps := 1000000) (disch := omega) only [go_sem, ↓reduceIte]
      rw [Bool.not_eq_true'] at hx
      refine finS_l ?_
      simp (maxSteps := 1000000) (disch := omega) only [go_sem, ↓reduceIte, chkE, hx]
      all_goals (try simp [chkE, hx])
    · simp (maxSteps := 1000000) (disch := omega) only [go_sem, ↓reduceIte, Nat.reduceAdd, Nat.reduceEqDiff]
      rw [Bool.not_eq_false'] at hx
      have g2 := hx
      intro s3
      rw [condS_some]; refine ⟨fun hx => ?_, fun hx => ?_⟩
      · simp (maxSteps := 1000000) (disch := omega) only [go_sem, ↓reduceIte, Nat.reduceEqDiff]
        have k3 : q.kind = 3 := by simpa using hx
        refine callS_exact (first_Str q.filter.fams _ [.agg s.e] [] (namE s) _ hq.filter.fams (fun x _ => vnamed_spec s x hs)) ?_
        simp (maxSteps := 1000000) (disch := omega) only [go_sem, ↓reduceIte]
        refine finS_l ?_
        simp (maxSteps := 1000000) (disch := omega) only [go_sem]
        all_goals simp [chkE, g1, g2, k3]
      · simp (maxSteps := 1000000) (disch := omega) only [go_sem, ↓reduceIte, Nat.reduceEqDiff]
        have k3 : ¬ q.kind = 3 := by simpa using hx
        rw [condS_some]; refine ⟨fun hx => ?_, fun hx => ?_⟩
        · simp (maxSteps := 1000000) (disch := omega) only [go_sem, ↓reduceIte, Nat.reduceEqDiff]
          have k2 : q.kind = 2 := by simpa using hx
          refine callS_exact (vvalue_spec s _ _ _ hs _) ?_
          simp (maxSteps := 1000000) (disch := omega) only [go_sem, ↓reduceIte, Nat.reduceEqDiff]
          rw [condS_some]; refine ⟨fun hx => ?_, fun hx => ?_⟩
          · simp (maxSteps := 1000000) (disch := omega) only [go_sem, ↓reduceIte, Nat.reduceEqDiff]
            have hv : ¬ valE s q.fam q.qual q.val = 0 := by simpa using hx
            refine finS_l ?_
            simp (maxSteps := 1000000) (disch := omega) only [go_sem]
            all_goals simp [chkE, g1, g2, k2, hv]
          · simp (maxSteps := 1000000) (disch := omega) only [go_sem, ↓reduceIte, Nat.reduceEqDiff]
            have hv : valE s q.fam q.qual q.val = 0 := by simpa using hx
            refine callS_exact (first_Mut q.muts _ [.agg s.e] [] (mutE s) _ hq.muts (fun x _ => vmut_spec s x hs)) ?_
            simp (maxSteps := 1000000) (disch := omega) only [go_sem, ↓reduceIte]
            refine finS_l ?_
            simp (maxSteps := 1000000) (disch := omega) only [go_sem]
            all_goals simp [chkE, g1, g2, k2, hv]
        · simp (maxSteps := 1000000) (disch := omega) only [go_sem, ↓reduceIte, Nat.reduceEqDiff]
          have k2 : ¬ q.kind = 2 := by simpa using hx
          refine callS_exact (first_Mut q.muts _ [.agg s.e] [] (mutE s) _ hq.muts (fun x _ => vmut_spec s x hs)) ?_
          simp (maxSteps := 1000000) (disch := omega) only [go_sem, ↓reduceIte]
          refine finS_l ?_
          simp (maxSteps := 1000000) (disch := omega) only [go_sem]
          all_goals simp [chkE, g1, g2, k2, k3]
  · have g1 := hg
    simp (maxSteps := 1000000) (disch := omega) only [go_sem, ↓reduceIte, Nat.reduceEqDiff, g1]
    refine finS_l ?_
    simp (maxSteps := 1000000) (disch := omega) only [go_sem, ↓reduceIte, chkE, g1]
    all_goals (try simp [chkE, g1])
end Go.Ab.S2

/- Contracts: cells are struck out of a slice of one's own (slices.DeleteFunc). -/
namespace Go.Ab.S2
open Go.Ab
set_option maxRecDepth 100000

theorem set_get {h : Heap} {l : Nat} (hl : l < h.length) (o : AObj) : (h.set l o)[l]? = some o := List.getElem?_set_self hl
theorem set_set' (h : Heap) (l : Nat) (o o' : AObj) : (h.set l o).set l o' = h.set l o' := List.set_set ..
theorem set_same {h : Heap} {l : Nat} {o : AObj} (hl : h[l]? = some o) : h.set l o = h := by
  refine List.ext_getElem? fun i => ?_
  by_cases hi : l = i
  · subst hi; rw [List.getElem?_set_self (List.getElem?_eq_some_iff.1 hl).1, hl]
  · rw [List.getElem?_set_ne hi]
theorem app_get {h : Heap} {l : Nat} (hl : l < h.length) (o : AObj) (r : Heap) : (h.set l o ++ r)[l]? = some o := by
  rw [List.getElem?_append_left (by simpa using hl)]; exact set_get hl o
theorem app_set {h : Heap} {l : Nat} (hl : l < h.length) (o o' : AObj) (r : Heap) : (h.set l o ++ r).set l o' = h.set l o' ++ r := by
  rw [List.set_append_left _ _ (by simpa using hl), set_set']

/-- What the rest of memory holds is as it was. -/
def Rest (h : Heap) (l : Nat) (H : Heap) : Prop := ∀ k, k ≠ l → k < h.length → H[k]? = h[k]?
theorem Rest.set {h : Heap} {l : Nat} (o : AObj) (r : Heap) : Rest h l (h.set l o ++ r) := by
  intro k hk hlt
  rw [List.getElem?_append_left (by simpa using hlt), List.getElem?_set_ne (fun e => hk e.symm)]
theorem Rest.set0 {h : Heap} {l : Nat} (o : AObj) : Rest h l (h.set l o) := by
  intro k hk hlt
  rw [List.getElem?_set_ne (fun e => hk e.symm)]
theorem Rest.refl (h : Heap) (l : Nat) : Rest h l h := fun _ _ _ => rfl

theorem indexSl (xs : List Cell) (f : FuncId) (ca : List AV) (p : Cell → Bool) (h : Heap) (l s : Nat) (hx : h[l]? = some (.arr s 0 8 (xs.map Cell.e))) (hl : xs.length < 1099511627776)
    (hp : ∀ x ∈ xs, SpecA PP f (.agg x.e :: ca) h (fun r h' => r = .ret (.bool (p x)) ∧ h' = h)) :
    SpecA PP N.slices_IndexFunc_api_Cell_api_Cell_ [.sl l s 0 xs.length, .fn f [] ca] h (fun r h' => r = .ret (.int .i64 (idx p xs)) ∧ h' = h) := by
  refine spec_of ck_slices_IndexFunc_api_Cell_api_Cell_ ?_
  rw [wp_start]
  simp (maxSteps := 1000000) (disch := omega) only [go_sem, ↓reduceIte, Nat.reduceAdd, Nat.reduceEqDiff, Int.reduceNeg, reduceCtorEq, F.slices_IndexFunc_api_Cell_api_Cell_]
  simp (maxSteps := 1000000) (disch := omega) only [go_sem, ↓reduceIte, Nat.reduceEqDiff, Int.reduceNeg, reduceCtorEq, hx]
  refine loopS_list xs (fun pre (_ : Unit) => ⟨[(0, .sl l s 0 xs.length), (1, .fn f [] ca), (7, .int .i64 xs.length), (8, .int .i64 pre.length)], h⟩) (fun pre post _ => xs.findIdx? p = (post.findIdx? p).map (· + pre.length)) () rfl (by simp) ?_
  rintro pre post ⟨⟩ hpp hJ
  cases post with
  | nil =>
    simp (maxSteps := 1000000) (disch := omega) only [go_sem, ↓reduceIte, Nat.reduceEqDiff, Int.reduceNeg, reduceCtorEq, nl0 hpp]
    refine finS_l ?_
    simp (maxSteps := 1000000) (disch := omega) only [go_sem, Int.reduceNeg]
    all_goals simp [idx, hJ]
  | cons x post =>
    have hn := nl hpp
    have hlt : (((pre.length : Int) < ((xs.length : Nat) : Int))) = True := by simp; omega
    simp (maxSteps := 1000000) (disch := omega) only [go_sem, ↓reduceIte, Nat.reduceEqDiff, Int.reduceNeg, reduceCtorEq, hx, gml Cell.e hpp, hlt]
    refine callS_exact (hp x (by simp [hpp])) ?_
    simp (maxSteps := 1000000) (disch := omega) only [go_sem, ↓reduceIte, Nat.reduceEqDiff, Int.reduceNeg, reduceCtorEq]
    rw [condS_some]; refine ⟨fun hx => ?_, fun hx => ?_⟩
    · simp (maxSteps := 1000000) (disch := omega) only [go_sem, ↓reduceIte, Nat.reduceEqDiff, Int.reduceNeg, reduceCtorEq]
      refine finS_l ?_
      simp (maxSteps := 1000000) (disch := omega) only [go_sem]
      all_goals simp [(fidx hJ).1 hx]
    · simp (maxSteps := 1000000) (disch := omega) only [go_sem, ↓reduceIte, Nat.reduceEqDiff, Int.reduceNeg, reduceCtorEq]
      refine lp_next (h.length + 0) () hpp ((fidx hJ).2 hx) ?_ ?_
      · simp (maxSteps := 1000000) (disch := omega) only [go_sem, ↓reduceIte, Nat.reduceEqDiff, reduceCtorEq, wrap64, Int.natCast_add, Int.cast_ofNat_Int, hn]
      · simp (maxSteps := 1000000) (disch := omega) only [go_sem]

theorem gapp {α β : Type} (f : α → β) (a b c : List α) (x : α) {k : Nat} (hk : k = a.length + b.length) : ((a ++ (b ++ x :: c)).map f)[k]? = some (f x) := by
  subst hk
  rw [← List.append_assoc, ← List.length_append]
  exact gml f rfl
theorem setapp {α β : Type} (f : α → β) (a b : List α) (m x : α) : ((a ++ m :: b).map f).set a.length (f x) = (a ++ x :: b).map f := by
  simp [List.set_append_right]

theorem deleteFunc_spec (xs : List Cell) (f : FuncId) (ca : List AV) (p : Cell → Bool) (h : Heap) (l s : Nat) (hx : h[l]? = some (.arr s 0 8 (xs.map Cell.e))) (hl : xs.length < 1099511627776)
    (hp : ∀ x ∈ xs, ∀ H, Rest h l H → SpecA PP f (.agg x.e :: ca) H (fun r h' => r = .ret (.bool (p x)) ∧ h' = H)) :
    SpecA PP N.slices_DeleteFunc_api_Cell_api_Cell_ [.sl l s 0 xs.length, .fn f [] ca] h (fun r h' => r = .ret (.sl l s 0 (xs.filter fun x => !p x).length) ∧ h' = h.set l (.arr s 0 8 ((xs.filter fun x => !p x).map Cell.e))) := by
  have hlt := (List.getElem?_eq_some_iff.1 hx).1
  refine spec_of ck_slices_DeleteFunc_api_Cell_api_Cell_ ?_
  rw [wp_start]
  simp (maxSteps := 1000000) (disch := omega) only [go_sem, ↓reduceIte, Nat.reduceAdd, Nat.reduceEqDiff, Int.reduceNeg, reduceCtorEq, F.slices_DeleteFunc_api_Cell_api_Cell_]
  refine callS_exact (indexSl xs f ca p h l s hx hl (fun x hm => hp x hm h (.refl h l))) ?_
  simp (maxSteps := 1000000) (disch := omega) only [go_sem, ↓reduceIte, Nat.reduceEqDiff, Int.reduceNeg, reduceCtorEq]
  cases hi : xs.findIdx? p with
  | none =>
    have e : idx p xs = -1 := by simp [idx, hi]
    rw [List.findIdx?_eq_none_iff] at hi
    have ef : xs.filter (fun x => !p x) = xs := List.filter_eq_self.2 fun x hxm => by simp [hi x hxm]
    simp (maxSteps := 1000000) (disch := omega) only [go_sem, ↓reduceIte, Int.reduceNeg, BEq.rfl, e]
    refine finS_keep ?_
    rw [ef, set_same hx]
    exact ⟨rfl, rfl⟩
  | some k =>
    obtain ⟨hk, hpk, hmin⟩ := List.findIdx?_eq_some_iff_getElem.1 hi
    have e : idx p xs = (k : Int) := by simp [idx, hi]
    have hne : ((k : Int) == -1) = false := by simp
    simp (maxSteps := 1000000) (disch := omega) only [go_sem, ↓reduceIte, Nat.reduceEqDiff, Int.reduceNeg, reduceCtorEq, e, hne, wrap64]
    have hsplit : xs = xs.take k ++ xs[k] :: xs.drop (k + 1) := by rw [List.getElem_cons_drop, List.take_append_drop]
    have hfk : (xs.take k).filter (fun x => !p x) = xs.take k := by
      refine List.filter_eq_self.2 fun x hxm => ?_
      obtain ⟨j, hj, rfl⟩ := List.mem_take_iff_getElem.1 hxm
      simpa using hmin j (by omega)
    have hlen0 : (xs.take k).length = k := by simp; omega
    have hfin : xs.filter (fun x => !p x) = xs.take k ++ (xs.drop (k + 1)).filter fun x => !p x := by
      conv => lhs; rw [hsplit]
      rw [List.filter_append, hfk, List.filter_cons]
      simp [hpk]
    -- what is kept of what has been gone through, what lies behind it, the rest
    refine loopS_list (xs.drop (k + 1)) (fun _ (e : List Cell × List Cell × Nat × Nat) => ⟨[(0, .sl l s 0 xs.length), (1, .fn f [] ca), (5, .int .i64 e.2.2.1), (6, .int .i64 e.2.2.2)], h.set l (.arr s 0 8 ((e.1 ++ (e.2.1 ++ xs.drop e.2.2.2)).map Cell.e))⟩) (fun pre post e => 0 < e.2.1.length ∧ e.1 = (xs.take k ++ pre.filter fun x => !p x) ∧ e.2.2.1 = e.1.length ∧ e.2.2.2 = k + 1 + pre.length ∧ e.2.2.1 + e.2.1.length = e.2.2.2) (xs.take k, [xs[k]], k, k + 1) ?_ ?_ ?_
    · have : (xs.take k ++ (xs[k] :: xs.drop (k + 1))) = xs := hsplit.symm
      simp only [List.cons_append, List.nil_append, this]
      rw [set_same hx]
      simp (maxSteps := 1000000) (disch := omega) only [go_sem, ↓reduceIte, Nat.reduceEqDiff, reduceCtorEq]
      all_goals simp
    · simp [hlen0]
    rintro pre post ⟨K, M, i, j⟩ hpp ⟨hM, hK, hi', hj', hlenM⟩
    simp only at hM hK hi' hj' hlenM ⊢
    have hd : xs.drop j = post := by rw [hj', ← List.drop_drop, hpp]; simp
    have hxl : xs.length = j + post.length := by
      have := congrArg List.length hpp
      simp at this; omega
    rw [hd]
    cases post with
    | nil =>
      simp only [List.length_nil] at hxl
      have hlt2 : ((j : Int) < (xs.length : Int)) = False := by simp; omega
      simp only [List.append_nil] at hpp
      have c1 : i ≤ xs.length := by omega
      have c2 : i < xs.length := by omega
      simp (maxSteps := 1000000) (disch := omega) only [go_sem, ↓reduceIte, Nat.reduceEqDiff, reduceCtorEq, set_get hlt, hlt2, c1, c2, set_set']
      refine finS_keep ?_
      have ek : K = xs.filter fun x => !p x := by rw [hK, hfin, hpp]
      rw [← ek, hi']
      refine ⟨rfl, ?_⟩
      congr 2
      simp (maxSteps := 1000000) (disch := omega) only [go_sem, List.append_nil, List.map_append]
      rw [← List.length_map (f := Cell.e), List.take_left']
      rfl
    | cons x post =>
      simp only [List.length_cons] at hxl
      have hlt2 : ((j : Int) < (xs.length : Int)) = True := by simp; omega
      have hg : ((K ++ (M ++ x :: post)).map Cell.e)[j]? = some x.e := gapp Cell.e _ _ _ x (by omega)
      have hgj : j < xs.length := by omega
      simp (maxSteps := 1000000) (disch := omega) only [go_sem, ↓reduceIte, Nat.reduceAdd, Nat.reduceEqDiff, reduceCtorEq, set_get hlt, hlt2, hg, Int.toNat_natCast]
      intro s2
      refine callS_exact (hp x (List.mem_of_mem_drop (by rw [hpp]; simp)) _ (.set _ _)) ?_
      simp (maxSteps := 1000000) (disch := omega) only [go_sem, ↓reduceIte, Nat.reduceEqDiff, reduceCtorEq]
      rw [condS_some]; refine ⟨fun hx => ?_, fun hx => ?_⟩
      · obtain ⟨m, M', rfl⟩ : ∃ m M', M = m :: M' := by cases M with | nil => simp at hM | cons m M' => exact ⟨m, M', rfl⟩
        have hgi : ((K ++ m :: (M' ++ x :: post)).map Cell.e)[i]? = some m.e := by have := gapp Cell.e K [] (M' ++ x :: post) m (k := i) (by simp [hi']); simpa using this
        have hgs : ((K ++ m :: (M' ++ x :: post)).map Cell.e).set i x.e = ((K ++ x :: (M' ++ x :: post)).map Cell.e) := by rw [hi']; exact setapp Cell.e K (M' ++ x :: post) m x
        have c2 : ((i : Int) < (xs.length : Int)) = True := by simp; omega
        have hnp : p x = false := by simpa using hx
        have hd2 : xs.drop (j + 1) = post := by rw [← List.drop_drop, hd]; rfl
        simp (maxSteps := 1000000) (disch := omega) only [go_sem, ↓reduceIte, Nat.reduceEqDiff, reduceCtorEq, app_get hlt, app_set hlt, c2, hgi, hgs]
        refine lp_next (h.length + 0) (K ++ [x], M' ++ [x], i + 1, j + 1) hpp ?_ ?_ ?_
        · simp only [List.length_append, List.length_cons, List.length_nil, List.filter_append, List.filter_cons, hnp, hK] at *
          simp
          omega
        · simp (maxSteps := 1000000) (disch := omega) only [go_sem, ↓reduceIte, Nat.reduceEqDiff, reduceCtorEq, wrap64, Int.natCast_add, Int.cast_ofNat_Int]
        · simp only [hd2]
          simp (maxSteps := 1000000) (disch := omega) only [go_sem]
      · have hnp : p x = true := by simpa using hx
        have hd2 : xs.drop (j + 1) = post := by rw [← List.drop_drop, hd]; rfl
        simp (maxSteps := 1000000) (disch := omega) only [go_sem, ↓reduceIte, Nat.reduceEqDiff, reduceCtorEq]
        refine lp_next (h.length + 0) (K, M ++ [x], i, j + 1) hpp ?_ ?_ ?_
        · simp only [List.length_append, List.length_cons, List.length_nil, List.filter_append, List.filter_cons, hnp, hK] at *
          simp
          omega
        · simp (maxSteps := 1000000) (disch := omega) only [go_sem, ↓reduceIte, Nat.reduceEqDiff, reduceCtorEq, wrap64, Int.natCast_add, Int.cast_ofNat_Int]
        · simp only [hd2]
          simp (maxSteps := 1000000) (disch := omega) only [go_sem]
end Go.Ab.S2

/- The contract of the cells' order (codec). -/
namespace Go.Ab.S2
open Go.Ab
set_option maxRecDepth 100000

def order (a b : Cell) : Int := orI [cmpS a.row b.row, cmpS a.fam b.fam, cmpI (whole a) (whole b), cmpS a.qual b.qual, cmpI b.time a.time, cmpI b.kind a.kind]

set_option maxHeartbeats 8000000 in
theorem order_spec (a b : Cell) : Ans N.codec_Order [.agg a.e, .agg b.e] (.int .i64 (order a b)) := by
  intro h
  refine spec_of ck_codec_Order ?_
  rw [wp_start]
  simp (maxSteps := 1000000) (disch := omega) only [go_sem, ↓reduceIte, Nat.reduceAdd, Nat.reduceEqDiff, reduceCtorEq, F.codec_Order]
  intro s s2
  refine callS_exact (compare_spec _ _ _) ?_
  try simp (maxSteps := 1000000) (disch := omega) only [go_sem, ↓reduceIte, Nat.reduceAdd, Nat.reduceMul, Nat.reduceSub, Nat.reduceEqDiff, Nat.reduceLeDiff, Nat.reduceLT, Nat.reduceBEq, Int.reduceBEq, Int.reduceBNe, Int.reduceEq, Int.reduceNeg, Int.reduceAdd, Int.reduceSub, Int.reduceMul, List.cons_beq_cons, BEq.rfl, Int.reduceToNat, Int.reduceLE, Int.reduceLT, reduceCtorEq]
  repeat first | refine opS_sI (by simp (maxSteps := 1000000) (disch := omega) only [go_sem, ↓reduceIte, Nat.reduceEqDiff]) ?_ | refine opS_sgI (by simp (maxSteps := 1000000) (disch := omega) only [go_sem, opS_s, opS_sg, opS_b, opS_bg, ↓reduceIte, Nat.reduceAdd, Nat.reduceMul, Nat.reduceSub, Nat.reduceEqDiff, Nat.reduceLeDiff, Nat.reduceLT, Nat.reduceBEq, Int.reduceBEq, Int.reduceBNe, Int.reduceEq, Int.reduceNeg, Int.reduceAdd, Int.reduceSub, Int.reduceMul, List.cons_beq_cons, BEq.rfl, Int.reduceToNat, Int.reduceLE, Int.reduceLT, reduceCtorEq]) ?_ | refine opS_bI (by simp (maxSteps := 1000000) (disch := omega) only [go_sem]) ?_
  try simp (maxSteps := 1000000) (disch := omega) only [go_sem, ↓reduceIte, Nat.reduceEqDiff]
  refine callS_exact (compare_spec _ _ _) ?_
  try simp (maxSteps := 1000000) (disch := omega) only [go_sem, ↓reduceIte, Nat.reduceAdd, Nat.reduceMul, Nat.reduceSub, Nat.reduceEqDiff, Nat.reduceLeDiff, Nat.reduceLT, Nat.reduceBEq, Int.reduceBEq, Int.reduceBNe, Int.reduceEq, Int.reduceNeg, Int.reduceAdd, Int.reduceSub, Int.reduceMul, List.cons_beq_cons, BEq.rfl, Int.reduceToNat, Int.reduceLE, Int.reduceLT, reduceCtorEq]
  repeat first | refine opS_sI (by simp (maxSteps := 1000000) (disch := omega) only [go_sem, ↓reduceIte, Nat.reduceEqDiff]) ?_ | refine opS_sgI (by simp (maxSteps := 1000000) (disch := omega) only [go_sem, opS_s, opS_sg, opS_b, opS_bg, ↓reduceIte, Nat.reduceAdd, Nat.reduceMul, Nat.reduceSub, Nat.reduceEqDiff, Nat.reduceLeDiff, Nat.reduceLT, Nat.reduceBEq, Int.reduceBEq, Int.reduceBNe, Int.reduceEq, Int.reduceNeg, Int.reduceAdd, Int.reduceSub, Int.reduceMul, List.cons_beq_cons, BEq.rfl, Int.reduceToNat, Int.reduceLE, Int.reduceLT, reduceCtorEq]) ?_ | refine opS_bI (by simp (maxSteps := 1000000) (disch := omega) only [go_sem]) ?_
  try simp (maxSteps := 1000000) (disch := omega) only [go_sem, ↓reduceIte, Nat.reduceEqDiff]
  refine callS_exact (whole_spec _ _) ?_
  try simp (maxSteps := 1000000) (disch := omega) only [go_sem, ↓reduceIte, Nat.reduceAdd, Nat.reduceMul, Nat.reduceSub, Nat.reduceEqDiff, Nat.reduceLeDiff, Nat.reduceLT, Nat.reduceBEq, Int.reduceBEq, Int.reduceBNe, Int.reduceEq, Int.reduceNeg, Int.reduceAdd, Int.reduceSub, Int.reduceMul, List.cons_beq_cons, BEq.rfl, Int.reduceToNat, Int.reduceLE, Int.reduceLT, reduceCtorEq]
  repeat first | refine opS_sI (by simp (maxSteps := 1000000) (disch := omega) only [go_sem, ↓reduceIte, Nat.reduceEqDiff]) ?_ | refine opS_sgI (by simp (maxSteps := 1000000) (disch := omega) only [go_sem, opS_s, opS_sg, opS_b, opS_bg, ↓reduceIte, Nat.reduceAdd, Nat.reduceMul, Nat.reduceSub, Nat.reduceEqDiff, Nat.reduceLeDiff, Nat.reduceLT, Nat.reduceBEq, Int.reduceBEq, Int.reduceBNe, Int.reduceEq, Int.reduceNeg, Int.reduceAdd, Int.reduceSub, Int.reduceMul, List.cons_beq_cons, BEq.rfl, Int.reduceToNat, Int.reduceLE, Int.reduceLT, reduceCtorEq]) ?_ | refine opS_bI (by simp (maxSteps := 1000000) (disch := omega) only [go_sem]) ?_
  try simp (maxSteps := 1000000) (disch := omega) only [go_sem, ↓reduceIte, Nat.reduceEqDiff]
  refine callS_exact (whole_spec _ _) ?_
  try simp (maxSteps := 1000000) (disch := omega) only [go_sem, ↓reduceIte, Nat.reduceAdd, Nat.reduceMul, Nat.reduceSub, Nat.reduceEqDiff, Nat.reduceLeDiff, Nat.reduceLT, Nat.reduceBEq, Int.reduceBEq, Int.reduceBNe, Int.reduceEq, Int.reduceNeg, Int.reduceAdd, Int.reduceSub, Int.reduceMul, List.cons_beq_cons, BEq.rfl, Int.reduceToNat, Int.reduceLE, Int.reduceLT, reduceCtorEq]
  repeat first | refine opS_sI (by simp (maxSteps := 1000000) (disch := omega) only [go_sem, ↓reduceIte, Nat.reduceEqDiff]) ?_ | refine opS_sgI (by simp (maxSteps := 1000000) (disch := omega) only [go_sem, opS_s, opS_sg, opS_b, opS_bg, ↓reduceIte, Nat.reduceAdd, Nat.reduceMul, Nat.reduceSub, Nat.reduceEqDiff, Nat.reduceLeDiff, Nat.reduceLT, Nat.reduceBEq, Int.reduceBEq, Int.reduceBNe, Int.reduceEq, Int.reduceNeg, Int.reduceAdd, Int.reduceSub, Int.reduceMul, List.cons_beq_cons, BEq.rfl, Int.reduceToNat, Int.reduceLE, Int.reduceLT, reduceCtorEq]) ?_ | refine opS_bI (by simp (maxSteps := 1000000) (disch := omega) only [go_sem]) ?_
  try simp (maxSteps := 1000000) (disch := omega) only [go_sem, ↓reduceIte, Nat.reduceEqDiff]
  refine callS_exact (cmpInt_spec _ _ _) ?_
  try simp (maxSteps := 1000000) (disch := omega) only [go_sem, ↓reduceIte, Nat.reduceAdd, Nat.reduceMul, Nat.reduceSub, Nat.reduceEqDiff, Nat.reduceLeDiff, Nat.reduceLT, Nat.reduceBEq, Int.reduceBEq, Int.reduceBNe, Int.reduceEq, Int.reduceNeg, Int.reduceAdd, Int.reduceSub, Int.reduceMul, List.cons_beq_cons, BEq.rfl, Int.reduceToNat, Int.reduceLE, Int.reduceLT, reduceCtorEq]
  repeat first | refine opS_sI (by simp (maxSteps := 1000000) (disch := omega) only [go_sem, ↓reduceIte, Nat.reduceEqDiff]) ?_ | refine opS_sgI (by simp (maxSteps := 1000000) (disch := omega) only [go_sem, opS_s, opS_sg, opS_b, opS_bg, ↓reduceIte, Nat.reduceAdd, Nat.reduceMul, Nat.reduceSub, Nat.reduceEqDiff, Nat.reduceLeDiff, Nat.reduceLT, Nat.reduceBEq, Int.reduceBEq, Int.reduceBNe, Int.reduceEq, Int.reduceNeg, Int.reduceAdd, Int.reduceSub, Int.reduceMul, List.cons_beq_cons, BEq.rfl, Int.reduceToNat, Int.reduceLE, Int.reduceLT, reduceCtorEq]) ?_ | refine opS_bI (by simp (maxSteps := 1000000) (disch := omega) only [go_sem]) ?_
  try simp (maxSteps := 1000000) (disch := omega) only [go_sem, ↓reduceIte, Nat.reduceEqDiff]
  refine callS_exact (compare_spec _ _ _) ?_
  try simp (maxSteps := 1000000) (disch := omega) only [go_sem, ↓reduceIte, Nat.reduceAdd, Nat.reduceMul, Nat.reduceSub, Nat.reduceEqDiff, Nat.reduceLeDiff, Nat.reduceLT, Nat.reduceBEq, Int.reduceBEq, Int.reduceBNe, Int.reduceEq, Int.reduceNeg, Int.reduceAdd, Int.reduceSub, Int.reduceMul, List.cons_beq_cons, BEq.rfl, Int.reduceToNat, Int.reduceLE, Int.reduceLT, reduceCtorEq]
  repeat first | refine opS_sI (by simp (maxSteps := 1000000) (disch := omega) only [go_sem, ↓reduceIte, Nat.reduceEqDiff]) ?_ | refine opS_sgI (by simp (maxSteps := 1000000) (disch := omega) only [go_sem, opS_s, opS_sg, opS_b, opS_bg, ↓reduceIte, Nat.reduceAdd, Nat.reduceMul, Nat.reduceSub, Nat.reduceEqDiff, Nat.reduceLeDiff, Nat.reduceLT, Nat.reduceBEq, Int.reduceBEq, Int.reduceBNe, Int.reduceEq, Int.reduceNeg, Int.reduceAdd, Int.reduceSub, Int.reduceMul, List.cons_beq_cons, BEq.rfl, Int.reduceToNat, Int.reduceLE, Int.reduceLT, reduceCtorEq]) ?_ | refine opS_bI (by simp (maxSteps := 1000000) (disch := omega) only [go_sem]) ?_
  try simp (maxSteps := 1000000) (disch := omega) only [go_sem, ↓reduceIte, Nat.reduceEqDiff]
  refine callS_exact (cmpInt_spec _ _ _) ?_
  try simp (maxSteps := 1000000) (disch := omega) only [go_sem, ↓reduceIte, Nat.reduceAdd, Nat.reduceMul, Nat.reduceSub, Nat.reduceEqDiff, Nat.reduceLeDiff, Nat.reduceLT, Nat.reduceBEq, Int.reduceBEq, Int.reduceBNe, Int.reduceEq, Int.reduceNeg, Int.reduceAdd, Int.reduceSub, Int.reduceMul, List.cons_beq_cons, BEq.rfl, Int.reduceToNat, Int.reduceLE, Int.reduceLT, reduceCtorEq]
  repeat first | refine opS_sI (by simp (maxSteps := 1000000) (disch := omega) only [go_sem, ↓reduceIte, Nat.reduceEqDiff]) ?_ | refine opS_sgI (by simp (maxSteps := 1000000) (disch := omega) only [go_sem, opS_s, opS_sg, opS_b, opS_bg, ↓reduceIte, Nat.reduceAdd, Nat.reduceMul, Nat.reduceSub, Nat.reduceEqDiff, Nat.reduceLeDiff, Nat.reduceLT, Nat.reduceBEq, Int.reduceBEq, Int.reduceBNe, Int.reduceEq, Int.reduceNeg, Int.reduceAdd, Int.reduceSub, Int.reduceMul, List.cons_beq_cons, BEq.rfl, Int.reduceToNat, Int.reduceLE, Int.reduceLT, reduceCtorEq]) ?_ | refine opS_bI (by simp (maxSteps := 1000000) (disch := omega) only [go_sem]) ?_
  try simp (maxSteps := 1000000) (disch := omega) only [go_sem, ↓reduceIte, Nat.reduceEqDiff]
  refine callS_exact (cmpInt_spec _ _ _) ?_
  try simp (maxSteps := 1000000) (disch := omega) only [go_sem, ↓reduceIte, Nat.reduceAdd, Nat.reduceMul, Nat.reduceSub, Nat.reduceEqDiff, Nat.reduceLeDiff, Nat.reduceLT, Nat.reduceBEq, Int.reduceBEq, Int.reduceBNe, Int.reduceEq, Int.reduceNeg, Int.reduceAdd, Int.reduceSub, Int.reduceMul, List.cons_beq_cons, BEq.rfl, Int.reduceToNat, Int.reduceLE, Int.reduceLT, reduceCtorEq]
  repeat first | refine opS_sI (by simp (maxSteps := 1000000) (disch := omega) only [go_sem, opS_s, opS_sg, opS_b, opS_bg, ↓reduceIte, Nat.reduceAdd, Nat.reduceMul, Nat.reduceSub, Nat.reduceEqDiff, Nat.reduceLeDiff, Nat.reduceLT, Nat.reduceBEq, Int.reduceBEq, Int.reduceBNe, Int.reduceEq, Int.reduceNeg, Int.reduceAdd, Int.reduceSub, Int.reduceMul, List.cons_beq_cons, BEq.rfl, Int.reduceToNat, Int.reduceLE, Int.reduceLT, reduceCtorEq]) ?_ | refine opS_sgI (by simp (maxSteps := 1000000) (disch := omega) only [go_sem, opS_s, opS_sg, opS_b, opS_bg, ↓reduceIte, Nat.reduceAdd, Nat.reduceMul, Nat.reduceSub, Nat.reduceEqDiff, Nat.reduceLeDiff, Nat.reduceLT, Nat.reduceBEq, Int.reduceBEq, Int.reduceBNe, Int.reduceEq, Int.reduceNeg, Int.reduceAdd, Int.reduceSub, Int.reduceMul, List.cons_beq_cons, BEq.rfl, Int.reduceToNat, Int.reduceLE, Int.reduceLT, reduceCtorEq]) ?_ | refine opS_bI (by simp (maxSteps := 1000000) (disch := omega) only [go_sem, ↓reduceIte, Nat.reduceAdd, Nat.reduceMul, Nat.reduceEqDiff, Nat.reduceLeDiff]) ?_
  try simp (maxSteps := 1000000) (disch := omega) only [go_sem, ↓reduceIte, Nat.reduceAdd, Nat.reduceMul, Nat.reduceEqDiff, Nat.reduceLeDiff]
  intro s3
  try simp (maxSteps := 1000000) (disch := omega) only [go_sem, opS_s, opS_sg, opS_b, opS_bg, ↓reduceIte, Nat.reduceAdd, Nat.reduceMul, Nat.reduceSub, Nat.reduceEqDiff, Nat.reduceLeDiff, Nat.reduceLT, Nat.reduceBEq, Int.reduceBEq, Int.reduceBNe, Int.reduceEq, Int.reduceNeg, Int.reduceAdd, Int.reduceSub, Int.reduceMul, List.cons_beq_cons, BEq.rfl, Int.reduceToNat, Int.reduceLE, Int.reduceLT, reduceCtorEq]
  refine callS_exact (or_spec [cmpS a.row b.row, cmpS a.fam b.fam, cmpI (whole a) (whole b), cmpS a.qual b.qual, cmpI b.time a.time, cmpI b.kind a.kind] (by simp) _) ?_
  simp (maxSteps := 1000000) (disch := omega) only [go_sem, ↓reduceIte]
  refine finS_l ?_
  simp (maxSteps := 1000000) (disch := omega) only [go_sem]
  all_goals simp [order]

end Go.Ab.S2

/- Contracts: the cells that a write makes (plan). -/
namespace Go.Ab.S2
open Go.Ab
set_option maxRecDepth 100000

def needless (x c : Cell) : Bool := if order x c = 0 then true else if x.fam ≠ c.fam then false else c.kind == 4 || (c.kind == 3 && x.kind == 1) && x.qual == c.qual

theorem needless_spec (x c : Cell) : Ans N.plan_needless [.agg x.e, .agg c.e] (.bool (needless x c)) := by
  intro h
  refine spec_of ck_plan_needless ?_
  rw [wp_start]
  simp (maxSteps := 1000000) (disch := omega) only [go_sem, ↓reduceIte, Nat.reduceAdd, Nat.reduceEqDiff, reduceCtorEq, F.plan_needless]
  intro s1 s2
  refine callS_exact (order_spec x c _) ?_
  simp (maxSteps := 1000000) (disch := omega) only [go_sem, ↓reduceIte, Nat.reduceEqDiff]
  rw [condS_some]; refine ⟨fun hx => ?_, fun hx => ?_⟩
  · simp (maxSteps := 1000000) (disch := omega) only [go_sem, ↓reduceIte]
    have ho : order x c = 0 := by simpa using hx
    refine finS_l ?_
    simp (maxSteps := 1000000) (disch := omega) only [go_sem]
    all_goals simp [needless, ho]
  · simp (maxSteps := 1000000) (disch := omega) only [go_sem, ↓reduceIte, Nat.reduceEqDiff]
    have ho : ¬ order x c = 0 := by simpa using hx
    rw [condS_some]; refine ⟨fun hx => ?_, fun hx => ?_⟩
    · simp (maxSteps := 1000000) (disch := omega) only [go_sem, ↓reduceIte]
      have hf : ¬ x.fam = c.fam := by simpa using hx
      refine finS_l ?_
      simp (maxSteps := 1000000) (disch := omega) only [go_sem]
      all_goals simp [needless, ho, hf]
    · simp (maxSteps := 1000000) (disch := omega) only [go_sem, ↓reduceIte, Nat.reduceEqDiff]
      have hf : x.fam = c.fam := by simpa using hx
      refine finS_l ?_
      simp (maxSteps := 1000000) (disch := omega) only [go_sem]
      simp [needless, ho, hf]

theorem add1_spec (x c : Cell) (H : Heap) (l s : Nat) (hl : H[l]? = some (.arr s 0 8 [c.e])) : SpecA PP N.plan_maker_add_1 [.agg x.e, .ptr l s 0 0] H (fun r h' => r = .ret (.bool (needless x c)) ∧ h' = H) := by
  have hl' := hgl hl
  refine spec_of ck_plan_maker_add_1 ?_
  rw [wp_start]
  simp (maxSteps := 1000000) (disch := omega) only [go_sem, ↓reduceIte, Nat.reduceAdd, Nat.reduceEqDiff, reduceCtorEq, F.plan_maker_add_1]
  intro s2
  simp (maxSteps := 1000000) (disch := omega) only [go_sem, ↓reduceIte, hl']
  refine callS_exact (needless_spec x c _) ?_
  simp (maxSteps := 1000000) (disch := omega) only [go_sem, ↓reduceIte]
  refine finS_l ?_
  simp (maxSteps := 1000000) (disch := omega) only [go_sem]
  all_goals simp []

/-- A maker's cells of memory. -/
def Mk.e (s : Schema) (row : Str) (time : Int) (o : AV) : List AV := [.int .i64 s.version, .psl (s.fams.map Family.e), .int .i64 s.change.kind, .str s.change.fam, .str s.change.qual, .int .i64 s.change.type, .int .i64 s.change.group, .int .i64 s.change.versions, .int .i64 s.change.life, .int .i64 s.step, .str row, .int .i64 time, o]
section
variable (s : Schema) (row : Str) (time : Int) (o o' : AV)
@[go_sem high] theorem Mk.len : (Mk.e s row time o).length = 13 := rfl
@[go_sem high] theorem Mk.g1 : (Mk.e s row time o)[1]? = some (.psl (s.fams.map Family.e)) := rfl
@[go_sem high] theorem Mk.g10 : (Mk.e s row time o)[10]? = some (.str row) := rfl
@[go_sem high] theorem Mk.g11 : (Mk.e s row time o)[11]? = some (.int .i64 time) := rfl
@[go_sem high] theorem Mk.g12 : (Mk.e s row time o)[12]? = some o := rfl
@[go_sem high] theorem Mk.cut : cutL 0 10 (Mk.e s row time o) = some s.e := rfl
@[go_sem high] theorem Mk.set12 (l t i n : Nat) : setL 12 (.sl l t i n) (Mk.e s row time o) = some (Mk.e s row time (.sl l t i n)) := rfl
end

/-- Memory, but for two of its objects. -/
def H2 (h : Heap) (lo : Nat) (a : AObj) (lm : Nat) (b : AObj) : Heap := (h.set lo a).set lm b
section
variable {h : Heap} {lo lm : Nat} (a b x : AObj) (r : Heap) (k : Nat)
@[go_sem] theorem H2.len : (H2 h lo a lm b).length = h.length := by simp [H2]
@[go_sem] theorem H2.g0 : (H2 h lo a lm b ++ r)[h.length]? = r[0]? := by rw [List.getElem?_append_right (by simp [H2])]; simp [H2]
@[go_sem] theorem H2.gk : (H2 h lo a lm b ++ r)[h.length + k]? = r[k]? := by rw [List.getElem?_append_right (by simp [H2])]; simp [H2]
@[go_sem] theorem H2.s0 : (H2 h lo a lm b ++ r).set h.length x = H2 h lo a lm b ++ r.set 0 x := by rw [List.set_append_right _ _ (by simp [H2])]; simp [H2]
@[go_sem] theorem H2.sk : (H2 h lo a lm b ++ r).set (h.length + k) x = H2 h lo a lm b ++ r.set k x := by rw [List.set_append_right _ _ (by simp [H2])]; simp [H2]
@[go_sem] theorem H2.tk : (H2 h lo a lm b ++ r).take h.length = H2 h lo a lm b := by rw [List.take_append_of_le_length (by simp [H2])]; exact List.take_of_length_le (by simp [H2])
@[go_sem] theorem H2.tkk : (H2 h lo a lm b ++ r).take (h.length + k) = H2 h lo a lm b ++ r.take k := by rw [show h.length + k = (H2 h lo a lm b).length + k by simp [H2], List.take_length_add_append]
@[go_sem] theorem H2.tk0 : (H2 h lo a lm b).take h.length = H2 h lo a lm b := List.take_of_length_le (by simp [H2])
end
theorem H2.glo {h : Heap} {lo lm : Nat} (hlo : lo < h.length) (hlm : lm < h.length) (hne : lo ≠ lm) (a b : AObj) : (H2 h lo a lm b)[lo]? = some a := by unfold H2; rw [List.getElem?_set_ne (fun e => hne e.symm), List.getElem?_set_self hlo]
theorem H2.glor {h : Heap} {lo lm : Nat} (hlo : lo < h.length) (hlm : lm < h.length) (hne : lo ≠ lm) (a b : AObj) (r : Heap) : (H2 h lo a lm b ++ r)[lo]? = some a := by rw [List.getElem?_append_left (by simpa [H2] using hlo)]; exact H2.glo hlo hlm hne a b
theorem H2.glm {h : Heap} {lo lm : Nat} (hlo : lo < h.length) (hlm : lm < h.length) (hne : lo ≠ lm) (a b : AObj) : (H2 h lo a lm b)[lm]? = some b := by unfold H2; rw [List.getElem?_set_self (by simpa using hlm)]
theorem H2.glmr {h : Heap} {lo lm : Nat} (hlo : lo < h.length) (hlm : lm < h.length) (hne : lo ≠ lm) (a b : AObj) (r : Heap) : (H2 h lo a lm b ++ r)[lm]? = some b := by rw [List.getElem?_append_left (by simpa [H2] using hlm)]; exact H2.glm hlo hlm hne a b
theorem H2.slo {h : Heap} {lo lm : Nat} (hlo : lo < h.length) (hlm : lm < h.length) (hne : lo ≠ lm) (a b x : AObj) : (H2 h lo a lm b).set lo x = H2 h lo x lm b := by unfold H2; rw [List.set_comm _ _ (fun e => hne e.symm), List.set_set]
theorem H2.slor {h : Heap} {lo lm : Nat} (hlo : lo < h.length) (hlm : lm < h.length) (hne : lo ≠ lm) (a b x : AObj) (r : Heap) : (H2 h lo a lm b ++ r).set lo x = H2 h lo x lm b ++ r := by rw [List.set_append_left _ _ (by simpa [H2] using hlo), H2.slo hlo hlm hne]
theorem H2.slm {h : Heap} {lo lm : Nat} (hlo : lo < h.length) (hlm : lm < h.length) (hne : lo ≠ lm) (a b x : AObj) : (H2 h lo a lm b).set lm x = H2 h lo a lm x := by unfold H2; rw [List.set_set]
theorem H2.slmr {h : Heap} {lo lm : Nat} (hlo : lo < h.length) (hlm : lm < h.length) (hne : lo ≠ lm) (a b x : AObj) (r : Heap) : (H2 h lo a lm b ++ r).set lm x = H2 h lo a lm x ++ r := by rw [List.set_append_left _ _ (by simpa [H2] using hlm), H2.slm hlo hlm hne]
theorem H2.same {h : Heap} {lo lm : Nat} {a b : AObj} (h1 : h[lo]? = some a) (h2 : h[lm]? = some b) : H2 h lo a lm b = h := by unfold H2; rw [set_same h1, set_same h2]
def addF (l : List Cell) (c : Cell) : List Cell := (l.filter fun x => !needless x c) ++ [c]

theorem add_spec (s : Schema) (row : Str) (time : Int) (l : List Cell) (c : Cell) (h : Heap) (lo lm so sm : Nat) (hlo : lo < h.length) (hlm : lm < h.length) (hne : lo ≠ lm) (hl : l.length < 1000000000) :
    SpecA PP N.plan_maker_add [.ptr lm sm 0 0, .agg c.e] (H2 h lo (.arr so 0 8 (l.map Cell.e)) lm (.arr sm 0 13 [Mk.e s row time (.sl lo so 0 l.length)])) (fun r h' => r = .ret (.tup []) ∧ ∃ so', h' = H2 h lo (.arr so' 0 8 ((addF l { c with row := row }).map Cell.e)) lm (.arr sm 0 13 [Mk.e s row time (.sl lo so' 0 (addF l { c with row := row }).length)])) := by
  have e1 := @H2.glo h lo lm hlo hlm hne
  have e2 := @H2.glor h lo lm hlo hlm hne
  have e3 := @H2.glm h lo lm hlo hlm hne
  have e4 := @H2.glmr h lo lm hlo hlm hne
  have e5 := @H2.slo h lo lm hlo hlm hne
  have e6 := @H2.slor h lo lm hlo hlm hne
  have e7 := @H2.slm h lo lm hlo hlm hne
  have e8 := @H2.slmr h lo lm hlo hlm hne
  refine spec_of ck_plan_maker_add ?_
  rw [wp_start]
  simp (maxSteps := 1000000) (disch := omega) only [go_sem, ↓reduceIte, Nat.reduceAdd, reduceCtorEq, F.plan_maker_add]
  simp (maxSteps := 1000000) (disch := omega) only [go_sem, ↓reduceIte, Nat.reduceEqDiff, reduceCtorEq, e4]
  intro s3
  try simp (maxSteps := 1000000) (disch := omega) only [go_sem, opS_s, opS_sg, opS_b, opS_bg, ↓reduceIte, Nat.reduceAdd, Nat.reduceMul, Nat.reduceSub, Nat.reduceEqDiff, Nat.reduceLeDiff, Nat.reduceLT, Nat.reduceBEq, Int.reduceBEq, Int.reduceBNe, Int.reduceEq, Int.reduceNeg, Int.reduceAdd, Int.reduceSub, Int.reduceMul, List.cons_beq_cons, BEq.rfl, Int.reduceToNat, Int.reduceLE, Int.reduceLT, reduceCtorEq, e1, e2, e3, e4, e5, e6, e7, e8]
  refine callS_exact (deleteFunc_spec l _ [.ptr h.length s3 0 0] (fun x => needless x { c with row := row }) _ lo so (e2 _ _ _) (by omega) (fun x _ H hR => add1_spec x _ H _ _ ((hR h.length (by omega) (by simp [H2])).trans (by simp (maxSteps := 1000000) (disch := omega) only [go_sem])))) ?_
  simp (maxSteps := 1000000) (disch := omega) only [go_sem, opS_s, opS_b, ↓reduceIte, Nat.reduceMul, Nat.reduceEqDiff, reduceCtorEq, e2, e4, e6, e8]
  have hk : (l.filter fun x => !needless x { c with row := row }).length ≤ l.length := List.length_filter_le _ _
  refine fun s4 => ⟨by omega, fun s5 => ?_⟩
  refine finS_l ?_
  simp (maxSteps := 1000000) (disch := omega) only [go_sem, addF, List.map_append]
  exact ⟨s5, rfl⟩

theorem H2.app {h : Heap} {lo lm : Nat} (hlo : lo < h.length) (hlm : lm < h.length) (a b : AObj) (r : Heap) : H2 h lo a lm b ++ r = H2 (h ++ r) lo a lm b := by
  unfold H2; rw [List.set_append_left _ _ hlo, List.set_append_left _ _ (by simpa using hlm)]
theorem onRet_ret (K Kp : AV → Heap → Prop) (v : AV) (h : Heap) : onRet K Kp (.ret v) h = K v h := rfl

def rowF (s : Schema) (row : Str) (time : Int) (l : List Cell) : List Family → List Cell
  | [] => l
  | f :: r => rowF s row time (if famU s f.name then addF l ⟨row, f.name, [], time - 1, 4, Value.zero⟩ else l) r
def doF (s : Schema) (row : Str) (time : Int) (l : List Cell) (m : Mut) : List Cell :=
  if m.kind = 1 then addF l ⟨row, m.fam, m.qual, time, 1, m.val⟩
  else if m.kind = 2 then addF l ⟨row, m.fam, m.qual, time - 1, 3, Value.zero⟩
  else if m.kind = 3 then addF l ⟨row, m.fam, [], time - 1, 4, Value.zero⟩
  else if m.kind = 4 then rowF s row time l s.fams
  else l

theorem addF_len (l : List Cell) (c : Cell) : (addF l c).length ≤ l.length + 1 := by
  unfold addF; have := List.length_filter_le (fun x => !needless x c) l; simp; omega
theorem rowF_len (s : Schema) (row : Str) (time : Int) : ∀ (fs : List Family) (l : List Cell), (rowF s row time l fs).length ≤ l.length + fs.length
  | [], l => by simp [rowF]
  | f :: r, l => by
    simp only [rowF]
    refine Nat.le_trans (rowF_len s row time r _) ?_
    split
    · have := addF_len l ⟨row, f.name, [], time - 1, 4, Value.zero⟩; simp; omega
    · simp

theorem do_spec (s : Schema) (row : Str) (time : Int) (l : List Cell) (m : Mut) (hs : s.wf) (h : Heap) (lo lm so sm : Nat) (hlo : lo < h.length) (hlm : lm < h.length) (hne : lo ≠ lm) (hl : l.length + s.fams.length < 1000000000) (ht1 : 1 ≤ time) (ht2 : time ≤ 1099511627776) :
    SpecA PP N.plan_maker_do [.ptr lm sm 0 0, .agg m.e] (H2 h lo (.arr so 0 8 (l.map Cell.e)) lm (.arr sm 0 13 [Mk.e s row time (.sl lo so 0 l.length)])) (fun r h' => r = .ret (.tup []) ∧ ∃ so', h' = H2 h lo (.arr so' 0 8 ((doF s row time l m).map Cell.e)) lm (.arr sm 0 13 [Mk.e s row time (.sl lo so' 0 (doF s row time l m).length)])) := by
  have e1 := @H2.glo h lo lm hlo hlm hne
  have e2 := @H2.glor h lo lm hlo hlm hne
  have e3 := @H2.glm h lo lm hlo hlm hne
  have e4 := @H2.glmr h lo lm hlo hlm hne
  have lo' : ∀ r : Heap, lo < (h ++ r).length := fun r => by simp; omega
  have lm' : ∀ r : Heap, lm < (h ++ r).length := fun r => by simp; omega
  refine spec_of ck_plan_maker_do ?_
  rw [wp_start]
  simp (maxSteps := 1000000) (disch := omega) only [go_sem, ↓reduceIte, Nat.reduceAdd, Nat.reduceEqDiff, reduceCtorEq, F.plan_maker_do]
  intro s3
  try simp (maxSteps := 1000000) (disch := omega) only [go_sem, opS_s, opS_sg, opS_b, opS_bg, ↓reduceIte, Nat.reduceAdd, Nat.reduceMul, Nat.reduceSub, Nat.reduceEqDiff, Nat.reduceLeDiff, Nat.reduceLT, Nat.reduceBEq, Int.reduceBEq, Int.reduceBNe, Int.reduceEq, Int.reduceNeg, Int.reduceAdd, Int.reduceSub, Int.reduceMul, List.cons_beq_cons, BEq.rfl, Int.reduceToNat, Int.reduceLE, Int.reduceLT, reduceCtorEq, e1, e2, e3, e4]
  rw [condS_some]; refine ⟨fun hx => ?_, fun hx => ?_⟩
  · have k1 : m.kind = 1 := by simpa using hx
    simp (maxSteps := 1000000) (disch := omega) only [go_sem, ↓reduceIte, Nat.reduceAdd, Nat.reduceEqDiff, Nat.reduceLeDiff, reduceCtorEq, e4]
    rw [H2.app hlo hlm]
    refine callS_any (add_spec s row time l ⟨[], m.fam, m.qual, time, 1, m.val⟩ _ lo lm so sm (lo' _) (lm' _) hne (by omega)) ?_
    rintro _ _ ⟨rfl, so', rfl⟩
    rw [← H2.app hlo hlm]
    simp (maxSteps := 1000000) (disch := omega) only [go_sem, onRet_ret]
    refine finS_l ?_
    simp (maxSteps := 1000000) (disch := omega) only [go_sem, ↓reduceIte, doF, k1]
    exact ⟨so', rfl⟩
  · have k1 : ¬ m.kind = 1 := by simpa using hx
    simp (maxSteps := 1000000) (disch := omega) only [go_sem, ↓reduceIte, Nat.reduceEqDiff, reduceCtorEq]
    rw [condS_some]; refine ⟨fun hx => ?_, fun hx => ?_⟩
    · have k2 : m.kind = 2 := by simpa using hx
      simp (maxSteps := 1000000) (disch := omega) only [go_sem, ↓reduceIte, Nat.reduceAdd, Nat.reduceEqDiff, Nat.reduceLeDiff, reduceCtorEq, e4, wrap64]
      rw [H2.app hlo hlm]
      refine callS_any (add_spec s row time l ⟨[], m.fam, m.qual, time - 1, 3, Value.zero⟩ _ lo lm so sm (lo' _) (lm' _) hne (by omega)) ?_
      rintro _ _ ⟨rfl, so', rfl⟩
      rw [← H2.app hlo hlm]
      simp (maxSteps := 1000000) (disch := omega) only [go_sem, onRet_ret]
      refine finS_l ?_
      simp (maxSteps := 1000000) (disch := omega) only [go_sem, ↓reduceIte, Int.reduceEq, doF, k2]
      exact ⟨so', rfl⟩
    · have k2 : ¬ m.kind = 2 := by simpa using hx
      simp (maxSteps := 1000000) (disch := omega) only [go_sem, ↓reduceIte, Nat.reduceEqDiff, reduceCtorEq]
      rw [condS_some]; refine ⟨fun hx => ?_, fun hx => ?_⟩
      · have k3 : m.kind = 3 := by simpa using hx
        simp (maxSteps := 1000000) (disch := omega) only [go_sem, ↓reduceIte, Nat.reduceAdd, Nat.reduceEqDiff, Nat.reduceLeDiff, reduceCtorEq, e4, wrap64]
        rw [H2.app hlo hlm]
        refine callS_any (add_spec s row time l ⟨[], m.fam, [], time - 1, 4, Value.zero⟩ _ lo lm so sm (lo' _) (lm' _) hne (by omega)) ?_
        rintro _ _ ⟨rfl, so', rfl⟩
        rw [← H2.app hlo hlm]
        simp (maxSteps := 1000000) (disch := omega) only [go_sem, onRet_ret]
        refine finS_l ?_
        simp (maxSteps := 1000000) (disch := omega) only [go_sem, ↓reduceIte, Int.reduceEq, doF, k3]
        exact ⟨so', rfl⟩
      · have k3 : ¬ m.kind = 3 := by simpa using hx
        simp (maxSteps := 1000000) (disch := omega) only [go_sem, ↓reduceIte, Nat.reduceEqDiff, reduceCtorEq]
        rw [condS_some]; refine ⟨fun hx => ?_, fun hx => ?_⟩
        · have k4 : m.kind = 4 := by simpa using hx
          simp (maxSteps := 1000000) (disch := omega) only [go_sem, ↓reduceIte, Nat.reduceEqDiff, reduceCtorEq, e4]
          have hd : doF s row time l m = rowF s row time l s.fams := by simp [doF, k4]
          rw [hd]
          refine loopS_list s.fams (fun pre (e : List Cell × Nat) => ⟨[(0, .ptr lm sm 0 0), (56, .psl (s.fams.map Family.e)), (57, .int .i64 s.fams.length), (58, .int .i64 pre.length)], H2 h lo (.arr e.2 0 8 (e.1.map Cell.e)) lm (.arr sm 0 13 [Mk.e s row time (.sl lo e.2 0 e.1.length)]) ++ [.arr s3 0 6 [m.e]]⟩) (fun pre post e => rowF s row time l s.fams = rowF s row time e.1 post ∧ e.1.length + post.length ≤ l.length + s.fams.length) (l, so) ?_ ⟨rfl, Nat.le_refl _⟩ ?_
          · rfl
          · rintro pre post ⟨l2, so2⟩ hpp ⟨hJ, hJl⟩
            simp only at hJ hJl ⊢
            have hfl := hs.fams
            cases post with
            | nil =>
              simp (maxSteps := 1000000) (disch := omega) only [go_sem, ↓reduceIte, Nat.reduceEqDiff, reduceCtorEq, nl0 hpp]
              refine finS_l ?_
              simp (maxSteps := 1000000) (disch := omega) only [go_sem, hJ, rowF]
              exact ⟨so2, rfl⟩
            | cons x post =>
              have hn := nl hpp
              simp only [List.length_cons] at hJl
              simp (maxSteps := 1000000) (disch := omega) only [go_sem, ↓reduceIte, Nat.reduceAdd, Nat.reduceEqDiff, reduceCtorEq, gml Family.e hpp, hn, e4]
              intro s4
              try simp (maxSteps := 1000000) (disch := omega) only [go_sem, opS_s, opS_sg, opS_b, opS_bg, ↓reduceIte, Nat.reduceAdd, Nat.reduceMul, Nat.reduceSub, Nat.reduceEqDiff, Nat.reduceLeDiff, Nat.reduceLT, Nat.reduceBEq, Int.reduceBEq, Int.reduceBNe, Int.reduceEq, Int.reduceNeg, Int.reduceAdd, Int.reduceSub, Int.reduceMul, List.cons_beq_cons, BEq.rfl, Int.reduceToNat, Int.reduceLE, Int.reduceLT, reduceCtorEq, e1, e2, e3, e4]
              refine callS_exact (vnamed_spec s x.name hs _) ?_
              simp (maxSteps := 1000000) (disch := omega) only [go_sem, ↓reduceIte, Nat.reduceEqDiff, reduceCtorEq]
              rw [condS_some]; refine ⟨fun hx => ?_, fun hx => ?_⟩
              · have hu : famU s x.name = true := by
                  unfold namE at hx
                  cases hq : famU s x.name with
                  | true => rfl
                  | false => rw [hq] at hx; simp at hx
                simp (maxSteps := 1000000) (disch := omega) only [go_sem, ↓reduceIte, Nat.reduceAdd, Nat.reduceEqDiff, Nat.reduceLeDiff, reduceCtorEq, e4, wrap64]
                rw [H2.app hlo hlm]
                refine callS_any (add_spec s row time l2 ⟨[], x.name, [], time - 1, 4, Value.zero⟩ _ lo lm so2 sm (lo' _) (lm' _) hne (by omega)) ?_
                rintro _ _ ⟨rfl, so', rfl⟩
                rw [← H2.app hlo hlm]
                simp (maxSteps := 1000000) (disch := omega) only [go_sem, ↓reduceIte, Nat.reduceEqDiff, reduceCtorEq, onRet_ret]
                refine lp_next (h.length + 1) (addF l2 ⟨row, x.name, [], time - 1, 4, Value.zero⟩, so') hpp ?_ ?_ ?_
                · refine ⟨?_, ?_⟩
                  · rw [hJ, rowF, hu]; simp
                  · have := addF_len l2 ⟨row, x.name, [], time - 1, 4, Value.zero⟩; simp only; omega
                · simp (maxSteps := 1000000) (disch := omega) only [go_sem, ↓reduceIte, Nat.reduceEqDiff, reduceCtorEq, wrap64, Int.natCast_add, Int.cast_ofNat_Int]
                · simp (maxSteps := 1000000) (disch := omega) only [go_sem]
              · have hu : famU s x.name = false := by
                  unfold namE at hx
                  cases hq : famU s x.name with
                  | true => rw [hq] at hx; simp at hx
                  | false => rfl
                simp (maxSteps := 1000000) (disch := omega) only [go_sem, ↓reduceIte, Nat.reduceEqDiff, reduceCtorEq]
                refine lp_next (h.length + 1) (l2, so2) hpp ?_ ?_ ?_
                · refine ⟨?_, ?_⟩
                  · rw [hJ, rowF, hu]; simp
                  · simp only; omega
                · simp (maxSteps := 1000000) (disch := omega) only [go_sem, ↓reduceIte, Nat.reduceEqDiff, reduceCtorEq, wrap64, Int.natCast_add, Int.cast_ofNat_Int]
                · simp (maxSteps := 1000000) (disch := omega) only [go_sem]
        · have k4 : ¬ m.kind = 4 := by simpa using hx
          simp (maxSteps := 1000000) (disch := omega) only [go_sem]
          refine finS_l ?_
          simp (maxSteps := 1000000) (disch := omega) only [go_sem, ↓reduceIte, doF, k1, k2, k3, k4]
          exact ⟨so, rfl⟩
end Go.Ab.S2


namespace Go.Ab.S2
open Go.Ab
set_option maxRecDepth 100000

theorem doF_len (s : Schema) (row : Str) (time : Int) (l : List Cell) (m : Mut) : (doF s row time l m).length ≤ l.length + s.fams.length + 1 := by
  unfold doF
  split
  · have := addF_len l ⟨row, m.fam, m.qual, time, 1, m.val⟩; omega
  · split
    · have := addF_len l ⟨row, m.fam, m.qual, time - 1, 3, Value.zero⟩; omega
    · split
      · have := addF_len l ⟨row, m.fam, [], time - 1, 4, Value.zero⟩; omega
      · split
        · have := rowF_len s row time s.fams l; omega
        · omega

def cellsF (s : Schema) (q : Request) (time : Int) : List Cell × Int :=
  if chkE s q ≠ 0 then ([], chkE s q)
  else if q.kind = 3 then ([], 10)
  else if time < 1 ∨ time > 1099511627776 then ([], 18)
  else (q.muts.foldl (doF s q.row time) [], 0)

theorem chk_bounds {s : Schema} {q : Request} (h : chkE s q = 0) (h3 : q.kind ≠ 3) : s.fams.length ≤ 6 ∧ q.muts.length ≤ 8 := by
  unfold chkE at h
  split at h
  · simp at h
  · rename_i hx
    simp at hx
    obtain ⟨h1, h2⟩ := hx
    constructor
    · simp [schP] at h1
      omega
    · have hw : writeQ q = true := by
        unfold formQ at h2
        rw [if_neg h3] at h2
        split at h2
        · simp at h2; exact h2.1.1.1
        · split at h2
          · simp at h2; exact h2.1.1
          · simp at h2
      simp [writeQ] at hw
      omega

@[go_sem high] theorem Mk.put10 (s : Schema) (row : Str) : putL 10 [AV.str row] (s.e ++ [AV.str [], AV.int IntKind.i64 0, AV.vn]) = some (Mk.e s row 0 .vn) := rfl
@[go_sem high] theorem Mk.put11 (s : Schema) (row : Str) (time : Int) (o : AV) : putL 11 [AV.int IntKind.i64 time] (Mk.e s row 0 o) = some (Mk.e s row time o) := rfl
@[go_sem high] theorem Mk.set (s : Schema) (row : Str) (time : Int) (o x : AV) : (Mk.e s row time o).set 12 x = Mk.e s row time x := rfl
@[go_sem high] theorem Mk.one1 (s : Schema) (row : Str) (time : Int) : (Mk.e s row time .vn).all AV.one = true := rfl
@[go_sem high] theorem Mk.one2 (s : Schema) (row : Str) (time : Int) (l t i n : Nat) : (Mk.e s row time (.sl l t i n)).all AV.one = true := rfl
theorem H2.tkn {h : Heap} {lo lm n : Nat} {a b : AObj} (h1 : n ≤ lo) (h2 : n ≤ lm) : (H2 h lo a lm b).take n = h.take n := by
  unfold H2; rw [List.take_set_of_le h2, List.take_set_of_le h1]

theorem cells_spec (s : Schema) (q : Request) (time : Int) (hs : s.wf) (hq : q.wf) : Ans N.plan_Cells [.agg s.e, .agg q.e, .int .i64 time] (.tup [.psl ((cellsF s q time).1.map Cell.e), .int .i64 (cellsF s q time).2]) := by
  intro h
  refine spec_of ck_plan_Cells ?_
  rw [wp_start]
  simp (maxSteps := 1000000) (disch := omega) only [go_sem, ↓reduceIte, Nat.reduceAdd, Nat.reduceEqDiff, reduceCtorEq, F.plan_Cells]
  intro s1 s2
  refine callS_exact (check_spec s q hs hq _) ?_
  simp (maxSteps := 1000000) (disch := omega) only [go_sem, ↓reduceIte, Nat.reduceEqDiff]
  rw [condS_some]; refine ⟨fun hx => ?_, fun hx => ?_⟩
  · have h1 : ¬ chkE s q = 0 := by simpa using hx
    refine finS_l ?_
    simp (maxSteps := 1000000) (disch := omega) only [go_sem, ↓reduceIte, Nat.reduceEqDiff]
    all_goals simp [cellsF, h1]
  · have h1 : chkE s q = 0 := by simpa using hx
    simp (maxSteps := 1000000) (disch := omega) only [go_sem, ↓reduceIte, Nat.reduceEqDiff]
    rw [condS_some]; refine ⟨fun hx => ?_, fun hx => ?_⟩
    · have h3 : q.kind = 3 := by simpa using hx
      refine finS_l ?_
      simp (maxSteps := 1000000) (disch := omega) only [go_sem, ↓reduceIte, Nat.reduceEqDiff]
      all_goals simp [cellsF, h1, h3]
    · have h3 : ¬ q.kind = 3 := by simpa using hx
      simp (maxSteps := 1000000) (disch := omega) only [go_sem, ↓reduceIte, Nat.reduceEqDiff]
      rw [condS_some]; refine ⟨fun hx => ?_, fun hx => ?_⟩
      · have h4 : time < 1 ∨ 1099511627776 < time := by simpa using hx
        refine finS_l ?_
        simp (maxSteps := 1000000) (disch := omega) only [go_sem, ↓reduceIte, Nat.reduceEqDiff]
        all_goals simp [cellsF, h1, h3, h4]
      · have h4 : ¬ (time < 1 ∨ 1099511627776 < time) := by simpa using hx
        simp (maxSteps := 1000000) (disch := omega) only [go_sem, ↓reduceIte, Nat.reduceAdd, Nat.reduceEqDiff, Nat.reduceLeDiff]
        intro so sm
        obtain ⟨hfs, hms⟩ := chk_bounds h1 h3
        generalize hH : h ++ [AObj.arr s1 0 10 [s.e], AObj.arr s2 0 16 [q.e], AObj.arr so 0 8 [], AObj.arr sm 0 13 [Mk.e s q.row time (AV.sl (h.length + 2) so 0 0)]] = H
        have hHl : H.length = h.length + 4 := by rw [← hH]; simp
        have hHt : H.take h.length = h := by rw [← hH]; simp
        have hlo : h.length + 2 < H.length := by omega
        have hlm : h.length + 3 < H.length := by omega
        have hne : h.length + 2 ≠ h.length + 3 := by omega
        have hsame : H2 H (h.length + 2) (.arr so 0 8 []) (h.length + 3) (.arr sm 0 13 [Mk.e s q.row time (.sl (h.length + 2) so 0 0)]) = H := H2.same (by rw [← hH]; simp) (by rw [← hH]; simp)
        have e1 := @H2.glo H _ _ hlo hlm hne
        have e2 := @H2.glor H _ _ hlo hlm hne
        have e3 := @H2.glm H _ _ hlo hlm hne
        have e4 := @H2.glmr H _ _ hlo hlm hne
        refine loopS_list q.muts (fun pre (e : List Cell × Nat) => ⟨[(9, .ptr (h.length + 3) sm 0 0), (38, .psl (q.muts.map Mut.e)), (39, .int .i64 q.muts.length), (40, .int .i64 pre.length)], H2 H (h.length + 2) (.arr e.2 0 8 (e.1.map Cell.e)) (h.length + 3) (.arr sm 0 13 [Mk.e s q.row time (.sl (h.length + 2) e.2 0 e.1.length)])⟩) (fun pre post e => q.muts.foldl (doF s q.row time) [] = post.foldl (doF s q.row time) e.1 ∧ e.1.length + post.length * 7 ≤ 56) ([], so) ?_ ⟨rfl, by simp; omega⟩ ?_
        · simp (maxSteps := 1000000) (disch := omega) only [go_sem, ↓reduceIte, Nat.reduceEqDiff, hsame]
          rfl
        · rintro pre post ⟨l2, so2⟩ hpp ⟨hJ, hJl⟩
          simp only at hJ hJl ⊢
          cases post with
          | nil =>
            simp (maxSteps := 1000000) (disch := omega) only [go_sem, ↓reduceIte, Nat.reduceEqDiff, nl0 hpp, e3]
            refine finS_l ?_
            have ht : ∀ a b, (H2 H (h.length + 2) a (h.length + 3) b).take h.length = h := fun a b => by rw [H2.tkn (by omega) (by omega), hHt]
            have e5 := @H2.slo H _ _ hlo hlm hne
            simp (maxSteps := 1000000) (disch := omega) only [go_sem, ↓reduceIte, e1, e5, ht]
            simp [cellsF, h1, h3, h4, hJ]
          | cons x post =>
            have hn := nl hpp
            simp only [List.length_cons] at hJl
            simp (maxSteps := 1000000) (disch := omega) only [go_sem, ↓reduceIte, Nat.reduceAdd, Nat.reduceEqDiff, gml Mut.e hpp, hn]
            intro s4
            try simp (maxSteps := 1000000) (disch := omega) only [go_sem, opS_s, opS_sg, opS_b, opS_bg, ↓reduceIte, Nat.reduceAdd, Nat.reduceMul, Nat.reduceSub, Nat.reduceEqDiff, Nat.reduceLeDiff, Nat.reduceLT, Nat.reduceBEq, Int.reduceBEq, Int.reduceBNe, Int.reduceEq, Int.reduceNeg, Int.reduceAdd, Int.reduceSub, Int.reduceMul, List.cons_beq_cons, BEq.rfl, Int.reduceToNat, Int.reduceLE, Int.reduceLT, reduceCtorEq, e1, e2, e3, e4]
            rw [H2.app hlo hlm]
            refine callS_any (do_spec s q.row time l2 x hs _ (h.length + 2) (h.length + 3) so2 sm (by simp; omega) (by simp; omega) hne (by omega) (by omega) (by omega)) ?_
            rintro _ _ ⟨rfl, so', rfl⟩
            rw [← H2.app hlo hlm]
            simp (maxSteps := 1000000) (disch := omega) only [go_sem, ↓reduceIte, Nat.reduceEqDiff, onRet_ret]
            refine lp_next H.length (doF s q.row time l2 x, so') hpp ?_ ?_ ?_
            · refine ⟨hJ, ?_⟩
              have := doF_len s q.row time l2 x
              simp only; omega
            · simp (maxSteps := 1000000) (disch := omega) only [go_sem, ↓reduceIte, Nat.reduceEqDiff, wrap64, Int.natCast_add, Int.cast_ofNat_Int]
            · simp (maxSteps := 1000000) (disch := omega) only [go_sem]
end Go.Ab.S2
