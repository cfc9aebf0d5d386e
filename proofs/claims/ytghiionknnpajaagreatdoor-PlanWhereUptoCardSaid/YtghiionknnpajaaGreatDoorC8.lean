/- Contracts of the program's names and of its schema. -/
import Derived.Test.YtghiionknnpajaaGreatDoorP4
import Derived.Test.YtghiionknnpajaaGreatDoorC3
import Derived.Test.YtghiionknnpajaaGreatDoorC5
import Derived.Test.YtghiionknnpajaaGreatDoorC7
set_option linter.unusedVariables false
set_option linter.unusedSimpArgs false
namespace Go.Ab.S2
open Go.Ab
set_option maxRecDepth 100000

def otherR (r : Int) : Bool := (decide (r < 97) || decide (122 < r)) && (decide (r < 48) || decide (57 < r))

theorem other_schema (r : Int) : Ans N.schema_name_1 [.int .i32 r] (.bool (otherR r)) := by
  intro h
  refine spec_of ck_schema_name_1 ?_
  rw [wp_start]
  simp (maxSteps := 1000000) (disch := omega) only [go_sem, opS_s, opS_sg, opS_b, opS_bg, ↓reduceIte, Nat.reduceAdd, Nat.reduceMul, Nat.reduceSub, Nat.reduceEqDiff, Nat.reduceLeDiff, Nat.reduceLT, Nat.reduceBEq, Int.reduceBEq, Int.reduceBNe, Int.reduceEq, Int.reduceNeg, Int.reduceAdd, Int.reduceSub, Int.reduceMul, List.cons_beq_cons, BEq.rfl, Int.reduceToNat, Int.reduceLE, Int.reduceLT, reduceCtorEq, F.schema_name_1]
  refine finS_l ?_
  simp (maxSteps := 1000000) (disch := omega) only [go_sem, opS_s, opS_sg, opS_b, opS_bg, ↓reduceIte, Nat.reduceAdd, Nat.reduceMul, Nat.reduceSub, Nat.reduceEqDiff, Nat.reduceLeDiff, Nat.reduceLT, Nat.reduceBEq, Int.reduceBEq, Int.reduceBNe, Int.reduceEq, Int.reduceNeg, Int.reduceAdd, Int.reduceSub, Int.reduceMul, List.cons_beq_cons, BEq.rfl, Int.reduceToNat, Int.reduceLE, Int.reduceLT, reduceCtorEq]
  all_goals simp [otherR]
theorem other_filter (r : Int) : Ans N.filter_name_1 [.int .i32 r] (.bool (otherR r)) := by
  intro h
  refine spec_of ck_filter_name_1 ?_
  rw [wp_start]
  simp (maxSteps := 1000000) (disch := omega) only [go_sem, opS_s, opS_sg, opS_b, opS_bg, ↓reduceIte, Nat.reduceAdd, Nat.reduceMul, Nat.reduceSub, Nat.reduceEqDiff, Nat.reduceLeDiff, Nat.reduceLT, Nat.reduceBEq, Int.reduceBEq, Int.reduceBNe, Int.reduceEq, Int.reduceNeg, Int.reduceAdd, Int.reduceSub, Int.reduceMul, List.cons_beq_cons, BEq.rfl, Int.reduceToNat, Int.reduceLE, Int.reduceLT, reduceCtorEq, F.filter_name_1]
  refine finS_l ?_
  simp (maxSteps := 1000000) (disch := omega) only [go_sem, opS_s, opS_sg, opS_b, opS_bg, ↓reduceIte, Nat.reduceAdd, Nat.reduceMul, Nat.reduceSub, Nat.reduceEqDiff, Nat.reduceLeDiff, Nat.reduceLT, Nat.reduceBEq, Int.reduceBEq, Int.reduceBNe, Int.reduceEq, Int.reduceNeg, Int.reduceAdd, Int.reduceSub, Int.reduceMul, List.cons_beq_cons, BEq.rfl, Int.reduceToNat, Int.reduceLE, Int.reduceLT, reduceCtorEq]
  all_goals simp [otherR]
theorem other_plan (r : Int) : Ans N.plan_name_1 [.int .i32 r] (.bool (otherR r)) := by
  intro h
  refine spec_of ck_plan_name_1 ?_
  rw [wp_start]
  simp (maxSteps := 1000000) (disch := omega) only [go_sem, opS_s, opS_sg, opS_b, opS_bg, ↓reduceIte, Nat.reduceAdd, Nat.reduceMul, Nat.reduceSub, Nat.reduceEqDiff, Nat.reduceLeDiff, Nat.reduceLT, Nat.reduceBEq, Int.reduceBEq, Int.reduceBNe, Int.reduceEq, Int.reduceNeg, Int.reduceAdd, Int.reduceSub, Int.reduceMul, List.cons_beq_cons, BEq.rfl, Int.reduceToNat, Int.reduceLE, Int.reduceLT, reduceCtorEq, F.plan_name_1]
  refine finS_l ?_
  simp (maxSteps := 1000000) (disch := omega) only [go_sem, opS_s, opS_sg, opS_b, opS_bg, ↓reduceIte, Nat.reduceAdd, Nat.reduceMul, Nat.reduceSub, Nat.reduceEqDiff, Nat.reduceLeDiff, Nat.reduceLT, Nat.reduceBEq, Int.reduceBEq, Int.reduceBNe, Int.reduceEq, Int.reduceNeg, Int.reduceAdd, Int.reduceSub, Int.reduceMul, List.cons_beq_cons, BEq.rfl, Int.reduceToNat, Int.reduceLE, Int.reduceLT, reduceCtorEq]
  all_goals simp [otherR]

theorem bt (b : Bool) : (b == true) = b := by cases b <;> rfl
theorem other_lo {b : UInt8} (h : b.toNat < 128) : otherR (b.toNat : Int) = !nameB b := by
  unfold otherR nameB
  rw [Bool.eq_iff_iff]
  simp
  try omega
theorem other_hi {r : Int} (h : 128 ≤ r) : otherR r = true := by
  unfold otherR
  simp
  omega
theorem nameB_hi {b : UInt8} (h : 128 ≤ b.toNat) : nameB b = false := by
  unfold nameB
  simp
  omega

theorem indexOther (s : Str) (f : FuncId) (h : Heap) (hf : ∀ r, Ans f [.int .i32 r] (.bool (otherR r))) :
    SpecA PP N.strings_indexFunc [.str s, .fn f [] [], .bool true] h (fun r h' => r = .ret (.int .i64 (idx (fun b => !nameB b) s)) ∧ h' = h) := by
  refine spec_of ck_strings_indexFunc ?_
  rw [wp_start]
  simp (maxSteps := 1000000) (disch := omega) only [go_sem, opS_s, opS_sg, opS_b, opS_bg, ↓reduceIte, Nat.reduceAdd, Nat.reduceMul, Nat.reduceSub, Nat.reduceEqDiff, Nat.reduceLeDiff, Nat.reduceLT, Nat.reduceBEq, Int.reduceBEq, Int.reduceBNe, Int.reduceEq, Int.reduceNeg, Int.reduceAdd, Int.reduceSub, Int.reduceMul, List.cons_beq_cons, BEq.rfl, Int.reduceToNat, Int.reduceLE, Int.reduceLT, reduceCtorEq, F.strings_indexFunc]
  intro s1
  refine loopS_list s (fun pre (_ : Unit) => ⟨[(1, .fn f [] []), (2, .bool true), (10, .it h.length s1)], h ++ [.sit s1 s pre.length]⟩) (fun pre post _ => s.findIdx? (fun b => !nameB b) = (post.findIdx? (fun b => !nameB b)).map (· + pre.length)) () rfl (by simp) ?_
  rintro pre post ⟨⟩ hpp hJ
  cases post with
  | nil =>
    have hn := nl0 hpp
    simp (maxSteps := 1000000) (disch := omega) only [go_sem, opS_s, opS_sg, opS_b, opS_bg, ↓reduceIte, Nat.reduceAdd, Nat.reduceMul, Nat.reduceSub, Nat.reduceEqDiff, Nat.reduceLeDiff, Nat.reduceLT, Nat.reduceBEq, Int.reduceBEq, Int.reduceBNe, Int.reduceEq, Int.reduceNeg, Int.reduceAdd, Int.reduceSub, Int.reduceMul, List.cons_beq_cons, BEq.rfl, Int.reduceToNat, Int.reduceLE, Int.reduceLT, reduceCtorEq, hn]
    refine ⟨fun hc => absurd hc (Nat.lt_irrefl _), fun _ => ?_⟩
    try simp (maxSteps := 1000000) (disch := omega) only [go_sem, opS_s, opS_sg, opS_b, opS_bg, ↓reduceIte, Nat.reduceAdd, Nat.reduceMul, Nat.reduceSub, Nat.reduceEqDiff, Nat.reduceLeDiff, Nat.reduceLT, Nat.reduceBEq, Int.reduceBEq, Int.reduceBNe, Int.reduceEq, Int.reduceNeg, Int.reduceAdd, Int.reduceSub, Int.reduceMul, List.cons_beq_cons, BEq.rfl, Int.reduceToNat, Int.reduceLE, Int.reduceLT, reduceCtorEq]
    refine finS_l ?_
    simp (maxSteps := 1000000) (disch := omega) only [go_sem, opS_s, opS_sg, opS_b, opS_bg, ↓reduceIte, Nat.reduceAdd, Nat.reduceMul, Nat.reduceSub, Nat.reduceEqDiff, Nat.reduceLeDiff, Nat.reduceLT, Nat.reduceBEq, Int.reduceBEq, Int.reduceBNe, Int.reduceEq, Int.reduceNeg, Int.reduceAdd, Int.reduceSub, Int.reduceMul, List.cons_beq_cons, BEq.rfl, Int.reduceToNat, Int.reduceLE, Int.reduceLT, reduceCtorEq, hJ]
    all_goals simp [idx, hJ]
  | cons x post =>
    have hn := nl hpp
    simp (maxSteps := 1000000) (disch := omega) only [go_sem, opS_s, opS_sg, opS_b, opS_bg, ↓reduceIte, Nat.reduceAdd, Nat.reduceMul, Nat.reduceSub, Nat.reduceEqDiff, Nat.reduceLeDiff, Nat.reduceLT, Nat.reduceBEq, Int.reduceBEq, Int.reduceBNe, Int.reduceEq, Int.reduceNeg, Int.reduceAdd, Int.reduceSub, Int.reduceMul, List.cons_beq_cons, BEq.rfl, Int.reduceToNat, Int.reduceLE, Int.reduceLT, reduceCtorEq, hn]
    refine ⟨fun _ => ?_, fun hc => absurd (by omega) hc⟩
    refine callS_exact (hf _ _) ?_
    simp (maxSteps := 1000000) (disch := omega) only [go_sem, opS_s, opS_sg, opS_b, opS_bg, ↓reduceIte, Nat.reduceAdd, Nat.reduceMul, Nat.reduceSub, Nat.reduceEqDiff, Nat.reduceLeDiff, Nat.reduceLT, Nat.reduceBEq, Int.reduceBEq, Int.reduceBNe, Int.reduceEq, Int.reduceNeg, Int.reduceAdd, Int.reduceSub, Int.reduceMul, List.cons_beq_cons, BEq.rfl, Int.reduceToNat, Int.reduceLE, Int.reduceLT, reduceCtorEq]
    by_cases hb : x.toNat < 128
    · simp (maxSteps := 1000000) (disch := omega) only [go_sem, opS_s, opS_sg, opS_b, opS_bg, ↓reduceIte, Nat.reduceAdd, Nat.reduceMul, Nat.reduceSub, Nat.reduceEqDiff, Nat.reduceLeDiff, Nat.reduceLT, Nat.reduceBEq, Int.reduceBEq, Int.reduceBNe, Int.reduceEq, Int.reduceNeg, Int.reduceAdd, Int.reduceSub, Int.reduceMul, List.cons_beq_cons, BEq.rfl, Int.reduceToNat, Int.reduceLE, Int.reduceLT, reduceCtorEq, dec_ascii hpp hb, other_lo hb, bt]
      rw [condS_some]; refine ⟨fun hx => ?_, fun hx => ?_⟩
      · simp (maxSteps := 1000000) (disch := omega) only [go_sem, opS_s, opS_sg, opS_b, opS_bg, ↓reduceIte, Nat.reduceAdd, Nat.reduceMul, Nat.reduceSub, Nat.reduceEqDiff, Nat.reduceLeDiff, Nat.reduceLT, Nat.reduceBEq, Int.reduceBEq, Int.reduceBNe, Int.reduceEq, Int.reduceNeg, Int.reduceAdd, Int.reduceSub, Int.reduceMul, List.cons_beq_cons, BEq.rfl, Int.reduceToNat, Int.reduceLE, Int.reduceLT, reduceCtorEq]
        refine finS_l ?_
        simp (maxSteps := 1000000) (disch := omega) only [go_sem, opS_s, opS_sg, opS_b, opS_bg, ↓reduceIte, Nat.reduceAdd, Nat.reduceMul, Nat.reduceSub, Nat.reduceEqDiff, Nat.reduceLeDiff, Nat.reduceLT, Nat.reduceBEq, Int.reduceBEq, Int.reduceBNe, Int.reduceEq, Int.reduceNeg, Int.reduceAdd, Int.reduceSub, Int.reduceMul, List.cons_beq_cons, BEq.rfl, Int.reduceToNat, Int.reduceLE, Int.reduceLT, reduceCtorEq]
        all_goals simp [(fidx hJ).1 hx]
      · simp (maxSteps := 1000000) (disch := omega) only [go_sem, opS_s, opS_sg, opS_b, opS_bg, ↓reduceIte, Nat.reduceAdd, Nat.reduceMul, Nat.reduceSub, Nat.reduceEqDiff, Nat.reduceLeDiff, Nat.reduceLT, Nat.reduceBEq, Int.reduceBEq, Int.reduceBNe, Int.reduceEq, Int.reduceNeg, Int.reduceAdd, Int.reduceSub, Int.reduceMul, List.cons_beq_cons, BEq.rfl, Int.reduceToNat, Int.reduceLE, Int.reduceLT, reduceCtorEq]
        refine lp_next (h.length + 1) () hpp ((fidx hJ).2 hx) ?_ ?_
        · simp (maxSteps := 1000000) (disch := omega) only [go_sem, opS_s, opS_sg, opS_b, opS_bg, ↓reduceIte, Nat.reduceAdd, Nat.reduceMul, Nat.reduceSub, Nat.reduceEqDiff, Nat.reduceLeDiff, Nat.reduceLT, Nat.reduceBEq, Int.reduceBEq, Int.reduceBNe, Int.reduceEq, Int.reduceNeg, Int.reduceAdd, Int.reduceSub, Int.reduceMul, List.cons_beq_cons, BEq.rfl, Int.reduceToNat, Int.reduceLE, Int.reduceLT, reduceCtorEq]
        · simp (maxSteps := 1000000) (disch := omega) only [go_sem, opS_s, opS_sg, opS_b, opS_bg, ↓reduceIte, Nat.reduceAdd, Nat.reduceMul, Nat.reduceSub, Nat.reduceEqDiff, Nat.reduceLeDiff, Nat.reduceLT, Nat.reduceBEq, Int.reduceBEq, Int.reduceBNe, Int.reduceEq, Int.reduceNeg, Int.reduceAdd, Int.reduceSub, Int.reduceMul, List.cons_beq_cons, BEq.rfl, Int.reduceToNat, Int.reduceLE, Int.reduceLT, reduceCtorEq]
    · have hr := dec_high hpp (by omega)
      simp (maxSteps := 1000000) (disch := omega) only [go_sem, opS_s, opS_sg, opS_b, opS_bg, ↓reduceIte, Nat.reduceAdd, Nat.reduceMul, Nat.reduceSub, Nat.reduceEqDiff, Nat.reduceLeDiff, Nat.reduceLT, Nat.reduceBEq, Int.reduceBEq, Int.reduceBNe, Int.reduceEq, Int.reduceNeg, Int.reduceAdd, Int.reduceSub, Int.reduceMul, List.cons_beq_cons, BEq.rfl, Int.reduceToNat, Int.reduceLE, Int.reduceLT, reduceCtorEq, other_hi (r := ((Utf8.decode ⟨s.toArray⟩ pre.length).1 : Int)) (by omega), bt]
      have hx : (!nameB x) = true := by rw [nameB_hi (by omega)]; rfl
      refine finS_l ?_
      simp (maxSteps := 1000000) (disch := omega) only [go_sem, opS_s, opS_sg, opS_b, opS_bg, ↓reduceIte, Nat.reduceAdd, Nat.reduceMul, Nat.reduceSub, Nat.reduceEqDiff, Nat.reduceLeDiff, Nat.reduceLT, Nat.reduceBEq, Int.reduceBEq, Int.reduceBNe, Int.reduceEq, Int.reduceNeg, Int.reduceAdd, Int.reduceSub, Int.reduceMul, List.cons_beq_cons, BEq.rfl, Int.reduceToNat, Int.reduceLE, Int.reduceLT, reduceCtorEq]
      all_goals simp [(fidx hJ).1 hx]

theorem indexOther2 (s : Str) (f : FuncId) (h : Heap) (hf : ∀ r, Ans f [.int .i32 r] (.bool (otherR r))) :
    SpecA PP N.strings_IndexFunc [.str s, .fn f [] []] h (fun r h' => r = .ret (.int .i64 (idx (fun b => !nameB b) s)) ∧ h' = h) := by
  refine spec_of ck_strings_IndexFunc ?_
  rw [wp_start]
  simp (maxSteps := 1000000) (disch := omega) only [go_sem, opS_s, opS_sg, opS_b, opS_bg, ↓reduceIte, Nat.reduceAdd, Nat.reduceMul, Nat.reduceSub, Nat.reduceEqDiff, Nat.reduceLeDiff, Nat.reduceLT, Nat.reduceBEq, Int.reduceBEq, Int.reduceBNe, Int.reduceEq, Int.reduceNeg, Int.reduceAdd, Int.reduceSub, Int.reduceMul, List.cons_beq_cons, BEq.rfl, Int.reduceToNat, Int.reduceLE, Int.reduceLT, reduceCtorEq, F.strings_IndexFunc]
  refine callS_exact (indexOther s f h hf) ?_
  simp (maxSteps := 1000000) (disch := omega) only [go_sem, opS_s, opS_sg, opS_b, opS_bg, ↓reduceIte, Nat.reduceAdd, Nat.reduceMul, Nat.reduceSub, Nat.reduceEqDiff, Nat.reduceLeDiff, Nat.reduceLT, Nat.reduceBEq, Int.reduceBEq, Int.reduceBNe, Int.reduceEq, Int.reduceNeg, Int.reduceAdd, Int.reduceSub, Int.reduceMul, List.cons_beq_cons, BEq.rfl, Int.reduceToNat, Int.reduceLE, Int.reduceLT, reduceCtorEq]
  refine finS_l ?_
  simp (maxSteps := 1000000) (disch := omega) only [go_sem, opS_s, opS_sg, opS_b, opS_bg, ↓reduceIte, Nat.reduceAdd, Nat.reduceMul, Nat.reduceSub, Nat.reduceEqDiff, Nat.reduceLeDiff, Nat.reduceLT, Nat.reduceBEq, Int.reduceBEq, Int.reduceBNe, Int.reduceEq, Int.reduceNeg, Int.reduceAdd, Int.reduceSub, Int.reduceMul, List.cons_beq_cons, BEq.rfl, Int.reduceToNat, Int.reduceLE, Int.reduceLT, reduceCtorEq]
  all_goals simp []

theorem containsOther (s : Str) (f : FuncId) (h : Heap) (hf : ∀ r, Ans f [.int .i32 r] (.bool (otherR r))) :
    SpecA PP N.strings_ContainsFunc [.str s, .fn f [] []] h (fun r h' => r = .ret (.bool (s.any fun b => !nameB b)) ∧ h' = h) := by
  refine spec_of ck_strings_ContainsFunc ?_
  rw [wp_start]
  simp (maxSteps := 1000000) (disch := omega) only [go_sem, opS_s, opS_sg, opS_b, opS_bg, ↓reduceIte, Nat.reduceAdd, Nat.reduceMul, Nat.reduceSub, Nat.reduceEqDiff, Nat.reduceLeDiff, Nat.reduceLT, Nat.reduceBEq, Int.reduceBEq, Int.reduceBNe, Int.reduceEq, Int.reduceNeg, Int.reduceAdd, Int.reduceSub, Int.reduceMul, List.cons_beq_cons, BEq.rfl, Int.reduceToNat, Int.reduceLE, Int.reduceLT, reduceCtorEq, F.strings_ContainsFunc]
  refine callS_exact (indexOther2 s f h hf) ?_
  simp (maxSteps := 1000000) (disch := omega) only [go_sem, opS_s, opS_sg, opS_b, opS_bg, ↓reduceIte, Nat.reduceAdd, Nat.reduceMul, Nat.reduceSub, Nat.reduceEqDiff, Nat.reduceLeDiff, Nat.reduceLT, Nat.reduceBEq, Int.reduceBEq, Int.reduceBNe, Int.reduceEq, Int.reduceNeg, Int.reduceAdd, Int.reduceSub, Int.reduceMul, List.cons_beq_cons, BEq.rfl, Int.reduceToNat, Int.reduceLE, Int.reduceLT, reduceCtorEq]
  refine finS_l ?_
  simp (maxSteps := 1000000) (disch := omega) only [go_sem, opS_s, opS_sg, opS_b, opS_bg, ↓reduceIte, Nat.reduceAdd, Nat.reduceMul, Nat.reduceSub, Nat.reduceEqDiff, Nat.reduceLeDiff, Nat.reduceLT, Nat.reduceBEq, Int.reduceBEq, Int.reduceBNe, Int.reduceEq, Int.reduceNeg, Int.reduceAdd, Int.reduceSub, Int.reduceMul, List.cons_beq_cons, BEq.rfl, Int.reduceToNat, Int.reduceLE, Int.reduceLT, reduceCtorEq]
  all_goals simp [idx_any]

theorem nameR_eq (s : Str) : ((!(s == ([] : Str)) && decide ((s.length : Int) ≤ 8)) && !(s.any fun b => !nameB b)) = nameR s := by
  have h1 : (!(s.any fun b => !nameB b)) = s.all nameB := by rw [List.not_any_eq_all_not]; simp
  rw [h1]
  unfold nameR
  cases s with
  | nil => simp
  | cons x s =>
    have e : ((x :: s) == ([] : Str)) = false := rfl
    have e1 : decide (1 ≤ (((x :: s).length : Nat) : Int)) = true := by simp; omega
    simp only [e, e1, Bool.not_false, Bool.true_and]
    exact Bool.and_comm _ _

theorem name_schema (s : Str) : Ans N.schema_name [.str s] (.bool (nameR s)) := by
  intro h
  refine spec_of ck_schema_name ?_
  rw [wp_start]
  simp (maxSteps := 1000000) (disch := omega) only [go_sem, opS_s, opS_sg, opS_b, opS_bg, ↓reduceIte, Nat.reduceAdd, Nat.reduceMul, Nat.reduceSub, Nat.reduceEqDiff, Nat.reduceLeDiff, Nat.reduceLT, Nat.reduceBEq, Int.reduceBEq, Int.reduceBNe, Int.reduceEq, Int.reduceNeg, Int.reduceAdd, Int.reduceSub, Int.reduceMul, List.cons_beq_cons, BEq.rfl, Int.reduceToNat, Int.reduceLE, Int.reduceLT, reduceCtorEq, F.schema_name]
  rw [← nameR_eq]
  rw [opEg_some]; refine ⟨fun hg => ?_, fun hg => ?_⟩ <;> try simp only [Bool.and_eq_true, Bool.or_eq_false_iff, Bool.not_eq_true', Bool.not_eq_false'] at hg
  · simp (maxSteps := 1000000) (disch := omega) only [go_sem, opS_s, opS_sg, opS_b, opS_bg, ↓reduceIte, Nat.reduceAdd, Nat.reduceMul, Nat.reduceSub, Nat.reduceEqDiff, Nat.reduceLeDiff, Nat.reduceLT, Nat.reduceBEq, Int.reduceBEq, Int.reduceBNe, Int.reduceEq, Int.reduceNeg, Int.reduceAdd, Int.reduceSub, Int.reduceMul, List.cons_beq_cons, BEq.rfl, Int.reduceToNat, Int.reduceLE, Int.reduceLT, reduceCtorEq, hg]
    refine callS_exact (containsOther s _ h other_schema) ?_
    simp (maxSteps := 1000000) (disch := omega) only [go_sem, opS_s, opS_sg, opS_b, opS_bg, ↓reduceIte, Nat.reduceAdd, Nat.reduceMul, Nat.reduceSub, Nat.reduceEqDiff, Nat.reduceLeDiff, Nat.reduceLT, Nat.reduceBEq, Int.reduceBEq, Int.reduceBNe, Int.reduceEq, Int.reduceNeg, Int.reduceAdd, Int.reduceSub, Int.reduceMul, List.cons_beq_cons, BEq.rfl, Int.reduceToNat, Int.reduceLE, Int.reduceLT, reduceCtorEq, hg]
    refine finS_l ?_
    simp (maxSteps := 1000000) (disch := omega) only [go_sem, opS_s, opS_sg, opS_b, opS_bg, ↓reduceIte, Nat.reduceAdd, Nat.reduceMul, Nat.reduceSub, Nat.reduceEqDiff, Nat.reduceLeDiff, Nat.reduceLT, Nat.reduceBEq, Int.reduceBEq, Int.reduceBNe, Int.reduceEq, Int.reduceNeg, Int.reduceAdd, Int.reduceSub, Int.reduceMul, List.cons_beq_cons, BEq.rfl, Int.reduceToNat, Int.reduceLE, Int.reduceLT, reduceCtorEq]
    all_goals simp [hg]
  · simp (maxSteps := 1000000) (disch := omega) only [go_sem, opS_s, opS_sg, opS_b, opS_bg, ↓reduceIte, Nat.reduceAdd, Nat.reduceMul, Nat.reduceSub, Nat.reduceEqDiff, Nat.reduceLeDiff, Nat.reduceLT, Nat.reduceBEq, Int.reduceBEq, Int.reduceBNe, Int.reduceEq, Int.reduceNeg, Int.reduceAdd, Int.reduceSub, Int.reduceMul, List.cons_beq_cons, BEq.rfl, Int.reduceToNat, Int.reduceLE, Int.reduceLT, reduceCtorEq, hg]
    refine finS_l ?_
    simp (maxSteps := 1000000) (disch := omega) only [go_sem, opS_s, opS_sg, opS_b, opS_bg, ↓reduceIte, Nat.reduceAdd, Nat.reduceMul, Nat.reduceSub, Nat.reduceEqDiff, Nat.reduceLeDiff, Nat.reduceLT, Nat.reduceBEq, Int.reduceBEq, Int.reduceBNe, Int.reduceEq, Int.reduceNeg, Int.reduceAdd, Int.reduceSub, Int.reduceMul, List.cons_beq_cons, BEq.rfl, Int.reduceToNat, Int.reduceLE, Int.reduceLT, reduceCtorEq]
    all_goals simp [hg]
theorem name_filter (s : Str) : Ans N.filter_name [.str s] (.bool (nameR s)) := by
  intro h
  refine spec_of ck_filter_name ?_
  rw [wp_start]
  simp (maxSteps := 1000000) (disch := omega) only [go_sem, opS_s, opS_sg, opS_b, opS_bg, ↓reduceIte, Nat.reduceAdd, Nat.reduceMul, Nat.reduceSub, Nat.reduceEqDiff, Nat.reduceLeDiff, Nat.reduceLT, Nat.reduceBEq, Int.reduceBEq, Int.reduceBNe, Int.reduceEq, Int.reduceNeg, Int.reduceAdd, Int.reduceSub, Int.reduceMul, List.cons_beq_cons, BEq.rfl, Int.reduceToNat, Int.reduceLE, Int.reduceLT, reduceCtorEq, F.filter_name]
  rw [← nameR_eq]
  rw [opEg_some]; refine ⟨fun hg => ?_, fun hg => ?_⟩ <;> try simp only [Bool.and_eq_true, Bool.or_eq_false_iff, Bool.not_eq_true', Bool.not_eq_false'] at hg
  · simp (maxSteps := 1000000) (disch := omega) only [go_sem, opS_s, opS_sg, opS_b, opS_bg, ↓reduceIte, Nat.reduceAdd, Nat.reduceMul, Nat.reduceSub, Nat.reduceEqDiff, Nat.reduceLeDiff, Nat.reduceLT, Nat.reduceBEq, Int.reduceBEq, Int.reduceBNe, Int.reduceEq, Int.reduceNeg, Int.reduceAdd, Int.reduceSub, Int.reduceMul, List.cons_beq_cons, BEq.rfl, Int.reduceToNat, Int.reduceLE, Int.reduceLT, reduceCtorEq, hg]
    refine callS_exact (containsOther s _ h other_filter) ?_
    simp (maxSteps := 1000000) (disch := omega) only [go_sem, opS_s, opS_sg, opS_b, opS_bg, ↓reduceIte, Nat.reduceAdd, Nat.reduceMul, Nat.reduceSub, Nat.reduceEqDiff, Nat.reduceLeDiff, Nat.reduceLT, Nat.reduceBEq, Int.reduceBEq, Int.reduceBNe, Int.reduceEq, Int.reduceNeg, Int.reduceAdd, Int.reduceSub, Int.reduceMul, List.cons_beq_cons, BEq.rfl, Int.reduceToNat, Int.reduceLE, Int.reduceLT, reduceCtorEq, hg]
    refine finS_l ?_
    simp (maxSteps := 1000000) (disch := omega) only [go_sem, opS_s, opS_sg, opS_b, opS_bg, ↓reduceIte, Nat.reduceAdd, Nat.reduceMul, Nat.reduceSub, Nat.reduceEqDiff, Nat.reduceLeDiff, Nat.reduceLT, Nat.reduceBEq, Int.reduceBEq, Int.reduceBNe, Int.reduceEq, Int.reduceNeg, Int.reduceAdd, Int.reduceSub, Int.reduceMul, List.cons_beq_cons, BEq.rfl, Int.reduceToNat, Int.reduceLE, Int.reduceLT, reduceCtorEq]
    all_goals simp [hg]
  · simp (maxSteps := 1000000) (disch := omega) only [go_sem, opS_s, opS_sg, opS_b, opS_bg, ↓reduceIte, Nat.reduceAdd, Nat.reduceMul, Nat.reduceSub, Nat.reduceEqDiff, Nat.reduceLeDiff, Nat.reduceLT, Nat.reduceBEq, Int.reduceBEq, Int.reduceBNe, Int.reduceEq, Int.reduceNeg, Int.reduceAdd, Int.reduceSub, Int.reduceMul, List.cons_beq_cons, BEq.rfl, Int.reduceToNat, Int.reduceLE, Int.reduceLT, reduceCtorEq, hg]
    refine finS_l ?_
    simp (maxSteps := 1000000) (disch := omega) only [go_sem, opS_s, opS_sg, opS_b, opS_bg, ↓reduceIte, Nat.reduceAdd, Nat.reduceMul, Nat.reduceSub, Nat.reduceEqDiff, Nat.reduceLeDiff, Nat.reduceLT, Nat.reduceBEq, Int.reduceBEq, Int.reduceBNe, Int.reduceEq, Int.reduceNeg, Int.reduceAdd, Int.reduceSub, Int.reduceMul, List.cons_beq_cons, BEq.rfl, Int.reduceToNat, Int.reduceLE, Int.reduceLT, reduceCtorEq]
    all_goals simp [hg]
theorem name_plan (s : Str) : Ans N.plan_name [.str s] (.bool (nameR s)) := by
  intro h
  refine spec_of ck_plan_name ?_
  rw [wp_start]
  simp (maxSteps := 1000000) (disch := omega) only [go_sem, opS_s, opS_sg, opS_b, opS_bg, ↓reduceIte, Nat.reduceAdd, Nat.reduceMul, Nat.reduceSub, Nat.reduceEqDiff, Nat.reduceLeDiff, Nat.reduceLT, Nat.reduceBEq, Int.reduceBEq, Int.reduceBNe, Int.reduceEq, Int.reduceNeg, Int.reduceAdd, Int.reduceSub, Int.reduceMul, List.cons_beq_cons, BEq.rfl, Int.reduceToNat, Int.reduceLE, Int.reduceLT, reduceCtorEq, F.plan_name]
  rw [← nameR_eq]
  rw [opEg_some]; refine ⟨fun hg => ?_, fun hg => ?_⟩ <;> try simp only [Bool.and_eq_true, Bool.or_eq_false_iff, Bool.not_eq_true', Bool.not_eq_false'] at hg
  · simp (maxSteps := 1000000) (disch := omega) only [go_sem, opS_s, opS_sg, opS_b, opS_bg, ↓reduceIte, Nat.reduceAdd, Nat.reduceMul, Nat.reduceSub, Nat.reduceEqDiff, Nat.reduceLeDiff, Nat.reduceLT, Nat.reduceBEq, Int.reduceBEq, Int.reduceBNe, Int.reduceEq, Int.reduceNeg, Int.reduceAdd, Int.reduceSub, Int.reduceMul, List.cons_beq_cons, BEq.rfl, Int.reduceToNat, Int.reduceLE, Int.reduceLT, reduceCtorEq, hg]
    refine callS_exact (containsOther s _ h other_plan) ?_
    simp (maxSteps := 1000000) (disch := omega) only [go_sem, opS_s, opS_sg, opS_b, opS_bg, ↓reduceIte, Nat.reduceAdd, Nat.reduceMul, Nat.reduceSub, Nat.reduceEqDiff, Nat.reduceLeDiff, Nat.reduceLT, Nat.reduceBEq, Int.reduceBEq, Int.reduceBNe, Int.reduceEq, Int.reduceNeg, Int.reduceAdd, Int.reduceSub, Int.reduceMul, List.cons_beq_cons, BEq.rfl, Int.reduceToNat, Int.reduceLE, Int.reduceLT, reduceCtorEq, hg]
    refine finS_l ?_
    simp (maxSteps := 1000000) (disch := omega) only [go_sem, opS_s, opS_sg, opS_b, opS_bg, ↓reduceIte, Nat.reduceAdd, Nat.reduceMul, Nat.reduceSub, Nat.reduceEqDiff, Nat.reduceLeDiff, Nat.reduceLT, Nat.reduceBEq, Int.reduceBEq, Int.reduceBNe, Int.reduceEq, Int.reduceNeg, Int.reduceAdd, Int.reduceSub, Int.reduceMul, List.cons_beq_cons, BEq.rfl, Int.reduceToNat, Int.reduceLE, Int.reduceLT, reduceCtorEq]
    all_goals simp [hg]
  · simp (maxSteps := 1000000) (disch := omega) only [go_sem, opS_s, opS_sg, opS_b, opS_bg, ↓reduceIte, Nat.reduceAdd, Nat.reduceMul, Nat.reduceSub, Nat.reduceEqDiff, Nat.reduceLeDiff, Nat.reduceLT, Nat.reduceBEq, Int.reduceBEq, Int.reduceBNe, Int.reduceEq, Int.reduceNeg, Int.reduceAdd, Int.reduceSub, Int.reduceMul, List.cons_beq_cons, BEq.rfl, Int.reduceToNat, Int.reduceLE, Int.reduceLT, reduceCtorEq, hg]
    refine finS_l ?_
    simp (maxSteps := 1000000) (disch := omega) only [go_sem, opS_s, opS_sg, opS_b, opS_bg, ↓reduceIte, Nat.reduceAdd, Nat.reduceMul, Nat.reduceSub, Nat.reduceEqDiff, Nat.reduceLeDiff, Nat.reduceLT, Nat.reduceBEq, Int.reduceBEq, Int.reduceBNe, Int.reduceEq, Int.reduceNeg, Int.reduceAdd, Int.reduceSub, Int.reduceMul, List.cons_beq_cons, BEq.rfl, Int.reduceToNat, Int.reduceLE, Int.reduceLT, reduceCtorEq]
    all_goals simp [hg]

theorem within_spec (n a b : Int) : Ans N.schema_within [.int .i64 n, .int .i64 a, .int .i64 b] (.bool (decide (a ≤ n) && decide (n ≤ b))) := by
  intro h
  refine spec_of ck_schema_within ?_
  rw [wp_start]
  simp (maxSteps := 1000000) (disch := omega) only [go_sem, opS_s, opS_sg, opS_b, opS_bg, ↓reduceIte, Nat.reduceAdd, Nat.reduceMul, Nat.reduceSub, Nat.reduceEqDiff, Nat.reduceLeDiff, Nat.reduceLT, Nat.reduceBEq, Int.reduceBEq, Int.reduceBNe, Int.reduceEq, Int.reduceNeg, Int.reduceAdd, Int.reduceSub, Int.reduceMul, List.cons_beq_cons, BEq.rfl, Int.reduceToNat, Int.reduceLE, Int.reduceLT, reduceCtorEq, F.schema_within]
  refine finS_l ?_
  simp (maxSteps := 1000000) (disch := omega) only [go_sem, opS_s, opS_sg, opS_b, opS_bg, ↓reduceIte, Nat.reduceAdd, Nat.reduceMul, Nat.reduceSub, Nat.reduceEqDiff, Nat.reduceLeDiff, Nat.reduceLT, Nat.reduceBEq, Int.reduceBEq, Int.reduceBNe, Int.reduceEq, Int.reduceNeg, Int.reduceAdd, Int.reduceSub, Int.reduceMul, List.cons_beq_cons, BEq.rfl, Int.reduceToNat, Int.reduceLE, Int.reduceLT, reduceCtorEq]
  all_goals simp []
theorem state_spec (n : Int) : Ans N.schema_state [.int .i64 n] (.bool (decide (1 ≤ n) && decide (n ≤ 3))) := by
  intro h
  refine spec_of ck_schema_state ?_
  rw [wp_start]
  simp (maxSteps := 1000000) (disch := omega) only [go_sem, opS_s, opS_sg, opS_b, opS_bg, ↓reduceIte, Nat.reduceAdd, Nat.reduceMul, Nat.reduceSub, Nat.reduceEqDiff, Nat.reduceLeDiff, Nat.reduceLT, Nat.reduceBEq, Int.reduceBEq, Int.reduceBNe, Int.reduceEq, Int.reduceNeg, Int.reduceAdd, Int.reduceSub, Int.reduceMul, List.cons_beq_cons, BEq.rfl, Int.reduceToNat, Int.reduceLE, Int.reduceLT, reduceCtorEq, F.schema_state]
  refine callS_exact (within_spec n 1 3 h) ?_
  simp (maxSteps := 1000000) (disch := omega) only [go_sem, opS_s, opS_sg, opS_b, opS_bg, ↓reduceIte, Nat.reduceAdd, Nat.reduceMul, Nat.reduceSub, Nat.reduceEqDiff, Nat.reduceLeDiff, Nat.reduceLT, Nat.reduceBEq, Int.reduceBEq, Int.reduceBNe, Int.reduceEq, Int.reduceNeg, Int.reduceAdd, Int.reduceSub, Int.reduceMul, List.cons_beq_cons, BEq.rfl, Int.reduceToNat, Int.reduceLE, Int.reduceLT, reduceCtorEq]
  refine finS_l ?_
  simp (maxSteps := 1000000) (disch := omega) only [go_sem, opS_s, opS_sg, opS_b, opS_bg, ↓reduceIte, Nat.reduceAdd, Nat.reduceMul, Nat.reduceSub, Nat.reduceEqDiff, Nat.reduceLeDiff, Nat.reduceLT, Nat.reduceBEq, Int.reduceBEq, Int.reduceBNe, Int.reduceEq, Int.reduceNeg, Int.reduceAdd, Int.reduceSub, Int.reduceMul, List.cons_beq_cons, BEq.rfl, Int.reduceToNat, Int.reduceLE, Int.reduceLT, reduceCtorEq]
  all_goals simp []
theorem layouts1_spec (l : Layout) : Ans N.schema_layouts_1 [.agg l.e] (.int .i64 l.group) := by
  intro h
  refine spec_of ck_schema_layouts_1 ?_
  rw [wp_start]
  simp (maxSteps := 1000000) (disch := omega) only [go_sem, opS_s, opS_sg, opS_b, opS_bg, ↓reduceIte, Nat.reduceAdd, Nat.reduceMul, Nat.reduceSub, Nat.reduceEqDiff, Nat.reduceLeDiff, Nat.reduceLT, Nat.reduceBEq, Int.reduceBEq, Int.reduceBNe, Int.reduceEq, Int.reduceNeg, Int.reduceAdd, Int.reduceSub, Int.reduceMul, List.cons_beq_cons, BEq.rfl, Int.reduceToNat, Int.reduceLE, Int.reduceLT, reduceCtorEq, F.schema_layouts_1]
  intro s
  refine finS_l ?_
  simp (maxSteps := 1000000) (disch := omega) only [go_sem, opS_s, opS_sg, opS_b, opS_bg, ↓reduceIte, Nat.reduceAdd, Nat.reduceMul, Nat.reduceSub, Nat.reduceEqDiff, Nat.reduceLeDiff, Nat.reduceLT, Nat.reduceBEq, Int.reduceBEq, Int.reduceBNe, Int.reduceEq, Int.reduceNeg, Int.reduceAdd, Int.reduceSub, Int.reduceMul, List.cons_beq_cons, BEq.rfl, Int.reduceToNat, Int.reduceLE, Int.reduceLT, reduceCtorEq]
  all_goals simp []
theorem cols2_spec (l : Column) : Ans N.schema_cols_2 [.agg l.e] (.str l.qual) := by
  intro h
  refine spec_of ck_schema_cols_2 ?_
  rw [wp_start]
  simp (maxSteps := 1000000) (disch := omega) only [go_sem, opS_s, opS_sg, opS_b, opS_bg, ↓reduceIte, Nat.reduceAdd, Nat.reduceMul, Nat.reduceSub, Nat.reduceEqDiff, Nat.reduceLeDiff, Nat.reduceLT, Nat.reduceBEq, Int.reduceBEq, Int.reduceBNe, Int.reduceEq, Int.reduceNeg, Int.reduceAdd, Int.reduceSub, Int.reduceMul, List.cons_beq_cons, BEq.rfl, Int.reduceToNat, Int.reduceLE, Int.reduceLT, reduceCtorEq, F.schema_cols_2]
  intro s
  refine finS_l ?_
  simp (maxSteps := 1000000) (disch := omega) only [go_sem, opS_s, opS_sg, opS_b, opS_bg, ↓reduceIte, Nat.reduceAdd, Nat.reduceMul, Nat.reduceSub, Nat.reduceEqDiff, Nat.reduceLeDiff, Nat.reduceLT, Nat.reduceBEq, Int.reduceBEq, Int.reduceBNe, Int.reduceEq, Int.reduceNeg, Int.reduceAdd, Int.reduceSub, Int.reduceMul, List.cons_beq_cons, BEq.rfl, Int.reduceToNat, Int.reduceLE, Int.reduceLT, reduceCtorEq]
  all_goals simp []
theorem right2_spec (l : Family) : Ans N.schema_Right_2 [.agg l.e] (.str l.name) := by
  intro h
  refine spec_of ck_schema_Right_2 ?_
  rw [wp_start]
  simp (maxSteps := 1000000) (disch := omega) only [go_sem, opS_s, opS_sg, opS_b, opS_bg, ↓reduceIte, Nat.reduceAdd, Nat.reduceMul, Nat.reduceSub, Nat.reduceEqDiff, Nat.reduceLeDiff, Nat.reduceLT, Nat.reduceBEq, Int.reduceBEq, Int.reduceBNe, Int.reduceEq, Int.reduceNeg, Int.reduceAdd, Int.reduceSub, Int.reduceMul, List.cons_beq_cons, BEq.rfl, Int.reduceToNat, Int.reduceLE, Int.reduceLT, reduceCtorEq, F.schema_Right_2]
  intro s
  refine finS_l ?_
  simp (maxSteps := 1000000) (disch := omega) only [go_sem, opS_s, opS_sg, opS_b, opS_bg, ↓reduceIte, Nat.reduceAdd, Nat.reduceMul, Nat.reduceSub, Nat.reduceEqDiff, Nat.reduceLeDiff, Nat.reduceLT, Nat.reduceBEq, Int.reduceBEq, Int.reduceBNe, Int.reduceEq, Int.reduceNeg, Int.reduceAdd, Int.reduceSub, Int.reduceMul, List.cons_beq_cons, BEq.rfl, Int.reduceToNat, Int.reduceLE, Int.reduceLT, reduceCtorEq]
  all_goals simp []
theorem colBad_eq (c : Column) : (decide (12 < (c.qual.length : Int)) || !(decide (1 ≤ c.kind) && decide (c.kind ≤ 5)) || !(decide (1 ≤ c.state) && decide (c.state ≤ 3))) = colBad c := by
  unfold colBad; rw [Bool.eq_iff_iff]; simp; omega
theorem cols1_spec (c : Column) : Ans N.schema_cols_1 [.agg c.e] (.bool (colBad c)) := by
  intro h
  rw [← colBad_eq]
  refine spec_of ck_schema_cols_1 ?_
  rw [wp_start]
  simp (maxSteps := 1000000) (disch := omega) only [go_sem, opS_s, opS_sg, opS_b, opS_bg, ↓reduceIte, Nat.reduceAdd, Nat.reduceMul, Nat.reduceSub, Nat.reduceEqDiff, Nat.reduceLeDiff, Nat.reduceLT, Nat.reduceBEq, Int.reduceBEq, Int.reduceBNe, Int.reduceEq, Int.reduceNeg, Int.reduceAdd, Int.reduceSub, Int.reduceMul, List.cons_beq_cons, BEq.rfl, Int.reduceToNat, Int.reduceLE, Int.reduceLT, reduceCtorEq, F.schema_cols_1]
  intro s
  rw [opEg_some]; refine ⟨fun hg => ?_, fun hg => ?_⟩ <;> try simp only [Bool.and_eq_true, Bool.or_eq_false_iff, Bool.not_eq_true', Bool.not_eq_false'] at hg
  · simp (maxSteps := 1000000) (disch := omega) only [go_sem, opS_s, opS_sg, opS_b, opS_bg, ↓reduceIte, Nat.reduceAdd, Nat.reduceMul, Nat.reduceSub, Nat.reduceEqDiff, Nat.reduceLeDiff, Nat.reduceLT, Nat.reduceBEq, Int.reduceBEq, Int.reduceBNe, Int.reduceEq, Int.reduceNeg, Int.reduceAdd, Int.reduceSub, Int.reduceMul, List.cons_beq_cons, BEq.rfl, Int.reduceToNat, Int.reduceLE, Int.reduceLT, reduceCtorEq, hg]
    refine callS_exact (within_spec c.kind 1 5 _) ?_
    simp (maxSteps := 1000000) (disch := omega) only [go_sem, opS_s, opS_sg, opS_b, opS_bg, ↓reduceIte, Nat.reduceAdd, Nat.reduceMul, Nat.reduceSub, Nat.reduceEqDiff, Nat.reduceLeDiff, Nat.reduceLT, Nat.reduceBEq, Int.reduceBEq, Int.reduceBNe, Int.reduceEq, Int.reduceNeg, Int.reduceAdd, Int.reduceSub, Int.reduceMul, List.cons_beq_cons, BEq.rfl, Int.reduceToNat, Int.reduceLE, Int.reduceLT, reduceCtorEq, hg]
    have hg1 := hg
    rw [opEg_some]; refine ⟨fun hg => ?_, fun hg => ?_⟩ <;> try simp only [Bool.and_eq_true, Bool.or_eq_false_iff, Bool.not_eq_true', Bool.not_eq_false'] at hg
    · simp (maxSteps := 1000000) (disch := omega) only [go_sem, opS_s, opS_sg, opS_b, opS_bg, ↓reduceIte, Nat.reduceAdd, Nat.reduceMul, Nat.reduceSub, Nat.reduceEqDiff, Nat.reduceLeDiff, Nat.reduceLT, Nat.reduceBEq, Int.reduceBEq, Int.reduceBNe, Int.reduceEq, Int.reduceNeg, Int.reduceAdd, Int.reduceSub, Int.reduceMul, List.cons_beq_cons, BEq.rfl, Int.reduceToNat, Int.reduceLE, Int.reduceLT, reduceCtorEq, hg1, hg]
      refine callS_exact (state_spec c.state _) ?_
      simp (maxSteps := 1000000) (disch := omega) only [go_sem, opS_s, opS_sg, opS_b, opS_bg, ↓reduceIte, Nat.reduceAdd, Nat.reduceMul, Nat.reduceSub, Nat.reduceEqDiff, Nat.reduceLeDiff, Nat.reduceLT, Nat.reduceBEq, Int.reduceBEq, Int.reduceBNe, Int.reduceEq, Int.reduceNeg, Int.reduceAdd, Int.reduceSub, Int.reduceMul, List.cons_beq_cons, BEq.rfl, Int.reduceToNat, Int.reduceLE, Int.reduceLT, reduceCtorEq, hg1, hg]
      refine finS_l ?_
      simp (maxSteps := 1000000) (disch := omega) only [go_sem, opS_s, opS_sg, opS_b, opS_bg, ↓reduceIte, Nat.reduceAdd, Nat.reduceMul, Nat.reduceSub, Nat.reduceEqDiff, Nat.reduceLeDiff, Nat.reduceLT, Nat.reduceBEq, Int.reduceBEq, Int.reduceBNe, Int.reduceEq, Int.reduceNeg, Int.reduceAdd, Int.reduceSub, Int.reduceMul, List.cons_beq_cons, BEq.rfl, Int.reduceToNat, Int.reduceLE, Int.reduceLT, reduceCtorEq]
      all_goals simp [hg1, hg]
    · simp (maxSteps := 1000000) (disch := omega) only [go_sem, opS_s, opS_sg, opS_b, opS_bg, ↓reduceIte, Nat.reduceAdd, Nat.reduceMul, Nat.reduceSub, Nat.reduceEqDiff, Nat.reduceLeDiff, Nat.reduceLT, Nat.reduceBEq, Int.reduceBEq, Int.reduceBNe, Int.reduceEq, Int.reduceNeg, Int.reduceAdd, Int.reduceSub, Int.reduceMul, List.cons_beq_cons, BEq.rfl, Int.reduceToNat, Int.reduceLE, Int.reduceLT, reduceCtorEq, hg1, hg]
      refine finS_l ?_
      simp (maxSteps := 1000000) (disch := omega) only [go_sem, opS_s, opS_sg, opS_b, opS_bg, ↓reduceIte, Nat.reduceAdd, Nat.reduceMul, Nat.reduceSub, Nat.reduceEqDiff, Nat.reduceLeDiff, Nat.reduceLT, Nat.reduceBEq, Int.reduceBEq, Int.reduceBNe, Int.reduceEq, Int.reduceNeg, Int.reduceAdd, Int.reduceSub, Int.reduceMul, List.cons_beq_cons, BEq.rfl, Int.reduceToNat, Int.reduceLE, Int.reduceLT, reduceCtorEq]
      all_goals simp [hg1, hg]
  · simp (maxSteps := 1000000) (disch := omega) only [go_sem, opS_s, opS_sg, opS_b, opS_bg, ↓reduceIte, Nat.reduceAdd, Nat.reduceMul, Nat.reduceSub, Nat.reduceEqDiff, Nat.reduceLeDiff, Nat.reduceLT, Nat.reduceBEq, Int.reduceBEq, Int.reduceBNe, Int.reduceEq, Int.reduceNeg, Int.reduceAdd, Int.reduceSub, Int.reduceMul, List.cons_beq_cons, BEq.rfl, Int.reduceToNat, Int.reduceLE, Int.reduceLT, reduceCtorEq, hg]
    refine finS_l ?_
    simp (maxSteps := 1000000) (disch := omega) only [go_sem, opS_s, opS_sg, opS_b, opS_bg, ↓reduceIte, Nat.reduceAdd, Nat.reduceMul, Nat.reduceSub, Nat.reduceEqDiff, Nat.reduceLeDiff, Nat.reduceLT, Nat.reduceBEq, Int.reduceBEq, Int.reduceBNe, Int.reduceEq, Int.reduceNeg, Int.reduceAdd, Int.reduceSub, Int.reduceMul, List.cons_beq_cons, BEq.rfl, Int.reduceToNat, Int.reduceLE, Int.reduceLT, reduceCtorEq]
    all_goals simp [hg]

theorem once_string_spec (l : List Family) (f : FuncId) (g : Family → Str) (hl : l.length < 1099511627776) (hf : ∀ x, Ans f [.agg (Family.e x)] (.str (g x))) : Ans N.schema_once_string [.psl (l.map Family.e), .fn f [] []] (.bool (decide (l.map g).Nodup)) := by
  intro h
  refine spec_of ck_schema_once_string ?_
  rw [wp_start]
  simp (maxSteps := 1000000) (disch := omega) only [go_sem, opS_s, opS_sg, opS_b, opS_bg, ↓reduceIte, Nat.reduceAdd, Nat.reduceMul, Nat.reduceSub, Nat.reduceEqDiff, Nat.reduceLeDiff, Nat.reduceLT, Nat.reduceBEq, Int.reduceBEq, Int.reduceBNe, Int.reduceEq, Int.reduceNeg, Int.reduceAdd, Int.reduceSub, Int.reduceMul, List.cons_beq_cons, BEq.rfl, Int.reduceToNat, Int.reduceLE, Int.reduceLT, reduceCtorEq, F.schema_once_string]
  intro s1
  refine loopS_list l (fun pre (m : List (Str × Int)) => ⟨[(0, .psl (l.map Family.e)), (1, .fn f [] []), (5, .mp h.length s1), (9, .psl (l.map Family.e)), (10, .int .i64 l.length), (11, .int .i64 pre.length)], h ++ [.mp s1 (mpS m)]⟩) (fun pre post m => Cnt (pre.map g) m) [] rfl .nil ?_
  rintro pre post m hpp hJ
  cases post with
  | nil =>
    have hn := nl0 hpp
    simp only [List.append_nil] at hpp
    simp (maxSteps := 1000000) (disch := omega) only [go_sem, opS_s, opS_sg, opS_b, opS_bg, ↓reduceIte, Nat.reduceAdd, Nat.reduceMul, Nat.reduceSub, Nat.reduceEqDiff, Nat.reduceLeDiff, Nat.reduceLT, Nat.reduceBEq, Int.reduceBEq, Int.reduceBNe, Int.reduceEq, Int.reduceNeg, Int.reduceAdd, Int.reduceSub, Int.reduceMul, List.cons_beq_cons, BEq.rfl, Int.reduceToNat, Int.reduceLE, Int.reduceLT, reduceCtorEq, hn]
    have key : ((m.length : Int) == (pre.length : Int)) = decide (l.map g).Nodup := by
      have := hJ.eq
      rw [List.length_map] at this
      rw [Bool.eq_iff_iff, hpp]
      simp only [beq_iff_eq, Int.natCast_inj, decide_eq_true_eq]
      exact this
    refine finS_l ?_
    simp (maxSteps := 1000000) (disch := omega) only [go_sem, opS_s, opS_sg, opS_b, opS_bg, ↓reduceIte, Nat.reduceAdd, Nat.reduceMul, Nat.reduceSub, Nat.reduceEqDiff, Nat.reduceLeDiff, Nat.reduceLT, Nat.reduceBEq, Int.reduceBEq, Int.reduceBNe, Int.reduceEq, Int.reduceNeg, Int.reduceAdd, Int.reduceSub, Int.reduceMul, List.cons_beq_cons, BEq.rfl, Int.reduceToNat, Int.reduceLE, Int.reduceLT, reduceCtorEq]
    all_goals simp [key]
  | cons x post =>
    have hn := nl hpp
    simp (maxSteps := 1000000) (disch := omega) only [go_sem, opS_s, opS_sg, opS_b, opS_bg, ↓reduceIte, Nat.reduceAdd, Nat.reduceMul, Nat.reduceSub, Nat.reduceEqDiff, Nat.reduceLeDiff, Nat.reduceLT, Nat.reduceBEq, Int.reduceBEq, Int.reduceBNe, Int.reduceEq, Int.reduceNeg, Int.reduceAdd, Int.reduceSub, Int.reduceMul, List.cons_beq_cons, BEq.rfl, Int.reduceToNat, Int.reduceLE, Int.reduceLT, reduceCtorEq, gml Family.e hpp, hn]
    intro s2
    refine callS_exact (hf x _) ?_
    simp (maxSteps := 1000000) (disch := omega) only [go_sem, opS_s, opS_sg, opS_b, opS_bg, ↓reduceIte, Nat.reduceAdd, Nat.reduceMul, Nat.reduceSub, Nat.reduceEqDiff, Nat.reduceLeDiff, Nat.reduceLT, Nat.reduceBEq, Int.reduceBEq, Int.reduceBNe, Int.reduceEq, Int.reduceNeg, Int.reduceAdd, Int.reduceSub, Int.reduceMul, List.cons_beq_cons, BEq.rfl, Int.reduceToNat, Int.reduceLE, Int.reduceLT, reduceCtorEq]
    cases hlk : List.lookup (g x) m with
    | none =>
      simp (maxSteps := 1000000) (disch := omega) only [go_sem, opS_s, opS_sg, opS_b, opS_bg, ↓reduceIte, Nat.reduceAdd, Nat.reduceMul, Nat.reduceSub, Nat.reduceEqDiff, Nat.reduceLeDiff, Nat.reduceLT, Nat.reduceBEq, Int.reduceBEq, Int.reduceBNe, Int.reduceEq, Int.reduceNeg, Int.reduceAdd, Int.reduceSub, Int.reduceMul, List.cons_beq_cons, BEq.rfl, Int.reduceToNat, Int.reduceLE, Int.reduceLT, reduceCtorEq]
      refine lp_next (h.length + 1) (putK (g x) (IntKind.i64.wrap 1) m) hpp ?_ ?_ ?_
      · simpa using hJ.step (g x) (IntKind.i64.wrap 1)
      · simp (maxSteps := 1000000) (disch := omega) only [go_sem, opS_s, opS_sg, opS_b, opS_bg, ↓reduceIte, Nat.reduceAdd, Nat.reduceMul, Nat.reduceSub, Nat.reduceEqDiff, Nat.reduceLeDiff, Nat.reduceLT, Nat.reduceBEq, Int.reduceBEq, Int.reduceBNe, Int.reduceEq, Int.reduceNeg, Int.reduceAdd, Int.reduceSub, Int.reduceMul, List.cons_beq_cons, BEq.rfl, Int.reduceToNat, Int.reduceLE, Int.reduceLT, reduceCtorEq, wrap64, Int.natCast_add, Int.cast_ofNat_Int, Int.natCast_one, hn]
      · simp (maxSteps := 1000000) (disch := omega) only [go_sem, opS_s, opS_sg, opS_b, opS_bg, ↓reduceIte, Nat.reduceAdd, Nat.reduceMul, Nat.reduceSub, Nat.reduceEqDiff, Nat.reduceLeDiff, Nat.reduceLT, Nat.reduceBEq, Int.reduceBEq, Int.reduceBNe, Int.reduceEq, Int.reduceNeg, Int.reduceAdd, Int.reduceSub, Int.reduceMul, List.cons_beq_cons, BEq.rfl, Int.reduceToNat, Int.reduceLE, Int.reduceLT, reduceCtorEq]
    | some v =>
      simp (maxSteps := 1000000) (disch := omega) only [go_sem, opS_s, opS_sg, opS_b, opS_bg, ↓reduceIte, Nat.reduceAdd, Nat.reduceMul, Nat.reduceSub, Nat.reduceEqDiff, Nat.reduceLeDiff, Nat.reduceLT, Nat.reduceBEq, Int.reduceBEq, Int.reduceBNe, Int.reduceEq, Int.reduceNeg, Int.reduceAdd, Int.reduceSub, Int.reduceMul, List.cons_beq_cons, BEq.rfl, Int.reduceToNat, Int.reduceLE, Int.reduceLT, reduceCtorEq]
      refine lp_next (h.length + 1) (putK (g x) (IntKind.i64.wrap (v + 1)) m) hpp ?_ ?_ ?_
      · simpa using hJ.step (g x) (IntKind.i64.wrap (v + 1))
      · simp (maxSteps := 1000000) (disch := omega) only [go_sem, opS_s, opS_sg, opS_b, opS_bg, ↓reduceIte, Nat.reduceAdd, Nat.reduceMul, Nat.reduceSub, Nat.reduceEqDiff, Nat.reduceLeDiff, Nat.reduceLT, Nat.reduceBEq, Int.reduceBEq, Int.reduceBNe, Int.reduceEq, Int.reduceNeg, Int.reduceAdd, Int.reduceSub, Int.reduceMul, List.cons_beq_cons, BEq.rfl, Int.reduceToNat, Int.reduceLE, Int.reduceLT, reduceCtorEq, wrap64, Int.natCast_add, Int.cast_ofNat_Int, Int.natCast_one, hn]
      · simp (maxSteps := 1000000) (disch := omega) only [go_sem, opS_s, opS_sg, opS_b, opS_bg, ↓reduceIte, Nat.reduceAdd, Nat.reduceMul, Nat.reduceSub, Nat.reduceEqDiff, Nat.reduceLeDiff, Nat.reduceLT, Nat.reduceBEq, Int.reduceBEq, Int.reduceBNe, Int.reduceEq, Int.reduceNeg, Int.reduceAdd, Int.reduceSub, Int.reduceMul, List.cons_beq_cons, BEq.rfl, Int.reduceToNat, Int.reduceLE, Int.reduceLT, reduceCtorEq]
theorem once_int_spec (l : List Layout) (f : FuncId) (g : Layout → Int) (hl : l.length < 1099511627776) (hf : ∀ x, Ans f [.agg (Layout.e x)] (.int .i64 (g x))) : Ans N.schema_once_int [.psl (l.map Layout.e), .fn f [] []] (.bool (decide (l.map g).Nodup)) := by
  intro h
  refine spec_of ck_schema_once_int ?_
  rw [wp_start]
  simp (maxSteps := 1000000) (disch := omega) only [go_sem, opS_s, opS_sg, opS_b, opS_bg, ↓reduceIte, Nat.reduceAdd, Nat.reduceMul, Nat.reduceSub, Nat.reduceEqDiff, Nat.reduceLeDiff, Nat.reduceLT, Nat.reduceBEq, Int.reduceBEq, Int.reduceBNe, Int.reduceEq, Int.reduceNeg, Int.reduceAdd, Int.reduceSub, Int.reduceMul, List.cons_beq_cons, BEq.rfl, Int.reduceToNat, Int.reduceLE, Int.reduceLT, reduceCtorEq, F.schema_once_int]
  intro s1
  refine loopS_list l (fun pre (m : List (Int × Int)) => ⟨[(0, .psl (l.map Layout.e)), (1, .fn f [] []), (5, .mp h.length s1), (9, .psl (l.map Layout.e)), (10, .int .i64 l.length), (11, .int .i64 pre.length)], h ++ [.mp s1 (mpI m)]⟩) (fun pre post m => Cnt (pre.map g) m) [] rfl .nil ?_
  rintro pre post m hpp hJ
  cases post with
  | nil =>
    have hn := nl0 hpp
    simp only [List.append_nil] at hpp
    simp (maxSteps := 1000000) (disch := omega) only [go_sem, opS_s, opS_sg, opS_b, opS_bg, ↓reduceIte, Nat.reduceAdd, Nat.reduceMul, Nat.reduceSub, Nat.reduceEqDiff, Nat.reduceLeDiff, Nat.reduceLT, Nat.reduceBEq, Int.reduceBEq, Int.reduceBNe, Int.reduceEq, Int.reduceNeg, Int.reduceAdd, Int.reduceSub, Int.reduceMul, List.cons_beq_cons, BEq.rfl, Int.reduceToNat, Int.reduceLE, Int.reduceLT, reduceCtorEq, hn]
    have key : ((m.length : Int) == (pre.length : Int)) = decide (l.map g).Nodup := by
      have := hJ.eq
      rw [List.length_map] at this
      rw [Bool.eq_iff_iff, hpp]
      simp only [beq_iff_eq, Int.natCast_inj, decide_eq_true_eq]
      exact this
    refine finS_l ?_
    simp (maxSteps := 1000000) (disch := omega) only [go_sem, opS_s, opS_sg, opS_b, opS_bg, ↓reduceIte, Nat.reduceAdd, Nat.reduceMul, Nat.reduceSub, Nat.reduceEqDiff, Nat.reduceLeDiff, Nat.reduceLT, Nat.reduceBEq, Int.reduceBEq, Int.reduceBNe, Int.reduceEq, Int.reduceNeg, Int.reduceAdd, Int.reduceSub, Int.reduceMul, List.cons_beq_cons, BEq.rfl, Int.reduceToNat, Int.reduceLE, Int.reduceLT, reduceCtorEq]
    all_goals simp [key]
  | cons x post =>
    have hn := nl hpp
    simp (maxSteps := 1000000) (disch := omega) only [go_sem, opS_s, opS_sg, opS_b, opS_bg, ↓reduceIte, Nat.reduceAdd, Nat.reduceMul, Nat.reduceSub, Nat.reduceEqDiff, Nat.reduceLeDiff, Nat.reduceLT, Nat.reduceBEq, Int.reduceBEq, Int.reduceBNe, Int.reduceEq, Int.reduceNeg, Int.reduceAdd, Int.reduceSub, Int.reduceMul, List.cons_beq_cons, BEq.rfl, Int.reduceToNat, Int.reduceLE, Int.reduceLT, reduceCtorEq, gml Layout.e hpp, hn]
    intro s2
    refine callS_exact (hf x _) ?_
    simp (maxSteps := 1000000) (disch := omega) only [go_sem, opS_s, opS_sg, opS_b, opS_bg, ↓reduceIte, Nat.reduceAdd, Nat.reduceMul, Nat.reduceSub, Nat.reduceEqDiff, Nat.reduceLeDiff, Nat.reduceLT, Nat.reduceBEq, Int.reduceBEq, Int.reduceBNe, Int.reduceEq, Int.reduceNeg, Int.reduceAdd, Int.reduceSub, Int.reduceMul, List.cons_beq_cons, BEq.rfl, Int.reduceToNat, Int.reduceLE, Int.reduceLT, reduceCtorEq]
    cases hlk : List.lookup (g x) m with
    | none =>
      simp (maxSteps := 1000000) (disch := omega) only [go_sem, opS_s, opS_sg, opS_b, opS_bg, ↓reduceIte, Nat.reduceAdd, Nat.reduceMul, Nat.reduceSub, Nat.reduceEqDiff, Nat.reduceLeDiff, Nat.reduceLT, Nat.reduceBEq, Int.reduceBEq, Int.reduceBNe, Int.reduceEq, Int.reduceNeg, Int.reduceAdd, Int.reduceSub, Int.reduceMul, List.cons_beq_cons, BEq.rfl, Int.reduceToNat, Int.reduceLE, Int.reduceLT, reduceCtorEq]
      refine lp_next (h.length + 1) (putK (g x) (IntKind.i64.wrap 1) m) hpp ?_ ?_ ?_
      · simpa using hJ.step (g x) (IntKind.i64.wrap 1)
      · simp (maxSteps := 1000000) (disch := omega) only [go_sem, opS_s, opS_sg, opS_b, opS_bg, ↓reduceIte, Nat.reduceAdd, Nat.reduceMul, Nat.reduceSub, Nat.reduceEqDiff, Nat.reduceLeDiff, Nat.reduceLT, Nat.reduceBEq, Int.reduceBEq, Int.reduceBNe, Int.reduceEq, Int.reduceNeg, Int.reduceAdd, Int.reduceSub, Int.reduceMul, List.cons_beq_cons, BEq.rfl, Int.reduceToNat, Int.reduceLE, Int.reduceLT, reduceCtorEq, wrap64, Int.natCast_add, Int.cast_ofNat_Int, Int.natCast_one, hn]
      · simp (maxSteps := 1000000) (disch := omega) only [go_sem, opS_s, opS_sg, opS_b, opS_bg, ↓reduceIte, Nat.reduceAdd, Nat.reduceMul, Nat.reduceSub, Nat.reduceEqDiff, Nat.reduceLeDiff, Nat.reduceLT, Nat.reduceBEq, Int.reduceBEq, Int.reduceBNe, Int.reduceEq, Int.reduceNeg, Int.reduceAdd, Int.reduceSub, Int.reduceMul, List.cons_beq_cons, BEq.rfl, Int.reduceToNat, Int.reduceLE, Int.reduceLT, reduceCtorEq]
    | some v =>
      simp (maxSteps := 1000000) (disch := omega) only [go_sem, opS_s, opS_sg, opS_b, opS_bg, ↓reduceIte, Nat.reduceAdd, Nat.reduceMul, Nat.reduceSub, Nat.reduceEqDiff, Nat.reduceLeDiff, Nat.reduceLT, Nat.reduceBEq, Int.reduceBEq, Int.reduceBNe, Int.reduceEq, Int.reduceNeg, Int.reduceAdd, Int.reduceSub, Int.reduceMul, List.cons_beq_cons, BEq.rfl, Int.reduceToNat, Int.reduceLE, Int.reduceLT, reduceCtorEq]
      refine lp_next (h.length + 1) (putK (g x) (IntKind.i64.wrap (v + 1)) m) hpp ?_ ?_ ?_
      · simpa using hJ.step (g x) (IntKind.i64.wrap (v + 1))
      · simp (maxSteps := 1000000) (disch := omega) only [go_sem, opS_s, opS_sg, opS_b, opS_bg, ↓reduceIte, Nat.reduceAdd, Nat.reduceMul, Nat.reduceSub, Nat.reduceEqDiff, Nat.reduceLeDiff, Nat.reduceLT, Nat.reduceBEq, Int.reduceBEq, Int.reduceBNe, Int.reduceEq, Int.reduceNeg, Int.reduceAdd, Int.reduceSub, Int.reduceMul, List.cons_beq_cons, BEq.rfl, Int.reduceToNat, Int.reduceLE, Int.reduceLT, reduceCtorEq, wrap64, Int.natCast_add, Int.cast_ofNat_Int, Int.natCast_one, hn]
      · simp (maxSteps := 1000000) (disch := omega) only [go_sem, opS_s, opS_sg, opS_b, opS_bg, ↓reduceIte, Nat.reduceAdd, Nat.reduceMul, Nat.reduceSub, Nat.reduceEqDiff, Nat.reduceLeDiff, Nat.reduceLT, Nat.reduceBEq, Int.reduceBEq, Int.reduceBNe, Int.reduceEq, Int.reduceNeg, Int.reduceAdd, Int.reduceSub, Int.reduceMul, List.cons_beq_cons, BEq.rfl, Int.reduceToNat, Int.reduceLE, Int.reduceLT, reduceCtorEq]
theorem once_string_2_spec (l : List Column) (f : FuncId) (g : Column → Str) (hl : l.length < 1099511627776) (hf : ∀ x, Ans f [.agg (Column.e x)] (.str (g x))) : Ans N.schema_once_string_2 [.psl (l.map Column.e), .fn f [] []] (.bool (decide (l.map g).Nodup)) := by
  intro h
  refine spec_of ck_schema_once_string_2 ?_
  rw [wp_start]
  simp (maxSteps := 1000000) (disch := omega) only [go_sem, opS_s, opS_sg, opS_b, opS_bg, ↓reduceIte, Nat.reduceAdd, Nat.reduceMul, Nat.reduceSub, Nat.reduceEqDiff, Nat.reduceLeDiff, Nat.reduceLT, Nat.reduceBEq, Int.reduceBEq, Int.reduceBNe, Int.reduceEq, Int.reduceNeg, Int.reduceAdd, Int.reduceSub, Int.reduceMul, List.cons_beq_cons, BEq.rfl, Int.reduceToNat, Int.reduceLE, Int.reduceLT, reduceCtorEq, F.schema_once_string_2]
  intro s1
  refine loopS_list l (fun pre (m : List (Str × Int)) => ⟨[(0, .psl (l.map Column.e)), (1, .fn f [] []), (5, .mp h.length s1), (9, .psl (l.map Column.e)), (10, .int .i64 l.length), (11, .int .i64 pre.length)], h ++ [.mp s1 (mpS m)]⟩) (fun pre post m => Cnt (pre.map g) m) [] rfl .nil ?_
  rintro pre post m hpp hJ
  cases post with
  | nil =>
    have hn := nl0 hpp
    simp only [List.append_nil] at hpp
    simp (maxSteps := 1000000) (disch := omega) only [go_sem, opS_s, opS_sg, opS_b, opS_bg, ↓reduceIte, Nat.reduceAdd, Nat.reduceMul, Nat.reduceSub, Nat.reduceEqDiff, Nat.reduceLeDiff, Nat.reduceLT, Nat.reduceBEq, Int.reduceBEq, Int.reduceBNe, Int.reduceEq, Int.reduceNeg, Int.reduceAdd, Int.reduceSub, Int.reduceMul, List.cons_beq_cons, BEq.rfl, Int.reduceToNat, Int.reduceLE, Int.reduceLT, reduceCtorEq, hn]
    have key : ((m.length : Int) == (pre.length : Int)) = decide (l.map g).Nodup := by
      have := hJ.eq
      rw [List.length_map] at this
      rw [Bool.eq_iff_iff, hpp]
      simp only [beq_iff_eq, Int.natCast_inj, decide_eq_true_eq]
      exact this
    refine finS_l ?_
    simp (maxSteps := 1000000) (disch := omega) only [go_sem, opS_s, opS_sg, opS_b, opS_bg, ↓reduceIte, Nat.reduceAdd, Nat.reduceMul, Nat.reduceSub, Nat.reduceEqDiff, Nat.reduceLeDiff, Nat.reduceLT, Nat.reduceBEq, Int.reduceBEq, Int.reduceBNe, Int.reduceEq, Int.reduceNeg, Int.reduceAdd, Int.reduceSub, Int.reduceMul, List.cons_beq_cons, BEq.rfl, Int.reduceToNat, Int.reduceLE, Int.reduceLT, reduceCtorEq]
    all_goals simp [key]
  | cons x post =>
    have hn := nl hpp
    simp (maxSteps := 1000000) (disch := omega) only [go_sem, opS_s, opS_sg, opS_b, opS_bg, ↓reduceIte, Nat.reduceAdd, Nat.reduceMul, Nat.reduceSub, Nat.reduceEqDiff, Nat.reduceLeDiff, Nat.reduceLT, Nat.reduceBEq, Int.reduceBEq, Int.reduceBNe, Int.reduceEq, Int.reduceNeg, Int.reduceAdd, Int.reduceSub, Int.reduceMul, List.cons_beq_cons, BEq.rfl, Int.reduceToNat, Int.reduceLE, Int.reduceLT, reduceCtorEq, gml Column.e hpp, hn]
    intro s2
    refine callS_exact (hf x _) ?_
    simp (maxSteps := 1000000) (disch := omega) only [go_sem, opS_s, opS_sg, opS_b, opS_bg, ↓reduceIte, Nat.reduceAdd, Nat.reduceMul, Nat.reduceSub, Nat.reduceEqDiff, Nat.reduceLeDiff, Nat.reduceLT, Nat.reduceBEq, Int.reduceBEq, Int.reduceBNe, Int.reduceEq, Int.reduceNeg, Int.reduceAdd, Int.reduceSub, Int.reduceMul, List.cons_beq_cons, BEq.rfl, Int.reduceToNat, Int.reduceLE, Int.reduceLT, reduceCtorEq]
    cases hlk : List.lookup (g x) m with
    | none =>
      simp (maxSteps := 1000000) (disch := omega) only [go_sem, opS_s, opS_sg, opS_b, opS_bg, ↓reduceIte, Nat.reduceAdd, Nat.reduceMul, Nat.reduceSub, Nat.reduceEqDiff, Nat.reduceLeDiff, Nat.reduceLT, Nat.reduceBEq, Int.reduceBEq, Int.reduceBNe, Int.reduceEq, Int.reduceNeg, Int.reduceAdd, Int.reduceSub, Int.reduceMul, List.cons_beq_cons, BEq.rfl, Int.reduceToNat, Int.reduceLE, Int.reduceLT, reduceCtorEq]
      refine lp_next (h.length + 1) (putK (g x) (IntKind.i64.wrap 1) m) hpp ?_ ?_ ?_
      · simpa using hJ.step (g x) (IntKind.i64.wrap 1)
      · simp (maxSteps := 1000000) (disch := omega) only [go_sem, opS_s, opS_sg, opS_b, opS_bg, ↓reduceIte, Nat.reduceAdd, Nat.reduceMul, Nat.reduceSub, Nat.reduceEqDiff, Nat.reduceLeDiff, Nat.reduceLT, Nat.reduceBEq, Int.reduceBEq, Int.reduceBNe, Int.reduceEq, Int.reduceNeg, Int.reduceAdd, Int.reduceSub, Int.reduceMul, List.cons_beq_cons, BEq.rfl, Int.reduceToNat, Int.reduceLE, Int.reduceLT, reduceCtorEq, wrap64, Int.natCast_add, Int.cast_ofNat_Int, Int.natCast_one, hn]
      · simp (maxSteps := 1000000) (disch := omega) only [go_sem, opS_s, opS_sg, opS_b, opS_bg, ↓reduceIte, Nat.reduceAdd, Nat.reduceMul, Nat.reduceSub, Nat.reduceEqDiff, Nat.reduceLeDiff, Nat.reduceLT, Nat.reduceBEq, Int.reduceBEq, Int.reduceBNe, Int.reduceEq, Int.reduceNeg, Int.reduceAdd, Int.reduceSub, Int.reduceMul, List.cons_beq_cons, BEq.rfl, Int.reduceToNat, Int.reduceLE, Int.reduceLT, reduceCtorEq]
    | some v =>
      simp (maxSteps := 1000000) (disch := omega) only [go_sem, opS_s, opS_sg, opS_b, opS_bg, ↓reduceIte, Nat.reduceAdd, Nat.reduceMul, Nat.reduceSub, Nat.reduceEqDiff, Nat.reduceLeDiff, Nat.reduceLT, Nat.reduceBEq, Int.reduceBEq, Int.reduceBNe, Int.reduceEq, Int.reduceNeg, Int.reduceAdd, Int.reduceSub, Int.reduceMul, List.cons_beq_cons, BEq.rfl, Int.reduceToNat, Int.reduceLE, Int.reduceLT, reduceCtorEq]
      refine lp_next (h.length + 1) (putK (g x) (IntKind.i64.wrap (v + 1)) m) hpp ?_ ?_ ?_
      · simpa using hJ.step (g x) (IntKind.i64.wrap (v + 1))
      · simp (maxSteps := 1000000) (disch := omega) only [go_sem, opS_s, opS_sg, opS_b, opS_bg, ↓reduceIte, Nat.reduceAdd, Nat.reduceMul, Nat.reduceSub, Nat.reduceEqDiff, Nat.reduceLeDiff, Nat.reduceLT, Nat.reduceBEq, Int.reduceBEq, Int.reduceBNe, Int.reduceEq, Int.reduceNeg, Int.reduceAdd, Int.reduceSub, Int.reduceMul, List.cons_beq_cons, BEq.rfl, Int.reduceToNat, Int.reduceLE, Int.reduceLT, reduceCtorEq, wrap64, Int.natCast_add, Int.cast_ofNat_Int, Int.natCast_one, hn]
      · simp (maxSteps := 1000000) (disch := omega) only [go_sem, opS_s, opS_sg, opS_b, opS_bg, ↓reduceIte, Nat.reduceAdd, Nat.reduceMul, Nat.reduceSub, Nat.reduceEqDiff, Nat.reduceLeDiff, Nat.reduceLT, Nat.reduceBEq, Int.reduceBEq, Int.reduceBNe, Int.reduceEq, Int.reduceNeg, Int.reduceAdd, Int.reduceSub, Int.reduceMul, List.cons_beq_cons, BEq.rfl, Int.reduceToNat, Int.reduceLE, Int.reduceLT, reduceCtorEq]
end Go.Ab.S2
