/- Contracts of the program's schema: what is asked of it. -/
import Derived.Test.YtghiionknnpajaaGreatDoorC6
import Derived.Test.YtghiionknnpajaaGreatDoorC8
set_option linter.unusedVariables false
set_option linter.unusedSimpArgs false
namespace Go.Ab.S2
open Go.Ab
set_option maxRecDepth 100000

theorem hgl {h : Heap} {l : Nat} {o : AObj} (hl : h[l]? = some o) (r : Heap) : (h ++ r)[l]? = some o := by
  rw [List.getElem?_append_left (List.getElem?_eq_some_iff.1 hl).1]; exact hl
theorem idx_find {α : Type} (p : α → Bool) (l : List α) : (idx p l < 0 → l.find? p = none) ∧ (¬ idx p l < 0 → ∃ (k : Nat) (x : α), idx p l = (k : Int) ∧ l[k]? = some x ∧ l.find? p = some x) := by
  unfold idx
  cases h : l.findIdx? p with
  | none =>
    rw [List.findIdx?_eq_none_iff] at h
    refine ⟨fun _ => ?_, fun hn => absurd (by simp) hn⟩
    rw [List.find?_eq_none]
    intro x hx
    simp [h x hx]
  | some k =>
    refine ⟨fun hn => absurd hn (by simp), fun _ => ?_⟩
    obtain ⟨hk, hp, hmin⟩ := List.findIdx?_eq_some_iff_getElem.1 h
    refine ⟨k, l[k], rfl, by simp, ?_⟩
    rw [List.find?_eq_some_iff_getElem]
    exact ⟨hp, k, hk, rfl, fun j hj => by simpa using hmin j hj⟩

theorem sclone_spec (f : Family) (h1 : f.layouts.length < 1099511627776) (h2 : f.cols.length < 1099511627776) : Ans N.schema_clone [.agg f.e] (.agg f.e) := by
  intro h
  refine spec_of ck_schema_clone ?_
  rw [wp_start]
  simp (maxSteps := 1000000) (disch := omega) only [go_sem, opS_s, opS_sg, opS_b, opS_bg, ↓reduceIte, Nat.reduceAdd, Nat.reduceMul, Nat.reduceSub, Nat.reduceEqDiff, Nat.reduceLeDiff, Nat.reduceLT, Nat.reduceBEq, Int.reduceBEq, Int.reduceBNe, Int.reduceEq, Int.reduceNeg, Int.reduceAdd, Int.reduceSub, Int.reduceMul, List.cons_beq_cons, BEq.rfl, Int.reduceToNat, Int.reduceLE, Int.reduceLT, reduceCtorEq, F.schema_clone]
  intro s s2
  refine callS_exact (clone_Layout _ h1 _) ?_
  simp (maxSteps := 1000000) (disch := omega) only [go_sem, opS_s, opS_sg, opS_b, opS_bg, ↓reduceIte, Nat.reduceAdd, Nat.reduceMul, Nat.reduceSub, Nat.reduceEqDiff, Nat.reduceLeDiff, Nat.reduceLT, Nat.reduceBEq, Int.reduceBEq, Int.reduceBNe, Int.reduceEq, Int.reduceNeg, Int.reduceAdd, Int.reduceSub, Int.reduceMul, List.cons_beq_cons, BEq.rfl, Int.reduceToNat, Int.reduceLE, Int.reduceLT, reduceCtorEq]
  refine callS_exact (clone_Column _ h2 _) ?_
  simp (maxSteps := 1000000) (disch := omega) only [go_sem, opS_s, opS_sg, opS_b, opS_bg, ↓reduceIte, Nat.reduceAdd, Nat.reduceMul, Nat.reduceSub, Nat.reduceEqDiff, Nat.reduceLeDiff, Nat.reduceLT, Nat.reduceBEq, Int.reduceBEq, Int.reduceBNe, Int.reduceEq, Int.reduceNeg, Int.reduceAdd, Int.reduceSub, Int.reduceMul, List.cons_beq_cons, BEq.rfl, Int.reduceToNat, Int.reduceLE, Int.reduceLT, reduceCtorEq]
  refine finS_l ?_
  simp (maxSteps := 1000000) (disch := omega) only [go_sem, opS_s, opS_sg, opS_b, opS_bg, ↓reduceIte, Nat.reduceAdd, Nat.reduceMul, Nat.reduceSub, Nat.reduceEqDiff, Nat.reduceLeDiff, Nat.reduceLT, Nat.reduceBEq, Int.reduceBEq, Int.reduceBNe, Int.reduceEq, Int.reduceNeg, Int.reduceAdd, Int.reduceSub, Int.reduceMul, List.cons_beq_cons, BEq.rfl, Int.reduceToNat, Int.reduceLE, Int.reduceLT, reduceCtorEq]
  all_goals simp []

theorem find1_spec (f : Family) (n : Str) (h : Heap) (l s imm : Nat) (hl : h[l]? = some (.arr s imm 1 [[.str n]])) : SpecA PP N.schema_Find_1 [.agg f.e, .ptr l s 0 0] h (fun r h' => r = .ret (.bool (f.name == n)) ∧ h' = h) := by
  have hl' := hgl hl
  refine spec_of ck_schema_Find_1 ?_
  rw [wp_start]
  simp (maxSteps := 1000000) (disch := omega) only [go_sem, opS_s, opS_sg, opS_b, opS_bg, ↓reduceIte, Nat.reduceAdd, Nat.reduceMul, Nat.reduceSub, Nat.reduceEqDiff, Nat.reduceLeDiff, Nat.reduceLT, Nat.reduceBEq, Int.reduceBEq, Int.reduceBNe, Int.reduceEq, Int.reduceNeg, Int.reduceAdd, Int.reduceSub, Int.reduceMul, List.cons_beq_cons, BEq.rfl, Int.reduceToNat, Int.reduceLE, Int.reduceLT, reduceCtorEq, F.schema_Find_1]
  intro s2
  simp (maxSteps := 1000000) (disch := omega) only [go_sem, opS_s, opS_sg, opS_b, opS_bg, ↓reduceIte, Nat.reduceAdd, Nat.reduceMul, Nat.reduceSub, Nat.reduceEqDiff, Nat.reduceLeDiff, Nat.reduceLT, Nat.reduceBEq, Int.reduceBEq, Int.reduceBNe, Int.reduceEq, Int.reduceNeg, Int.reduceAdd, Int.reduceSub, Int.reduceMul, List.cons_beq_cons, BEq.rfl, Int.reduceToNat, Int.reduceLE, Int.reduceLT, reduceCtorEq, hl']
  refine finS_l ?_
  simp (maxSteps := 1000000) (disch := omega) only [go_sem, opS_s, opS_sg, opS_b, opS_bg, ↓reduceIte, Nat.reduceAdd, Nat.reduceMul, Nat.reduceSub, Nat.reduceEqDiff, Nat.reduceLeDiff, Nat.reduceLT, Nat.reduceBEq, Int.reduceBEq, Int.reduceBNe, Int.reduceEq, Int.reduceNeg, Int.reduceAdd, Int.reduceSub, Int.reduceMul, List.cons_beq_cons, BEq.rfl, Int.reduceToNat, Int.reduceLE, Int.reduceLT, reduceCtorEq]
  all_goals simp []

theorem sfind_spec (s : Schema) (n : Str) (hs : s.wf) : Ans N.schema_Find [.agg s.e, .str n] (.tup [.agg ((findF s n).getD Family.zero).e, .bool (findF s n).isSome]) := by
  intro h
  refine spec_of ck_schema_Find ?_
  rw [wp_start]
  simp (maxSteps := 1000000) (disch := omega) only [go_sem, opS_s, opS_sg, opS_b, opS_bg, ↓reduceIte, Nat.reduceAdd, Nat.reduceMul, Nat.reduceSub, Nat.reduceEqDiff, Nat.reduceLeDiff, Nat.reduceLT, Nat.reduceBEq, Int.reduceBEq, Int.reduceBNe, Int.reduceEq, Int.reduceNeg, Int.reduceAdd, Int.reduceSub, Int.reduceMul, List.cons_beq_cons, BEq.rfl, Int.reduceToNat, Int.reduceLE, Int.reduceLT, reduceCtorEq, F.schema_Find]
  intro s1 s2 s3
  refine callS_exact (indexFunc_Family s.fams _ [] [.ptr (h.length + 1) s2 0 0] (fun f => f.name == n) _ hs.fams (fun x _ => find1_spec x n _ _ s2 0 (by simp (maxSteps := 1000000) (disch := omega) only [go_sem, opS_s, opS_sg, opS_b, opS_bg, ↓reduceIte, Nat.reduceAdd, Nat.reduceMul, Nat.reduceSub, Nat.reduceEqDiff, Nat.reduceLeDiff, Nat.reduceLT, Nat.reduceBEq, Int.reduceBEq, Int.reduceBNe, Int.reduceEq, Int.reduceNeg, Int.reduceAdd, Int.reduceSub, Int.reduceMul, List.cons_beq_cons, BEq.rfl, Int.reduceToNat, Int.reduceLE, Int.reduceLT, reduceCtorEq]))) ?_
  simp (maxSteps := 1000000) (disch := omega) only [go_sem, opS_s, opS_sg, opS_b, opS_bg, ↓reduceIte, Nat.reduceAdd, Nat.reduceMul, Nat.reduceSub, Nat.reduceEqDiff, Nat.reduceLeDiff, Nat.reduceLT, Nat.reduceBEq, Int.reduceBEq, Int.reduceBNe, Int.reduceEq, Int.reduceNeg, Int.reduceAdd, Int.reduceSub, Int.reduceMul, List.cons_beq_cons, BEq.rfl, Int.reduceToNat, Int.reduceLE, Int.reduceLT, reduceCtorEq]
  have hi := idx_find (fun f : Family => f.name == n) s.fams
  rw [condS_some]; refine ⟨fun hx => ?_, fun hx => ?_⟩
  · simp (maxSteps := 1000000) (disch := omega) only [go_sem, opS_s, opS_sg, opS_b, opS_bg, ↓reduceIte, Nat.reduceAdd, Nat.reduceMul, Nat.reduceSub, Nat.reduceEqDiff, Nat.reduceLeDiff, Nat.reduceLT, Nat.reduceBEq, Int.reduceBEq, Int.reduceBNe, Int.reduceEq, Int.reduceNeg, Int.reduceAdd, Int.reduceSub, Int.reduceMul, List.cons_beq_cons, BEq.rfl, Int.reduceToNat, Int.reduceLE, Int.reduceLT, reduceCtorEq, Family.zero_e]
    have hx := hi.1 (by simpa using hx)
    refine finS_l ?_
    simp (maxSteps := 1000000) (disch := omega) only [go_sem, opS_s, opS_sg, opS_b, opS_bg, ↓reduceIte, Nat.reduceAdd, Nat.reduceMul, Nat.reduceSub, Nat.reduceEqDiff, Nat.reduceLeDiff, Nat.reduceLT, Nat.reduceBEq, Int.reduceBEq, Int.reduceBNe, Int.reduceEq, Int.reduceNeg, Int.reduceAdd, Int.reduceSub, Int.reduceMul, List.cons_beq_cons, BEq.rfl, Int.reduceToNat, Int.reduceLE, Int.reduceLT, reduceCtorEq]
    all_goals simp [findF, hx, Family.zero_e]
  · obtain ⟨k, x, hk, hkx, hf⟩ := hi.2 (by simpa using hx)
    simp (maxSteps := 1000000) (disch := omega) only [go_sem, opS_s, opS_sg, opS_b, opS_bg, ↓reduceIte, Nat.reduceAdd, Nat.reduceMul, Nat.reduceSub, Nat.reduceEqDiff, Nat.reduceLeDiff, Nat.reduceLT, Nat.reduceBEq, Int.reduceBEq, Int.reduceBNe, Int.reduceEq, Int.reduceNeg, Int.reduceAdd, Int.reduceSub, Int.reduceMul, List.cons_beq_cons, BEq.rfl, Int.reduceToNat, Int.reduceLE, Int.reduceLT, reduceCtorEq, hk, gmap Family.e hkx]
    have hw := hs.fam x (List.mem_of_getElem? hkx)
    refine callS_exact (sclone_spec x hw.lays hw.cols _) ?_
    simp (maxSteps := 1000000) (disch := omega) only [go_sem, opS_s, opS_sg, opS_b, opS_bg, ↓reduceIte, Nat.reduceAdd, Nat.reduceMul, Nat.reduceSub, Nat.reduceEqDiff, Nat.reduceLeDiff, Nat.reduceLT, Nat.reduceBEq, Int.reduceBEq, Int.reduceBNe, Int.reduceEq, Int.reduceNeg, Int.reduceAdd, Int.reduceSub, Int.reduceMul, List.cons_beq_cons, BEq.rfl, Int.reduceToNat, Int.reduceLE, Int.reduceLT, reduceCtorEq, Family.zero_e]
    refine finS_l ?_
    simp (maxSteps := 1000000) (disch := omega) only [go_sem, opS_s, opS_sg, opS_b, opS_bg, ↓reduceIte, Nat.reduceAdd, Nat.reduceMul, Nat.reduceSub, Nat.reduceEqDiff, Nat.reduceLeDiff, Nat.reduceLT, Nat.reduceBEq, Int.reduceBEq, Int.reduceBNe, Int.reduceEq, Int.reduceNeg, Int.reduceAdd, Int.reduceSub, Int.reduceMul, List.cons_beq_cons, BEq.rfl, Int.reduceToNat, Int.reduceLE, Int.reduceLT, reduceCtorEq]
    all_goals simp [findF, hf]

theorem column1_spec (f : Column) (n : Str) (h : Heap) (l s imm : Nat) (hl : h[l]? = some (.arr s imm 1 [[.str n]])) : SpecA PP N.schema_Column_1 [.agg f.e, .ptr l s 0 0] h (fun r h' => r = .ret (.bool (f.qual == n)) ∧ h' = h) := by
  have hl' := hgl hl
  refine spec_of ck_schema_Column_1 ?_
  rw [wp_start]
  simp (maxSteps := 1000000) (disch := omega) only [go_sem, opS_s, opS_sg, opS_b, opS_bg, ↓reduceIte, Nat.reduceAdd, Nat.reduceMul, Nat.reduceSub, Nat.reduceEqDiff, Nat.reduceLeDiff, Nat.reduceLT, Nat.reduceBEq, Int.reduceBEq, Int.reduceBNe, Int.reduceEq, Int.reduceNeg, Int.reduceAdd, Int.reduceSub, Int.reduceMul, List.cons_beq_cons, BEq.rfl, Int.reduceToNat, Int.reduceLE, Int.reduceLT, reduceCtorEq, F.schema_Column_1]
  intro s2
  simp (maxSteps := 1000000) (disch := omega) only [go_sem, opS_s, opS_sg, opS_b, opS_bg, ↓reduceIte, Nat.reduceAdd, Nat.reduceMul, Nat.reduceSub, Nat.reduceEqDiff, Nat.reduceLeDiff, Nat.reduceLT, Nat.reduceBEq, Int.reduceBEq, Int.reduceBNe, Int.reduceEq, Int.reduceNeg, Int.reduceAdd, Int.reduceSub, Int.reduceMul, List.cons_beq_cons, BEq.rfl, Int.reduceToNat, Int.reduceLE, Int.reduceLT, reduceCtorEq, hl']
  refine finS_l ?_
  simp (maxSteps := 1000000) (disch := omega) only [go_sem, opS_s, opS_sg, opS_b, opS_bg, ↓reduceIte, Nat.reduceAdd, Nat.reduceMul, Nat.reduceSub, Nat.reduceEqDiff, Nat.reduceLeDiff, Nat.reduceLT, Nat.reduceBEq, Int.reduceBEq, Int.reduceBNe, Int.reduceEq, Int.reduceNeg, Int.reduceAdd, Int.reduceSub, Int.reduceMul, List.cons_beq_cons, BEq.rfl, Int.reduceToNat, Int.reduceLE, Int.reduceLT, reduceCtorEq]
  all_goals simp []

theorem scolumn_spec (f : Family) (n : Str) (hl : f.cols.length < 1099511627776) : Ans N.schema_Column [.agg f.e, .str n] (.tup [.agg ((colF f n).getD Column.zero).e, .bool (colF f n).isSome]) := by
  intro h
  refine spec_of ck_schema_Column ?_
  rw [wp_start]
  simp (maxSteps := 1000000) (disch := omega) only [go_sem, opS_s, opS_sg, opS_b, opS_bg, ↓reduceIte, Nat.reduceAdd, Nat.reduceMul, Nat.reduceSub, Nat.reduceEqDiff, Nat.reduceLeDiff, Nat.reduceLT, Nat.reduceBEq, Int.reduceBEq, Int.reduceBNe, Int.reduceEq, Int.reduceNeg, Int.reduceAdd, Int.reduceSub, Int.reduceMul, List.cons_beq_cons, BEq.rfl, Int.reduceToNat, Int.reduceLE, Int.reduceLT, reduceCtorEq, F.schema_Column]
  intro s1 s2 s3
  refine callS_exact (indexFunc_Column f.cols _ [] [.ptr (h.length + 1) s2 0 0] (fun f => f.qual == n) _ hl (fun x _ => column1_spec x n _ _ s2 0 (by simp (maxSteps := 1000000) (disch := omega) only [go_sem, opS_s, opS_sg, opS_b, opS_bg, ↓reduceIte, Nat.reduceAdd, Nat.reduceMul, Nat.reduceSub, Nat.reduceEqDiff, Nat.reduceLeDiff, Nat.reduceLT, Nat.reduceBEq, Int.reduceBEq, Int.reduceBNe, Int.reduceEq, Int.reduceNeg, Int.reduceAdd, Int.reduceSub, Int.reduceMul, List.cons_beq_cons, BEq.rfl, Int.reduceToNat, Int.reduceLE, Int.reduceLT, reduceCtorEq]))) ?_
  simp (maxSteps := 1000000) (disch := omega) only [go_sem, opS_s, opS_sg, opS_b, opS_bg, ↓reduceIte, Nat.reduceAdd, Nat.reduceMul, Nat.reduceSub, Nat.reduceEqDiff, Nat.reduceLeDiff, Nat.reduceLT, Nat.reduceBEq, Int.reduceBEq, Int.reduceBNe, Int.reduceEq, Int.reduceNeg, Int.reduceAdd, Int.reduceSub, Int.reduceMul, List.cons_beq_cons, BEq.rfl, Int.reduceToNat, Int.reduceLE, Int.reduceLT, reduceCtorEq]
  have hi := idx_find (fun f : Column => f.qual == n) f.cols
  rw [condS_some]; refine ⟨fun hx => ?_, fun hx => ?_⟩
  · simp (maxSteps := 1000000) (disch := omega) only [go_sem, opS_s, opS_sg, opS_b, opS_bg, ↓reduceIte, Nat.reduceAdd, Nat.reduceMul, Nat.reduceSub, Nat.reduceEqDiff, Nat.reduceLeDiff, Nat.reduceLT, Nat.reduceBEq, Int.reduceBEq, Int.reduceBNe, Int.reduceEq, Int.reduceNeg, Int.reduceAdd, Int.reduceSub, Int.reduceMul, List.cons_beq_cons, BEq.rfl, Int.reduceToNat, Int.reduceLE, Int.reduceLT, reduceCtorEq, Column.zero_e]
    have hx := hi.1 (by simpa using hx)
    refine finS_l ?_
    simp (maxSteps := 1000000) (disch := omega) only [go_sem, opS_s, opS_sg, opS_b, opS_bg, ↓reduceIte, Nat.reduceAdd, Nat.reduceMul, Nat.reduceSub, Nat.reduceEqDiff, Nat.reduceLeDiff, Nat.reduceLT, Nat.reduceBEq, Int.reduceBEq, Int.reduceBNe, Int.reduceEq, Int.reduceNeg, Int.reduceAdd, Int.reduceSub, Int.reduceMul, List.cons_beq_cons, BEq.rfl, Int.reduceToNat, Int.reduceLE, Int.reduceLT, reduceCtorEq]
    all_goals simp [colF, hx, Column.zero_e]
  · obtain ⟨k, x, hk, hkx, hf⟩ := hi.2 (by simpa using hx)
    simp (maxSteps := 1000000) (disch := omega) only [go_sem, opS_s, opS_sg, opS_b, opS_bg, ↓reduceIte, Nat.reduceAdd, Nat.reduceMul, Nat.reduceSub, Nat.reduceEqDiff, Nat.reduceLeDiff, Nat.reduceLT, Nat.reduceBEq, Int.reduceBEq, Int.reduceBNe, Int.reduceEq, Int.reduceNeg, Int.reduceAdd, Int.reduceSub, Int.reduceMul, List.cons_beq_cons, BEq.rfl, Int.reduceToNat, Int.reduceLE, Int.reduceLT, reduceCtorEq, hk, gmap Column.e hkx, Column.zero_e]
    refine finS_l ?_
    simp (maxSteps := 1000000) (disch := omega) only [go_sem, opS_s, opS_sg, opS_b, opS_bg, ↓reduceIte, Nat.reduceAdd, Nat.reduceMul, Nat.reduceSub, Nat.reduceEqDiff, Nat.reduceLeDiff, Nat.reduceLT, Nat.reduceBEq, Int.reduceBEq, Int.reduceBNe, Int.reduceEq, Int.reduceNeg, Int.reduceAdd, Int.reduceSub, Int.reduceMul, List.cons_beq_cons, BEq.rfl, Int.reduceToNat, Int.reduceLE, Int.reduceLT, reduceCtorEq]
    all_goals simp [colF, hf]

theorem read1_spec (l : Layout) : Ans N.schema_Read_1 [.agg l.e] (.bool (l.state == 3)) := by
  intro h
  refine spec_of ck_schema_Read_1 ?_
  rw [wp_start]
  simp (maxSteps := 1000000) (disch := omega) only [go_sem, opS_s, opS_sg, opS_b, opS_bg, ↓reduceIte, Nat.reduceAdd, Nat.reduceMul, Nat.reduceSub, Nat.reduceEqDiff, Nat.reduceLeDiff, Nat.reduceLT, Nat.reduceBEq, Int.reduceBEq, Int.reduceBNe, Int.reduceEq, Int.reduceNeg, Int.reduceAdd, Int.reduceSub, Int.reduceMul, List.cons_beq_cons, BEq.rfl, Int.reduceToNat, Int.reduceLE, Int.reduceLT, reduceCtorEq, F.schema_Read_1]
  intro s
  refine finS_l ?_
  simp (maxSteps := 1000000) (disch := omega) only [go_sem, opS_s, opS_sg, opS_b, opS_bg, ↓reduceIte, Nat.reduceAdd, Nat.reduceMul, Nat.reduceSub, Nat.reduceEqDiff, Nat.reduceLeDiff, Nat.reduceLT, Nat.reduceBEq, Int.reduceBEq, Int.reduceBNe, Int.reduceEq, Int.reduceNeg, Int.reduceAdd, Int.reduceSub, Int.reduceMul, List.cons_beq_cons, BEq.rfl, Int.reduceToNat, Int.reduceLE, Int.reduceLT, reduceCtorEq]
  all_goals simp []

theorem sread_spec (f : Family) (hl : f.layouts.length < 1099511627776) : Ans N.schema_Read [.agg f.e] (.tup [.int .i64 ((readF f).map Layout.group |>.getD 0), .bool (readF f).isSome]) := by
  intro h
  refine spec_of ck_schema_Read ?_
  rw [wp_start]
  simp (maxSteps := 1000000) (disch := omega) only [go_sem, opS_s, opS_sg, opS_b, opS_bg, ↓reduceIte, Nat.reduceAdd, Nat.reduceMul, Nat.reduceSub, Nat.reduceEqDiff, Nat.reduceLeDiff, Nat.reduceLT, Nat.reduceBEq, Int.reduceBEq, Int.reduceBNe, Int.reduceEq, Int.reduceNeg, Int.reduceAdd, Int.reduceSub, Int.reduceMul, List.cons_beq_cons, BEq.rfl, Int.reduceToNat, Int.reduceLE, Int.reduceLT, reduceCtorEq, F.schema_Read]
  intro s1
  refine callS_exact (indexFunc_Layout f.layouts _ [] [] (fun l => l.state == 3) _ hl (fun x _ => read1_spec x _)) ?_
  simp (maxSteps := 1000000) (disch := omega) only [go_sem, opS_s, opS_sg, opS_b, opS_bg, ↓reduceIte, Nat.reduceAdd, Nat.reduceMul, Nat.reduceSub, Nat.reduceEqDiff, Nat.reduceLeDiff, Nat.reduceLT, Nat.reduceBEq, Int.reduceBEq, Int.reduceBNe, Int.reduceEq, Int.reduceNeg, Int.reduceAdd, Int.reduceSub, Int.reduceMul, List.cons_beq_cons, BEq.rfl, Int.reduceToNat, Int.reduceLE, Int.reduceLT, reduceCtorEq]
  have hi := idx_find (fun l : Layout => l.state == 3) f.layouts
  rw [condS_some]; refine ⟨fun hx => ?_, fun hx => ?_⟩
  · simp (maxSteps := 1000000) (disch := omega) only [go_sem, opS_s, opS_sg, opS_b, opS_bg, ↓reduceIte, Nat.reduceAdd, Nat.reduceMul, Nat.reduceSub, Nat.reduceEqDiff, Nat.reduceLeDiff, Nat.reduceLT, Nat.reduceBEq, Int.reduceBEq, Int.reduceBNe, Int.reduceEq, Int.reduceNeg, Int.reduceAdd, Int.reduceSub, Int.reduceMul, List.cons_beq_cons, BEq.rfl, Int.reduceToNat, Int.reduceLE, Int.reduceLT, reduceCtorEq]
    have hx := hi.1 (by simpa using hx)
    refine finS_l ?_
    simp (maxSteps := 1000000) (disch := omega) only [go_sem, opS_s, opS_sg, opS_b, opS_bg, ↓reduceIte, Nat.reduceAdd, Nat.reduceMul, Nat.reduceSub, Nat.reduceEqDiff, Nat.reduceLeDiff, Nat.reduceLT, Nat.reduceBEq, Int.reduceBEq, Int.reduceBNe, Int.reduceEq, Int.reduceNeg, Int.reduceAdd, Int.reduceSub, Int.reduceMul, List.cons_beq_cons, BEq.rfl, Int.reduceToNat, Int.reduceLE, Int.reduceLT, reduceCtorEq]
    all_goals simp [readF, hx]
  · obtain ⟨k, x, hk, hkx, hf⟩ := hi.2 (by simpa using hx)
    simp (maxSteps := 1000000) (disch := omega) only [go_sem, opS_s, opS_sg, opS_b, opS_bg, ↓reduceIte, Nat.reduceAdd, Nat.reduceMul, Nat.reduceSub, Nat.reduceEqDiff, Nat.reduceLeDiff, Nat.reduceLT, Nat.reduceBEq, Int.reduceBEq, Int.reduceBNe, Int.reduceEq, Int.reduceNeg, Int.reduceAdd, Int.reduceSub, Int.reduceMul, List.cons_beq_cons, BEq.rfl, Int.reduceToNat, Int.reduceLE, Int.reduceLT, reduceCtorEq, hk, gmap Layout.e hkx]
    refine finS_l ?_
    simp (maxSteps := 1000000) (disch := omega) only [go_sem, opS_s, opS_sg, opS_b, opS_bg, ↓reduceIte, Nat.reduceAdd, Nat.reduceMul, Nat.reduceSub, Nat.reduceEqDiff, Nat.reduceLeDiff, Nat.reduceLT, Nat.reduceBEq, Int.reduceBEq, Int.reduceBNe, Int.reduceEq, Int.reduceNeg, Int.reduceAdd, Int.reduceSub, Int.reduceMul, List.cons_beq_cons, BEq.rfl, Int.reduceToNat, Int.reduceLE, Int.reduceLT, reduceCtorEq]
    all_goals simp [readF, hf]

theorem sgroups_spec (f : Family) (fn : FuncId) (p : Int → Bool) (hl : f.layouts.length < 1099511627776) (hf : ∀ n, Ans fn [.int .i64 n] (.bool (p n))) : Ans N.schema_groups [.agg f.e, .fn fn [] []] (.psl (ints ((f.layouts.filter fun l => p l.state).map Layout.group))) := by
  intro h
  refine spec_of ck_schema_groups ?_
  rw [wp_start]
  simp (maxSteps := 1000000) (disch := omega) only [go_sem, opS_s, opS_sg, opS_b, opS_bg, ↓reduceIte, Nat.reduceAdd, Nat.reduceMul, Nat.reduceSub, Nat.reduceEqDiff, Nat.reduceLeDiff, Nat.reduceLT, Nat.reduceBEq, Int.reduceBEq, Int.reduceBNe, Int.reduceEq, Int.reduceNeg, Int.reduceAdd, Int.reduceSub, Int.reduceMul, List.cons_beq_cons, BEq.rfl, Int.reduceToNat, Int.reduceLE, Int.reduceLT, reduceCtorEq, F.schema_groups]
  intro s1 s2
  refine loopS_list f.layouts (fun pre s2 => ⟨[(1, .fn fn [] []), (5, .sl (h.length + 1) s2 0 (pre.filter fun l => p l.state).length), (9, .psl (f.layouts.map Layout.e)), (10, .int .i64 f.layouts.length), (11, .int .i64 pre.length)], h ++ [.arr s1 0 5 [f.e], .arr s2 0 1 (ints ((pre.filter fun l => p l.state).map Layout.group))]⟩) (fun pre post _ => True) s2 rfl trivial ?_
  rintro pre post s2 hpp hJ
  have hk : (pre.filter fun l => p l.state).length ≤ pre.length := List.length_filter_le _ _
  cases post with
  | nil =>
    simp (maxSteps := 1000000) (disch := omega) only [go_sem, opS_s, opS_sg, opS_b, opS_bg, ↓reduceIte, Nat.reduceAdd, Nat.reduceMul, Nat.reduceSub, Nat.reduceEqDiff, Nat.reduceLeDiff, Nat.reduceLT, Nat.reduceBEq, Int.reduceBEq, Int.reduceBNe, Int.reduceEq, Int.reduceNeg, Int.reduceAdd, Int.reduceSub, Int.reduceMul, List.cons_beq_cons, BEq.rfl, Int.reduceToNat, Int.reduceLE, Int.reduceLT, reduceCtorEq, nl0 hpp]
    simp only [List.append_nil] at hpp
    refine finS_l ?_
    simp (maxSteps := 1000000) (disch := omega) only [go_sem, opS_s, opS_sg, opS_b, opS_bg, ↓reduceIte, Nat.reduceAdd, Nat.reduceMul, Nat.reduceSub, Nat.reduceEqDiff, Nat.reduceLeDiff, Nat.reduceLT, Nat.reduceBEq, Int.reduceBEq, Int.reduceBNe, Int.reduceEq, Int.reduceNeg, Int.reduceAdd, Int.reduceSub, Int.reduceMul, List.cons_beq_cons, BEq.rfl, Int.reduceToNat, Int.reduceLE, Int.reduceLT, reduceCtorEq, hpp]
  | cons x post =>
    have hn := nl hpp
    simp (maxSteps := 1000000) (disch := omega) only [go_sem, opS_s, opS_sg, opS_b, opS_bg, ↓reduceIte, Nat.reduceAdd, Nat.reduceMul, Nat.reduceSub, Nat.reduceEqDiff, Nat.reduceLeDiff, Nat.reduceLT, Nat.reduceBEq, Int.reduceBEq, Int.reduceBNe, Int.reduceEq, Int.reduceNeg, Int.reduceAdd, Int.reduceSub, Int.reduceMul, List.cons_beq_cons, BEq.rfl, Int.reduceToNat, Int.reduceLE, Int.reduceLT, reduceCtorEq, gml Layout.e hpp, hn]
    intro s3
    refine callS_exact (hf _ _) ?_
    simp (maxSteps := 1000000) (disch := omega) only [go_sem, opS_s, opS_sg, opS_b, opS_bg, ↓reduceIte, Nat.reduceAdd, Nat.reduceMul, Nat.reduceSub, Nat.reduceEqDiff, Nat.reduceLeDiff, Nat.reduceLT, Nat.reduceBEq, Int.reduceBEq, Int.reduceBNe, Int.reduceEq, Int.reduceNeg, Int.reduceAdd, Int.reduceSub, Int.reduceMul, List.cons_beq_cons, BEq.rfl, Int.reduceToNat, Int.reduceLE, Int.reduceLT, reduceCtorEq]
    rw [condS_some]; refine ⟨fun hx => ?_, fun hx => ?_⟩
    · simp (maxSteps := 1000000) (disch := omega) only [go_sem, opS_s, opS_sg, opS_b, opS_bg, ↓reduceIte, Nat.reduceAdd, Nat.reduceMul, Nat.reduceSub, Nat.reduceEqDiff, Nat.reduceLeDiff, Nat.reduceLT, Nat.reduceBEq, Int.reduceBEq, Int.reduceBNe, Int.reduceEq, Int.reduceNeg, Int.reduceAdd, Int.reduceSub, Int.reduceMul, List.cons_beq_cons, BEq.rfl, Int.reduceToNat, Int.reduceLE, Int.reduceLT, reduceCtorEq, gml Layout.e hpp, hn]
      refine fun s3 => ⟨by omega, fun s4 => ?_⟩
      refine lp_next (h.length + 2) s4 hpp trivial ?_ ?_
      · simp (maxSteps := 1000000) (disch := omega) only [go_sem, opS_s, opS_sg, opS_b, opS_bg, ↓reduceIte, Nat.reduceAdd, Nat.reduceMul, Nat.reduceSub, Nat.reduceEqDiff, Nat.reduceLeDiff, Nat.reduceLT, Nat.reduceBEq, Int.reduceBEq, Int.reduceBNe, Int.reduceEq, Int.reduceNeg, Int.reduceAdd, Int.reduceSub, Int.reduceMul, List.cons_beq_cons, BEq.rfl, Int.reduceToNat, Int.reduceLE, Int.reduceLT, reduceCtorEq, wrap64, Int.natCast_add, Int.cast_ofNat_Int, Int.natCast_one, List.filter_append, hn]
        all_goals simp [hx]
      · simp (maxSteps := 1000000) (disch := omega) only [go_sem, opS_s, opS_sg, opS_b, opS_bg, ↓reduceIte, Nat.reduceAdd, Nat.reduceMul, Nat.reduceSub, Nat.reduceEqDiff, Nat.reduceLeDiff, Nat.reduceLT, Nat.reduceBEq, Int.reduceBEq, Int.reduceBNe, Int.reduceEq, Int.reduceNeg, Int.reduceAdd, Int.reduceSub, Int.reduceMul, List.cons_beq_cons, BEq.rfl, Int.reduceToNat, Int.reduceLE, Int.reduceLT, reduceCtorEq, List.filter_append, List.map_append]
        all_goals simp [hx, ints]
    · simp (maxSteps := 1000000) (disch := omega) only [go_sem, opS_s, opS_sg, opS_b, opS_bg, ↓reduceIte, Nat.reduceAdd, Nat.reduceMul, Nat.reduceSub, Nat.reduceEqDiff, Nat.reduceLeDiff, Nat.reduceLT, Nat.reduceBEq, Int.reduceBEq, Int.reduceBNe, Int.reduceEq, Int.reduceNeg, Int.reduceAdd, Int.reduceSub, Int.reduceMul, List.cons_beq_cons, BEq.rfl, Int.reduceToNat, Int.reduceLE, Int.reduceLT, reduceCtorEq]
      refine lp_next (h.length + 2) s2 hpp trivial ?_ ?_
      · simp (maxSteps := 1000000) (disch := omega) only [go_sem, opS_s, opS_sg, opS_b, opS_bg, ↓reduceIte, Nat.reduceAdd, Nat.reduceMul, Nat.reduceSub, Nat.reduceEqDiff, Nat.reduceLeDiff, Nat.reduceLT, Nat.reduceBEq, Int.reduceBEq, Int.reduceBNe, Int.reduceEq, Int.reduceNeg, Int.reduceAdd, Int.reduceSub, Int.reduceMul, List.cons_beq_cons, BEq.rfl, Int.reduceToNat, Int.reduceLE, Int.reduceLT, reduceCtorEq, wrap64, Int.natCast_add, Int.cast_ofNat_Int, Int.natCast_one, List.filter_append, hn]
        all_goals simp [hx]
      · simp (maxSteps := 1000000) (disch := omega) only [go_sem, opS_s, opS_sg, opS_b, opS_bg, ↓reduceIte, Nat.reduceAdd, Nat.reduceMul, Nat.reduceSub, Nat.reduceEqDiff, Nat.reduceLeDiff, Nat.reduceLT, Nat.reduceBEq, Int.reduceBEq, Int.reduceBNe, Int.reduceEq, Int.reduceNeg, Int.reduceAdd, Int.reduceSub, Int.reduceMul, List.cons_beq_cons, BEq.rfl, Int.reduceToNat, Int.reduceLE, Int.reduceLT, reduceCtorEq, List.filter_append]
        all_goals simp [hx]

theorem written1_spec (n : Int) : Ans N.schema_Written_1 [.int .i64 n] (.bool (n == 2 || n == 3)) := by
  intro h
  refine spec_of ck_schema_Written_1 ?_
  rw [wp_start]
  simp (maxSteps := 1000000) (disch := omega) only [go_sem, opS_s, opS_sg, opS_b, opS_bg, ↓reduceIte, Nat.reduceAdd, Nat.reduceMul, Nat.reduceSub, Nat.reduceEqDiff, Nat.reduceLeDiff, Nat.reduceLT, Nat.reduceBEq, Int.reduceBEq, Int.reduceBNe, Int.reduceEq, Int.reduceNeg, Int.reduceAdd, Int.reduceSub, Int.reduceMul, List.cons_beq_cons, BEq.rfl, Int.reduceToNat, Int.reduceLE, Int.reduceLT, reduceCtorEq, F.schema_Written_1]
  refine finS_l ?_
  simp (maxSteps := 1000000) (disch := omega) only [go_sem, opS_s, opS_sg, opS_b, opS_bg, ↓reduceIte, Nat.reduceAdd, Nat.reduceMul, Nat.reduceSub, Nat.reduceEqDiff, Nat.reduceLeDiff, Nat.reduceLT, Nat.reduceBEq, Int.reduceBEq, Int.reduceBNe, Int.reduceEq, Int.reduceNeg, Int.reduceAdd, Int.reduceSub, Int.reduceMul, List.cons_beq_cons, BEq.rfl, Int.reduceToNat, Int.reduceLE, Int.reduceLT, reduceCtorEq]
  all_goals simp []
theorem gone1_spec (n : Int) : Ans N.schema_Gone_1 [.int .i64 n] (.bool (n != 0)) := by
  intro h
  refine spec_of ck_schema_Gone_1 ?_
  rw [wp_start]
  simp (maxSteps := 1000000) (disch := omega) only [go_sem, opS_s, opS_sg, opS_b, opS_bg, ↓reduceIte, Nat.reduceAdd, Nat.reduceMul, Nat.reduceSub, Nat.reduceEqDiff, Nat.reduceLeDiff, Nat.reduceLT, Nat.reduceBEq, Int.reduceBEq, Int.reduceBNe, Int.reduceEq, Int.reduceNeg, Int.reduceAdd, Int.reduceSub, Int.reduceMul, List.cons_beq_cons, BEq.rfl, Int.reduceToNat, Int.reduceLE, Int.reduceLT, reduceCtorEq, F.schema_Gone_1]
  refine finS_l ?_
  simp (maxSteps := 1000000) (disch := omega) only [go_sem, opS_s, opS_sg, opS_b, opS_bg, ↓reduceIte, Nat.reduceAdd, Nat.reduceMul, Nat.reduceSub, Nat.reduceEqDiff, Nat.reduceLeDiff, Nat.reduceLT, Nat.reduceBEq, Int.reduceBEq, Int.reduceBNe, Int.reduceEq, Int.reduceNeg, Int.reduceAdd, Int.reduceSub, Int.reduceMul, List.cons_beq_cons, BEq.rfl, Int.reduceToNat, Int.reduceLE, Int.reduceLT, reduceCtorEq]
  all_goals simp []
theorem inG2 (l : Layout) : (l.state == 2 || l.state == 3) = inG 2 l := by
  unfold inG; rw [Bool.eq_iff_iff]; simp; omega
theorem written_spec (f : Family) (hl : f.layouts.length < 1099511627776) : Ans N.schema_Written [.agg f.e] (.psl (ints ((f.layouts.filter (inG 2)).map Layout.group))) := by
  intro h
  refine spec_of ck_schema_Written ?_
  rw [wp_start]
  simp (maxSteps := 1000000) (disch := omega) only [go_sem, opS_s, opS_sg, opS_b, opS_bg, ↓reduceIte, Nat.reduceAdd, Nat.reduceMul, Nat.reduceSub, Nat.reduceEqDiff, Nat.reduceLeDiff, Nat.reduceLT, Nat.reduceBEq, Int.reduceBEq, Int.reduceBNe, Int.reduceEq, Int.reduceNeg, Int.reduceAdd, Int.reduceSub, Int.reduceMul, List.cons_beq_cons, BEq.rfl, Int.reduceToNat, Int.reduceLE, Int.reduceLT, reduceCtorEq, F.schema_Written]
  intro s
  refine callS_exact (sgroups_spec f _ (fun n => n == 2 || n == 3) hl written1_spec _) ?_
  simp (maxSteps := 1000000) (disch := omega) only [go_sem, opS_s, opS_sg, opS_b, opS_bg, ↓reduceIte, Nat.reduceAdd, Nat.reduceMul, Nat.reduceSub, Nat.reduceEqDiff, Nat.reduceLeDiff, Nat.reduceLT, Nat.reduceBEq, Int.reduceBEq, Int.reduceBNe, Int.reduceEq, Int.reduceNeg, Int.reduceAdd, Int.reduceSub, Int.reduceMul, List.cons_beq_cons, BEq.rfl, Int.reduceToNat, Int.reduceLE, Int.reduceLT, reduceCtorEq]
  refine finS_l ?_
  simp (maxSteps := 1000000) (disch := omega) only [go_sem, opS_s, opS_sg, opS_b, opS_bg, ↓reduceIte, Nat.reduceAdd, Nat.reduceMul, Nat.reduceSub, Nat.reduceEqDiff, Nat.reduceLeDiff, Nat.reduceLT, Nat.reduceBEq, Int.reduceBEq, Int.reduceBNe, Int.reduceEq, Int.reduceNeg, Int.reduceAdd, Int.reduceSub, Int.reduceMul, List.cons_beq_cons, BEq.rfl, Int.reduceToNat, Int.reduceLE, Int.reduceLT, reduceCtorEq, inG2]
  all_goals rfl
theorem sgone_spec (f : Family) (hl : f.layouts.length < 1099511627776) : Ans N.schema_Gone [.agg f.e] (.psl (ints ((f.layouts.filter (fun l => l.state != 0)).map Layout.group))) := by
  intro h
  refine spec_of ck_schema_Gone ?_
  rw [wp_start]
  simp (maxSteps := 1000000) (disch := omega) only [go_sem, opS_s, opS_sg, opS_b, opS_bg, ↓reduceIte, Nat.reduceAdd, Nat.reduceMul, Nat.reduceSub, Nat.reduceEqDiff, Nat.reduceLeDiff, Nat.reduceLT, Nat.reduceBEq, Int.reduceBEq, Int.reduceBNe, Int.reduceEq, Int.reduceNeg, Int.reduceAdd, Int.reduceSub, Int.reduceMul, List.cons_beq_cons, BEq.rfl, Int.reduceToNat, Int.reduceLE, Int.reduceLT, reduceCtorEq, F.schema_Gone]
  intro s
  refine callS_exact (sgroups_spec f _ (fun n => n != 0) hl gone1_spec _) ?_
  simp (maxSteps := 1000000) (disch := omega) only [go_sem, opS_s, opS_sg, opS_b, opS_bg, ↓reduceIte, Nat.reduceAdd, Nat.reduceMul, Nat.reduceSub, Nat.reduceEqDiff, Nat.reduceLeDiff, Nat.reduceLT, Nat.reduceBEq, Int.reduceBEq, Int.reduceBNe, Int.reduceEq, Int.reduceNeg, Int.reduceAdd, Int.reduceSub, Int.reduceMul, List.cons_beq_cons, BEq.rfl, Int.reduceToNat, Int.reduceLE, Int.reduceLT, reduceCtorEq]
  refine finS_l ?_
  simp (maxSteps := 1000000) (disch := omega) only [go_sem, opS_s, opS_sg, opS_b, opS_bg, ↓reduceIte, Nat.reduceAdd, Nat.reduceMul, Nat.reduceSub, Nat.reduceEqDiff, Nat.reduceLeDiff, Nat.reduceLT, Nat.reduceBEq, Int.reduceBEq, Int.reduceBNe, Int.reduceEq, Int.reduceNeg, Int.reduceAdd, Int.reduceSub, Int.reduceMul, List.cons_beq_cons, BEq.rfl, Int.reduceToNat, Int.reduceLE, Int.reduceLT, reduceCtorEq]
  all_goals simp []
end Go.Ab.S2
