/- Contracts: the statements' own fixed write (joistlaw16.one, alive). -/
import Derived.Test.YtghiionknnpajaaGreatDoorC19
set_option linter.unusedVariables false
set_option linter.unusedSimpArgs false
namespace Go.Ab.S2
open Go.Ab
set_option maxRecDepth 100000

def oneC (x : UInt8) : Column := ⟨[x], 1, 3⟩
def oneFam : Family := ⟨[102], 1, 0, [⟨0, 3⟩], [oneC 112, oneC 113]⟩
def oneS : Schema := ⟨1, [oneFam], Change.zero, 0⟩
def mA1 : Mut := ⟨1, [102], [112], ⟨1, 1, []⟩⟩
def mA2 : Mut := ⟨3, [102], [], Value.zero⟩
def mA3 : Mut := ⟨1, [102], [113], ⟨1, 2, []⟩⟩
def qA : Request := ⟨1, [97], [], [mA1, mA2, mA3], [], [], Value.zero, Filter.zero⟩
def qR : Request := ⟨3, [], [], [], [], [], Value.zero, Filter.zero⟩
def cA1 : Cell := ⟨[97], [102], [], 4, 4, Value.zero⟩
def cA2 : Cell := ⟨[97], [102], [113], 5, 1, ⟨1, 2, []⟩⟩
def lA : Layouted := ⟨[102], [⟨0, 3⟩]⟩
def pA : Place := ⟨[102], 0, 1, 0, [[112], [113]]⟩
theorem a1 : cellsF oneS qA 5 = ([cA1, cA2], 0) := by decide +kernel
theorem a2 : cellsF oneS qA 0 = ([], 18) := by decide +kernel
theorem a3 : visF oneS qR = (Filter.zero, [pA]) := by decide +kernel
theorem a4 : laysF oneS [cA1, cA2] = [lA] := by decide +kernel
theorem a5 : targetsF [lA] cA2 = [0] := by decide +kernel
theorem a6 : formQ qA = true := by decide +kernel
theorem a7 : chkE oneS qA = 0 := by decide +kernel

theorem one_spec : Ans N.joistlaw16_one [] (.agg oneS.e) := by
  intro h
  refine spec_of ck_joistlaw16_one ?_
  rw [wp_start]
  simp (maxSteps := 1000000) (disch := omega) only [go_sem, opS_s, opS_sg, opS_b, opS_bg, ↓reduceIte, Nat.reduceAdd, Nat.reduceMul, Nat.reduceSub, Nat.reduceEqDiff, Nat.reduceLeDiff, Nat.reduceLT, Nat.reduceBEq, Int.reduceBEq, Int.reduceBNe, Int.reduceEq, Int.reduceNeg, Int.reduceAdd, Int.reduceSub, Int.reduceMul, List.cons_beq_cons, BEq.rfl, Int.reduceToNat, Int.reduceLE, Int.reduceLT, reduceCtorEq, F.joistlaw16_one]
  intro s1 s2 s3 s4
  refine finS_l ?_
  simp (maxSteps := 1000000) (disch := omega) only [go_sem, opS_s, opS_sg, opS_b, opS_bg, ↓reduceIte, Nat.reduceAdd, Nat.reduceMul, Nat.reduceSub, Nat.reduceEqDiff, Nat.reduceLeDiff, Nat.reduceLT, Nat.reduceBEq, Int.reduceBEq, Int.reduceBNe, Int.reduceEq, Int.reduceNeg, Int.reduceAdd, Int.reduceSub, Int.reduceMul, List.cons_beq_cons, BEq.rfl, Int.reduceToNat, Int.reduceLE, Int.reduceLT, reduceCtorEq]
  simp [oneS, Schema.e, Family.e, Layout.e, Column.e, oneFam, oneC, Change.zero, Change.e]

theorem oneS_wf : oneS.wf := by
  refine ⟨by simp [oneS], fun f hf => ?_⟩
  simp [oneS] at hf; subst hf
  refine ⟨by simp [oneFam], by simp [oneFam], by simp [oneFam], fun c hc => ?_⟩
  simp [oneFam] at hc
  rcases hc with rfl | rfl <;> exact ⟨by simp [oneC]⟩
theorem Value.zero_wf : Value.zero.wf := ⟨by simp [Value.zero], by simp [Value.zero], by simp [Value.zero]⟩
theorem Filter.zero_wf : Filter.zero.wf := ⟨by simp [Filter.zero], by simp [Filter.zero], by simp [Filter.zero], by simp [Filter.zero]⟩
theorem qA_wf : qA.wf := by
  refine ⟨by simp [qA], by simp [qA], by simp [qA], fun m hm => ?_, by simp [qA], by simp [qA], Value.zero_wf, Filter.zero_wf⟩
  simp [qA] at hm
  rcases hm with rfl | rfl | rfl
  · exact ⟨by simp [mA1], by simp [mA1], by simp [mA1], by simp [mA1], by simp [mA1]⟩
  · exact ⟨by simp [mA2], by simp [mA2], Value.zero_wf⟩
  · exact ⟨by simp [mA3], by simp [mA3], by simp [mA3], by simp [mA3], by simp [mA3]⟩
theorem qR_wf : qR.wf := ⟨by simp [qR], by simp [qR], by simp [qR], by simp [qR], by simp [qR], by simp [qR], Value.zero_wf, Filter.zero_wf⟩

theorem alive_spec : Ans N.joistlaw16_alive [] (.bool true) := by
  intro h
  refine spec_of ck_joistlaw16_alive ?_
  rw [wp_start]
  simp (maxSteps := 1000000) (disch := omega) only [go_sem, opS_s, opS_sg, opS_b, opS_bg, ↓reduceIte, Nat.reduceAdd, Nat.reduceMul, Nat.reduceSub, Nat.reduceEqDiff, Nat.reduceLeDiff, Nat.reduceLT, Nat.reduceBEq, Int.reduceBEq, Int.reduceBNe, Int.reduceEq, Int.reduceNeg, Int.reduceAdd, Int.reduceSub, Int.reduceMul, List.cons_beq_cons, BEq.rfl, Int.reduceToNat, Int.reduceLE, Int.reduceLT, reduceCtorEq, F.joistlaw16_alive]
  intro s1 s2
  refine callS_exact (one_spec _) ?_
  simp (maxSteps := 1000000) (disch := omega) only [go_sem, opS_s, opS_sg, opS_b, opS_bg, ↓reduceIte, Nat.reduceAdd, Nat.reduceMul, Nat.reduceSub, Nat.reduceEqDiff, Nat.reduceLeDiff, Nat.reduceLT, Nat.reduceBEq, Int.reduceBEq, Int.reduceBNe, Int.reduceEq, Int.reduceNeg, Int.reduceAdd, Int.reduceSub, Int.reduceMul, List.cons_beq_cons, BEq.rfl, Int.reduceToNat, Int.reduceLE, Int.reduceLT, reduceCtorEq]
  refine callS_exact (cells_spec oneS qA 5 oneS_wf qA_wf _) ?_
  simp (maxSteps := 1000000) (disch := omega) only [go_sem, opS_s, opS_sg, opS_b, opS_bg, ↓reduceIte, Nat.reduceAdd, Nat.reduceMul, Nat.reduceSub, Nat.reduceEqDiff, Nat.reduceLeDiff, Nat.reduceLT, Nat.reduceBEq, Int.reduceBEq, Int.reduceBNe, Int.reduceEq, Int.reduceNeg, Int.reduceAdd, Int.reduceSub, Int.reduceMul, List.cons_beq_cons, BEq.rfl, Int.reduceToNat, Int.reduceLE, Int.reduceLT, reduceCtorEq, a1]
  refine callS_exact (one_spec _) ?_
  simp (maxSteps := 1000000) (disch := omega) only [go_sem, opS_s, opS_sg, opS_b, opS_bg, ↓reduceIte, Nat.reduceAdd, Nat.reduceMul, Nat.reduceSub, Nat.reduceEqDiff, Nat.reduceLeDiff, Nat.reduceLT, Nat.reduceBEq, Int.reduceBEq, Int.reduceBNe, Int.reduceEq, Int.reduceNeg, Int.reduceAdd, Int.reduceSub, Int.reduceMul, List.cons_beq_cons, BEq.rfl, Int.reduceToNat, Int.reduceLE, Int.reduceLT, reduceCtorEq]
  refine callS_exact (cells_spec oneS qA 0 oneS_wf qA_wf _) ?_
  simp (maxSteps := 1000000) (disch := omega) only [go_sem, opS_s, opS_sg, opS_b, opS_bg, ↓reduceIte, Nat.reduceAdd, Nat.reduceMul, Nat.reduceSub, Nat.reduceEqDiff, Nat.reduceLeDiff, Nat.reduceLT, Nat.reduceBEq, Int.reduceBEq, Int.reduceBNe, Int.reduceEq, Int.reduceNeg, Int.reduceAdd, Int.reduceSub, Int.reduceMul, List.cons_beq_cons, BEq.rfl, Int.reduceToNat, Int.reduceLE, Int.reduceLT, reduceCtorEq, a2]
  refine callS_exact (one_spec _) ?_
  simp (maxSteps := 1000000) (disch := omega) only [go_sem, opS_s, opS_sg, opS_b, opS_bg, ↓reduceIte, Nat.reduceAdd, Nat.reduceMul, Nat.reduceSub, Nat.reduceEqDiff, Nat.reduceLeDiff, Nat.reduceLT, Nat.reduceBEq, Int.reduceBEq, Int.reduceBNe, Int.reduceEq, Int.reduceNeg, Int.reduceAdd, Int.reduceSub, Int.reduceMul, List.cons_beq_cons, BEq.rfl, Int.reduceToNat, Int.reduceLE, Int.reduceLT, reduceCtorEq]
  refine callS_exact (visible_spec oneS qR oneS_wf qR_wf _) ?_
  simp (maxSteps := 1000000) (disch := omega) only [go_sem, opS_s, opS_sg, opS_b, opS_bg, ↓reduceIte, Nat.reduceAdd, Nat.reduceMul, Nat.reduceSub, Nat.reduceEqDiff, Nat.reduceLeDiff, Nat.reduceLT, Nat.reduceBEq, Int.reduceBEq, Int.reduceBNe, Int.reduceEq, Int.reduceNeg, Int.reduceAdd, Int.reduceSub, Int.reduceMul, List.cons_beq_cons, BEq.rfl, Int.reduceToNat, Int.reduceLE, Int.reduceLT, reduceCtorEq, a3]
  intro s3
  refine callS_exact (one_spec _) ?_
  simp (maxSteps := 1000000) (disch := omega) only [go_sem, opS_s, opS_sg, opS_b, opS_bg, ↓reduceIte, Nat.reduceAdd, Nat.reduceMul, Nat.reduceSub, Nat.reduceEqDiff, Nat.reduceLeDiff, Nat.reduceLT, Nat.reduceBEq, Int.reduceBEq, Int.reduceBNe, Int.reduceEq, Int.reduceNeg, Int.reduceAdd, Int.reduceSub, Int.reduceMul, List.cons_beq_cons, BEq.rfl, Int.reduceToNat, Int.reduceLE, Int.reduceLT, reduceCtorEq]
  refine callS_exact (playouts_spec oneS [cA1, cA2] oneS_wf (by simp) _) ?_
  have z2 : (((2 : Nat) : Int) == 2) = true := rfl
  have z1 : (((1 : Nat) : Int) == 1) = true := rfl
  have q1 : eqCells [1, 1, 1, 0, 0, 0, 0, 1] cA1.e [AV.str [97], AV.str [102], AV.str [], AV.int IntKind.i64 4, AV.int IntKind.i64 4, AV.int IntKind.i64 0, AV.int IntKind.i64 0, AV.str []] = some true := by decide +kernel
  have t5 : (cA2.time == 5) = true := rfl
  have q113 : (cA2.qual == [113]) = true := rfl
  have pq : ((pA.quals.length : Int) == 2) = true := rfl
  simp (maxSteps := 1000000) (disch := omega) only [go_sem, opS_s, opS_sg, opS_b, opS_bg, ↓reduceIte, Nat.reduceAdd, Nat.reduceMul, Nat.reduceSub, Nat.reduceEqDiff, Nat.reduceLeDiff, Nat.reduceLT, Nat.reduceBEq, Int.reduceBEq, Int.reduceBNe, Int.reduceEq, Int.reduceNeg, Int.reduceAdd, Int.reduceSub, Int.reduceMul, List.cons_beq_cons, BEq.rfl, Int.reduceToNat, Int.reduceLE, Int.reduceLT, reduceCtorEq, a4, z2, z1, q1, t5, q113, pq]
  refine ⟨id, id, id, id, id, ?_⟩
  refine callS_exact (ptargets_spec [lA] cA2 (by simp) (by simp [lA]) _) ?_
  simp (maxSteps := 1000000) (disch := omega) only [go_sem, opS_s, opS_sg, opS_b, opS_bg, ↓reduceIte, Nat.reduceAdd, Nat.reduceMul, Nat.reduceSub, Nat.reduceEqDiff, Nat.reduceLeDiff, Nat.reduceLT, Nat.reduceBEq, Int.reduceBEq, Int.reduceBNe, Int.reduceEq, Int.reduceNeg, Int.reduceAdd, Int.reduceSub, Int.reduceMul, List.cons_beq_cons, BEq.rfl, Int.reduceToNat, Int.reduceLE, Int.reduceLT, reduceCtorEq, a5]
  refine ⟨id, fun s4 => ?_⟩
  refine callS_exact (sameints_spec [0] [0] (by simp) _) ?_
  have d0 : decide (([0] : List Int) = [0]) = true := rfl
  simp (maxSteps := 1000000) (disch := omega) only [go_sem, opS_s, opS_sg, opS_b, opS_bg, ↓reduceIte, Nat.reduceAdd, Nat.reduceMul, Nat.reduceSub, Nat.reduceEqDiff, Nat.reduceLeDiff, Nat.reduceLT, Nat.reduceBEq, Int.reduceBEq, Int.reduceBNe, Int.reduceEq, Int.reduceNeg, Int.reduceAdd, Int.reduceSub, Int.reduceMul, List.cons_beq_cons, BEq.rfl, Int.reduceToNat, Int.reduceLE, Int.reduceLT, reduceCtorEq, d0]
  refine callS_exact (formed_spec qA qA_wf _) ?_
  simp (maxSteps := 1000000) (disch := omega) only [go_sem, opS_s, opS_sg, opS_b, opS_bg, ↓reduceIte, Nat.reduceAdd, Nat.reduceMul, Nat.reduceSub, Nat.reduceEqDiff, Nat.reduceLeDiff, Nat.reduceLT, Nat.reduceBEq, Int.reduceBEq, Int.reduceBNe, Int.reduceEq, Int.reduceNeg, Int.reduceAdd, Int.reduceSub, Int.reduceMul, List.cons_beq_cons, BEq.rfl, Int.reduceToNat, Int.reduceLE, Int.reduceLT, reduceCtorEq, a6]
  refine callS_exact (one_spec _) ?_
  simp (maxSteps := 1000000) (disch := omega) only [go_sem, opS_s, opS_sg, opS_b, opS_bg, ↓reduceIte, Nat.reduceAdd, Nat.reduceMul, Nat.reduceSub, Nat.reduceEqDiff, Nat.reduceLeDiff, Nat.reduceLT, Nat.reduceBEq, Int.reduceBEq, Int.reduceBNe, Int.reduceEq, Int.reduceNeg, Int.reduceAdd, Int.reduceSub, Int.reduceMul, List.cons_beq_cons, BEq.rfl, Int.reduceToNat, Int.reduceLE, Int.reduceLT, reduceCtorEq]
  refine callS_exact (check_spec oneS qA oneS_wf qA_wf _) ?_
  simp (maxSteps := 1000000) (disch := omega) only [go_sem, opS_s, opS_sg, opS_b, opS_bg, ↓reduceIte, Nat.reduceAdd, Nat.reduceMul, Nat.reduceSub, Nat.reduceEqDiff, Nat.reduceLeDiff, Nat.reduceLT, Nat.reduceBEq, Int.reduceBEq, Int.reduceBNe, Int.reduceEq, Int.reduceNeg, Int.reduceAdd, Int.reduceSub, Int.reduceMul, List.cons_beq_cons, BEq.rfl, Int.reduceToNat, Int.reduceLE, Int.reduceLT, reduceCtorEq, a7]
  refine finS_l ?_
  simp (maxSteps := 1000000) (disch := omega) only [go_sem, opS_s, opS_sg, opS_b, opS_bg, ↓reduceIte, Nat.reduceAdd, Nat.reduceMul, Nat.reduceSub, Nat.reduceEqDiff, Nat.reduceLeDiff, Nat.reduceLT, Nat.reduceBEq, Int.reduceBEq, Int.reduceBNe, Int.reduceEq, Int.reduceNeg, Int.reduceAdd, Int.reduceSub, Int.reduceMul, List.cons_beq_cons, BEq.rfl, Int.reduceToNat, Int.reduceLE, Int.reduceLT, reduceCtorEq]
end Go.Ab.S2
