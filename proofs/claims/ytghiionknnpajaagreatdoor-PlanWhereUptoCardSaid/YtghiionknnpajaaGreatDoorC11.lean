/- Contracts: is a value right? (val, float; joistref01) -/
import Derived.Test.YtghiionknnpajaaGreatDoorP5
import Derived.Test.YtghiionknnpajaaGreatDoorC7
import Derived.Shelf.Unicode.ValidAny
set_option linter.unusedVariables false
set_option linter.unusedSimpArgs false
namespace Go.Ab.S2
open Go.Ab
set_option maxRecDepth 100000

def ren196 : Go.Shelf.Ren := ⟨fun | 196 => N.unicode_utf8_ValidString | 259 => N.unicode_utf8_word_string | n => n, fun | 9 => 9 | 4 => 4 | 3 => 3 | 5 => 5 | 12 => 12 | 119 => 165 | 0 => 0 | 46 => 150 | 139 => 168 | 138 => 167 | 53 => 162 | n => n, fun | 3 => 0 | 4 => 1 | n => n⟩
open Go.Proofs in
theorem lays196 : Go.Proofs.Lays.n196 PP ren196 :=
  { mixed := by kernel_rfl, f196 := Eq.trans Tryz.func112 (congrArg some (by kernel_rfl)), f259 := Eq.trans Tryz.func134 (congrArg some (by kernel_rfl)), t0 := Tryz.underlying0, a0 := Tryz.isAgg0, z0 := Tryz.sizeOf0, v0 := Tryz.zeroValue0, t3 := Tryz.underlying3,
    a3 := Tryz.isAgg3, z3 := Tryz.sizeOf3, v3 := Tryz.zeroValue3, t4 := Tryz.underlying4, a4 := Tryz.isAgg4, z4 := Tryz.sizeOf4, v4 := Tryz.zeroValue4, t5 := Tryz.underlying5, a5 := Tryz.isAgg5, z5 := Tryz.sizeOf5, v5 := Tryz.zeroValue5,
    t9 := Tryz.underlying9, a9 := Tryz.isAgg9, z9 := Tryz.sizeOf9, v9 := Tryz.zeroValue9, t12 := Tryz.underlying12, a12 := Tryz.isAgg12, z12 := Tryz.sizeOf12, v12 := Tryz.zeroValue12, t46 := Tryz.underlying150, a46 := Tryz.isAgg150,
    z46 := Tryz.sizeOf150, v46 := Tryz.zeroValue150, t53 := Tryz.underlying162, a53 := Tryz.isAgg162, z53 := Tryz.sizeOf162, v53 := Tryz.zeroValue162, t119 := Tryz.underlying165, a119 := Tryz.isAgg165, z119 := Tryz.sizeOf165,
    t138 := Tryz.underlying167, a138 := Tryz.isAgg167, z138 := Tryz.sizeOf167, v138 := Tryz.zeroValue167, t139 := Tryz.underlying168, a139 := Tryz.isAgg168, z139 := Tryz.sizeOf168, v139 := Tryz.zeroValue168, g3 := by kernel_rfl, g4 := by kernel_rfl }

theorem valid_spec (s : Str) (hs : s.length < 1099511627776) : Ans N.unicode_utf8_ValidString [.str s] (.bool (Lib.validD s)) := by
  intro h
  refine ⟨by kernel_rfl, fun C w vs H hv => ?_⟩
  simp only [vrels, vrel] at hv
  obtain ⟨y1, r1, rfl, rfl, rfl⟩ := hv
  have hsz : (⟨s.toArray⟩ : ByteArray).size = s.length := by simp [ByteArray.size]
  refine (Go.Proofs.Any.utf8_ValidString lays196 ⟨s.toArray⟩ w (by omega) (TB_tabs H.tb)).mono ?_
  rintro e w' ⟨rfl, hb⟩
  obtain ⟨S, H'⟩ := below_rel H hb
  exact ⟨C, .ret (.bool (Lib.validD s)), h, S, H', ⟨_, rfl, by simp only [vrel]⟩, rfl, rfl⟩

theorem bitsRight_spec (n : Int) (h1 : -9223372036854775808 ≤ n) (h2 : n < 9223372036854775808) : Ans N.float_bits_right [.int .u64 (IntKind.u64.wrap n)] (.bool (fR n)) := by
  intro h
  refine spec_of ck_float_bits_right ?_
  rw [wp_start]
  simp (maxSteps := 1000000) (disch := omega) only [go_sem, opS_s, opS_sg, opS_b, opS_bg, ↓reduceIte, Nat.reduceAdd, Nat.reduceMul, Nat.reduceSub, Nat.reduceEqDiff, Nat.reduceLeDiff, Nat.reduceLT, Nat.reduceBEq, Int.reduceBEq, Int.reduceBNe, Int.reduceEq, Int.reduceNeg, Int.reduceAdd, Int.reduceSub, Int.reduceMul, List.cons_beq_cons, BEq.rfl, Int.reduceToNat, Int.reduceLE, Int.reduceLT, reduceCtorEq, F.float_bits_right]
  simp (maxSteps := 1000000) (disch := omega) only [go_sem, opS_s, opS_sg, opS_b, opS_bg, ↓reduceIte, Nat.reduceAdd, Nat.reduceMul, Nat.reduceSub, Nat.reduceEqDiff, Nat.reduceLeDiff, Nat.reduceLT, Nat.reduceBEq, Int.reduceBEq, Int.reduceBNe, Int.reduceEq, Int.reduceNeg, Int.reduceAdd, Int.reduceSub, Int.reduceMul, List.cons_beq_cons, BEq.rfl, Int.reduceToNat, Int.reduceLE, Int.reduceLT, reduceCtorEq, size_u, nan_u h1 h2]
  refine finS_l ?_
  simp (maxSteps := 1000000) (disch := omega) only [go_sem, opS_s, opS_sg, opS_b, opS_bg, ↓reduceIte, Nat.reduceAdd, Nat.reduceMul, Nat.reduceSub, Nat.reduceEqDiff, Nat.reduceLeDiff, Nat.reduceLT, Nat.reduceBEq, Int.reduceBEq, Int.reduceBNe, Int.reduceEq, Int.reduceNeg, Int.reduceAdd, Int.reduceSub, Int.reduceMul, List.cons_beq_cons, BEq.rfl, Int.reduceToNat, Int.reduceLE, Int.reduceLT, reduceCtorEq]
  all_goals simp [fR]
theorem fright_spec (n : Int) (h1 : -9223372036854775808 ≤ n) (h2 : n < 9223372036854775808) : Ans N.float_Right [.int .i64 n] (.bool (fR n)) := by
  intro h
  refine spec_of ck_float_Right ?_
  rw [wp_start]
  simp (maxSteps := 1000000) (disch := omega) only [go_sem, opS_s, opS_sg, opS_b, opS_bg, ↓reduceIte, Nat.reduceAdd, Nat.reduceMul, Nat.reduceSub, Nat.reduceEqDiff, Nat.reduceLeDiff, Nat.reduceLT, Nat.reduceBEq, Int.reduceBEq, Int.reduceBNe, Int.reduceEq, Int.reduceNeg, Int.reduceAdd, Int.reduceSub, Int.reduceMul, List.cons_beq_cons, BEq.rfl, Int.reduceToNat, Int.reduceLE, Int.reduceLT, reduceCtorEq, F.float_Right]
  refine callS_exact (bitsRight_spec n h1 h2 _) ?_
  simp (maxSteps := 1000000) (disch := omega) only [go_sem, opS_s, opS_sg, opS_b, opS_bg, ↓reduceIte, Nat.reduceAdd, Nat.reduceMul, Nat.reduceSub, Nat.reduceEqDiff, Nat.reduceLeDiff, Nat.reduceLT, Nat.reduceBEq, Int.reduceBEq, Int.reduceBNe, Int.reduceEq, Int.reduceNeg, Int.reduceAdd, Int.reduceSub, Int.reduceMul, List.cons_beq_cons, BEq.rfl, Int.reduceToNat, Int.reduceLE, Int.reduceLT, reduceCtorEq]
  refine finS_l ?_
  simp (maxSteps := 1000000) (disch := omega) only [go_sem, opS_s, opS_sg, opS_b, opS_bg, ↓reduceIte, Nat.reduceAdd, Nat.reduceMul, Nat.reduceSub, Nat.reduceEqDiff, Nat.reduceLeDiff, Nat.reduceLT, Nat.reduceBEq, Int.reduceBEq, Int.reduceBNe, Int.reduceEq, Int.reduceNeg, Int.reduceAdd, Int.reduceSub, Int.reduceMul, List.cons_beq_cons, BEq.rfl, Int.reduceToNat, Int.reduceLE, Int.reduceLT, reduceCtorEq]
  all_goals simp []
def valR (v : Value) : Bool :=
  if v.kind = 1 then v.s == ([] : Str)
  else if v.kind = 4 then v.s == ([] : Str) && (v.n == 0 || v.n == 1)
  else if v.kind = 5 then v.s == ([] : Str) && fR v.n
  else if v.kind = 2 ∨ v.kind = 3 then (v.n == 0 && decide ((v.s.length : Int) ≤ 32)) && (v.kind == 2 || Lib.validD v.s)
  else false

theorem val_spec (v : Value) (hv : v.wf) : Ans N.val_Right [.agg v.e] (.bool (valR v)) := by
  intro h
  refine spec_of ck_val_Right ?_
  rw [wp_start]
  simp (maxSteps := 1000000) (disch := omega) only [go_sem, opS_s, opS_sg, opS_b, opS_bg, ↓reduceIte, Nat.reduceAdd, Nat.reduceMul, Nat.reduceSub, Nat.reduceEqDiff, Nat.reduceLeDiff, Nat.reduceLT, Nat.reduceBEq, Int.reduceBEq, Int.reduceBNe, Int.reduceEq, Int.reduceNeg, Int.reduceAdd, Int.reduceSub, Int.reduceMul, List.cons_beq_cons, BEq.rfl, Int.reduceToNat, Int.reduceLE, Int.reduceLT, reduceCtorEq, F.val_Right]
  intro s
  rw [condS_some]; refine ⟨fun hx => ?_, fun hx => ?_⟩
  · simp (maxSteps := 1000000) (disch := omega) only [go_sem, opS_s, opS_sg, opS_b, opS_bg, ↓reduceIte, Nat.reduceAdd, Nat.reduceMul, Nat.reduceSub, Nat.reduceEqDiff, Nat.reduceLeDiff, Nat.reduceLT, Nat.reduceBEq, Int.reduceBEq, Int.reduceBNe, Int.reduceEq, Int.reduceNeg, Int.reduceAdd, Int.reduceSub, Int.reduceMul, List.cons_beq_cons, BEq.rfl, Int.reduceToNat, Int.reduceLE, Int.reduceLT, reduceCtorEq]
    have k1 : v.kind = 1 := by simpa using hx
    refine finS_l ?_
    simp (maxSteps := 1000000) (disch := omega) only [go_sem, opS_s, opS_sg, opS_b, opS_bg, ↓reduceIte, Nat.reduceAdd, Nat.reduceMul, Nat.reduceSub, Nat.reduceEqDiff, Nat.reduceLeDiff, Nat.reduceLT, Nat.reduceBEq, Int.reduceBEq, Int.reduceBNe, Int.reduceEq, Int.reduceNeg, Int.reduceAdd, Int.reduceSub, Int.reduceMul, List.cons_beq_cons, BEq.rfl, Int.reduceToNat, Int.reduceLE, Int.reduceLT, reduceCtorEq]
    all_goals simp [valR, k1]
  · simp (maxSteps := 1000000) (disch := omega) only [go_sem, opS_s, opS_sg, opS_b, opS_bg, ↓reduceIte, Nat.reduceAdd, Nat.reduceMul, Nat.reduceSub, Nat.reduceEqDiff, Nat.reduceLeDiff, Nat.reduceLT, Nat.reduceBEq, Int.reduceBEq, Int.reduceBNe, Int.reduceEq, Int.reduceNeg, Int.reduceAdd, Int.reduceSub, Int.reduceMul, List.cons_beq_cons, BEq.rfl, Int.reduceToNat, Int.reduceLE, Int.reduceLT, reduceCtorEq]
    have k1 : ¬ v.kind = 1 := by simpa using hx
    rw [condS_some]; refine ⟨fun hx => ?_, fun hx => ?_⟩
    · simp (maxSteps := 1000000) (disch := omega) only [go_sem, opS_s, opS_sg, opS_b, opS_bg, ↓reduceIte, Nat.reduceAdd, Nat.reduceMul, Nat.reduceSub, Nat.reduceEqDiff, Nat.reduceLeDiff, Nat.reduceLT, Nat.reduceBEq, Int.reduceBEq, Int.reduceBNe, Int.reduceEq, Int.reduceNeg, Int.reduceAdd, Int.reduceSub, Int.reduceMul, List.cons_beq_cons, BEq.rfl, Int.reduceToNat, Int.reduceLE, Int.reduceLT, reduceCtorEq, bool_i hv.lo hv.hi]
      have k4 : v.kind = 4 := by simpa using hx
      refine finS_l ?_
      simp (maxSteps := 1000000) (disch := omega) only [go_sem, opS_s, opS_sg, opS_b, opS_bg, ↓reduceIte, Nat.reduceAdd, Nat.reduceMul, Nat.reduceSub, Nat.reduceEqDiff, Nat.reduceLeDiff, Nat.reduceLT, Nat.reduceBEq, Int.reduceBEq, Int.reduceBNe, Int.reduceEq, Int.reduceNeg, Int.reduceAdd, Int.reduceSub, Int.reduceMul, List.cons_beq_cons, BEq.rfl, Int.reduceToNat, Int.reduceLE, Int.reduceLT, reduceCtorEq]
      all_goals simp [valR, k4]
    · simp (maxSteps := 1000000) (disch := omega) only [go_sem, opS_s, opS_sg, opS_b, opS_bg, ↓reduceIte, Nat.reduceAdd, Nat.reduceMul, Nat.reduceSub, Nat.reduceEqDiff, Nat.reduceLeDiff, Nat.reduceLT, Nat.reduceBEq, Int.reduceBEq, Int.reduceBNe, Int.reduceEq, Int.reduceNeg, Int.reduceAdd, Int.reduceSub, Int.reduceMul, List.cons_beq_cons, BEq.rfl, Int.reduceToNat, Int.reduceLE, Int.reduceLT, reduceCtorEq]
      have k4 : ¬ v.kind = 4 := by simpa using hx
      rw [condS_some]; refine ⟨fun hx => ?_, fun hx => ?_⟩
      · simp (maxSteps := 1000000) (disch := omega) only [go_sem, opS_s, opS_sg, opS_b, opS_bg, ↓reduceIte, Nat.reduceAdd, Nat.reduceMul, Nat.reduceSub, Nat.reduceEqDiff, Nat.reduceLeDiff, Nat.reduceLT, Nat.reduceBEq, Int.reduceBEq, Int.reduceBNe, Int.reduceEq, Int.reduceNeg, Int.reduceAdd, Int.reduceSub, Int.reduceMul, List.cons_beq_cons, BEq.rfl, Int.reduceToNat, Int.reduceLE, Int.reduceLT, reduceCtorEq]
        have k5 : v.kind = 5 := by simpa using hx
        rw [opEg_some]; refine ⟨fun hg => ?_, fun hg => ?_⟩ <;> try simp only [Bool.and_eq_true, Bool.or_eq_false_iff, Bool.not_eq_true', Bool.not_eq_false'] at hg
        · have g1 := hg
          simp (maxSteps := 1000000) (disch := omega) only [go_sem, opS_s, opS_sg, opS_b, opS_bg, ↓reduceIte, Nat.reduceAdd, Nat.reduceMul, Nat.reduceSub, Nat.reduceEqDiff, Nat.reduceLeDiff, Nat.reduceLT, Nat.reduceBEq, Int.reduceBEq, Int.reduceBNe, Int.reduceEq, Int.reduceNeg, Int.reduceAdd, Int.reduceSub, Int.reduceMul, List.cons_beq_cons, BEq.rfl, Int.reduceToNat, Int.reduceLE, Int.reduceLT, reduceCtorEq, g1]
          refine callS_exact (fright_spec v.n hv.lo hv.hi _) ?_
          simp (maxSteps := 1000000) (disch := omega) only [go_sem, opS_s, opS_sg, opS_b, opS_bg, ↓reduceIte, Nat.reduceAdd, Nat.reduceMul, Nat.reduceSub, Nat.reduceEqDiff, Nat.reduceLeDiff, Nat.reduceLT, Nat.reduceBEq, Int.reduceBEq, Int.reduceBNe, Int.reduceEq, Int.reduceNeg, Int.reduceAdd, Int.reduceSub, Int.reduceMul, List.cons_beq_cons, BEq.rfl, Int.reduceToNat, Int.reduceLE, Int.reduceLT, reduceCtorEq, g1]
          refine finS_l ?_
          simp (maxSteps := 1000000) (disch := omega) only [go_sem, opS_s, opS_sg, opS_b, opS_bg, ↓reduceIte, Nat.reduceAdd, Nat.reduceMul, Nat.reduceSub, Nat.reduceEqDiff, Nat.reduceLeDiff, Nat.reduceLT, Nat.reduceBEq, Int.reduceBEq, Int.reduceBNe, Int.reduceEq, Int.reduceNeg, Int.reduceAdd, Int.reduceSub, Int.reduceMul, List.cons_beq_cons, BEq.rfl, Int.reduceToNat, Int.reduceLE, Int.reduceLT, reduceCtorEq, valR, k5, g1]
          all_goals (try simp [valR, k5, g1])
        · have g1 := hg
          simp (maxSteps := 1000000) (disch := omega) only [go_sem, opS_s, opS_sg, opS_b, opS_bg, ↓reduceIte, Nat.reduceAdd, Nat.reduceMul, Nat.reduceSub, Nat.reduceEqDiff, Nat.reduceLeDiff, Nat.reduceLT, Nat.reduceBEq, Int.reduceBEq, Int.reduceBNe, Int.reduceEq, Int.reduceNeg, Int.reduceAdd, Int.reduceSub, Int.reduceMul, List.cons_beq_cons, BEq.rfl, Int.reduceToNat, Int.reduceLE, Int.reduceLT, reduceCtorEq, g1]
          refine finS_l ?_
          simp (maxSteps := 1000000) (disch := omega) only [go_sem, opS_s, opS_sg, opS_b, opS_bg, ↓reduceIte, Nat.reduceAdd, Nat.reduceMul, Nat.reduceSub, Nat.reduceEqDiff, Nat.reduceLeDiff, Nat.reduceLT, Nat.reduceBEq, Int.reduceBEq, Int.reduceBNe, Int.reduceEq, Int.reduceNeg, Int.reduceAdd, Int.reduceSub, Int.reduceMul, List.cons_beq_cons, BEq.rfl, Int.reduceToNat, Int.reduceLE, Int.reduceLT, reduceCtorEq, valR, k5, g1]
          all_goals (try simp [valR, k5, g1])
      · simp (maxSteps := 1000000) (disch := omega) only [go_sem, opS_s, opS_sg, opS_b, opS_bg, ↓reduceIte, Nat.reduceAdd, Nat.reduceMul, Nat.reduceSub, Nat.reduceEqDiff, Nat.reduceLeDiff, Nat.reduceLT, Nat.reduceBEq, Int.reduceBEq, Int.reduceBNe, Int.reduceEq, Int.reduceNeg, Int.reduceAdd, Int.reduceSub, Int.reduceMul, List.cons_beq_cons, BEq.rfl, Int.reduceToNat, Int.reduceLE, Int.reduceLT, reduceCtorEq]
        have k5 : ¬ v.kind = 5 := by simpa using hx
        rw [condS_some]; refine ⟨fun hx => ?_, fun hx => ?_⟩
        · simp (maxSteps := 1000000) (disch := omega) only [go_sem, opS_s, opS_sg, opS_b, opS_bg, ↓reduceIte, Nat.reduceAdd, Nat.reduceMul, Nat.reduceSub, Nat.reduceEqDiff, Nat.reduceLeDiff, Nat.reduceLT, Nat.reduceBEq, Int.reduceBEq, Int.reduceBNe, Int.reduceEq, Int.reduceNeg, Int.reduceAdd, Int.reduceSub, Int.reduceMul, List.cons_beq_cons, BEq.rfl, Int.reduceToNat, Int.reduceLE, Int.reduceLT, reduceCtorEq]
          have k2 : v.kind = 2 := by simpa using hx
          by_cases hn : v.n = 0
          · by_cases hl : (v.s.length : Int) ≤ 32
            · simp (maxSteps := 1000000) (disch := omega) only [go_sem, opS_s, opS_sg, opS_b, opS_bg, ↓reduceIte, Nat.reduceAdd, Nat.reduceMul, Nat.reduceSub, Nat.reduceEqDiff, Nat.reduceLeDiff, Nat.reduceLT, Nat.reduceBEq, Int.reduceBEq, Int.reduceBNe, Int.reduceEq, Int.reduceNeg, Int.reduceAdd, Int.reduceSub, Int.reduceMul, List.cons_beq_cons, BEq.rfl, Int.reduceToNat, Int.reduceLE, Int.reduceLT, reduceCtorEq, hn, hl, k2, hx]
              refine finS_l ?_
              simp (maxSteps := 1000000) (disch := omega) only [go_sem, opS_s, opS_sg, opS_b, opS_bg, ↓reduceIte, Nat.reduceAdd, Nat.reduceMul, Nat.reduceSub, Nat.reduceEqDiff, Nat.reduceLeDiff, Nat.reduceLT, Nat.reduceBEq, Int.reduceBEq, Int.reduceBNe, Int.reduceEq, Int.reduceNeg, Int.reduceAdd, Int.reduceSub, Int.reduceMul, List.cons_beq_cons, BEq.rfl, Int.reduceToNat, Int.reduceLE, Int.reduceLT, reduceCtorEq]
              all_goals simp [valR, k1, k2, hn, hl]
            · simp (maxSteps := 1000000) (disch := omega) only [go_sem, opS_s, opS_sg, opS_b, opS_bg, ↓reduceIte, Nat.reduceAdd, Nat.reduceMul, Nat.reduceSub, Nat.reduceEqDiff, Nat.reduceLeDiff, Nat.reduceLT, Nat.reduceBEq, Int.reduceBEq, Int.reduceBNe, Int.reduceEq, Int.reduceNeg, Int.reduceAdd, Int.reduceSub, Int.reduceMul, List.cons_beq_cons, BEq.rfl, Int.reduceToNat, Int.reduceLE, Int.reduceLT, reduceCtorEq, hn, hl, k2, hx]
              refine finS_l ?_
              simp (maxSteps := 1000000) (disch := omega) only [go_sem, opS_s, opS_sg, opS_b, opS_bg, ↓reduceIte, Nat.reduceAdd, Nat.reduceMul, Nat.reduceSub, Nat.reduceEqDiff, Nat.reduceLeDiff, Nat.reduceLT, Nat.reduceBEq, Int.reduceBEq, Int.reduceBNe, Int.reduceEq, Int.reduceNeg, Int.reduceAdd, Int.reduceSub, Int.reduceMul, List.cons_beq_cons, BEq.rfl, Int.reduceToNat, Int.reduceLE, Int.reduceLT, reduceCtorEq]
              all_goals simp [valR, k1, k2, hn, hl]
          · have hn2 : (v.n == 0) = false := by simpa using hn
            simp (maxSteps := 1000000) (disch := omega) only [go_sem, opS_s, opS_sg, opS_b, opS_bg, ↓reduceIte, Nat.reduceAdd, Nat.reduceMul, Nat.reduceSub, Nat.reduceEqDiff, Nat.reduceLeDiff, Nat.reduceLT, Nat.reduceBEq, Int.reduceBEq, Int.reduceBNe, Int.reduceEq, Int.reduceNeg, Int.reduceAdd, Int.reduceSub, Int.reduceMul, List.cons_beq_cons, BEq.rfl, Int.reduceToNat, Int.reduceLE, Int.reduceLT, reduceCtorEq, hn2, k2, hx]
            refine finS_l ?_
            simp (maxSteps := 1000000) (disch := omega) only [go_sem, opS_s, opS_sg, opS_b, opS_bg, ↓reduceIte, Nat.reduceAdd, Nat.reduceMul, Nat.reduceSub, Nat.reduceEqDiff, Nat.reduceLeDiff, Nat.reduceLT, Nat.reduceBEq, Int.reduceBEq, Int.reduceBNe, Int.reduceEq, Int.reduceNeg, Int.reduceAdd, Int.reduceSub, Int.reduceMul, List.cons_beq_cons, BEq.rfl, Int.reduceToNat, Int.reduceLE, Int.reduceLT, reduceCtorEq]
            all_goals simp [valR, k1, k2, hn]
        · simp (maxSteps := 1000000) (disch := omega) only [go_sem, opS_s, opS_sg, opS_b, opS_bg, ↓reduceIte, Nat.reduceAdd, Nat.reduceMul, Nat.reduceSub, Nat.reduceEqDiff, Nat.reduceLeDiff, Nat.reduceLT, Nat.reduceBEq, Int.reduceBEq, Int.reduceBNe, Int.reduceEq, Int.reduceNeg, Int.reduceAdd, Int.reduceSub, Int.reduceMul, List.cons_beq_cons, BEq.rfl, Int.reduceToNat, Int.reduceLE, Int.reduceLT, reduceCtorEq]
          have k2 : ¬ v.kind = 2 := by simpa using hx
          have hx2 := hx
          rw [condS_some]; refine ⟨fun hx => ?_, fun hx => ?_⟩
          · simp (maxSteps := 1000000) (disch := omega) only [go_sem, opS_s, opS_sg, opS_b, opS_bg, ↓reduceIte, Nat.reduceAdd, Nat.reduceMul, Nat.reduceSub, Nat.reduceEqDiff, Nat.reduceLeDiff, Nat.reduceLT, Nat.reduceBEq, Int.reduceBEq, Int.reduceBNe, Int.reduceEq, Int.reduceNeg, Int.reduceAdd, Int.reduceSub, Int.reduceMul, List.cons_beq_cons, BEq.rfl, Int.reduceToNat, Int.reduceLE, Int.reduceLT, reduceCtorEq, hx2]
            have k3 : v.kind = 3 := by simpa using hx
            by_cases hn : v.n = 0
            · by_cases hl : (v.s.length : Int) ≤ 32
              · simp (maxSteps := 1000000) (disch := omega) only [go_sem, opS_s, opS_sg, opS_b, opS_bg, ↓reduceIte, Nat.reduceAdd, Nat.reduceMul, Nat.reduceSub, Nat.reduceEqDiff, Nat.reduceLeDiff, Nat.reduceLT, Nat.reduceBEq, Int.reduceBEq, Int.reduceBNe, Int.reduceEq, Int.reduceNeg, Int.reduceAdd, Int.reduceSub, Int.reduceMul, List.cons_beq_cons, BEq.rfl, Int.reduceToNat, Int.reduceLE, Int.reduceLT, reduceCtorEq, hn, hl]
                refine callS_exact (valid_spec v.s hv.s _) ?_
                simp (maxSteps := 1000000) (disch := omega) only [go_sem, opS_s, opS_sg, opS_b, opS_bg, ↓reduceIte, Nat.reduceAdd, Nat.reduceMul, Nat.reduceSub, Nat.reduceEqDiff, Nat.reduceLeDiff, Nat.reduceLT, Nat.reduceBEq, Int.reduceBEq, Int.reduceBNe, Int.reduceEq, Int.reduceNeg, Int.reduceAdd, Int.reduceSub, Int.reduceMul, List.cons_beq_cons, BEq.rfl, Int.reduceToNat, Int.reduceLE, Int.reduceLT, reduceCtorEq]
                refine finS_l ?_
                simp (maxSteps := 1000000) (disch := omega) only [go_sem, opS_s, opS_sg, opS_b, opS_bg, ↓reduceIte, Nat.reduceAdd, Nat.reduceMul, Nat.reduceSub, Nat.reduceEqDiff, Nat.reduceLeDiff, Nat.reduceLT, Nat.reduceBEq, Int.reduceBEq, Int.reduceBNe, Int.reduceEq, Int.reduceNeg, Int.reduceAdd, Int.reduceSub, Int.reduceMul, List.cons_beq_cons, BEq.rfl, Int.reduceToNat, Int.reduceLE, Int.reduceLT, reduceCtorEq]
                all_goals simp [valR, k1, k2, k3, hn, hl]
              · simp (maxSteps := 1000000) (disch := omega) only [go_sem, opS_s, opS_sg, opS_b, opS_bg, ↓reduceIte, Nat.reduceAdd, Nat.reduceMul, Nat.reduceSub, Nat.reduceEqDiff, Nat.reduceLeDiff, Nat.reduceLT, Nat.reduceBEq, Int.reduceBEq, Int.reduceBNe, Int.reduceEq, Int.reduceNeg, Int.reduceAdd, Int.reduceSub, Int.reduceMul, List.cons_beq_cons, BEq.rfl, Int.reduceToNat, Int.reduceLE, Int.reduceLT, reduceCtorEq, hn, hl]
                refine finS_l ?_
                simp (maxSteps := 1000000) (disch := omega) only [go_sem, opS_s, opS_sg, opS_b, opS_bg, ↓reduceIte, Nat.reduceAdd, Nat.reduceMul, Nat.reduceSub, Nat.reduceEqDiff, Nat.reduceLeDiff, Nat.reduceLT, Nat.reduceBEq, Int.reduceBEq, Int.reduceBNe, Int.reduceEq, Int.reduceNeg, Int.reduceAdd, Int.reduceSub, Int.reduceMul, List.cons_beq_cons, BEq.rfl, Int.reduceToNat, Int.reduceLE, Int.reduceLT, reduceCtorEq]
                all_goals simp [valR, k1, k2, k3, hn, hl]
            · have hn2 : (v.n == 0) = false := by simpa using hn
              simp (maxSteps := 1000000) (disch := omega) only [go_sem, opS_s, opS_sg, opS_b, opS_bg, ↓reduceIte, Nat.reduceAdd, Nat.reduceMul, Nat.reduceSub, Nat.reduceEqDiff, Nat.reduceLeDiff, Nat.reduceLT, Nat.reduceBEq, Int.reduceBEq, Int.reduceBNe, Int.reduceEq, Int.reduceNeg, Int.reduceAdd, Int.reduceSub, Int.reduceMul, List.cons_beq_cons, BEq.rfl, Int.reduceToNat, Int.reduceLE, Int.reduceLT, reduceCtorEq, hn2]
              refine finS_l ?_
              simp (maxSteps := 1000000) (disch := omega) only [go_sem, opS_s, opS_sg, opS_b, opS_bg, ↓reduceIte, Nat.reduceAdd, Nat.reduceMul, Nat.reduceSub, Nat.reduceEqDiff, Nat.reduceLeDiff, Nat.reduceLT, Nat.reduceBEq, Int.reduceBEq, Int.reduceBNe, Int.reduceEq, Int.reduceNeg, Int.reduceAdd, Int.reduceSub, Int.reduceMul, List.cons_beq_cons, BEq.rfl, Int.reduceToNat, Int.reduceLE, Int.reduceLT, reduceCtorEq]
              all_goals simp [valR, k1, k2, k3, hn]
          · simp (maxSteps := 1000000) (disch := omega) only [go_sem, opS_s, opS_sg, opS_b, opS_bg, ↓reduceIte, Nat.reduceAdd, Nat.reduceMul, Nat.reduceSub, Nat.reduceEqDiff, Nat.reduceLeDiff, Nat.reduceLT, Nat.reduceBEq, Int.reduceBEq, Int.reduceBNe, Int.reduceEq, Int.reduceNeg, Int.reduceAdd, Int.reduceSub, Int.reduceMul, List.cons_beq_cons, BEq.rfl, Int.reduceToNat, Int.reduceLE, Int.reduceLT, reduceCtorEq]
            have k3 : ¬ v.kind = 3 := by simpa using hx
            refine finS_l ?_
            simp (maxSteps := 1000000) (disch := omega) only [go_sem, opS_s, opS_sg, opS_b, opS_bg, ↓reduceIte, Nat.reduceAdd, Nat.reduceMul, Nat.reduceSub, Nat.reduceEqDiff, Nat.reduceLeDiff, Nat.reduceLT, Nat.reduceBEq, Int.reduceBEq, Int.reduceBNe, Int.reduceEq, Int.reduceNeg, Int.reduceAdd, Int.reduceSub, Int.reduceMul, List.cons_beq_cons, BEq.rfl, Int.reduceToNat, Int.reduceLE, Int.reduceLT, reduceCtorEq]
            all_goals simp [valR, k1, k2, k3, k4, k5]
end Go.Ab.S2
