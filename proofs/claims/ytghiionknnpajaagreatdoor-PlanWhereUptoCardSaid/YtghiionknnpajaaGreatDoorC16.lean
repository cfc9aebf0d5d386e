import Derived.Test.YtghiionknnpajaaGreatDoorC15
set_option linter.unusedVariables false
set_option linter.unusedSimpArgs false
namespace Go.Ab.S2
open Go.Ab
set_option maxRecDepth 100000

theorem doF_len (s : Schema) (row : Str) (time : Int) (l : List Cell) (m : Mut) : (doF s row time l m).length ≤ l.length + s.fams.length + 1 := by
  unfold doF
  split
  · have := addF_len l ⟨row, m.fam, m.qual, time, 1, m.val⟩; omega
  · split
    · have := addF_len l ⟨row, m.fam, m.qual, time - 1, 3, Value.zero⟩; omega
    · split
      · have := addF_len l ⟨row, m.fam, [], time - 1, 4, Value.zero⟩; omega
      · split
        · have := rowF_len s row time s.fams l; omega
        · omega

def cellsF (s : Schema) (q : Request) (time : Int) : List Cell × Int :=
  if chkE s q ≠ 0 then ([], chkE s q)
  else if q.kind = 3 then ([], 10)
  else if time < 1 ∨ time > 1099511627776 then ([], 18)
  else (q.muts.foldl (doF s q.row time) [], 0)

theorem chk_bounds {s : Schema} {q : Request} (h : chkE s q = 0) (h3 : q.kind ≠ 3) : s.fams.length ≤ 6 ∧ q.muts.length ≤ 8 := by
  unfold chkE at h
  split at h
  · simp at h
  · rename_i hx
    simp at hx
    obtain ⟨h1, h2⟩ := hx
    constructor
    · simp [schP] at h1
      omega
    · have hw : writeQ q = true := by
        unfold formQ at h2
        rw [if_neg h3] at h2
        split at h2
        · simp at h2; exact h2.1.1.1
        · split at h2
          · simp at h2; exact h2.1.1
          · simp at h2
      simp [writeQ] at hw
      omega

@[go_sem high] theorem Mk.put10 (s : Schema) (row : Str) : putL 10 [AV.str row] (s.e ++ [AV.str [], AV.int IntKind.i64 0, AV.vn]) = some (Mk.e s row 0 .vn) := rfl
@[go_sem high] theorem Mk.put11 (s : Schema) (row : Str) (time : Int) (o : AV) : putL 11 [AV.int IntKind.i64 time] (Mk.e s row 0 o) = some (Mk.e s row time o) := rfl
@[go_sem high] theorem Mk.set (s : Schema) (row : Str) (time : Int) (o x : AV) : (Mk.e s row time o).set 12 x = Mk.e s row time x := rfl
@[go_sem high] theorem Mk.one1 (s : Schema) (row : Str) (time : Int) : (Mk.e s row time .vn).all AV.one = true := rfl
@[go_sem high] theorem Mk.one2 (s : Schema) (row : Str) (time : Int) (l t i n : Nat) : (Mk.e s row time (.sl l t i n)).all AV.one = true := rfl
theorem H2.tkn {h : Heap} {lo lm n : Nat} {a b : AObj} (h1 : n ≤ lo) (h2 : n ≤ lm) : (H2 h lo a lm b).take n = h.take n := by
  unfold H2; rw [List.take_set_of_le h2, List.take_set_of_le h1]

theorem cells_spec (s : Schema) (q : Request) (time : Int) (hs : s.wf) (hq : q.wf) : Ans N.plan_Cells [.agg s.e, .agg q.e, .int .i64 time] (.tup [.psl ((cellsF s q time).1.map Cell.e), .int .i64 (cellsF s q time).2]) := by
  intro h
  refine spec_of ck_plan_Cells ?_
  rw [wp_start]
  simp (maxSteps := 1000000) (disch := omega) only [go_sem, opS_s, opS_sg, opS_b, opS_bg, ↓reduceIte, Nat.reduceAdd, Nat.reduceMul, Nat.reduceSub, Nat.reduceEqDiff, Nat.reduceLeDiff, Nat.reduceLT, Nat.reduceBEq, Int.reduceBEq, Int.reduceBNe, Int.reduceEq, Int.reduceNeg, Int.reduceAdd, Int.reduceSub, Int.reduceMul, List.cons_beq_cons, BEq.rfl, Int.reduceToNat, Int.reduceLE, Int.reduceLT, reduceCtorEq, F.plan_Cells]
  intro s1 s2
  refine callS_exact (check_spec s q hs hq _) ?_
  simp (maxSteps := 1000000) (disch := omega) only [go_sem, opS_s, opS_sg, opS_b, opS_bg, ↓reduceIte, Nat.reduceAdd, Nat.reduceMul, Nat.reduceSub, Nat.reduceEqDiff, Nat.reduceLeDiff, Nat.reduceLT, Nat.reduceBEq, Int.reduceBEq, Int.reduceBNe, Int.reduceEq, Int.reduceNeg, Int.reduceAdd, Int.reduceSub, Int.reduceMul, List.cons_beq_cons, BEq.rfl, Int.reduceToNat, Int.reduceLE, Int.reduceLT, reduceCtorEq]
  rw [condS_some]; refine ⟨fun hx => ?_, fun hx => ?_⟩
  · have h1 : ¬ chkE s q = 0 := by simpa using hx
    refine finS_l ?_
    simp (maxSteps := 1000000) (disch := omega) only [go_sem, opS_s, opS_sg, opS_b, opS_bg, ↓reduceIte, Nat.reduceAdd, Nat.reduceMul, Nat.reduceSub, Nat.reduceEqDiff, Nat.reduceLeDiff, Nat.reduceLT, Nat.reduceBEq, Int.reduceBEq, Int.reduceBNe, Int.reduceEq, Int.reduceNeg, Int.reduceAdd, Int.reduceSub, Int.reduceMul, List.cons_beq_cons, BEq.rfl, Int.reduceToNat, Int.reduceLE, Int.reduceLT, reduceCtorEq]
    all_goals simp [cellsF, h1]
  · have h1 : chkE s q = 0 := by simpa using hx
    simp (maxSteps := 1000000) (disch := omega) only [go_sem, opS_s, opS_sg, opS_b, opS_bg, ↓reduceIte, Nat.reduceAdd, Nat.reduceMul, Nat.reduceSub, Nat.reduceEqDiff, Nat.reduceLeDiff, Nat.reduceLT, Nat.reduceBEq, Int.reduceBEq, Int.reduceBNe, Int.reduceEq, Int.reduceNeg, Int.reduceAdd, Int.reduceSub, Int.reduceMul, List.cons_beq_cons, BEq.rfl, Int.reduceToNat, Int.reduceLE, Int.reduceLT, reduceCtorEq]
    rw [condS_some]; refine ⟨fun hx => ?_, fun hx => ?_⟩
    · have h3 : q.kind = 3 := by simpa using hx
      refine finS_l ?_
      simp (maxSteps := 1000000) (disch := omega) only [go_sem, opS_s, opS_sg, opS_b, opS_bg, ↓reduceIte, Nat.reduceAdd, Nat.reduceMul, Nat.reduceSub, Nat.reduceEqDiff, Nat.reduceLeDiff, Nat.reduceLT, Nat.reduceBEq, Int.reduceBEq, Int.reduceBNe, Int.reduceEq, Int.reduceNeg, Int.reduceAdd, Int.reduceSub, Int.reduceMul, List.cons_beq_cons, BEq.rfl, Int.reduceToNat, Int.reduceLE, Int.reduceLT, reduceCtorEq]
      all_goals simp [cellsF, h1, h3]
    · have h3 : ¬ q.kind = 3 := by simpa using hx
      simp (maxSteps := 1000000) (disch := omega) only [go_sem, opS_s, opS_sg, opS_b, opS_bg, ↓reduceIte, Nat.reduceAdd, Nat.reduceMul, Nat.reduceSub, Nat.reduceEqDiff, Nat.reduceLeDiff, Nat.reduceLT, Nat.reduceBEq, Int.reduceBEq, Int.reduceBNe, Int.reduceEq, Int.reduceNeg, Int.reduceAdd, Int.reduceSub, Int.reduceMul, List.cons_beq_cons, BEq.rfl, Int.reduceToNat, Int.reduceLE, Int.reduceLT, reduceCtorEq]
      rw [condS_some]; refine ⟨fun hx => ?_, fun hx => ?_⟩
      · have h4 : time < 1 ∨ 1099511627776 < time := by simpa using hx
        refine finS_l ?_
        simp (maxSteps := 1000000) (disch := omega) only [go_sem, opS_s, opS_sg, opS_b, opS_bg, ↓reduceIte, Nat.reduceAdd, Nat.reduceMul, Nat.reduceSub, Nat.reduceEqDiff, Nat.reduceLeDiff, Nat.reduceLT, Nat.reduceBEq, Int.reduceBEq, Int.reduceBNe, Int.reduceEq, Int.reduceNeg, Int.reduceAdd, Int.reduceSub, Int.reduceMul, List.cons_beq_cons, BEq.rfl, Int.reduceToNat, Int.reduceLE, Int.reduceLT, reduceCtorEq]
        all_goals simp [cellsF, h1, h3, h4]
      · have h4 : ¬ (time < 1 ∨ 1099511627776 < time) := by simpa using hx
        simp (maxSteps := 1000000) (disch := omega) only [go_sem, opS_s, opS_sg, opS_b, opS_bg, ↓reduceIte, Nat.reduceAdd, Nat.reduceMul, Nat.reduceSub, Nat.reduceEqDiff, Nat.reduceLeDiff, Nat.reduceLT, Nat.reduceBEq, Int.reduceBEq, Int.reduceBNe, Int.reduceEq, Int.reduceNeg, Int.reduceAdd, Int.reduceSub, Int.reduceMul, List.cons_beq_cons, BEq.rfl, Int.reduceToNat, Int.reduceLE, Int.reduceLT, reduceCtorEq]
        intro so sm
        obtain ⟨hfs, hms⟩ := chk_bounds h1 h3
        generalize hH : h ++ [AObj.arr s1 0 10 [s.e], AObj.arr s2 0 16 [q.e], AObj.arr so 0 8 [], AObj.arr sm 0 13 [Mk.e s q.row time (AV.sl (h.length + 2) so 0 0)]] = H
        have hHl : H.length = h.length + 4 := by rw [← hH]; simp
        have hHt : H.take h.length = h := by rw [← hH]; simp
        have hlo : h.length + 2 < H.length := by omega
        have hlm : h.length + 3 < H.length := by omega
        have hne : h.length + 2 ≠ h.length + 3 := by omega
        have hsame : H2 H (h.length + 2) (.arr so 0 8 []) (h.length + 3) (.arr sm 0 13 [Mk.e s q.row time (.sl (h.length + 2) so 0 0)]) = H := H2.same (by rw [← hH]; simp) (by rw [← hH]; simp)
        have e1 := @H2.glo H _ _ hlo hlm hne
        have e2 := @H2.glor H _ _ hlo hlm hne
        have e3 := @H2.glm H _ _ hlo hlm hne
        have e4 := @H2.glmr H _ _ hlo hlm hne
        refine loopS_list q.muts (fun pre (e : List Cell × Nat) => ⟨[(9, .ptr (h.length + 3) sm 0 0), (38, .psl (q.muts.map Mut.e)), (39, .int .i64 q.muts.length), (40, .int .i64 pre.length)], H2 H (h.length + 2) (.arr e.2 0 8 (e.1.map Cell.e)) (h.length + 3) (.arr sm 0 13 [Mk.e s q.row time (.sl (h.length + 2) e.2 0 e.1.length)])⟩) (fun pre post e => q.muts.foldl (doF s q.row time) [] = post.foldl (doF s q.row time) e.1 ∧ e.1.length + post.length * 7 ≤ 56) ([], so) ?_ ⟨rfl, by simp; omega⟩ ?_
        · simp (maxSteps := 1000000) (disch := omega) only [go_sem, opS_s, opS_sg, opS_b, opS_bg, ↓reduceIte, Nat.reduceAdd, Nat.reduceMul, Nat.reduceSub, Nat.reduceEqDiff, Nat.reduceLeDiff, Nat.reduceLT, Nat.reduceBEq, Int.reduceBEq, Int.reduceBNe, Int.reduceEq, Int.reduceNeg, Int.reduceAdd, Int.reduceSub, Int.reduceMul, List.cons_beq_cons, BEq.rfl, Int.reduceToNat, Int.reduceLE, Int.reduceLT, reduceCtorEq, hsame]
          rfl
        · rintro pre post ⟨l2, so2⟩ hpp ⟨hJ, hJl⟩
          simp only at hJ hJl ⊢
          cases post with
          | nil =>
            simp (maxSteps := 1000000) (disch := omega) only [go_sem, opS_s, opS_sg, opS_b, opS_bg, ↓reduceIte, Nat.reduceAdd, Nat.reduceMul, Nat.reduceSub, Nat.reduceEqDiff, Nat.reduceLeDiff, Nat.reduceLT, Nat.reduceBEq, Int.reduceBEq, Int.reduceBNe, Int.reduceEq, Int.reduceNeg, Int.reduceAdd, Int.reduceSub, Int.reduceMul, List.cons_beq_cons, BEq.rfl, Int.reduceToNat, Int.reduceLE, Int.reduceLT, reduceCtorEq, nl0 hpp, e1, e3]
            refine finS_l ?_
            have ht : ∀ a b, (H2 H (h.length + 2) a (h.length + 3) b).take h.length = h := fun a b => by rw [H2.tkn (by omega) (by omega), hHt]
            have e5 := @H2.slo H _ _ hlo hlm hne
            simp (maxSteps := 1000000) (disch := omega) only [go_sem, opS_s, opS_sg, opS_b, opS_bg, ↓reduceIte, Nat.reduceAdd, Nat.reduceMul, Nat.reduceSub, Nat.reduceEqDiff, Nat.reduceLeDiff, Nat.reduceLT, Nat.reduceBEq, Int.reduceBEq, Int.reduceBNe, Int.reduceEq, Int.reduceNeg, Int.reduceAdd, Int.reduceSub, Int.reduceMul, List.cons_beq_cons, BEq.rfl, Int.reduceToNat, Int.reduceLE, Int.reduceLT, reduceCtorEq, e1, e3, e5, ht]
            simp [cellsF, h1, h3, h4, hJ]
          | cons x post =>
            have hn := nl hpp
            simp only [List.length_cons] at hJl
            simp (maxSteps := 1000000) (disch := omega) only [go_sem, opS_s, opS_sg, opS_b, opS_bg, ↓reduceIte, Nat.reduceAdd, Nat.reduceMul, Nat.reduceSub, Nat.reduceEqDiff, Nat.reduceLeDiff, Nat.reduceLT, Nat.reduceBEq, Int.reduceBEq, Int.reduceBNe, Int.reduceEq, Int.reduceNeg, Int.reduceAdd, Int.reduceSub, Int.reduceMul, List.cons_beq_cons, BEq.rfl, Int.reduceToNat, Int.reduceLE, Int.reduceLT, reduceCtorEq, gml Mut.e hpp, hn, e4]
            intro s4
            try simp (maxSteps := 1000000) (disch := omega) only [go_sem, opS_s, opS_sg, opS_b, opS_bg, ↓reduceIte, Nat.reduceAdd, Nat.reduceMul, Nat.reduceSub, Nat.reduceEqDiff, Nat.reduceLeDiff, Nat.reduceLT, Nat.reduceBEq, Int.reduceBEq, Int.reduceBNe, Int.reduceEq, Int.reduceNeg, Int.reduceAdd, Int.reduceSub, Int.reduceMul, List.cons_beq_cons, BEq.rfl, Int.reduceToNat, Int.reduceLE, Int.reduceLT, reduceCtorEq, e1, e2, e3, e4]
            rw [H2.app hlo hlm]
            refine callS_any (do_spec s q.row time l2 x hs _ (h.length + 2) (h.length + 3) so2 sm (by simp; omega) (by simp; omega) hne (by omega) (by omega) (by omega)) ?_
            rintro _ _ ⟨rfl, so', rfl⟩
            rw [← H2.app hlo hlm]
            simp (maxSteps := 1000000) (disch := omega) only [go_sem, opS_s, opS_sg, opS_b, opS_bg, ↓reduceIte, Nat.reduceAdd, Nat.reduceMul, Nat.reduceSub, Nat.reduceEqDiff, Nat.reduceLeDiff, Nat.reduceLT, Nat.reduceBEq, Int.reduceBEq, Int.reduceBNe, Int.reduceEq, Int.reduceNeg, Int.reduceAdd, Int.reduceSub, Int.reduceMul, List.cons_beq_cons, BEq.rfl, Int.reduceToNat, Int.reduceLE, Int.reduceLT, reduceCtorEq, onRet_ret]
            refine lp_next H.length (doF s q.row time l2 x, so') hpp ?_ ?_ ?_
            · refine ⟨hJ, ?_⟩
              have := doF_len s q.row time l2 x
              simp only; omega
            · simp (maxSteps := 1000000) (disch := omega) only [go_sem, opS_s, opS_sg, opS_b, opS_bg, ↓reduceIte, Nat.reduceAdd, Nat.reduceMul, Nat.reduceSub, Nat.reduceEqDiff, Nat.reduceLeDiff, Nat.reduceLT, Nat.reduceBEq, Int.reduceBEq, Int.reduceBNe, Int.reduceEq, Int.reduceNeg, Int.reduceAdd, Int.reduceSub, Int.reduceMul, List.cons_beq_cons, BEq.rfl, Int.reduceToNat, Int.reduceLE, Int.reduceLT, reduceCtorEq, wrap64, Int.natCast_add, Int.cast_ofNat_Int, Int.natCast_one, hn]
            · simp (maxSteps := 1000000) (disch := omega) only [go_sem, opS_s, opS_sg, opS_b, opS_bg, ↓reduceIte, Nat.reduceAdd, Nat.reduceMul, Nat.reduceSub, Nat.reduceEqDiff, Nat.reduceLeDiff, Nat.reduceLT, Nat.reduceBEq, Int.reduceBEq, Int.reduceBNe, Int.reduceEq, Int.reduceNeg, Int.reduceAdd, Int.reduceSub, Int.reduceMul, List.cons_beq_cons, BEq.rfl, Int.reduceToNat, Int.reduceLE, Int.reduceLT, reduceCtorEq]
end Go.Ab.S2
