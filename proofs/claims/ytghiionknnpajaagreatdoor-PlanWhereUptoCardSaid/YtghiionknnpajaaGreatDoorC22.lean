/- PlanWhere answers true. -/
import Derived.Test.YtghiionknnpajaaGreatDoorC21
set_option linter.unusedVariables false
set_option linter.unusedSimpArgs false
namespace Go.Ab.S2
open Go.Ab
set_option maxRecDepth 100000

theorem find_lays (s : Schema) (l : List Cell) (c : Cell) (hc : c ∈ l) : ((laysF s l).find? fun x => x.fam == c.fam) = (findF s c.fam).map fun f => ⟨f.name, f.layouts⟩ := by
  unfold laysF findF
  rw [List.find?_map]
  congr 1
  induction s.fams with
  | nil => rfl
  | cons f r ih =>
    rw [List.filter_cons]
    by_cases hf : f.name == c.fam
    · have : layF l f = true := by
        unfold layF
        rw [List.any_eq_true]
        refine ⟨c, hc, ?_⟩
        simp at hf ⊢
        exact hf.symm
      rw [this]
      simp [List.find?_cons, hf]
    · have hf' : (f.name == c.fam) = false := by simpa using hf
      split
      · simp only [List.find?_cons, Function.comp, hf'] at ih ⊢
        exact ih
      · simp only [List.find?_cons, hf'] at ih ⊢
        exact ih

theorem famsOk_mem : ∀ {p r : List Family}, famsOk p r = true → ∀ f ∈ r, famR f = true
  | _, [], _, f, hf => by simp at hf
  | p, g :: r, h, f, hf => by
    simp only [famsOk, Bool.and_eq_true] at h
    rcases List.mem_cons.1 hf with rfl | hf
    · exact h.1.1
    · exact famsOk_mem h.2 f hf
theorem layOk_mem {g : Int} : ∀ {i : Nat} {r : List Layout}, layOk g i r = true → ∀ x ∈ r, 1 ≤ x.state ∧ x.state ≤ 3
  | _, [], _, x, hx => by simp at hx
  | i, y :: r, h, x, hx => by
    simp only [layOk, Bool.and_eq_true] at h
    rcases List.mem_cons.1 hx with rfl | hx
    · have := h.1
      simp [layBad] at this
      omega
    · exact layOk_mem h.2 x hx

theorem where_law {s : Schema} {l : List Cell} {c : Cell} (hs : schR s = true) (hc : c ∈ l) (hl : ∀ f ∈ s.fams, True) :
    (findF s c.fam = none → targetsF (laysF s l) { c with kind := 1 } = [] ∧ targetsF (laysF s l) { c with kind := 4 } = []) ∧
    (∀ f, findF s c.fam = some f → (targetsF (laysF s l) { c with kind := 4 }).length = f.layouts.length ∧ (∀ g ∈ targetsF (laysF s l) { c with kind := 1 }, g ∈ targetsF (laysF s l) { c with kind := 4 }) ∧
      ∀ x, readF f = some x → x.group ∈ targetsF (laysF s l) { c with kind := 1 }) := by
  have hfl := find_lays s l c hc
  refine ⟨fun h => ?_, fun f h => ?_⟩
  · rw [h] at hfl
    simp [targetsF, hfl]
  · rw [h] at hfl
    have hmem : f ∈ s.fams := List.mem_of_find?_eq_some h
    simp only [schR, Bool.and_eq_true] at hs
    have hf := famsOk_mem hs.1.2 f hmem
    simp only [famR, Bool.and_eq_true] at hf
    have hst := layOk_mem hf.1.1.2
    have hall : f.layouts.filter (fun l => l.state != 0) = f.layouts := List.filter_eq_self.2 fun x hx => by have := hst x hx; simp; omega
    simp only [targetsF, hfl, Option.map_some, if_true]
    rw [if_neg (by decide), hall]
    refine ⟨by simp, fun g hg => ?_, fun x hx => ?_⟩
    · obtain ⟨y, hy, rfl⟩ := List.mem_map.1 hg
      exact List.mem_map.2 ⟨y, (List.mem_filter.1 hy).1, rfl⟩
    · have h1 := List.mem_of_find?_eq_some hx
      have h2 := List.find?_some hx
      refine List.mem_map.2 ⟨x, List.mem_filter.2 ⟨h1, ?_⟩, rfl⟩
      simp at h2
      simp [inG, h2]

theorem where_spec (s : Schema) (l : List Cell) (hs : s.wf) (hl : l.length < 1000000000) : Ans N.joistlaw16_PlanWhere [.agg s.e, .psl (l.map Cell.e)] (.bool true) := by
  intro h
  refine spec_of ck_joistlaw16_PlanWhere ?_
  rw [wp_start]
  simp (maxSteps := 1000000) (disch := omega) only [go_sem, opS_s, opS_sg, opS_b, opS_bg, ↓reduceIte, Nat.reduceAdd, Nat.reduceMul, Nat.reduceSub, Nat.reduceEqDiff, Nat.reduceLeDiff, Nat.reduceLT, Nat.reduceBEq, Int.reduceBEq, Int.reduceBNe, Int.reduceEq, Int.reduceNeg, Int.reduceAdd, Int.reduceSub, Int.reduceMul, List.cons_beq_cons, BEq.rfl, Int.reduceToNat, Int.reduceLE, Int.reduceLT, reduceCtorEq, F.joistlaw16_PlanWhere]
  intro s1
  refine callS_exact (alive_spec _) ?_
  simp (maxSteps := 1000000) (disch := omega) only [go_sem, opS_s, opS_sg, opS_b, opS_bg, ↓reduceIte, Nat.reduceAdd, Nat.reduceMul, Nat.reduceSub, Nat.reduceEqDiff, Nat.reduceLeDiff, Nat.reduceLT, Nat.reduceBEq, Int.reduceBEq, Int.reduceBNe, Int.reduceEq, Int.reduceNeg, Int.reduceAdd, Int.reduceSub, Int.reduceMul, List.cons_beq_cons, BEq.rfl, Int.reduceToNat, Int.reduceLE, Int.reduceLT, reduceCtorEq]
  refine callS_exact (longSchema_spec s _) ?_
  simp (maxSteps := 1000000) (disch := omega) only [go_sem, opS_s, opS_sg, opS_b, opS_bg, ↓reduceIte, Nat.reduceAdd, Nat.reduceMul, Nat.reduceSub, Nat.reduceEqDiff, Nat.reduceLeDiff, Nat.reduceLT, Nat.reduceBEq, Int.reduceBEq, Int.reduceBNe, Int.reduceEq, Int.reduceNeg, Int.reduceAdd, Int.reduceSub, Int.reduceMul, List.cons_beq_cons, BEq.rfl, Int.reduceToNat, Int.reduceLE, Int.reduceLT, reduceCtorEq]
  cases hL : longSchema s with
  | true =>
    simp (maxSteps := 1000000) (disch := omega) only [go_sem, opS_s, opS_sg, opS_b, opS_bg, ↓reduceIte, Nat.reduceAdd, Nat.reduceMul, Nat.reduceSub, Nat.reduceEqDiff, Nat.reduceLeDiff, Nat.reduceLT, Nat.reduceBEq, Int.reduceBEq, Int.reduceBNe, Int.reduceEq, Int.reduceNeg, Int.reduceAdd, Int.reduceSub, Int.reduceMul, List.cons_beq_cons, BEq.rfl, Int.reduceToNat, Int.reduceLE, Int.reduceLT, reduceCtorEq, hL]
    refine finS_l ?_
    simp (maxSteps := 1000000) (disch := omega) only [go_sem, opS_s, opS_sg, opS_b, opS_bg, ↓reduceIte, Nat.reduceAdd, Nat.reduceMul, Nat.reduceSub, Nat.reduceEqDiff, Nat.reduceLeDiff, Nat.reduceLT, Nat.reduceBEq, Int.reduceBEq, Int.reduceBNe, Int.reduceEq, Int.reduceNeg, Int.reduceAdd, Int.reduceSub, Int.reduceMul, List.cons_beq_cons, BEq.rfl, Int.reduceToNat, Int.reduceLE, Int.reduceLT, reduceCtorEq]
    all_goals simp []
  | false =>
    simp (maxSteps := 1000000) (disch := omega) only [go_sem, opS_s, opS_sg, opS_b, opS_bg, ↓reduceIte, Nat.reduceAdd, Nat.reduceMul, Nat.reduceSub, Nat.reduceEqDiff, Nat.reduceLeDiff, Nat.reduceLT, Nat.reduceBEq, Int.reduceBEq, Int.reduceBNe, Int.reduceEq, Int.reduceNeg, Int.reduceAdd, Int.reduceSub, Int.reduceMul, List.cons_beq_cons, BEq.rfl, Int.reduceToNat, Int.reduceLE, Int.reduceLT, reduceCtorEq, hL]
    refine callS_exact (longCells_spec l 60 (by omega) _) ?_
    cases hC : longCells l 60 with
    | true =>
      simp (maxSteps := 1000000) (disch := omega) only [go_sem, opS_s, opS_sg, opS_b, opS_bg, ↓reduceIte, Nat.reduceAdd, Nat.reduceMul, Nat.reduceSub, Nat.reduceEqDiff, Nat.reduceLeDiff, Nat.reduceLT, Nat.reduceBEq, Int.reduceBEq, Int.reduceBNe, Int.reduceEq, Int.reduceNeg, Int.reduceAdd, Int.reduceSub, Int.reduceMul, List.cons_beq_cons, BEq.rfl, Int.reduceToNat, Int.reduceLE, Int.reduceLT, reduceCtorEq, hC]
      refine finS_l ?_
      simp (maxSteps := 1000000) (disch := omega) only [go_sem, opS_s, opS_sg, opS_b, opS_bg, ↓reduceIte, Nat.reduceAdd, Nat.reduceMul, Nat.reduceSub, Nat.reduceEqDiff, Nat.reduceLeDiff, Nat.reduceLT, Nat.reduceBEq, Int.reduceBEq, Int.reduceBNe, Int.reduceEq, Int.reduceNeg, Int.reduceAdd, Int.reduceSub, Int.reduceMul, List.cons_beq_cons, BEq.rfl, Int.reduceToNat, Int.reduceLE, Int.reduceLT, reduceCtorEq]
      all_goals simp []
    | false =>
      simp (maxSteps := 1000000) (disch := omega) only [go_sem, opS_s, opS_sg, opS_b, opS_bg, ↓reduceIte, Nat.reduceAdd, Nat.reduceMul, Nat.reduceSub, Nat.reduceEqDiff, Nat.reduceLeDiff, Nat.reduceLT, Nat.reduceBEq, Int.reduceBEq, Int.reduceBNe, Int.reduceEq, Int.reduceNeg, Int.reduceAdd, Int.reduceSub, Int.reduceMul, List.cons_beq_cons, BEq.rfl, Int.reduceToNat, Int.reduceLE, Int.reduceLT, reduceCtorEq, hC]
      refine callS_exact (right14_spec s hs _) ?_
      cases hR : schR s with
      | false =>
        simp (maxSteps := 1000000) (disch := omega) only [go_sem, opS_s, opS_sg, opS_b, opS_bg, ↓reduceIte, Nat.reduceAdd, Nat.reduceMul, Nat.reduceSub, Nat.reduceEqDiff, Nat.reduceLeDiff, Nat.reduceLT, Nat.reduceBEq, Int.reduceBEq, Int.reduceBNe, Int.reduceEq, Int.reduceNeg, Int.reduceAdd, Int.reduceSub, Int.reduceMul, List.cons_beq_cons, BEq.rfl, Int.reduceToNat, Int.reduceLE, Int.reduceLT, reduceCtorEq, hR]
        refine finS_l ?_
        simp (maxSteps := 1000000) (disch := omega) only [go_sem, opS_s, opS_sg, opS_b, opS_bg, ↓reduceIte, Nat.reduceAdd, Nat.reduceMul, Nat.reduceSub, Nat.reduceEqDiff, Nat.reduceLeDiff, Nat.reduceLT, Nat.reduceBEq, Int.reduceBEq, Int.reduceBNe, Int.reduceEq, Int.reduceNeg, Int.reduceAdd, Int.reduceSub, Int.reduceMul, List.cons_beq_cons, BEq.rfl, Int.reduceToNat, Int.reduceLE, Int.reduceLT, reduceCtorEq]
        all_goals simp []
      | true =>
        simp (maxSteps := 1000000) (disch := omega) only [go_sem, opS_s, opS_sg, opS_b, opS_bg, ↓reduceIte, Nat.reduceAdd, Nat.reduceMul, Nat.reduceSub, Nat.reduceEqDiff, Nat.reduceLeDiff, Nat.reduceLT, Nat.reduceBEq, Int.reduceBEq, Int.reduceBNe, Int.reduceEq, Int.reduceNeg, Int.reduceAdd, Int.reduceSub, Int.reduceMul, List.cons_beq_cons, BEq.rfl, Int.reduceToNat, Int.reduceLE, Int.reduceLT, reduceCtorEq, hR]
        refine callS_exact (playouts_spec s l hs (by omega) _) ?_
        simp (maxSteps := 1000000) (disch := omega) only [go_sem, opS_s, opS_sg, opS_b, opS_bg, ↓reduceIte, Nat.reduceAdd, Nat.reduceMul, Nat.reduceSub, Nat.reduceEqDiff, Nat.reduceLeDiff, Nat.reduceLT, Nat.reduceBEq, Int.reduceBEq, Int.reduceBNe, Int.reduceEq, Int.reduceNeg, Int.reduceAdd, Int.reduceSub, Int.reduceMul, List.cons_beq_cons, BEq.rfl, Int.reduceToNat, Int.reduceLE, Int.reduceLT, reduceCtorEq]
        have hYl : (laysF s l).length < 1099511627776 := by
          have h1 := hs.fams
          have h2 := List.length_filter_le (layF l) s.fams
          simp only [laysF, List.length_map]
          omega
        have hYw : ∀ x ∈ laysF s l, x.layouts.length < 1099511627776 := by
          intro x hx
          simp only [laysF, List.mem_map, List.mem_filter] at hx
          obtain ⟨f, ⟨hf, -⟩, rfl⟩ := hx
          exact (hs.fam f hf).lays
        refine loopS_list l (fun pre (_ : Unit) => ⟨[(1, .psl (l.map Cell.e)), (2, .ptr h.length s1 0 0), (5, .psl ((laysF s l).map Layouted.e)), (6, .int .i64 pre.length)], h ++ [.arr s1 0 10 [s.e]]⟩) (fun _ _ _ => True) () rfl trivial ?_
        rintro pre post ⟨⟩ hpp hJ
        cases post with
        | nil =>
          have hn := nl0 hpp
          simp (maxSteps := 1000000) (disch := omega) only [go_sem, opS_s, opS_sg, opS_b, opS_bg, ↓reduceIte, Nat.reduceAdd, Nat.reduceMul, Nat.reduceSub, Nat.reduceEqDiff, Nat.reduceLeDiff, Nat.reduceLT, Nat.reduceBEq, Int.reduceBEq, Int.reduceBNe, Int.reduceEq, Int.reduceNeg, Int.reduceAdd, Int.reduceSub, Int.reduceMul, List.cons_beq_cons, BEq.rfl, Int.reduceToNat, Int.reduceLE, Int.reduceLT, reduceCtorEq, hn]
          refine finS_l ?_
          simp (maxSteps := 1000000) (disch := omega) only [go_sem, opS_s, opS_sg, opS_b, opS_bg, ↓reduceIte, Nat.reduceAdd, Nat.reduceMul, Nat.reduceSub, Nat.reduceEqDiff, Nat.reduceLeDiff, Nat.reduceLT, Nat.reduceBEq, Int.reduceBEq, Int.reduceBNe, Int.reduceEq, Int.reduceNeg, Int.reduceAdd, Int.reduceSub, Int.reduceMul, List.cons_beq_cons, BEq.rfl, Int.reduceToNat, Int.reduceLE, Int.reduceLT, reduceCtorEq]
          all_goals simp []
        | cons x post =>
          have hn := nl hpp
          have hxl : x ∈ l := by simp [hpp]
          have hw := where_law hR hxl (fun _ _ => trivial)
          simp (maxSteps := 1000000) (disch := omega) only [go_sem, opS_s, opS_sg, opS_b, opS_bg, ↓reduceIte, Nat.reduceAdd, Nat.reduceMul, Nat.reduceSub, Nat.reduceEqDiff, Nat.reduceLeDiff, Nat.reduceLT, Nat.reduceBEq, Int.reduceBEq, Int.reduceBNe, Int.reduceEq, Int.reduceNeg, Int.reduceAdd, Int.reduceSub, Int.reduceMul, List.cons_beq_cons, BEq.rfl, Int.reduceToNat, Int.reduceLE, Int.reduceLT, reduceCtorEq, gml Cell.e hpp, hn]
          intro s2 s3
          refine callS_exact (ptargets_spec (laysF s l) { x with kind := 1 } hYl hYw _) ?_
          simp (maxSteps := 1000000) (disch := omega) only [go_sem, opS_s, opS_sg, opS_b, opS_bg, ↓reduceIte, Nat.reduceAdd, Nat.reduceMul, Nat.reduceSub, Nat.reduceEqDiff, Nat.reduceLeDiff, Nat.reduceLT, Nat.reduceBEq, Int.reduceBEq, Int.reduceBNe, Int.reduceEq, Int.reduceNeg, Int.reduceAdd, Int.reduceSub, Int.reduceMul, List.cons_beq_cons, BEq.rfl, Int.reduceToNat, Int.reduceLE, Int.reduceLT, reduceCtorEq]
          refine callS_exact (ptargets_spec (laysF s l) { x with kind := 4 } hYl hYw _) ?_
          have hF1 : (findF s x.fam).isSome = false → ((targetsF (laysF s l) { x with kind := 1 }).length : Int) + ((targetsF (laysF s l) { x with kind := 4 }).length : Int) = 0 := by
            intro hn
            obtain ⟨e1, e2⟩ := hw.1 (by simpa using hn)
            rw [e1, e2]; rfl
          have hF2 : (targetsF (laysF s l) { x with kind := 4 }).length = ((findF s x.fam).getD Family.zero).layouts.length := by
            cases hF : findF s x.fam with
            | none => rw [(hw.1 hF).2]; rfl
            | some f => exact (hw.2 f hF).1
          have hF3 : ∀ g ∈ targetsF (laysF s l) { x with kind := 1 }, g ∈ targetsF (laysF s l) { x with kind := 4 } := by
            cases hF : findF s x.fam with
            | none => rw [(hw.1 hF).1]; simp
            | some f => exact (hw.2 f hF).2.1
          have hF4 : ∀ y, readF ((findF s x.fam).getD Family.zero) = some y → y.group ∈ targetsF (laysF s l) { x with kind := 1 } := by
            cases hF : findF s x.fam with
            | none => intro y hy; simp [Family.zero, readF] at hy
            | some f => exact (hw.2 f hF).2.2
          have hF5 := (findF_lays hs x.fam).1
          have hB : (targetsF (laysF s l) { x with kind := 4 }).length < 1099511627776 := by omega
          have hA : (targetsF (laysF s l) { x with kind := 1 }).length < 1099511627776 := by
            unfold targetsF
            split
            · simp
            · rename_i y hf
              have hxl := hYw y (List.mem_of_find?_eq_some hf)
              split
              · rw [List.length_map]; exact Nat.lt_of_le_of_lt (List.length_filter_le _ _) hxl
              · rw [List.length_map]; exact Nat.lt_of_le_of_lt (List.length_filter_le _ _) hxl
          generalize targetsF (laysF s l) { x with kind := 1 } = A at hw hF1 hF2 hF3 hF4 hB hA ⊢
          generalize targetsF (laysF s l) { x with kind := 4 } = Bt at hw hF1 hF2 hF3 hF4 hB hA ⊢
          simp (maxSteps := 1000000) (disch := omega) only [go_sem, opS_s, opS_sg, opS_b, opS_bg, ↓reduceIte, Nat.reduceAdd, Nat.reduceMul, Nat.reduceSub, Nat.reduceEqDiff, Nat.reduceLeDiff, Nat.reduceLT, Nat.reduceBEq, Int.reduceBEq, Int.reduceBNe, Int.reduceEq, Int.reduceNeg, Int.reduceAdd, Int.reduceSub, Int.reduceMul, List.cons_beq_cons, BEq.rfl, Int.reduceToNat, Int.reduceLE, Int.reduceLT, reduceCtorEq, gml Cell.e hpp]
          refine callS_exact (find_spec s x.fam hs _) ?_
          generalize (findF s x.fam).isSome = th at hF1 ⊢
          generalize (findF s x.fam).getD Family.zero = F at hF2 hF4 hF5 ⊢
          simp (maxSteps := 1000000) (disch := omega) only [go_sem, opS_s, opS_sg, opS_b, opS_bg, ↓reduceIte, Nat.reduceAdd, Nat.reduceMul, Nat.reduceSub, Nat.reduceEqDiff, Nat.reduceLeDiff, Nat.reduceLT, Nat.reduceBEq, Int.reduceBEq, Int.reduceBNe, Int.reduceEq, Int.reduceNeg, Int.reduceAdd, Int.reduceSub, Int.reduceMul, List.cons_beq_cons, BEq.rfl, Int.reduceToNat, Int.reduceLE, Int.reduceLT, reduceCtorEq, gml Cell.e hpp]
          intro s4
          refine callS_exact (read_spec F hF5 _) ?_
          have hn4 : (readF F).isSome = true → (((readF F).map Layout.group).getD 0) ∈ A := by
            cases hr : readF F with
            | none => simp
            | some y => intro _; exact hF4 y hr
          generalize (readF F).isSome = rd at hn4 ⊢
          generalize ((readF F).map Layout.group).getD 0 = n at hn4 ⊢
          simp (maxSteps := 1000000) (disch := omega) only [go_sem, opS_s, opS_sg, opS_b, opS_bg, ↓reduceIte, Nat.reduceAdd, Nat.reduceMul, Nat.reduceSub, Nat.reduceEqDiff, Nat.reduceLeDiff, Nat.reduceLT, Nat.reduceBEq, Int.reduceBEq, Int.reduceBNe, Int.reduceEq, Int.reduceNeg, Int.reduceAdd, Int.reduceSub, Int.reduceMul, List.cons_beq_cons, BEq.rfl, Int.reduceToNat, Int.reduceLE, Int.reduceLT, reduceCtorEq]
          rw [condS_some]; refine ⟨fun hx => ?_, fun hx => ?_⟩
          · exfalso
            have hne : ((Bt.length : Int) != (F.layouts.length : Int)) = false := by rw [hF2]; simp
            rw [hne, Bool.or_false] at hx
            simp only [Bool.and_eq_true, Bool.not_eq_true', decide_eq_true_eq] at hx
            obtain ⟨h1, h2⟩ := hx
            rw [hF1 h1] at h2
            exact absurd h2 (by decide)
          · clear hx
            simp (maxSteps := 1000000) (disch := omega) only [go_sem, opS_s, opS_sg, opS_b, opS_bg, ↓reduceIte, Nat.reduceAdd, Nat.reduceMul, Nat.reduceSub, Nat.reduceEqDiff, Nat.reduceLeDiff, Nat.reduceLT, Nat.reduceBEq, Int.reduceBEq, Int.reduceBNe, Int.reduceEq, Int.reduceNeg, Int.reduceAdd, Int.reduceSub, Int.reduceMul, List.cons_beq_cons, BEq.rfl, Int.reduceToNat, Int.reduceLE, Int.reduceLT, reduceCtorEq]
            refine loopS_list A (fun pre2 (hit : Bool) => ⟨[(1, .psl (l.map Cell.e)), (2, .ptr h.length s1 0 0), (5, .psl ((laysF s l).map Layouted.e)), (6, .int .i64 pre.length), (9, .psl (ints A)), (10, .psl (ints Bt)), (13, .int .i64 n), (15, .bool hit), (16, .int .i64 pre2.length)], h ++ [.arr s1 0 10 [s.e], .arr s2 0 8 [({ x with kind := 1 } : Cell).e], .arr s3 0 8 [({ x with kind := 4 } : Cell).e], .arr s4 0 5 [F.e]]⟩) (fun pre2 _ hit => hit = (!rd || pre2.any (fun y => y == n))) (!rd) rfl (by simp) ?_
            rintro pre2 post2 hit hpp2 hJ2
            cases post2 with
            | nil =>
              have hn2 := nl0 hpp2
              simp only [List.append_nil] at hpp2
              have hit1 : hit = true := by
                rw [hJ2, ← hpp2]
                cases hrd : rd with
                | false => rfl
                | true =>
                  simp only [Bool.not_true, Bool.false_or, List.any_eq_true, beq_iff_eq]
                  exact ⟨n, hn4 hrd, rfl⟩
              simp (maxSteps := 1000000) (disch := omega) only [go_sem, opS_s, opS_sg, opS_b, opS_bg, ↓reduceIte, Nat.reduceAdd, Nat.reduceMul, Nat.reduceSub, Nat.reduceEqDiff, Nat.reduceLeDiff, Nat.reduceLT, Nat.reduceBEq, Int.reduceBEq, Int.reduceBNe, Int.reduceEq, Int.reduceNeg, Int.reduceAdd, Int.reduceSub, Int.reduceMul, List.cons_beq_cons, BEq.rfl, Int.reduceToNat, Int.reduceLE, Int.reduceLT, reduceCtorEq, hn2, hit1]
              refine lp_next (h.length + 1) () hpp trivial ?_ ?_
              · simp (maxSteps := 1000000) (disch := omega) only [go_sem, opS_s, opS_sg, opS_b, opS_bg, ↓reduceIte, Nat.reduceAdd, Nat.reduceMul, Nat.reduceSub, Nat.reduceEqDiff, Nat.reduceLeDiff, Nat.reduceLT, Nat.reduceBEq, Int.reduceBEq, Int.reduceBNe, Int.reduceEq, Int.reduceNeg, Int.reduceAdd, Int.reduceSub, Int.reduceMul, List.cons_beq_cons, BEq.rfl, Int.reduceToNat, Int.reduceLE, Int.reduceLT, reduceCtorEq, wrap64, Int.natCast_add, Int.cast_ofNat_Int, Int.natCast_one, hn]
              · simp (maxSteps := 1000000) (disch := omega) only [go_sem, opS_s, opS_sg, opS_b, opS_bg, ↓reduceIte, Nat.reduceAdd, Nat.reduceMul, Nat.reduceSub, Nat.reduceEqDiff, Nat.reduceLeDiff, Nat.reduceLT, Nat.reduceBEq, Int.reduceBEq, Int.reduceBNe, Int.reduceEq, Int.reduceNeg, Int.reduceAdd, Int.reduceSub, Int.reduceMul, List.cons_beq_cons, BEq.rfl, Int.reduceToNat, Int.reduceLE, Int.reduceLT, reduceCtorEq]
            | cons y post2 =>
              have hn2 := nl hpp2
              have hyB : Bt.any (fun z => y == z) = true := by
                rw [List.any_eq_true]
                exact ⟨y, hF3 y (by simp [hpp2]), by simp⟩
              simp (maxSteps := 1000000) (disch := omega) only [go_sem, opS_s, opS_sg, opS_b, opS_bg, ↓reduceIte, Nat.reduceAdd, Nat.reduceMul, Nat.reduceSub, Nat.reduceEqDiff, Nat.reduceLeDiff, Nat.reduceLT, Nat.reduceBEq, Int.reduceBEq, Int.reduceBNe, Int.reduceEq, Int.reduceNeg, Int.reduceAdd, Int.reduceSub, Int.reduceMul, List.cons_beq_cons, BEq.rfl, Int.reduceToNat, Int.reduceLE, Int.reduceLT, reduceCtorEq, gints hpp2, hn2]
              refine loopS_list Bt (fun pre3 (inn : Bool) => ⟨[(1, .psl (l.map Cell.e)), (2, .ptr h.length s1 0 0), (5, .psl ((laysF s l).map Layouted.e)), (6, .int .i64 pre.length), (9, .psl (ints A)), (10, .psl (ints Bt)), (13, .int .i64 n), (15, .bool hit), (16, .int .i64 pre2.length), (17, .bool inn), (18, .int .i64 pre3.length)], h ++ [.arr s1 0 10 [s.e], .arr s2 0 8 [({ x with kind := 1 } : Cell).e], .arr s3 0 8 [({ x with kind := 4 } : Cell).e], .arr s4 0 5 [F.e]]⟩) (fun pre3 _ inn => inn = pre3.any (fun z => y == z)) false rfl rfl ?_
              rintro pre3 post3 inn hpp3 hJ3
              cases post3 with
              | nil =>
                have hn3 := nl0 hpp3
                simp only [List.append_nil] at hpp3
                have hin1 : inn = true := by rw [hJ3, ← hpp3, hyB]
                simp (maxSteps := 1000000) (disch := omega) only [go_sem, opS_s, opS_sg, opS_b, opS_bg, ↓reduceIte, Nat.reduceAdd, Nat.reduceMul, Nat.reduceSub, Nat.reduceEqDiff, Nat.reduceLeDiff, Nat.reduceLT, Nat.reduceBEq, Int.reduceBEq, Int.reduceBNe, Int.reduceEq, Int.reduceNeg, Int.reduceAdd, Int.reduceSub, Int.reduceMul, List.cons_beq_cons, BEq.rfl, Int.reduceToNat, Int.reduceLE, Int.reduceLT, reduceCtorEq, hn3, gints hpp2, hin1]
                refine lp_next (h.length + 4) (hit || y == n) hpp2 ?_ ?_ ?_
                · simp [hJ2, Bool.or_assoc]
                · simp (maxSteps := 1000000) (disch := omega) only [go_sem, opS_s, opS_sg, opS_b, opS_bg, ↓reduceIte, Nat.reduceAdd, Nat.reduceMul, Nat.reduceSub, Nat.reduceEqDiff, Nat.reduceLeDiff, Nat.reduceLT, Nat.reduceBEq, Int.reduceBEq, Int.reduceBNe, Int.reduceEq, Int.reduceNeg, Int.reduceAdd, Int.reduceSub, Int.reduceMul, List.cons_beq_cons, BEq.rfl, Int.reduceToNat, Int.reduceLE, Int.reduceLT, reduceCtorEq, wrap64, Int.natCast_add, Int.cast_ofNat_Int, Int.natCast_one, hn2, gints hpp2]
                  try cases hit <;> rfl
                · simp (maxSteps := 1000000) (disch := omega) only [go_sem, opS_s, opS_sg, opS_b, opS_bg, ↓reduceIte, Nat.reduceAdd, Nat.reduceMul, Nat.reduceSub, Nat.reduceEqDiff, Nat.reduceLeDiff, Nat.reduceLT, Nat.reduceBEq, Int.reduceBEq, Int.reduceBNe, Int.reduceEq, Int.reduceNeg, Int.reduceAdd, Int.reduceSub, Int.reduceMul, List.cons_beq_cons, BEq.rfl, Int.reduceToNat, Int.reduceLE, Int.reduceLT, reduceCtorEq]
              | cons z post3 =>
                have hn3 := nl hpp3
                simp (maxSteps := 1000000) (disch := omega) only [go_sem, opS_s, opS_sg, opS_b, opS_bg, ↓reduceIte, Nat.reduceAdd, Nat.reduceMul, Nat.reduceSub, Nat.reduceEqDiff, Nat.reduceLeDiff, Nat.reduceLT, Nat.reduceBEq, Int.reduceBEq, Int.reduceBNe, Int.reduceEq, Int.reduceNeg, Int.reduceAdd, Int.reduceSub, Int.reduceMul, List.cons_beq_cons, BEq.rfl, Int.reduceToNat, Int.reduceLE, Int.reduceLT, reduceCtorEq, gints hpp2, gints hpp3, hn3]
                refine lp_next (h.length + 4) (inn || y == z) hpp3 ?_ ?_ ?_
                · simp [hJ3]
                · simp (maxSteps := 1000000) (disch := omega) only [go_sem, opS_s, opS_sg, opS_b, opS_bg, ↓reduceIte, Nat.reduceAdd, Nat.reduceMul, Nat.reduceSub, Nat.reduceEqDiff, Nat.reduceLeDiff, Nat.reduceLT, Nat.reduceBEq, Int.reduceBEq, Int.reduceBNe, Int.reduceEq, Int.reduceNeg, Int.reduceAdd, Int.reduceSub, Int.reduceMul, List.cons_beq_cons, BEq.rfl, Int.reduceToNat, Int.reduceLE, Int.reduceLT, reduceCtorEq, wrap64, Int.natCast_add, Int.cast_ofNat_Int, Int.natCast_one, hn3, gints hpp2]
                  try cases inn <;> rfl
                · simp (maxSteps := 1000000) (disch := omega) only [go_sem, opS_s, opS_sg, opS_b, opS_bg, ↓reduceIte, Nat.reduceAdd, Nat.reduceMul, Nat.reduceSub, Nat.reduceEqDiff, Nat.reduceLeDiff, Nat.reduceLT, Nat.reduceBEq, Int.reduceBEq, Int.reduceBNe, Int.reduceEq, Int.reduceNeg, Int.reduceAdd, Int.reduceSub, Int.reduceMul, List.cons_beq_cons, BEq.rfl, Int.reduceToNat, Int.reduceLE, Int.reduceLT, reduceCtorEq]
end Go.Ab.S2
