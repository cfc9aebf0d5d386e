/- Contracts: where cells go (plan). -/
import Derived.Test.YtghiionknnpajaaGreatDoorC8
import Derived.Test.YtghiionknnpajaaGreatDoorK2
import Derived.Test.YtghiionknnpajaaGreatDoorCards
import Derived.Test.YtghiionknnpajaaGreatDoorTie
import Derived.WalkKit
import Derived.Lib.ValidLaws
set_option linter.unusedVariables false
set_option linter.unusedSimpArgs false
namespace Go.Ab.S2
open Go.Ab
set_option maxRecDepth 100000

theorem lays1_spec (y : Cell) (h : Heap) (f : Family) (n s : Nat) (hn : h[n]? = some (.arr s 0 5 [f.e])) : SpecA PP N.plan_Layouts_1 [.agg y.e, .ptr n s 0 0] h (fun r h' => r = .ret (.bool (y.fam == f.name)) ∧ h' = h) := by
  have hlt : n < h.length := by
    rcases Nat.lt_or_ge n h.length with q | q
    · exact q
    · rw [List.getElem?_eq_none q] at hn; simp at hn
  have hn2 : ∀ r : Heap, (h ++ r)[n]? = some (.arr s 0 5 [f.e]) := fun r => by rw [List.getElem?_append_left hlt, hn]
  refine spec_of ck_plan_Layouts_1 ?_
  rw [wp_start]
  simp (maxSteps := 1000000) (disch := omega) only [go_sem, ↓reduceIte, Nat.reduceAdd, Nat.reduceEqDiff, reduceCtorEq, F.plan_Layouts_1]
  intro s1
  simp (maxSteps := 1000000) (disch := omega) only [go_sem, ↓reduceIte, Nat.reduceEqDiff, hn2]
  refine finS_l ?_
  simp (maxSteps := 1000000) (disch := omega) only [go_sem]
  all_goals simp []

theorem playouts_spec (s : Schema) (l : List Cell) (hs : s.wf) (hl : l.length < 1099511627776) : Ans N.plan_Layouts [.agg s.e, .psl (l.map Cell.e)] (.psl ((laysF s l).map Layouted.e)) := by
  intro h
  refine spec_of ck_plan_Layouts ?_
  rw [wp_start]
  simp (maxSteps := 1000000) (disch := omega) only [go_sem, ↓reduceIte, Nat.reduceAdd, Nat.reduceEqDiff, reduceCtorEq, F.plan_Layouts]
  intro s1 s2
  have hfl := hs.fams
  refine loopS_list s.fams (fun pre s2 => ⟨[(1, .psl (l.map Cell.e)), (5, .sl (h.length + 1) s2 0 (pre.filter (layF l)).length), (9, .psl (s.fams.map Family.e)), (10, .int .i64 s.fams.length), (11, .int .i64 pre.length)], h ++ [.arr s1 0 10 [s.e], .arr s2 0 2 (((pre.filter (layF l)).map fun f => ⟨f.name, f.layouts⟩).map Layouted.e)]⟩) (fun pre post _ => True) s2 rfl trivial ?_
  rintro pre post s2 hpp hJ
  have hk : (pre.filter (layF l)).length ≤ pre.length := List.length_filter_le _ _
  cases post with
  | nil =>
    have hn := nl0 hpp
    simp only [List.append_nil] at hpp
    simp (maxSteps := 1000000) (disch := omega) only [go_sem, ↓reduceIte, Nat.reduceEqDiff, hn]
    refine finS_l ?_
    simp (maxSteps := 1000000) (disch := omega) only [go_sem, ↓reduceIte, hpp, laysF]
  | cons x post =>
    have hn := nl hpp
    have hf := hs.fam x (by simp [hpp])
    simp (maxSteps := 1000000) (disch := omega) only [go_sem, ↓reduceIte, Nat.reduceAdd, Nat.reduceEqDiff, gml Family.e hpp, hn]
    intro s3
    refine callS_exact (containsFunc_Cell l _ [] [.ptr (h.length + 2) s3 0 0] (fun c => c.fam == x.name) _ hl (fun y _ => lays1_spec y _ x _ s3 (by simp (maxSteps := 1000000) (disch := omega) only [go_sem]))) ?_
    simp (maxSteps := 1000000) (disch := omega) only [go_sem, ↓reduceIte, Nat.reduceEqDiff]
    rw [condS_some]; refine ⟨fun hx => ?_, fun hx => ?_⟩
    · have hx' : layF l x = true := hx
      simp (maxSteps := 1000000) (disch := omega) only [go_sem, ↓reduceIte, Nat.reduceEqDiff]
      refine callS_exact (clone_Layout _ hf.lays _) ?_
      simp (maxSteps := 1000000) (disch := omega) only [go_sem, opS_s, opS_b, ↓reduceIte, Nat.reduceAdd, Nat.reduceMul, Nat.reduceEqDiff, Nat.reduceLeDiff]
      intro s5
      refine ⟨by omega, fun s6 => ?_⟩
      refine lp_next (h.length + 2) s6 hpp trivial ?_ ?_
      · simp (maxSteps := 1000000) (disch := omega) only [go_sem, ↓reduceIte, Nat.reduceEqDiff, wrap64, Int.natCast_add, Int.cast_ofNat_Int, List.filter_append, List.filter_cons_of_pos hx', List.filter_nil]
      · simp (maxSteps := 1000000) (disch := omega) only [go_sem, List.filter_append, List.map_append, List.filter_cons_of_pos hx', List.filter_nil]
        all_goals simp [Layouted.e]
    · have hx' : ¬ layF l x = true := by simp [layF, hx]
      simp (maxSteps := 1000000) (disch := omega) only [go_sem, ↓reduceIte, Nat.reduceEqDiff]
      refine lp_next (h.length + 2) s2 hpp trivial ?_ ?_
      · simp (maxSteps := 1000000) (disch := omega) only [go_sem, ↓reduceIte, Nat.reduceEqDiff, wrap64, Int.natCast_add, Int.cast_ofNat_Int, List.filter_append, List.filter_cons_of_neg hx']
        all_goals simp
      · simp (maxSteps := 1000000) (disch := omega) only [go_sem, List.filter_append, List.filter_cons_of_neg hx']
        all_goals simp

theorem targets1_spec (y : Layouted) (h : Heap) (f : Cell) (n s : Nat) (hn : h[n]? = some (.arr s 0 8 [f.e])) : SpecA PP N.plan_Targets_1 [.agg y.e, .ptr n s 0 0] h (fun r h' => r = .ret (.bool (y.fam == f.fam)) ∧ h' = h) := by
  have hlt : n < h.length := by
    rcases Nat.lt_or_ge n h.length with q | q
    · exact q
    · rw [List.getElem?_eq_none q] at hn; simp at hn
  have hn2 : ∀ r : Heap, (h ++ r)[n]? = some (.arr s 0 8 [f.e]) := fun r => by rw [List.getElem?_append_left hlt, hn]
  refine spec_of ck_plan_Targets_1 ?_
  rw [wp_start]
  simp (maxSteps := 1000000) (disch := omega) only [go_sem, ↓reduceIte, Nat.reduceAdd, Nat.reduceEqDiff, reduceCtorEq, F.plan_Targets_1]
  intro s1
  simp (maxSteps := 1000000) (disch := omega) only [go_sem, ↓reduceIte, Nat.reduceEqDiff, hn2]
  refine finS_l ?_
  simp (maxSteps := 1000000) (disch := omega) only [go_sem]
  all_goals simp []

theorem ptargets_spec (l : List Layouted) (c : Cell) (hl : l.length < 1099511627776) (hl2 : ∀ x ∈ l, x.layouts.length < 1099511627776) : Ans N.plan_Targets [.psl (l.map Layouted.e), .agg c.e] (.psl (ints (targetsF l c))) := by
  intro h
  refine spec_of ck_plan_Targets ?_
  rw [wp_start]
  simp (maxSteps := 1000000) (disch := omega) only [go_sem, ↓reduceIte, Nat.reduceAdd, Nat.reduceEqDiff, reduceCtorEq, F.plan_Targets]
  intro s1
  refine callS_exact (indexFunc_Layouted l _ [] [.ptr h.length s1 0 0] (fun x => x.fam == c.fam) _ hl (fun x _ => targets1_spec x _ c _ s1 (by simp (maxSteps := 1000000) (disch := omega) only [go_sem]))) ?_
  simp (maxSteps := 1000000) (disch := omega) only [go_sem, ↓reduceIte, Nat.reduceEqDiff, reduceCtorEq]
  have hi := idx_find (fun x : Layouted => x.fam == c.fam) l
  rw [condS_some]; refine ⟨fun hx => ?_, fun hx => ?_⟩
  · simp (maxSteps := 1000000) (disch := omega) only [go_sem, ↓reduceIte]
    have hx := hi.1 (by simpa using hx)
    refine finS_l ?_
    simp (maxSteps := 1000000) (disch := omega) only [go_sem]
    all_goals simp [targetsF, hx, ints]
  · obtain ⟨k, x, hk, hkx, hf⟩ := hi.2 (by simpa using hx)
    have hxl := hl2 x (List.mem_of_getElem? hkx)
    simp (maxSteps := 1000000) (disch := omega) only [go_sem, ↓reduceIte, Nat.reduceAdd, Nat.reduceEqDiff, Nat.reduceLeDiff, reduceCtorEq, hk, gmap Layouted.e hkx]
    have hfe : ∀ ls : List Layout, [AV.str [], AV.int .i64 0, AV.int .i64 0, AV.psl (ls.map Layout.e), AV.psl []] = Family.e ⟨[], 0, 0, ls, []⟩ := fun ls => by simp [Family.e]
    intro s2
    try simp (maxSteps := 1000000) (disch := omega) only [go_sem, opS_s, opS_sg, opS_b, opS_bg, ↓reduceIte, Nat.reduceAdd, Nat.reduceMul, Nat.reduceSub, Nat.reduceEqDiff, Nat.reduceLeDiff, Nat.reduceLT, Nat.reduceBEq, Int.reduceBEq, Int.reduceBNe, Int.reduceEq, Int.reduceNeg, Int.reduceAdd, Int.reduceSub, Int.reduceMul, List.cons_beq_cons, BEq.rfl, Int.reduceToNat, Int.reduceLE, Int.reduceLT, reduceCtorEq]
    rw [condS_some]; refine ⟨fun hx => ?_, fun hx => ?_⟩
    · have hc : c.kind = 1 := by simpa using hx
      simp (maxSteps := 1000000) (disch := omega) only [go_sem, ↓reduceIte, Nat.reduceAdd]
      try rw [hfe]
      refine callS_exact (written_spec ⟨[], 0, 0, x.layouts, []⟩ hxl _) ?_
      simp (maxSteps := 1000000) (disch := omega) only [go_sem, ↓reduceIte]
      refine finS_l ?_
      simp (maxSteps := 1000000) (disch := omega) only [go_sem]
      all_goals simp [targetsF, hf, hc]
    · have hc : ¬ c.kind = 1 := by simpa using hx
      simp (maxSteps := 1000000) (disch := omega) only [go_sem, ↓reduceIte, Nat.reduceAdd]
      try rw [hfe]
      refine callS_exact (sgone_spec ⟨[], 0, 0, x.layouts, []⟩ hxl _) ?_
      simp (maxSteps := 1000000) (disch := omega) only [go_sem, ↓reduceIte]
      refine finS_l ?_
      simp (maxSteps := 1000000) (disch := omega) only [go_sem]
      all_goals simp [targetsF, hf, hc]
end Go.Ab.S2

/- Contracts: the sorting of texts (slices.Sort). -/
namespace Go.Ab.S2
open Go.Ab
set_option maxRecDepth 100000

/-- A text into sorted ones, from the right. -/
def insGo : List Str → Str → List Str → List Str
  | [], x, B => x :: B
  | y :: r, x, B => if Op.bytesLess x y then insGo r x (y :: B) else (y :: r).reverse ++ x :: B
def insR (l : List Str) (x : Str) : List Str := insGo l.reverse x []
def isort (l : List Str) : List Str := l.foldl insR []
theorem insGo_len : ∀ (r : List Str) (x : Str) (B : List Str), (insGo r x B).length = r.length + B.length + 1
  | [], x, B => by simp [insGo]
  | y :: r, x, B => by
    unfold insGo
    split
    · rw [insGo_len r x (y :: B)]; simp; omega
    · simp; omega
theorem insR_len (l : List Str) (x : Str) : (insR l x).length = l.length + 1 := by simp [insR, insGo_len]

theorem isNaN_str (a : Str) : Ans N.cmp_isNaN_string [.str a] (.bool false) := by
  intro h
  refine spec_of ck_cmp_isNaN_string ?_
  rw [wp_start]
  simp (maxSteps := 1000000) (disch := omega) only [go_sem, ↓reduceIte, BEq.rfl, reduceCtorEq, F.cmp_isNaN_string]
  refine finS_l ?_
  simp (maxSteps := 1000000) (disch := omega) only [go_sem]
  all_goals simp []

theorem less_str (a b : Str) : Ans N.cmp_Less_string [.str a, .str b] (.bool (Op.bytesLess a b)) := by
  intro h
  refine spec_of ck_cmp_Less_string ?_
  rw [wp_start]
  simp (maxSteps := 1000000) (disch := omega) only [go_sem, ↓reduceIte, Nat.reduceAdd, Nat.reduceEqDiff, reduceCtorEq, F.cmp_Less_string]
  refine callS_exact (isNaN_str _ _) ?_
  simp (maxSteps := 1000000) (disch := omega) only [go_sem, ↓reduceIte, Nat.reduceEqDiff, reduceCtorEq]
  refine finS_l ?_
  simp (maxSteps := 1000000) (disch := omega) only [go_sem]
  all_goals simp []

theorem len64_spec (n : Nat) (hn : n ≤ 8) : Ans N.math_bits_Len64 [.int .u64 n] (.int .i64 ([0, 1, 2, 2, 3, 3, 3, 3, 4].getD n 0)) := by
  intro h
  refine spec_of ck_math_bits_Len64 ?_
  rw [wp_start]
  simp (maxSteps := 1000000) (disch := omega) only [go_sem, ↓reduceIte, Nat.reduceEqDiff, reduceCtorEq, F.math_bits_Len64]
  rw [condS_some]; refine ⟨fun hx => ?_, fun hx => ?_⟩
  · exfalso; have : (4294967296 : Int) ≤ n := by simpa using hx
    omega
  simp (maxSteps := 1000000) (disch := omega) only [go_sem, ↓reduceIte, Nat.reduceEqDiff, reduceCtorEq]
  rw [condS_some]; refine ⟨fun hx => ?_, fun hx => ?_⟩
  · exfalso; have : (65536 : Int) ≤ n := by simpa using hx
    omega
  simp (maxSteps := 1000000) (disch := omega) only [go_sem, ↓reduceIte, Nat.reduceEqDiff, reduceCtorEq]
  rw [condS_some]; refine ⟨fun hx => ?_, fun hx => ?_⟩
  · exfalso; have : (256 : Int) ≤ n := by simpa using hx
    omega
  have hw : IntKind.u8.wrap n = n := by have : IntKind.u8.wrap n = (n : Int) % 256 := rfl
                                        rw [this]; omega
  simp (maxSteps := 1000000) (disch := omega) only [go_sem, ↓reduceIte, reduceCtorEq, hw]
  rcases (by omega : n = 0 ∨ n = 1 ∨ n = 2 ∨ n = 3 ∨ n = 4 ∨ n = 5 ∨ n = 6 ∨ n = 7 ∨ n = 8) with rfl | rfl | rfl | rfl | rfl | rfl | rfl | rfl | rfl
  all_goals
    simp (maxSteps := 1000000) (disch := omega) only [go_sem, ↓reduceIte, Nat.reduceEqDiff, List.getElem?_cons_succ, List.getElem?_cons_zero]
    refine finS_l ?_
    simp (maxSteps := 1000000) (disch := omega) only [go_sem]
    all_goals simp []
    rfl

theorem len_spec (n : Nat) (hn : n ≤ 8) : Ans N.math_bits_Len [.int .u64 n] (.int .i64 ([0, 1, 2, 2, 3, 3, 3, 3, 4].getD n 0)) := by
  intro h
  refine spec_of ck_math_bits_Len ?_
  rw [wp_start]
  simp (maxSteps := 1000000) (disch := omega) only [go_sem, ↓reduceIte, reduceCtorEq, F.math_bits_Len]
  refine callS_exact (len64_spec n hn _) ?_
  simp (maxSteps := 1000000) (disch := omega) only [go_sem, ↓reduceIte]
  refine finS_l ?_
  simp (maxSteps := 1000000) (disch := omega) only [go_sem]
  all_goals simp []

theorem insertion_nil (h : Heap) (l s : Nat) (hx : h[l]? = some (.arr s 0 1 (strs []))) :
    SpecA PP N.slices_insertionSortOrdered_string [.sl l s 0 0, .int .i64 0, .int .i64 0] h (fun r h' => r = .ret (.tup []) ∧ h' = h) := by
  refine spec_of ck_slices_insertionSortOrdered_string ?_
  rw [wp_start]
  simp (maxSteps := 1000000) (disch := omega) only [go_sem, ↓reduceIte, Nat.reduceAdd, Nat.reduceEqDiff, Int.reduceAdd, reduceCtorEq, F.slices_insertionSortOrdered_string]
  refine loopS_meas (fun (_ : Unit) => ⟨[(0, .sl l s 0 0), (1, .int .i64 0), (2, .int .i64 0), (6, .int .i64 1)], h⟩) (fun _ => 0) (fun _ => True) () ?_ trivial ?_
  · simp (maxSteps := 1000000) (disch := omega) only [go_sem, ↓reduceIte, Nat.reduceEqDiff, reduceCtorEq, wrap64]
  rintro ⟨⟩ _
  simp (maxSteps := 1000000) (disch := omega) only [go_sem, ↓reduceIte, Nat.reduceEqDiff, Int.reduceLT, reduceCtorEq]
  refine finS_l ?_
  simp (maxSteps := 1000000) (disch := omega) only [go_sem]
  all_goals simp []

theorem insertion_cons (a : Str) (xs : List Str) (h : Heap) (l s : Nat) (hx : h[l]? = some (.arr s 0 1 (strs (a :: xs)))) (hl : xs.length < 1000000000) :
    SpecA PP N.slices_insertionSortOrdered_string [.sl l s 0 (xs.length + 1), .int .i64 0, .int .i64 ↑(xs.length + 1)] h (fun r h' => r = .ret (.tup []) ∧ h' = h.set l (.arr s 0 1 (strs (isort (a :: xs))))) := by
  have hlt := (List.getElem?_eq_some_iff.1 hx).1
  refine spec_of ck_slices_insertionSortOrdered_string ?_
  rw [wp_start]
  simp (maxSteps := 1000000) (disch := omega) only [go_sem, ↓reduceIte, Nat.reduceAdd, Nat.reduceEqDiff, Int.reduceAdd, reduceCtorEq, F.slices_insertionSortOrdered_string]
  refine loopS_list xs (fun pre (D : List Str) => ⟨[(0, .sl l s 0 (xs.length + 1)), (1, .int .i64 0), (2, .int .i64 ↑(xs.length + 1)), (6, .int .i64 D.length)], h.set l (.arr s 0 1 (strs (D ++ xs.drop pre.length)))⟩) (fun pre post D => isort (a :: xs) = post.foldl insR D ∧ D.length + post.length = xs.length + 1) [a] ?_ ⟨rfl, by simp; omega⟩ ?_
  · have e : strs ([a] ++ xs.drop ([] : List Str).length) = strs (a :: xs) := rfl
    rw [e, set_same hx]
    simp (maxSteps := 1000000) (disch := omega) only [go_sem, ↓reduceIte, Nat.reduceEqDiff, reduceCtorEq, wrap64]
    rfl
  rintro pre post D hpp ⟨hJ, hJl⟩
  have hd : xs.drop pre.length = post := by rw [hpp]; simp
  simp only [hd]
  cases post with
  | nil =>
    simp only [List.length_nil, Nat.add_zero] at hJl
    have c1 : ((D.length : Int) < ((xs.length + 1 : Nat) : Int)) = False := by simp; omega
    simp (maxSteps := 1000000) (disch := omega) only [go_sem, ↓reduceIte, Nat.reduceEqDiff, reduceCtorEq, c1]
    refine finS_keep ?_
    simp [hJ]
  | cons x post =>
    simp only [List.length_cons] at hJl
    have c1 : ((D.length : Int) < ((xs.length + 1 : Nat) : Int)) = True := by simp; omega
    simp (maxSteps := 1000000) (disch := omega) only [go_sem, ↓reduceIte, Nat.reduceEqDiff, reduceCtorEq, c1]
    refine loopS_meas (fun (e : List Str × List Str) => ⟨[(0, .sl l s 0 (xs.length + 1)), (1, .int .i64 0), (2, .int .i64 ↑(xs.length + 1)), (6, .int .i64 D.length), (7, .int .i64 e.1.length)], h.set l (.arr s 0 1 (strs (e.1.reverse ++ x :: (e.2 ++ post))))⟩) (fun e => e.1.length) (fun e => insGo e.1 x e.2 = insR D x ∧ e.1.length + e.2.length = D.length) (D.reverse, []) ?_ ⟨rfl, by simp⟩ ?_
    · simp (maxSteps := 1000000) (disch := omega) only [go_sem, ↓reduceIte, Nat.reduceEqDiff, reduceCtorEq]
      simp
    rintro ⟨rA, B⟩ ⟨hG, hGl⟩
    simp only at hG hGl ⊢
    cases rA with
    | nil =>
      have c0 : decide ((0 : Int) < ((0 : Nat) : Int)) = false := rfl
      have c5 : (((0 : Nat) : Int) < ((xs.length + 1 : Nat) : Int)) = True := by simp
      have c6 : IntKind.i64.wrap (((0 : Nat) : Int) - 1) = -1 := rfl
      have g0 : (strs (([] : List Str).reverse ++ x :: (B ++ post)))[0]? = some [.str x] := rfl
      have c7 : ((0 : Int) ≤ -1) = False := by simp
      simp (maxSteps := 1000000) (disch := omega) only [go_sem, ↓reduceIte, Nat.reduceEqDiff, Int.reduceNeg, reduceCtorEq, c0, c5, c6, c7, set_get hlt, g0, false_and]
      refine lp_next (h.length + 0) (insR D x) hpp (And.intro hJ ?_) ?_ ?_
      · rw [insR_len]; omega
      · rw [insR_len]; simp (maxSteps := 1000000) (disch := omega) only [go_sem, ↓reduceIte, Nat.reduceEqDiff, reduceCtorEq, wrap64, Int.natCast_add, Int.cast_ofNat_Int]
      · rw [← hG]
        simp only [insGo, hpp]
        simp (maxSteps := 1000000) (disch := omega) only [go_sem]
        simp
    | cons y r =>
      generalize hA : r.reverse = A
      have hAl : r.length = A.length := by rw [← hA]; simp
      simp only [List.length_cons, List.reverse_cons, hA, hAl, List.append_assoc, List.cons_append, List.nil_append] at hG hGl ⊢
      have c0 : decide ((0 : Int) < ((A.length + 1 : Nat) : Int)) = true := by simp
      have c2 : (((A.length + 1 : Nat) : Int) < ((xs.length + 1 : Nat) : Int)) = True := by simp; omega
      have c3 : ((A.length : Int) < ((xs.length + 1 : Nat) : Int)) = True := by simp; omega
      have gx : (strs (A ++ y :: x :: (B ++ post)))[A.length + 1]? = some [.str x] := by simp [strs]
      have gy : (strs (A ++ y :: x :: (B ++ post)))[A.length]? = some [.str y] := by simp [strs]
      have c4 : IntKind.i64.wrap (((A.length + 1 : Nat) : Int) - 1) = A.length := by rw [wrap64 (by omega) (by omega)]; simp
      simp (maxSteps := 1000000) (disch := omega) only [go_sem, ↓reduceIte, Nat.reduceEqDiff, reduceCtorEq, set_get hlt, c0, c2, c3, c4, gx, gy]
      refine callS_exact (less_str _ _ _) ?_
      simp (maxSteps := 1000000) (disch := omega) only [go_sem, ↓reduceIte, Nat.reduceEqDiff, reduceCtorEq]
      rw [condS_some]; refine ⟨fun hx => ?_, fun hx => ?_⟩
      · simp (maxSteps := 1000000) (disch := omega) only [go_sem, ↓reduceIte, Nat.reduceEqDiff, reduceCtorEq]
        have gs : ((strs (A ++ y :: x :: (B ++ post))).set (A.length + 1) [.str y]).set A.length [.str x] = strs (A ++ x :: y :: (B ++ post)) := by simp [strs, List.set_append_right]
        have gs2 : ((strs (A ++ y :: x :: (B ++ post))).set A.length [.str x]).set (A.length + 1) [.str y] = strs (A ++ x :: y :: (B ++ post)) := by simp [strs, List.set_append_right]
        have gy2 : ((strs (A ++ y :: x :: (B ++ post))).set (A.length + 1) [.str y])[A.length]? = some [.str y] := by simp [strs, List.set_append_right]
        simp (maxSteps := 1000000) (disch := omega) only [go_sem, ↓reduceIte, Nat.reduceEqDiff, Nat.reduceLT, reduceCtorEq, set_get hlt, set_set', c2, c3, c4, gx, gy, gy2, gs]
        refine lpm_next (h.length + 0) (r, y :: B) ?_ ?_ ?_ ?_
        · simp only; omega
        · refine ⟨?_, ?_⟩
          · rw [← hG]; simp only [insGo, hx, if_true]
          · simp only [List.length_cons]; omega
        · simp (maxSteps := 1000000) (disch := omega) only [go_sem, ↓reduceIte, Nat.reduceEqDiff, reduceCtorEq, hAl]
        · simp (maxSteps := 1000000) (disch := omega) only [go_sem, hA]
          all_goals simp [hA]
      · simp (maxSteps := 1000000) (disch := omega) only [go_sem, ↓reduceIte, Nat.reduceEqDiff, reduceCtorEq]
        refine lp_next (h.length + 0) (insR D x) hpp (And.intro hJ ?_) ?_ ?_
        · rw [insR_len]; omega
        · rw [insR_len]; simp (maxSteps := 1000000) (disch := omega) only [go_sem, ↓reduceIte, Nat.reduceEqDiff, reduceCtorEq, wrap64, Int.natCast_add, Int.cast_ofNat_Int]
        · rw [← hG]
          simp only [insGo, hpp, hx]
          simp (maxSteps := 1000000) (disch := omega) only [go_sem, ↓reduceIte]
          simp [hA]

theorem insertion_spec (xs : List Str) (h : Heap) (l s : Nat) (hx : h[l]? = some (.arr s 0 1 (strs xs))) (hl : xs.length < 1000000000) :
    SpecA PP N.slices_insertionSortOrdered_string [.sl l s 0 xs.length, .int .i64 0, .int .i64 xs.length] h (fun r h' => r = .ret (.tup []) ∧ h' = h.set l (.arr s 0 1 (strs (isort xs)))) := by
  cases xs with
  | nil =>
    have := insertion_nil h l s hx
    rw [show isort [] = ([] : List Str) from rfl, set_same hx]
    exact this
  | cons a xs =>
    exact insertion_cons a xs h l s hx (by simp at hl; omega)

theorem pdq_spec (xs : List Str) (h : Heap) (l s : Nat) (k : Int) (hx : h[l]? = some (.arr s 0 1 (strs xs))) (hl : xs.length ≤ 12) :
    SpecA PP N.slices_pdqsortOrdered_string [.sl l s 0 xs.length, .int .i64 0, .int .i64 xs.length, .int .i64 k] h (fun r h' => r = .ret (.tup []) ∧ h' = h.set l (.arr s 0 1 (strs (isort xs)))) := by
  refine spec_of ck_slices_pdqsortOrdered_string ?_
  rw [wp_start]
  simp (maxSteps := 1000000) (disch := omega) only [go_sem, ↓reduceIte, Nat.reduceAdd, Nat.reduceEqDiff, reduceCtorEq, F.slices_pdqsortOrdered_string]
  refine loopS_meas (fun (_ : Unit) => ⟨[(0, .sl l s 0 xs.length), (1, .int .i64 0), (2, .int .i64 xs.length), (3, .int .i64 k), (8, .bool true), (9, .bool true)], h⟩) (fun _ => 0) (fun _ => True) () ?_ trivial ?_
  · simp (maxSteps := 1000000) (disch := omega) only [go_sem, ↓reduceIte, Nat.reduceEqDiff, reduceCtorEq]
  rintro ⟨⟩ _
  have c1 : IntKind.i64.wrap ((xs.length : Int) - 0) = xs.length := by rw [wrap64 (by omega) (by omega)]; simp
  have c2 : decide ((xs.length : Int) ≤ 12) = true := by simp; omega
  simp (maxSteps := 1000000) (disch := omega) only [go_sem, ↓reduceIte, Nat.reduceEqDiff, reduceCtorEq, c1, c2]
  refine callS_exact (insertion_spec xs h l s hx (by omega)) ?_
  simp (maxSteps := 1000000) (disch := omega) only [go_sem]
  refine finS_keep ?_
  exact ⟨rfl, rfl⟩

theorem sort_spec (xs : List Str) (h : Heap) (l s : Nat) (hx : h[l]? = some (.arr s 0 1 (strs xs))) (hl : xs.length ≤ 8) :
    SpecA PP N.slices_Sort_string_string_ [.sl l s 0 xs.length] h (fun r h' => r = .ret (.tup []) ∧ h' = h.set l (.arr s 0 1 (strs (isort xs)))) := by
  refine spec_of ck_slices_Sort_string_string_ ?_
  rw [wp_start]
  simp (maxSteps := 1000000) (disch := omega) only [go_sem, ↓reduceIte, F.slices_Sort_string_string_]
  simp (maxSteps := 1000000) (disch := omega) only [go_sem, ↓reduceIte, Nat.reduceEqDiff, reduceCtorEq, hx]
  have hw : IntKind.u64.wrap (xs.length : Int) = xs.length := by
    have : IntKind.u64.wrap (xs.length : Int) = (xs.length : Int) % 18446744073709551616 := rfl
    rw [this]; omega
  simp (maxSteps := 1000000) (disch := omega) only [go_sem, hw]
  refine callS_exact (len_spec _ hl _) ?_
  simp (maxSteps := 1000000) (disch := omega) only [go_sem, ↓reduceIte, Nat.reduceEqDiff]
  refine callS_exact (pdq_spec xs h l s _ hx (by omega)) ?_
  simp (maxSteps := 1000000) (disch := omega) only [go_sem]
  refine finS_keep ?_
  exact ⟨rfl, rfl⟩

def pubC (c : Column) : Bool := c.state == 3
def qualsF (f : Family) : List Str := isort ((f.cols.filter pubC).map Column.qual)

theorem isort_len (xs : List Str) : (isort xs).length = xs.length := by
  have : ∀ (xs D : List Str), (xs.foldl insR D).length = D.length + xs.length := by
    intro xs
    induction xs with
    | nil => intro D; rfl
    | cons x r ih => intro D; rw [List.foldl_cons, ih, insR_len]; simp; omega
  simpa [isort] using this xs []

theorem quals_spec (f : Family) (hl : f.cols.length ≤ 8) : Ans N.plan_quals [.agg f.e] (.psl (strs (qualsF f))) := by
  intro h
  refine spec_of ck_plan_quals ?_
  rw [wp_start]
  simp (maxSteps := 1000000) (disch := omega) only [go_sem, ↓reduceIte, Nat.reduceEqDiff, F.plan_quals]
  intro s1 s2
  refine loopS_list f.cols (fun pre s2 => ⟨[(3, .sl (h.length + 1) s2 0 (pre.filter pubC).length), (7, .psl (f.cols.map Column.e)), (8, .int .i64 f.cols.length), (9, .int .i64 pre.length)], h ++ [.arr s1 0 5 [f.e], .arr s2 0 1 (strs ((pre.filter pubC).map Column.qual))]⟩) (fun pre post _ => True) s2 rfl trivial ?_
  rintro pre post s2 hpp hJ
  have hk : (pre.filter pubC).length ≤ pre.length := List.length_filter_le _ _
  cases post with
  | nil =>
    have hn := nl0 hpp
    simp only [List.append_nil] at hpp
    simp (maxSteps := 1000000) (disch := omega) only [go_sem, ↓reduceIte, Nat.reduceEqDiff, hn]
    have hq : qualsF f = isort ((pre.filter pubC).map Column.qual) := by rw [qualsF, hpp]
    have hlx : (pre.filter pubC).length = ((pre.filter pubC).map Column.qual).length := by simp
    rw [hlx] at hk ⊢
    generalize hxs : (pre.filter pubC).map Column.qual = xs at hq hk ⊢
    refine callS_exact (sort_spec xs _ (h.length + 1) s2 (by simp) (by omega)) ?_
    have hil := isort_len xs
    simp (maxSteps := 1000000) (disch := omega) only [go_sem, ↓reduceIte, Nat.reduceEqDiff]
    refine finS_l ?_
    simp (maxSteps := 1000000) (disch := omega) only [go_sem, ↓reduceIte, hq, hil]
    rw [List.take_of_length_le (by simp [strs, hil])]
  | cons x post =>
    have hn := nl hpp
    simp (maxSteps := 1000000) (disch := omega) only [go_sem, ↓reduceIte, Nat.reduceAdd, Nat.reduceEqDiff, gml Column.e hpp, hn]
    intro s3
    try simp (maxSteps := 1000000) (disch := omega) only [go_sem, opS_s, opS_sg, opS_b, opS_bg, ↓reduceIte, Nat.reduceAdd, Nat.reduceMul, Nat.reduceSub, Nat.reduceEqDiff, Nat.reduceLeDiff, Nat.reduceLT, Nat.reduceBEq, Int.reduceBEq, Int.reduceBNe, Int.reduceEq, Int.reduceNeg, Int.reduceAdd, Int.reduceSub, Int.reduceMul, List.cons_beq_cons, BEq.rfl, Int.reduceToNat, Int.reduceLE, Int.reduceLT, reduceCtorEq]
    rw [condS_some]; refine ⟨fun hx => ?_, fun hx => ?_⟩
    · have hx' : pubC x = true := hx
      simp (maxSteps := 1000000) (disch := omega) only [go_sem, ↓reduceIte, Nat.reduceAdd, Nat.reduceMul, Nat.reduceEqDiff]
      intro s5
      refine ⟨by omega, fun s6 => ?_⟩
      refine lp_next (h.length + 2) s6 hpp trivial ?_ ?_
      · simp (maxSteps := 1000000) (disch := omega) only [go_sem, ↓reduceIte, Nat.reduceEqDiff, wrap64, Int.natCast_add, Int.cast_ofNat_Int, List.filter_append, List.filter_cons_of_pos hx', List.filter_nil]
      · simp (maxSteps := 1000000) (disch := omega) only [go_sem, List.filter_append, List.map_append, List.filter_cons_of_pos hx', List.filter_nil]
        all_goals simp
    · have hx' : ¬ pubC x = true := by simp [pubC, hx]
      simp (maxSteps := 1000000) (disch := omega) only [go_sem, ↓reduceIte, Nat.reduceEqDiff]
      refine lp_next (h.length + 2) s2 hpp trivial ?_ ?_
      · simp (maxSteps := 1000000) (disch := omega) only [go_sem, ↓reduceIte, Nat.reduceEqDiff, wrap64, Int.natCast_add, Int.cast_ofNat_Int, List.filter_append, List.filter_cons_of_neg hx']
        all_goals simp
      · simp (maxSteps := 1000000) (disch := omega) only [go_sem, List.filter_append, List.filter_cons_of_neg hx']
        all_goals simp
end Go.Ab.S2

/- Contracts: what a read may see (plan). -/
namespace Go.Ab.S2
open Go.Ab
set_option maxRecDepth 100000

def seenF (q : Request) (f : Family) : Bool := (readF f).isSome && (((q.filter.fams.length : Int) == 0) || q.filter.fams.any fun x => f.name == x)
def placeF (f : Family) : Place := ⟨f.name, (readF f).map Layout.group |>.getD 0, f.versions, f.life, qualsF f⟩
def visF (s : Schema) (q : Request) : Filter × List Place :=
  if q.kind = 3 ∧ chkE s q = 0 then (q.filter, (s.fams.filter (seenF q)).map placeF) else (Filter.zero, [])

theorem chk_cols {s : Schema} {q : Request} (h : chkE s q = 0) : ∀ f ∈ s.fams, f.cols.length ≤ 8 := by
  intro f hf
  unfold chkE at h
  split at h
  · simp at h
  · rename_i hx
    simp only [Bool.or_eq_true, Bool.not_eq_true', not_or, Bool.not_eq_false] at hx
    obtain ⟨h1, -⟩ := hx
    simp only [schP, Bool.and_eq_true, Bool.not_eq_true', List.any_eq_false, Bool.not_eq_false] at h1
    have := h1.1.1.2 f hf
    simp only [famP, colsP, Bool.and_eq_true, decide_eq_true_eq] at this
    omega

@[go_sem] theorem selV_d1 (b : Bool) : selV false (.bool b) .dead = some .dead := rfl
@[go_sem] theorem selV_d2 (b : Bool) : selV true (.bool b) .dead = some (.bool b) := rfl
theorem visible_spec (s : Schema) (q : Request) (hs : s.wf) (hq : q.wf) : Ans N.plan_Visible [.agg s.e, .agg q.e] (.tup [.agg (visF s q).1.e, .psl ((visF s q).2.map Place.e)]) := by
  intro h
  refine spec_of ck_plan_Visible ?_
  rw [wp_start]
  simp (maxSteps := 1000000) (disch := omega) only [go_sem, ↓reduceIte, Nat.reduceAdd, Nat.reduceEqDiff, reduceCtorEq, F.plan_Visible]
  intro s1 s2 s3
  rw [opEg_some]; refine ⟨fun hg => ?_, fun hg => ?_⟩ <;> try simp only [Bool.not_eq_true', Bool.not_eq_false'] at hg
  · have g1 := hg
    simp (maxSteps := 1000000) (disch := omega) only [go_sem, ↓reduceIte, g1]
    have hk : q.kind = 3 := by simpa using hg
    refine callS_exact (check_spec s q hs hq _) ?_
    simp (maxSteps := 1000000) (disch := omega) only [go_sem, ↓reduceIte, Nat.reduceEqDiff]
    rw [condS_some]; refine ⟨fun hx => ?_, fun hx => ?_⟩
    · have hc : ¬ chkE s q = 0 := by simpa using hx
      simp (maxSteps := 1000000) (disch := omega) only [go_sem, ↓reduceIte, Nat.reduceAdd, Nat.reduceEqDiff]
      refine finS_l ?_
      simp (maxSteps := 1000000) (disch := omega) only [go_sem]
      all_goals simp [visF, hc, hk]
      rfl
    · have hc : chkE s q = 0 := by simpa using hx
      have hcols := chk_cols hc
      simp (maxSteps := 1000000) (disch := omega) only [go_sem, ↓reduceIte, Nat.reduceAdd, Nat.reduceEqDiff]
      intro s4
      try simp (maxSteps := 1000000) (disch := omega) only [go_sem, opS_s, opS_sg, opS_b, opS_bg, ↓reduceIte, Nat.reduceAdd, Nat.reduceMul, Nat.reduceSub, Nat.reduceEqDiff, Nat.reduceLeDiff, Nat.reduceLT, Nat.reduceBEq, Int.reduceBEq, Int.reduceBNe, Int.reduceEq, Int.reduceNeg, Int.reduceAdd, Int.reduceSub, Int.reduceMul, List.cons_beq_cons, BEq.rfl, Int.reduceToNat, Int.reduceLE, Int.reduceLT, reduceCtorEq]
      have hfl := hs.fams
      have hff := hq.filter.fams
      refine loopS_list s.fams (fun pre s4 => ⟨[(3, .ptr (h.length + 1) s2 0 0), (4, .ptr (h.length + 2) s3 0 0), (6, .sl (h.length + 3) s4 0 (pre.filter (seenF q)).length), (22, .psl (s.fams.map Family.e)), (23, .int .i64 s.fams.length), (24, .int .i64 pre.length)], h ++ [.arr s1 0 10 [s.e], .arr s2 0 16 [q.e], .arr s3 0 7 [Filter.zero.e], .arr s4 0 5 (((pre.filter (seenF q)).map placeF).map Place.e)]⟩) (fun pre post _ => True) s4 rfl trivial ?_
      rintro pre post s4 hpp hJ
      have hk2 : (pre.filter (seenF q)).length ≤ pre.length := List.length_filter_le _ _
      cases post with
      | nil =>
        have hn := nl0 hpp
        simp only [List.append_nil] at hpp
        simp (maxSteps := 1000000) (disch := omega) only [go_sem, ↓reduceIte, Nat.reduceEqDiff, hn]
        refine callS_exact (fclone_spec _ hq.filter _) ?_
        simp (maxSteps := 1000000) (disch := omega) only [go_sem, ↓reduceIte, Nat.reduceEqDiff]
        refine finS_l ?_
        simp (maxSteps := 1000000) (disch := omega) only [go_sem, ↓reduceIte]
        simp [visF, hk, hc, hpp]
      | cons x post =>
        have hn := nl hpp
        have hf := hs.fam x (by simp [hpp])
        have hx8 := hcols x (by simp [hpp])
        simp (maxSteps := 1000000) (disch := omega) only [go_sem, ↓reduceIte, Nat.reduceAdd, Nat.reduceEqDiff, gml Family.e hpp, hn]
        intro s5
        refine callS_exact (sread_spec x hf.lays _) ?_
        simp (maxSteps := 1000000) (disch := omega) only [go_sem, ↓reduceIte, Nat.reduceEqDiff]
        rw [opEg_some]; refine ⟨fun hg => ?_, fun hg => ?_⟩ <;> try simp only [Bool.and_eq_true, Bool.not_eq_true'] at hg
        · obtain ⟨g1, g2⟩ := hg
          simp (maxSteps := 1000000) (disch := omega) only [go_sem, ↓reduceIte, Nat.reduceEqDiff, g1, g2]
          refine callS_exact (contains_str q.filter.fams x.name hff _) ?_
          simp (maxSteps := 1000000) (disch := omega) only [go_sem, ↓reduceIte, Nat.reduceEqDiff]
          rw [condS_some]; refine ⟨fun hx => ?_, fun hx => ?_⟩
          · skip
            have hs5 : seenF q x = true := by simp [seenF, g1, g2, hx]
            try simp (maxSteps := 1000000) (disch := omega) only [go_sem, ↓reduceIte, Nat.reduceEqDiff]
            refine callS_exact (quals_spec x hx8 _) ?_
            simp (maxSteps := 1000000) (disch := omega) only [go_sem, opS_s, opS_b, ↓reduceIte, Nat.reduceAdd, Nat.reduceMul, Nat.reduceEqDiff, Nat.reduceLeDiff]
            intro s6
            refine ⟨by omega, fun s7 => ?_⟩
            refine lp_next (h.length + 4) s7 hpp trivial ?_ ?_
            · simp (maxSteps := 1000000) (disch := omega) only [go_sem, ↓reduceIte, Nat.reduceEqDiff, wrap64, Int.natCast_add, Int.cast_ofNat_Int, List.filter_append, List.filter_cons_of_pos hs5, List.filter_nil]
            · simp (maxSteps := 1000000) (disch := omega) only [go_sem, List.filter_append, List.map_append, List.filter_cons_of_pos hs5, List.filter_nil]
              all_goals simp [Place.e, placeF]
          · skip
            have hs5 : ¬ seenF q x = true := by simp [seenF, g1, g2, hx]
            try simp (maxSteps := 1000000) (disch := omega) only [go_sem, ↓reduceIte, Nat.reduceEqDiff]
            refine lp_next (h.length + 4) s4 hpp trivial ?_ ?_
            · simp (maxSteps := 1000000) (disch := omega) only [go_sem, ↓reduceIte, Nat.reduceEqDiff, wrap64, Int.natCast_add, Int.cast_ofNat_Int, List.filter_append, List.filter_cons_of_neg hs5]
              all_goals simp
            · simp (maxSteps := 1000000) (disch := omega) only [go_sem, List.filter_append, List.filter_cons_of_neg hs5]
              all_goals simp
        · cases hr : (readF x).isSome with
          | false =>
            cases hz : ((q.filter.fams.length : Int) == 0) with
            | false =>
                simp (maxSteps := 1000000) (disch := omega) only [go_sem, ↓reduceIte, Nat.reduceEqDiff]
                have hs5 : ¬ seenF q x = true := by simp [seenF, hr]
                try simp (maxSteps := 1000000) (disch := omega) only [go_sem, opS_s, opS_sg, opS_b, opS_bg, ↓reduceIte, Nat.reduceAdd, Nat.reduceMul, Nat.reduceSub, Nat.reduceEqDiff, Nat.reduceLeDiff, Nat.reduceLT, Nat.reduceBEq, Int.reduceBEq, Int.reduceBNe, Int.reduceEq, Int.reduceNeg, Int.reduceAdd, Int.reduceSub, Int.reduceMul, List.cons_beq_cons, BEq.rfl, Int.reduceToNat, Int.reduceLE, Int.reduceLT, reduceCtorEq]
                refine lp_next (h.length + 4) s4 hpp trivial ?_ ?_
                · simp (maxSteps := 1000000) (disch := omega) only [go_sem, ↓reduceIte, Nat.reduceEqDiff, wrap64, Int.natCast_add, Int.cast_ofNat_Int, List.filter_append, List.filter_cons_of_neg hs5]
                  all_goals simp
                · simp (maxSteps := 1000000) (disch := omega) only [go_sem, List.filter_append, List.filter_cons_of_neg hs5]
                  all_goals simp
            | true =>
                simp (maxSteps := 1000000) (disch := omega) only [go_sem, ↓reduceIte, Nat.reduceEqDiff]
                have hs5 : ¬ seenF q x = true := by simp [seenF, hr]
                try simp (maxSteps := 1000000) (disch := omega) only [go_sem, opS_s, opS_sg, opS_b, opS_bg, ↓reduceIte, Nat.reduceAdd, Nat.reduceMul, Nat.reduceSub, Nat.reduceEqDiff, Nat.reduceLeDiff, Nat.reduceLT, Nat.reduceBEq, Int.reduceBEq, Int.reduceBNe, Int.reduceEq, Int.reduceNeg, Int.reduceAdd, Int.reduceSub, Int.reduceMul, List.cons_beq_cons, BEq.rfl, Int.reduceToNat, Int.reduceLE, Int.reduceLT, reduceCtorEq]
                refine lp_next (h.length + 4) s4 hpp trivial ?_ ?_
                · simp (maxSteps := 1000000) (disch := omega) only [go_sem, ↓reduceIte, Nat.reduceEqDiff, wrap64, Int.natCast_add, Int.cast_ofNat_Int, List.filter_append, List.filter_cons_of_neg hs5]
                  all_goals simp
                · simp (maxSteps := 1000000) (disch := omega) only [go_sem, List.filter_append, List.filter_cons_of_neg hs5]
                  all_goals simp
          | true =>
            have hz : ((q.filter.fams.length : Int) == 0) = true := by simpa [hr] using hg
            simp (maxSteps := 1000000) (disch := omega) only [go_sem, ↓reduceIte, Nat.reduceEqDiff, hz]
            have hs5 : seenF q x = true := by simp [seenF, hr, hz]
            try simp (maxSteps := 1000000) (disch := omega) only [go_sem, opS_s, opS_sg, opS_b, opS_bg, ↓reduceIte, Nat.reduceAdd, Nat.reduceMul, Nat.reduceSub, Nat.reduceEqDiff, Nat.reduceLeDiff, Nat.reduceLT, Nat.reduceBEq, Int.reduceBEq, Int.reduceBNe, Int.reduceEq, Int.reduceNeg, Int.reduceAdd, Int.reduceSub, Int.reduceMul, List.cons_beq_cons, BEq.rfl, Int.reduceToNat, Int.reduceLE, Int.reduceLT, reduceCtorEq, hr, hz]
            refine callS_exact (quals_spec x hx8 _) ?_
            simp (maxSteps := 1000000) (disch := omega) only [go_sem, opS_s, opS_b, ↓reduceIte, Nat.reduceAdd, Nat.reduceMul, Nat.reduceEqDiff, Nat.reduceLeDiff]
            intro s6
            refine ⟨by omega, fun s7 => ?_⟩
            refine lp_next (h.length + 4) s7 hpp trivial ?_ ?_
            · simp (maxSteps := 1000000) (disch := omega) only [go_sem, ↓reduceIte, Nat.reduceEqDiff, wrap64, Int.natCast_add, Int.cast_ofNat_Int, List.filter_append, List.filter_cons_of_pos hs5, List.filter_nil]
            · simp (maxSteps := 1000000) (disch := omega) only [go_sem, List.filter_append, List.map_append, List.filter_cons_of_pos hs5, List.filter_nil]
              all_goals simp [Place.e, placeF]
  · have g1 := hg
    have hk : ¬ q.kind = 3 := by simpa using hg
    simp (maxSteps := 1000000) (disch := omega) only [go_sem, ↓reduceIte, Nat.reduceAdd, Nat.reduceEqDiff, g1]
    refine finS_l ?_
    simp (maxSteps := 1000000) (disch := omega) only [go_sem]
    all_goals simp [visF, hk]
    rfl
end Go.Ab.S2

/- Contracts: the statements' own fixed write (joistlaw16.one, alive). -/
namespace Go.Ab.S2
open Go.Ab
set_option maxRecDepth 100000

def oneC (x : UInt8) : Column := ⟨[x], 1, 3⟩
def oneFam : Family := ⟨[102], 1, 0, [⟨0, 3⟩], [oneC 112, oneC 113]⟩
def oneS : Schema := ⟨1, [oneFam], Change.zero, 0⟩
def mA1 : Mut := ⟨1, [102], [112], ⟨1, 1, []⟩⟩
def mA2 : Mut := ⟨3, [102], [], Value.zero⟩
def mA3 : Mut := ⟨1, [102], [113], ⟨1, 2, []⟩⟩
def qA : Request := ⟨1, [97], [], [mA1, mA2, mA3], [], [], Value.zero, Filter.zero⟩
def qR : Request := ⟨3, [], [], [], [], [], Value.zero, Filter.zero⟩
def cA1 : Cell := ⟨[97], [102], [], 4, 4, Value.zero⟩
def cA2 : Cell := ⟨[97], [102], [113], 5, 1, ⟨1, 2, []⟩⟩
def lA : Layouted := ⟨[102], [⟨0, 3⟩]⟩
def pA : Place := ⟨[102], 0, 1, 0, [[112], [113]]⟩
theorem a1 : cellsF oneS qA 5 = ([cA1, cA2], 0) := by decide +kernel
theorem a2 : cellsF oneS qA 0 = ([], 18) := by decide +kernel
theorem a3 : visF oneS qR = (Filter.zero, [pA]) := by decide +kernel
theorem a4 : laysF oneS [cA1, cA2] = [lA] := by decide +kernel
theorem a5 : targetsF [lA] cA2 = [0] := by decide +kernel
theorem a6 : formQ qA = true := by decide +kernel
theorem a7 : chkE oneS qA = 0 := by decide +kernel

theorem one_spec : Ans N.joistlaw16_one [] (.agg oneS.e) := by
  intro h
  refine spec_of ck_joistlaw16_one ?_
  rw [wp_start]
  simp (maxSteps := 1000000) (disch := omega) only [go_sem, ↓reduceIte, Nat.reduceAdd, Nat.reduceMul, Nat.reduceEqDiff, Nat.reduceLeDiff, reduceCtorEq, F.joistlaw16_one]
  intro s1 s2 s3 s4
  refine finS_l ?_
  simp (maxSteps := 1000000) (disch := omega) only [go_sem, ↓reduceIte]
  simp [oneS, Schema.e, Family.e, Layout.e, Column.e, oneFam, oneC, Change.zero]

theorem oneS_wf : oneS.wf := by
  refine ⟨by simp [oneS], fun f hf => ?_⟩
  simp [oneS] at hf; subst hf
  refine ⟨by simp [oneFam], by simp [oneFam], by simp [oneFam], fun c hc => ?_⟩
  simp [oneFam] at hc
  rcases hc with rfl | rfl <;> exact ⟨by simp [oneC]⟩
theorem Value.zero_wf : Value.zero.wf := ⟨by simp [Value.zero], by simp [Value.zero], by simp [Value.zero]⟩
theorem Filter.zero_wf : Filter.zero.wf := ⟨by simp [Filter.zero], by simp [Filter.zero], by simp [Filter.zero], by simp [Filter.zero]⟩
theorem qA_wf : qA.wf := by
  refine ⟨by simp [qA], by simp [qA], by simp [qA], fun m hm => ?_, by simp [qA], by simp [qA], Value.zero_wf, Filter.zero_wf⟩
  simp [qA] at hm
  rcases hm with rfl | rfl | rfl
  · exact ⟨by simp [mA1], by simp [mA1], by simp [mA1], by simp [mA1], by simp [mA1]⟩
  · exact ⟨by simp [mA2], by simp [mA2], Value.zero_wf⟩
  · exact ⟨by simp [mA3], by simp [mA3], by simp [mA3], by simp [mA3], by simp [mA3]⟩
theorem qR_wf : qR.wf := ⟨by simp [qR], by simp [qR], by simp [qR], by simp [qR], by simp [qR], by simp [qR], Value.zero_wf, Filter.zero_wf⟩

theorem alive_spec : Ans N.joistlaw16_alive [] (.bool true) := by
  intro h
  refine spec_of ck_joistlaw16_alive ?_
  rw [wp_start]
  simp (maxSteps := 1000000) (disch := omega) only [go_sem, ↓reduceIte, Nat.reduceAdd, Nat.reduceMul, Nat.reduceEqDiff, Nat.reduceLeDiff, F.joistlaw16_alive]
  intro s1 s2
  refine callS_exact (one_spec _) ?_
  simp (maxSteps := 1000000) (disch := omega) only [go_sem, opS_s, ↓reduceIte, Nat.reduceAdd, Nat.reduceEqDiff]
  refine callS_exact (cells_spec oneS qA 5 oneS_wf qA_wf _) ?_
  simp (maxSteps := 1000000) (disch := omega) only [go_sem, ↓reduceIte, Nat.reduceAdd, Nat.reduceEqDiff, a1]
  refine callS_exact (one_spec _) ?_
  simp (maxSteps := 1000000) (disch := omega) only [go_sem, opS_s, ↓reduceIte, Nat.reduceAdd, Nat.reduceEqDiff]
  refine callS_exact (cells_spec oneS qA 0 oneS_wf qA_wf _) ?_
  simp (maxSteps := 1000000) (disch := omega) only [go_sem, ↓reduceIte, Nat.reduceEqDiff, a2]
  refine callS_exact (one_spec _) ?_
  simp (maxSteps := 1000000) (disch := omega) only [go_sem, ↓reduceIte, Nat.reduceAdd, Nat.reduceLeDiff]
  refine callS_exact (visible_spec oneS qR oneS_wf qR_wf _) ?_
  simp (maxSteps := 1000000) (disch := omega) only [go_sem, ↓reduceIte, Nat.reduceAdd, Nat.reduceEqDiff, a3]
  intro s3
  refine callS_exact (one_spec _) ?_
  simp (maxSteps := 1000000) (disch := omega) only [go_sem, ↓reduceIte, Nat.reduceEqDiff]
  refine callS_exact (playouts_spec oneS [cA1, cA2] oneS_wf (by simp) _) ?_
  have z2 : (((2 : Nat) : Int) == 2) = true := rfl
  have z1 : (((1 : Nat) : Int) == 1) = true := rfl
  have q1 : eqCells [1, 1, 1, 0, 0, 0, 0, 1] cA1.e [AV.str [97], AV.str [102], AV.str [], AV.int IntKind.i64 4, AV.int IntKind.i64 4, AV.int IntKind.i64 0, AV.int IntKind.i64 0, AV.str []] = some true := by decide +kernel
  have t5 : (cA2.time == 5) = true := rfl
  have q113 : (cA2.qual == [113]) = true := rfl
  have pq : ((pA.quals.length : Int) == 2) = true := rfl
  simp (maxSteps := 1000000) (disch := omega) only [go_sem, opS_bg, ↓reduceIte, Nat.reduceAdd, Nat.reduceMul, Nat.reduceEqDiff, Nat.reduceLeDiff, BEq.rfl, Int.reduceToNat, Int.reduceLE, a4, z2, z1, q1, t5, q113, pq]
  refine ⟨id, id, id, id, id, ?_⟩
  refine callS_exact (ptargets_spec [lA] cA2 (by simp) (by simp [lA]) _) ?_
  simp (maxSteps := 1000000) (disch := omega) only [go_sem, opS_sg, opS_bg, ↓reduceIte, Nat.reduceAdd, Nat.reduceMul, Nat.reduceEqDiff, Int.reduceToNat, Int.reduceLE, a5]
  refine ⟨id, fun s4 => ?_⟩
  refine callS_exact (sameints_spec [0] [0] (by simp) _) ?_
  have d0 : decide (([0] : List Int) = [0]) = true := rfl
  simp (maxSteps := 1000000) (disch := omega) only [go_sem, ↓reduceIte, Nat.reduceAdd, Nat.reduceEqDiff]
  refine callS_exact (formed_spec qA qA_wf _) ?_
  simp (maxSteps := 1000000) (disch := omega) only [go_sem, ↓reduceIte, Nat.reduceAdd, Nat.reduceEqDiff, a6]
  refine callS_exact (one_spec _) ?_
  simp (maxSteps := 1000000) (disch := omega) only [go_sem, opS_sg, ↓reduceIte, Nat.reduceAdd, Nat.reduceEqDiff]
  refine callS_exact (check_spec oneS qA oneS_wf qA_wf _) ?_
  simp (maxSteps := 1000000) (disch := omega) only [go_sem, ↓reduceIte, Nat.reduceEqDiff, BEq.rfl, a7]
  refine finS_l ?_
  simp (maxSteps := 1000000) (disch := omega) only [go_sem]
end Go.Ab.S2

/- PlanGoes answers true. -/
namespace Go.Ab.S2
open Go.Ab
set_option maxRecDepth 100000

end Go.Ab.S2

/- joistlaw16.PlanGoes, the second form: the row, the card. -/
namespace Go.Proofs.YtghiionknnpajaaGreatDoor
open Go.Ab.S2 Go.Ab Go.ChangeShapes Go.WideShapes Go.ChangeAt Go.RowKit
set_option maxRecDepth 100000

theorem own : ownKnob Tryz.prog.godebug = none := by kernel_rfl

/-- A world for the witness: the settled one, the two variables holding what their initialisers lay. -/
noncomputable def laidWorld (os : Os) : World :=
  let w0 := World.holding Tryz.prog os ⟨#[], #[], []⟩
  let put (h : Array Obj) (g : Nat) (cs : Array Go.Value) : Array Obj := h.modify g fun
    | .cells _ t frozen => .cells cs t frozen
    | o => o
  let h1 := put w0.heap 0 (Lib.firstTab.map fun z => Go.Value.int .u8 z).toArray
  let h2 := put h1 1 ((List.range 16).flatMap fun i => [Go.Value.int .u8 (Lib.accLo i), Go.Value.int .u8 (Lib.accHi i)]).toArray
  { w0 with heap := h2 }

theorem accept_eq : (Rows.laid_unicode_utf8_acceptRanges : DataW Unit) = Lib.acceptData := by kernel_rfl
theorem first_eq : Rows.laid_unicode_utf8_first = Lib.firstData := by kernel_rfl

def laidTwo : List (String × DataW Unit) := [("unicode/utf8.acceptRanges", Rows.laid_unicode_utf8_acceptRanges), ("unicode/utf8.first", Rows.laid_unicode_utf8_first)]

theorem tabs {W : World} (hL : laidMetH Tryz.prog laidTwo W) : Lib.Utf8Tabs 0 1 W :=
  utf8Tabs_of_readsT (U8Types.of196 lays196) ⟨by kernel_rfl, by kernel_rfl, by kernel_rfl, by kernel_rfl, by kernel_rfl, by kernel_rfl, by kernel_rfl⟩
    (by rw [← first_eq]; exact Lib.laidMet.reads hL (.tail _ (.head _))) (by rw [← accept_eq]; exact Lib.laidMet.reads hL (.head _))

theorem laid_met (os : Os) (args : Array Go.Value) : laidMet Tryz.prog laidTwo ((laidWorld os).forCall (fun _ _ => 0) ⟨#[], args, []⟩).memory :=
  (LaidIn.of_run (l := laidTwo) [1, 0] 8 (by kernel_rfl) (by kernel_rfl) (by kernel_rfl) (by kernel_rfl)).met
end Go.Proofs.YtghiionknnpajaaGreatDoor

/- Texts in order: plain laws. -/
namespace Go.Ab.S2
open Go.Ab
set_option maxRecDepth 100000

theorem cmpS_lt : ∀ a b : Str, cmpS a b < 0 ↔ a < b
  | [], [] => by simp [cmpS]
  | [], y :: b => by simp [cmpS]
  | x :: a, [] => by simp [cmpS]
  | x :: a, y :: b => by
    rw [List.cons_lt_cons_iff]
    unfold cmpS
    by_cases h : x = y
    · subst h
      simp [cmpS_lt a b]
    · rw [if_neg h]
      by_cases h2 : x < y
      · simp [h2]
      · simp [h, h2]
theorem cmpS_eq : ∀ a b : Str, cmpS a b = 0 ↔ a = b
  | [], [] => by simp [cmpS]
  | [], y :: b => by simp [cmpS]
  | x :: a, [] => by simp [cmpS]
  | x :: a, y :: b => by
    unfold cmpS
    by_cases h : x = y
    · subst h
      simp [cmpS_eq a b]
    · rw [if_neg h]
      by_cases h2 : x < y
      · simp [h2, h]
      · simp [h, h2]
theorem bl_lt : ∀ a b : Str, Op.bytesLess a b = true ↔ a < b
  | [], [] => by simp [Op.bytesLess]
  | [], y :: b => by simp [Op.bytesLess]
  | x :: a, [] => by simp [Op.bytesLess]
  | x :: a, y :: b => by
    rw [List.cons_lt_cons_iff, Op.bytesLess, Bool.or_eq_true, Bool.and_eq_true, bl_lt a b]
    simp

theorem slt_trans {a b c : Str} (h : a < b) (k : b < c) : a < c := List.lt_trans h k
theorem slt_irrefl (a : Str) : ¬ a < a := List.lt_irrefl a
theorem slt_tri (a b : Str) : a < b ∨ a = b ∨ b < a := by
  rcases Int.lt_trichotomy (cmpS a b) 0 with h | h | h
  · exact .inl ((cmpS_lt a b).1 h)
  · exact .inr (.inl ((cmpS_eq a b).1 h))
  · by_cases h2 : b < a
    · exact .inr (.inr h2)
    · exfalso
      have h3 : ¬ a < b := fun e => by have := (cmpS_lt a b).2 e; omega
      have h4 : ¬ a = b := fun e => by have := (cmpS_eq a b).2 e; omega
      exact h4 (List.le_antisymm (List.not_lt.1 h2) (List.not_lt.1 h3))
/-- Not above. -/
def sle (a b : Str) : Prop := ¬ b < a
theorem sle_trans {a b c : Str} (h : sle a b) (k : sle b c) : sle a c := by
  intro e
  rcases slt_tri a b with h1 | rfl | h1
  · exact k (slt_trans e h1)
  · exact k e
  · exact h h1
theorem slt_sle {a b : Str} (h : a < b) : sle a b := fun e => slt_irrefl a (slt_trans h e)

theorem insGo_perm : ∀ (r : List Str) (x : Str) (B : List Str), (insGo r x B).Perm (x :: (r.reverse ++ B))
  | [], x, B => by simp [insGo]
  | y :: r, x, B => by
    unfold insGo
    split
    · refine (insGo_perm r x (y :: B)).trans ?_
      simp
    · exact List.perm_middle
theorem insGo_sorted : ∀ (r : List Str) (x : Str) (B : List Str), (r.reverse ++ B).Pairwise sle → (∀ b ∈ B, x < b) → (insGo r x B).Pairwise sle
  | [], x, B, h, hx => by
    simp only [List.reverse_nil, List.nil_append] at h
    exact List.pairwise_cons.2 ⟨fun b hb => slt_sle (hx b hb), h⟩
  | y :: r, x, B, h, hx => by
    unfold insGo
    split
    · rename_i hl
      refine insGo_sorted r x (y :: B) (by simpa using h) fun b hb => ?_
      rcases List.mem_cons.1 hb with rfl | hb
      · exact (bl_lt _ _).1 hl
      · exact hx b hb
    · rename_i hl
      have hl : sle y x := fun e => hl ((bl_lt _ _).2 e)
      rw [List.pairwise_append] at h ⊢
      refine ⟨h.1, List.pairwise_cons.2 ⟨fun b hb => slt_sle (hx b hb), h.2.1⟩, fun a ha b hb => ?_⟩
      rcases List.mem_cons.1 hb with rfl | hb
      · rw [List.reverse_cons, List.mem_append] at ha
        rcases ha with ha | ha
        · have h3 := h.1
          rw [List.reverse_cons, List.pairwise_append] at h3
          exact sle_trans (h3.2.2 a ha y (by simp)) hl
        · simp at ha; subst ha; exact hl
      · exact h.2.2 a ha b hb
theorem insR_perm (l : List Str) (x : Str) : (insR l x).Perm (x :: l) := by
  have := insGo_perm l.reverse x []
  simpa [insR] using this
theorem insR_sorted {l : List Str} (x : Str) (h : l.Pairwise sle) : (insR l x).Pairwise sle :=
  insGo_sorted l.reverse x [] (by simpa using h) (by simp)
theorem isort_aux : ∀ (l a : List Str), a.Pairwise sle → (l.foldl insR a).Perm (l ++ a) ∧ (l.foldl insR a).Pairwise sle
  | [], a, h => ⟨by simp, h⟩
  | x :: l, a, h => by
    have ih := isort_aux l (insR a x) (insR_sorted x h)
    refine ⟨ih.1.trans ?_, ih.2⟩
    refine ((insR_perm a x).append_left l).trans ?_
    exact List.perm_middle
theorem isort_perm (l : List Str) : (isort l).Perm l := by
  have := (isort_aux l [] List.Pairwise.nil).1
  simpa [isort] using this
end Go.Ab.S2

/- What the references of cells and plans compute: definitions. -/
namespace Go.Ab.S2
open Go.Ab
set_option maxRecDepth 100000

def right02 (v : Value) : Bool :=
  if v.kind = 1 then v.s == ([] : Str) else if v.kind = 2 then v.n == 0 && decide ((v.s.length : Int) ≤ 32)
  else if v.kind = 3 then (v.n == 0 && decide ((v.s.length : Int) ≤ 32)) && Lib.validD v.s
  else if v.kind = 4 then v.s == ([] : Str) && (v.n == 0 || v.n == 1)
  else if v.kind = 5 then v.s == ([] : Str) && fR v.n else false
def right03 (c : Cell) : Bool :=
  if (decide ((c.row.length : Int) < 1) || decide (16 < (c.row.length : Int)) || !nameR c.fam || decide (12 < (c.qual.length : Int)) || decide (c.time < 0) || decide (1099511627776 < c.time)) = true then false
  else if c.kind = 1 then valR c.val else if c.kind = 2 ∨ c.kind = 3 then decide (c.val = Value.zero) else if c.kind = 4 then decide (c.val = Value.zero) && c.qual == ([] : Str) else false

/-- A cell into sorted ones. -/
def insC (x : Cell) : Bool → List Cell → List Cell
  | d, [] => if d then [] else [x]
  | d, y :: r => (if (!d && decide (order x y ≤ 0)) = true then [x] else []) ++ ((if order x y = 0 then [] else [y]) ++ insC x (d || decide (order x y ≤ 0)) r)
def sortS (out : List Cell) (x : Cell) : List Cell := if right03 x then insC x false out else out
def sort06 (l : List Cell) : List Cell := l.foldl sortS []
def killB (c d : Cell) : Bool := (d.row == c.row && d.fam == c.fam) && ((d.kind == 4 && decide (c.time ≤ d.time)) || d.qual == c.qual && ((d.kind == 3 && decide (c.time ≤ d.time)) || (d.kind == 2 && d.time == c.time)))
def lives06 (l : List Cell) (c : Cell) (life now : Int) : Bool := (c.kind == 1 && !(decide (0 < life) && decide (life ≤ IntKind.i64.wrap (now - c.time)))) && !(l.any (killB c))
def laterB (s : List Cell) (x : Cell) (life now : Int) (y : Cell) : Bool := ((((y.row == x.row && y.fam == x.fam) && y.qual == x.qual) && decide (x.time < y.time)) && lives06 s y life now)
def seenB (s : List Cell) (versions life now : Int) (x : Cell) : Bool := lives06 s x life now && decide (((s.countP (laterB s x life now) : Nat) : Int) < versions)
def seen06 (l : List Cell) (versions life now : Int) : List Cell :=
  if versions < 1 ∨ 8 < versions ∨ life < 0 then [] else (sort06 l).filter (seenB (sort06 l) versions life now)

def columnK (s : Schema) (fam qual : Str) : Int :=
  let c := (colF ((findF s fam).getD Family.zero) qual).getD Column.zero
  if famU s fam = true ∧ c.state = 3 then c.kind else 0

def longT (s : Str) : Bool := decide (100 < (s.length : Int))
def longM (m : Mut) : Bool := decide (100 < (m.fam.length : Int)) || decide (100 < (m.qual.length : Int)) || decide (100 < (m.val.s.length : Int))
def longQ0 (q : Request) : Bool := decide (100 < (q.row.length : Int)) || decide (100 < (q.to.length : Int)) || decide (100 < (q.fam.length : Int)) || decide (100 < (q.qual.length : Int)) || decide (100 < (q.val.s.length : Int)) || decide (20 < (q.muts.length : Int)) || decide (20 < (q.filter.fams.length : Int)) || decide (100 < (q.filter.from_.length : Int)) || decide (100 < (q.filter.to.length : Int))
def longRequest (q : Request) : Bool := longQ0 q || q.filter.fams.any longT || q.muts.any longM
end Go.Ab.S2

/- UTF-8, character by character: plain laws. -/
namespace Go.Ab.S2
open Go.Ab
set_option maxRecDepth 100000

def accU (l : Str) (c : Int) : Nat → Int
  | 0 => c
  | j + 1 => accU l c j * 64 + ((l.getD (j + 1) 0).toNat : Int) - 128
def Lead (b n : Nat) (base least : Int) : Prop := (194 ≤ b ∧ b ≤ 223 ∧ n = 1 ∧ base = 192 ∧ least = 128) ∨ (224 ≤ b ∧ b ≤ 239 ∧ n = 2 ∧ base = 224 ∧ least = 2048) ∨ (240 ≤ b ∧ b ≤ 244 ∧ n = 3 ∧ base = 240 ∧ least = 65536)
def endU (c least : Int) : Bool := decide (c < least) || decide (1114111 < c) || (decide (55296 ≤ c) && decide (c ≤ 57343))

theorem u_step {l : Str} (hne : l ≠ []) {c : Nat} {k : Nat} (h : Lib.decodeN l.length (l.getD 0 0).toNat (l.getD 1 0).toNat (l.getD 2 0).toNat (l.getD 3 0).toNat = (c, k)) : Lib.validD l = if c = 65533 ∧ k = 1 then false else Lib.validD (l.drop k) := by
  rw [Lib.validD_step l hne, Lib.decodeL_N, h]
theorem u_bad {l : Str} (hne : l ≠ []) (h : Lib.decodeN l.length (l.getD 0 0).toNat (l.getD 1 0).toNat (l.getD 2 0).toNat (l.getD 3 0).toNat = (65533, 1)) : Lib.validD l = false := by
  rw [u_step hne h, if_pos ⟨rfl, rfl⟩]

theorem u_other {l : Str} (hne : l ≠ []) (h1 : 128 ≤ (l.getD 0 0).toNat) (h2 : ¬ (194 ≤ (l.getD 0 0).toNat ∧ (l.getD 0 0).toNat ≤ 244)) : Lib.validD l = false := by
  have hb := (l.getD 0 0).toNat_lt
  exact u_bad hne (Lib.decodeN_bad _ _ _ _ _ (by omega))
theorem u_short {l : Str} (hne : l ≠ []) {n : Nat} {base least : Int} (h : Lead (l.getD 0 0).toNat n base least) (hl : l.length ≤ n) : Lib.validD l = false := by
  refine u_bad hne ?_
  generalize (l.getD 0 0).toNat = b0 at h ⊢
  unfold Lib.decodeN
  rcases h with ⟨h1, h2, rfl, -, -⟩ | ⟨h1, h2, rfl, -, -⟩ | ⟨h1, h2, rfl, -, -⟩
  all_goals (repeat' split) <;> first | rfl | (exfalso; omega)
theorem u_cont {l : Str} (hne : l ≠ []) {n : Nat} {base least : Int} (h : Lead (l.getD 0 0).toNat n base least) {j : Nat} (hj : j < n) (hb : (l.getD (j + 1) 0).toNat < 128 ∨ 191 < (l.getD (j + 1) 0).toNat) : Lib.validD l = false := by
  refine u_bad hne ?_
  have c1 := (l.getD 1 0).toNat_lt
  have c2 := (l.getD 2 0).toNat_lt
  have c3 := (l.getD 3 0).toNat_lt
  have hj3 : j = 0 ∨ j = 1 ∨ j = 2 := by unfold Lead at h; omega
  generalize (l.getD 0 0).toNat = b0 at h ⊢
  unfold Lib.decodeN
  rcases hj3 with rfl | rfl | rfl <;> simp only [Nat.zero_add, Nat.reduceAdd] at hb
  all_goals (rcases h with ⟨h1, h2, rfl, -, -⟩ | ⟨h1, h2, rfl, -, -⟩ | ⟨h1, h2, rfl, -, -⟩)
  all_goals (repeat' split) <;> first | rfl | (exfalso; omega)
theorem u_end {l : Str} (hne : l ≠ []) {n : Nat} {base least : Int} (h : Lead (l.getD 0 0).toNat n base least) (hl : n < l.length) (hg : ∀ j, j < n → 128 ≤ (l.getD (j + 1) 0).toNat ∧ (l.getD (j + 1) 0).toNat ≤ 191) :
    (endU (accU l ((l.getD 0 0).toNat - base) n) least = true → Lib.validD l = false) ∧ (endU (accU l ((l.getD 0 0).toNat - base) n) least = false → Lib.validD l = Lib.validD (l.drop (n + 1))) := by
  have g0 := hg 0
  have g1 := hg 1
  have g2 := hg 2
  simp only [Nat.zero_add, Nat.reduceAdd] at g0 g1 g2
  have key : ∀ b0 b1 b2 b3, (l.getD 0 0).toNat = b0 → (l.getD 1 0).toNat = b1 → (l.getD 2 0).toNat = b2 → (l.getD 3 0).toNat = b3 →
      (endU (accU l (b0 - base) n) least = true → Lib.decodeN l.length b0 b1 b2 b3 = (65533, 1)) ∧ (endU (accU l (b0 - base) n) least = false → ∃ c, (Lib.decodeN l.length b0 b1 b2 b3) = (c, n + 1)) := by
    intro b0 b1 b2 b3 e0 e1 e2 e3
    rw [e1] at g0
    rw [e2] at g1
    rw [e3] at g2
    rw [e0] at h
    unfold Lib.decodeN
    rcases h with ⟨h1, h2, rfl, rfl, rfl⟩ | ⟨h1, h2, rfl, rfl, rfl⟩ | ⟨h1, h2, rfl, rfl, rfl⟩
    · have := g0 (by omega)
      simp only [accU, endU, Nat.zero_add, e1, Bool.or_eq_true, Bool.and_eq_true, decide_eq_true_eq, Bool.or_eq_false_iff, Bool.and_eq_false_iff, decide_eq_false_iff_not]
      constructor
      · intro he
        (repeat' split) <;> first | rfl | (exfalso; omega)
      · intro he
        (repeat' split) <;> first | exact ⟨_, rfl⟩ | (exfalso; omega)
    · have := g0 (by omega)
      have := g1 (by omega)
      simp only [accU, endU, Nat.zero_add, Nat.reduceAdd, e1, e2, Bool.or_eq_true, Bool.and_eq_true, decide_eq_true_eq, Bool.or_eq_false_iff, Bool.and_eq_false_iff, decide_eq_false_iff_not]
      constructor
      · intro he
        (repeat' split) <;> first | rfl | (exfalso; omega)
      · intro he
        (repeat' split) <;> first | exact ⟨_, rfl⟩ | (exfalso; omega)
    · have := g0 (by omega)
      have := g1 (by omega)
      have := g2 (by omega)
      simp only [accU, endU, Nat.zero_add, Nat.reduceAdd, e1, e2, e3, Bool.or_eq_true, Bool.and_eq_true, decide_eq_true_eq, Bool.or_eq_false_iff, Bool.and_eq_false_iff, decide_eq_false_iff_not]
      constructor
      · intro he
        (repeat' split) <;> first | rfl | (exfalso; omega)
      · intro he
        (repeat' split) <;> first | exact ⟨_, rfl⟩ | (exfalso; omega)
  have k := key _ _ _ _ rfl rfl rfl rfl
  refine ⟨fun he => u_bad hne (k.1 he), fun he => ?_⟩
  obtain ⟨c, hc⟩ := k.2 he
  rw [u_step hne hc, if_neg]
  unfold Lead at h
  omega
end Go.Ab.S2

/- Contracts: values and cells, as the references tell them. -/
namespace Go.Ab.S2
open Go.Ab
set_option maxRecDepth 100000

theorem getD_drop {s : Str} {k j : Nat} {b : UInt8} (h : s[k + j]? = some b) : (s.drop k).getD j 0 = b := by
  rw [List.getD_eq_getElem?_getD, List.getElem?_drop, h]; rfl
theorem byteW (b : UInt8) : IntKind.i64.wrap (b.toNat : Int) = (b.toNat : Int) := by
  have := b.toNat_lt
  rw [wrap64 (by omega) (by omega)]
theorem accU_bounds {l : Str} {c : Int} (h0 : 0 ≤ c) (h1 : c < 32) : ∀ {j : Nat}, j ≤ 3 → (∀ i, i < j → 128 ≤ (l.getD (i + 1) 0).toNat ∧ (l.getD (i + 1) 0).toNat ≤ 191) → 0 ≤ accU l c j ∧ accU l c j < 32 * 64 ^ j
  | 0, _, _ => ⟨h0, by simpa [accU] using h1⟩
  | j + 1, hj, h => by
    have ih := accU_bounds h0 h1 (j := j) (by omega) fun i hi => h i (by omega)
    have hb := h j (by omega)
    have hp : j = 0 ∨ j = 1 ∨ j = 2 := by omega
    simp only [accU]
    rcases hp with rfl | rfl | rfl <;> (simp only [Nat.zero_add, Nat.reduceAdd, Int.reducePow, Int.reduceMul] at ih hb ⊢; omega)
theorem accU_b {l : Str} {c : Int} (h0 : 0 ≤ c) (h1 : c < 32) {j : Nat} (hj : j ≤ 3) (h : ∀ i, i < j → 128 ≤ (l.getD (i + 1) 0).toNat ∧ (l.getD (i + 1) 0).toNat ≤ 191) : 0 ≤ accU l c j ∧ accU l c j < 8388608 := by
  have hb := accU_bounds h0 h1 hj h
  have hp : j = 0 ∨ j = 1 ∨ j = 2 ∨ j = 3 := by omega
  rcases hp with rfl | rfl | rfl | rfl <;> simp at hb <;> omega

theorem utf8_spec (s : Str) (hs : s.length < 1099511627776) : Ans N.joistref02_Utf8 [.str s] (.bool (Lib.validD s)) := by
  intro h
  refine spec_of ck_joistref02_Utf8 ?_
  rw [wp_start]
  simp (maxSteps := 1000000) (disch := omega) only [go_sem, ↓reduceIte, reduceCtorEq, F.joistref02_Utf8]
  refine loopS_meas (fun k : Nat => ⟨[(0, .str s), (3, .int .i64 k)], h⟩) (fun k => s.length - k) (fun k => k ≤ s.length ∧ Lib.validD s = Lib.validD (s.drop k)) 0 rfl ⟨Nat.zero_le _, by simp⟩ ?_
  rintro k ⟨k1, hJ⟩
  simp (maxSteps := 1000000) (disch := omega) only [go_sem, ↓reduceIte, Nat.reduceEqDiff, reduceCtorEq]
  rw [condS_some]; refine ⟨fun hx => ?_, fun hx => ?_⟩
  · have hk : k < s.length := by simpa using hx
    obtain ⟨b, hb⟩ := getlt hk
    have hbl := b.toNat_lt
    have hne : s.drop k ≠ [] := by rw [dropc hb]; simp
    have h0 : ((s.drop k).getD 0 0).toNat = b.toNat := by rw [getD_drop (j := 0) hb]
    have hkl : (s.drop k).length = s.length - k := List.length_drop
    simp (maxSteps := 1000000) (disch := omega) only [go_sem, ↓reduceIte, Nat.reduceEqDiff, reduceCtorEq, hb, byteW]
    rw [condS_some]; refine ⟨fun hx => ?_, fun hx => ?_⟩
    · have hlt : b.toNat < 128 := by
        simp at hx
        omega
      simp (maxSteps := 1000000) (disch := omega) only [go_sem, ↓reduceIte, Nat.reduceEqDiff, reduceCtorEq]
      refine lpm_next (h.length + 0) (k + 1) ?_ ?_ ?_ ?_
      rotate_left 2
      · simp (maxSteps := 1000000) (disch := omega) only [go_sem, ↓reduceIte, reduceCtorEq, wrap64, Int.natCast_add, Int.cast_ofNat_Int]
      · simp (maxSteps := 1000000) (disch := omega) only [go_sem]
      · show s.length - (k + 1) < s.length - k
        omega
      · refine ⟨by omega, ?_⟩
        rw [hJ, dropc hb, Lib.validD_cons b _ hlt]
    · have hge : 128 ≤ b.toNat := by
        simp at hx
        omega
      simp (maxSteps := 1000000) (disch := omega) only [go_sem, ↓reduceIte, Nat.reduceEqDiff, reduceCtorEq]
      rw [condS_some]; refine ⟨fun hx => ?_, fun hx => ?_⟩
      · simp only [Bool.and_eq_true, decide_eq_true_eq] at hx
        have hL : Lead b.toNat 1 192 128 := by unfold Lead; omega
        have hL0 : Lead ((s.drop k).getD 0 0).toNat 1 192 128 := by rw [h0]; exact hL
        have hcw : IntKind.i64.wrap ((b.toNat : Int) - 192) = (b.toNat : Int) - 192 := by rw [wrap64 (by omega) (by omega)]
        have hkn : IntKind.i64.wrap ((k : Int) + 1) = ((k + 1 : Nat) : Int) := by rw [wrap64 (by omega) (by omega)]; omega
        simp (maxSteps := 1000000) (disch := omega) only [go_sem, ↓reduceIte, Nat.reduceEqDiff, reduceCtorEq, hcw, hkn]
        rw [condS_some]; refine ⟨fun hx => ?_, fun hx => ?_⟩
        · have hsh : s.length ≤ k + 1 := by
            simp only [decide_eq_true_eq] at hx
            omega
          simp (maxSteps := 1000000) (disch := omega) only [go_sem, ↓reduceIte]
          have hv := u_short hne hL0 (by omega)
          refine finS_l ?_
          simp (maxSteps := 1000000) (disch := omega) only [go_sem]
          all_goals simp [hJ, hv]
        · have hsh : k + 1 < s.length := by
            simp only [decide_eq_false_iff_not] at hx
            omega
          simp (maxSteps := 1000000) (disch := omega) only [go_sem, ↓reduceIte, Nat.reduceEqDiff, reduceCtorEq]
          refine loopS_meas (fun j : Nat => ⟨[(0, .str s), (3, .int .i64 k), (4, .int .i64 (accU (s.drop k) (b.toNat - 192) j)), (5, .int .i64 1), (6, .int .i64 128), (7, .int .i64 ((j + 1 : Nat) : Int))], h⟩) (fun j => 1 - j) (fun j => j ≤ 1 ∧ ∀ i, i < j → 128 ≤ ((s.drop k).getD (i + 1) 0).toNat ∧ ((s.drop k).getD (i + 1) 0).toNat ≤ 191) 0 (by simp (maxSteps := 1000000) (disch := omega) only [go_sem, ↓reduceIte, Nat.reduceEqDiff, reduceCtorEq, accU]; rfl) ⟨by omega, by omega⟩ ?_
          rintro j ⟨hj, hgo⟩
          have hab := accU_b (l := s.drop k) (c := (b.toNat : Int) - 192) (by omega) (by omega) (j := j) (by omega) hgo
          simp (maxSteps := 1000000) (disch := omega) only [go_sem, ↓reduceIte, Nat.reduceEqDiff, reduceCtorEq]
          rw [condS_some]; refine ⟨fun hx => ?_, fun hx => ?_⟩
          · have hjn : j < 1 := by
              simp only [decide_eq_true_eq] at hx
              omega
            obtain ⟨d, hd⟩ := getlt (l := s) (k := k + (j + 1)) (by omega)
            have hdl := d.toNat_lt
            have hdd : (s.drop k).getD (j + 1) 0 = d := getD_drop hd
            have hkj : IntKind.i64.wrap ((k : Int) + ((j + 1 : Nat) : Int)) = ((k + (j + 1) : Nat) : Int) := by rw [wrap64 (by omega) (by omega)]; omega
            simp (maxSteps := 1000000) (disch := omega) only [go_sem, ↓reduceIte, Nat.reduceEqDiff, reduceCtorEq, hkj, hd, byteW]
            rw [condS_some]; refine ⟨fun hx => ?_, fun hx => ?_⟩
            · simp only [Bool.or_eq_true, decide_eq_true_eq] at hx
              simp (maxSteps := 1000000) (disch := omega) only [go_sem, ↓reduceIte]
              have hv := u_cont hne hL0 hjn (by rw [hdd]; omega)
              refine finS_l ?_
              simp (maxSteps := 1000000) (disch := omega) only [go_sem]
              all_goals simp [hJ, hv]
            · simp only [Bool.or_eq_false_iff, decide_eq_false_iff_not] at hx
              simp (maxSteps := 1000000) (disch := omega) only [go_sem, ↓reduceIte, Nat.reduceEqDiff, reduceCtorEq]
              refine lpm_next (h.length + 0) (j + 1) ?_ ?_ ?_ ?_
              rotate_left 2
              · simp (maxSteps := 1000000) (disch := omega) only [go_sem, ↓reduceIte, Nat.reduceAdd, Nat.reduceEqDiff, reduceCtorEq, wrap64, accU, hdd, Int.natCast_add, Int.cast_ofNat_Int]
                rw [show ((j : Int) + 1 + 1) = (j : Int) + 2 by omega]
              · simp (maxSteps := 1000000) (disch := omega) only [go_sem]
              · show 1 - (j + 1) < 1 - j
                omega
              · refine ⟨by omega, fun i hi => ?_⟩
                by_cases hij : i = j
                · subst hij; rw [hdd]; omega
                · exact hgo i (by omega)
          · have hjn : j = 1 := by
              simp only [decide_eq_false_iff_not] at hx
              omega
            subst hjn
            have hE := u_end hne hL0 (by omega) hgo
            rw [h0] at hE
            simp (maxSteps := 1000000) (disch := omega) only [go_sem, ↓reduceIte, Nat.reduceAdd, Nat.reduceSub, Nat.reduceEqDiff, reduceCtorEq]
            rw [condS_some]; refine ⟨fun hx => ?_, fun hx => ?_⟩
            · simp (maxSteps := 1000000) (disch := omega) only [go_sem, ↓reduceIte]
              have hv := hE.1 hx
              refine finS_l ?_
              simp (maxSteps := 1000000) (disch := omega) only [go_sem]
              all_goals simp [hJ, hv]
            · simp (maxSteps := 1000000) (disch := omega) only [go_sem, ↓reduceIte, Nat.reduceEqDiff, Int.reduceAdd, reduceCtorEq]
              have hv := hE.2 hx
              refine lpm_next (h.length + 0) (k + 1 + 1) ?_ ?_ ?_ ?_
              rotate_left 2
              · simp (maxSteps := 1000000) (disch := omega) only [go_sem, ↓reduceIte, Nat.reduceAdd, reduceCtorEq, wrap64, Int.natCast_add, Int.cast_ofNat_Int]
              · simp (maxSteps := 1000000) (disch := omega) only [go_sem]
              · show s.length - (k + 1 + 1) < s.length - k
                omega
              · refine ⟨by omega, ?_⟩
                rw [hJ, hv, List.drop_drop]
      · simp only [Bool.and_eq_false_iff, decide_eq_false_iff_not] at hx
        have hn0 := hx
        simp (maxSteps := 1000000) (disch := omega) only [go_sem, ↓reduceIte, Nat.reduceEqDiff, reduceCtorEq]
        rw [condS_some]; refine ⟨fun hx => ?_, fun hx => ?_⟩
        · simp only [Bool.and_eq_true, decide_eq_true_eq] at hx
          have hL : Lead b.toNat 2 224 2048 := by unfold Lead; omega
          have hL0 : Lead ((s.drop k).getD 0 0).toNat 2 224 2048 := by rw [h0]; exact hL
          have hcw : IntKind.i64.wrap ((b.toNat : Int) - 224) = (b.toNat : Int) - 224 := by rw [wrap64 (by omega) (by omega)]
          have hkn : IntKind.i64.wrap ((k : Int) + 2) = ((k + 2 : Nat) : Int) := by rw [wrap64 (by omega) (by omega)]; omega
          simp (maxSteps := 1000000) (disch := omega) only [go_sem, ↓reduceIte, Nat.reduceEqDiff, reduceCtorEq, hcw, hkn]
          rw [condS_some]; refine ⟨fun hx => ?_, fun hx => ?_⟩
          · have hsh : s.length ≤ k + 2 := by
              simp only [decide_eq_true_eq] at hx
              omega
            simp (maxSteps := 1000000) (disch := omega) only [go_sem, ↓reduceIte]
            have hv := u_short hne hL0 (by omega)
            refine finS_l ?_
            simp (maxSteps := 1000000) (disch := omega) only [go_sem]
            all_goals simp [hJ, hv]
          · have hsh : k + 2 < s.length := by
              simp only [decide_eq_false_iff_not] at hx
              omega
            simp (maxSteps := 1000000) (disch := omega) only [go_sem, ↓reduceIte, Nat.reduceEqDiff, reduceCtorEq]
            refine loopS_meas (fun j : Nat => ⟨[(0, .str s), (3, .int .i64 k), (4, .int .i64 (accU (s.drop k) (b.toNat - 224) j)), (5, .int .i64 2), (6, .int .i64 2048), (7, .int .i64 ((j + 1 : Nat) : Int))], h⟩) (fun j => 2 - j) (fun j => j ≤ 2 ∧ ∀ i, i < j → 128 ≤ ((s.drop k).getD (i + 1) 0).toNat ∧ ((s.drop k).getD (i + 1) 0).toNat ≤ 191) 0 (by simp (maxSteps := 1000000) (disch := omega) only [go_sem, ↓reduceIte, Nat.reduceEqDiff, reduceCtorEq, accU]; rfl) ⟨by omega, by omega⟩ ?_
            rintro j ⟨hj, hgo⟩
            have hab := accU_b (l := s.drop k) (c := (b.toNat : Int) - 224) (by omega) (by omega) (j := j) (by omega) hgo
            simp (maxSteps := 1000000) (disch := omega) only [go_sem, ↓reduceIte, Nat.reduceEqDiff, reduceCtorEq]
            rw [condS_some]; refine ⟨fun hx => ?_, fun hx => ?_⟩
            · have hjn : j < 2 := by
                simp only [decide_eq_true_eq] at hx
                omega
              obtain ⟨d, hd⟩ := getlt (l := s) (k := k + (j + 1)) (by omega)
              have hdl := d.toNat_lt
              have hdd : (s.drop k).getD (j + 1) 0 = d := getD_drop hd
              have hkj : IntKind.i64.wrap ((k : Int) + ((j + 1 : Nat) : Int)) = ((k + (j + 1) : Nat) : Int) := by rw [wrap64 (by omega) (by omega)]; omega
              simp (maxSteps := 1000000) (disch := omega) only [go_sem, ↓reduceIte, Nat.reduceEqDiff, reduceCtorEq, hkj, hd, byteW]
              rw [condS_some]; refine ⟨fun hx => ?_, fun hx => ?_⟩
              · simp only [Bool.or_eq_true, decide_eq_true_eq] at hx
                simp (maxSteps := 1000000) (disch := omega) only [go_sem, ↓reduceIte]
                have hv := u_cont hne hL0 hjn (by rw [hdd]; omega)
                refine finS_l ?_
                simp (maxSteps := 1000000) (disch := omega) only [go_sem]
                all_goals simp [hJ, hv]
              · simp only [Bool.or_eq_false_iff, decide_eq_false_iff_not] at hx
                simp (maxSteps := 1000000) (disch := omega) only [go_sem, ↓reduceIte, Nat.reduceEqDiff, reduceCtorEq]
                refine lpm_next (h.length + 0) (j + 1) ?_ ?_ ?_ ?_
                rotate_left 2
                · simp (maxSteps := 1000000) (disch := omega) only [go_sem, ↓reduceIte, Nat.reduceAdd, Nat.reduceEqDiff, reduceCtorEq, wrap64, accU, hdd, Int.natCast_add, Int.cast_ofNat_Int]
                  rw [show ((j : Int) + 1 + 1) = (j : Int) + 2 by omega]
                · simp (maxSteps := 1000000) (disch := omega) only [go_sem]
                · show 2 - (j + 1) < 2 - j
                  omega
                · refine ⟨by omega, fun i hi => ?_⟩
                  by_cases hij : i = j
                  · subst hij; rw [hdd]; omega
                  · exact hgo i (by omega)
            · have hjn : j = 2 := by
                simp only [decide_eq_false_iff_not] at hx
                omega
              subst hjn
              have hE := u_end hne hL0 (by omega) hgo
              rw [h0] at hE
              simp (maxSteps := 1000000) (disch := omega) only [go_sem, ↓reduceIte, Nat.reduceAdd, Nat.reduceSub, Nat.reduceEqDiff, reduceCtorEq]
              rw [condS_some]; refine ⟨fun hx => ?_, fun hx => ?_⟩
              · simp (maxSteps := 1000000) (disch := omega) only [go_sem, ↓reduceIte]
                have hv := hE.1 hx
                refine finS_l ?_
                simp (maxSteps := 1000000) (disch := omega) only [go_sem]
                all_goals simp [hJ, hv]
              · simp (maxSteps := 1000000) (disch := omega) only [go_sem, ↓reduceIte, Nat.reduceEqDiff, Int.reduceAdd, reduceCtorEq]
                have hv := hE.2 hx
                refine lpm_next (h.length + 0) (k + 2 + 1) ?_ ?_ ?_ ?_
                rotate_left 2
                · simp (maxSteps := 1000000) (disch := omega) only [go_sem, ↓reduceIte, Nat.reduceAdd, reduceCtorEq, wrap64, Int.natCast_add, Int.cast_ofNat_Int]
                · simp (maxSteps := 1000000) (disch := omega) only [go_sem]
                · show s.length - (k + 2 + 1) < s.length - k
                  omega
                · refine ⟨by omega, ?_⟩
                  rw [hJ, hv, List.drop_drop]
        · simp only [Bool.and_eq_false_iff, decide_eq_false_iff_not] at hx
          have hn1 := hx
          simp (maxSteps := 1000000) (disch := omega) only [go_sem, ↓reduceIte, Nat.reduceEqDiff, reduceCtorEq]
          rw [condS_some]; refine ⟨fun hx => ?_, fun hx => ?_⟩
          · simp only [Bool.and_eq_true, decide_eq_true_eq] at hx
            have hL : Lead b.toNat 3 240 65536 := by unfold Lead; omega
            have hL0 : Lead ((s.drop k).getD 0 0).toNat 3 240 65536 := by rw [h0]; exact hL
            have hcw : IntKind.i64.wrap ((b.toNat : Int) - 240) = (b.toNat : Int) - 240 := by rw [wrap64 (by omega) (by omega)]
            have hkn : IntKind.i64.wrap ((k : Int) + 3) = ((k + 3 : Nat) : Int) := by rw [wrap64 (by omega) (by omega)]; omega
            simp (maxSteps := 1000000) (disch := omega) only [go_sem, ↓reduceIte, Nat.reduceEqDiff, reduceCtorEq, hcw, hkn]
            rw [condS_some]; refine ⟨fun hx => ?_, fun hx => ?_⟩
            · have hsh : s.length ≤ k + 3 := by
                simp only [decide_eq_true_eq] at hx
                omega
              simp (maxSteps := 1000000) (disch := omega) only [go_sem, ↓reduceIte]
              have hv := u_short hne hL0 (by omega)
              refine finS_l ?_
              simp (maxSteps := 1000000) (disch := omega) only [go_sem]
              all_goals simp [hJ, hv]
            · have hsh : k + 3 < s.length := by
                simp only [decide_eq_false_iff_not] at hx
                omega
              simp (maxSteps := 1000000) (disch := omega) only [go_sem, ↓reduceIte, Nat.reduceEqDiff, reduceCtorEq]
              refine loopS_meas (fun j : Nat => ⟨[(0, .str s), (3, .int .i64 k), (4, .int .i64 (accU (s.drop k) (b.toNat - 240) j)), (5, .int .i64 3), (6, .int .i64 65536), (7, .int .i64 ((j + 1 : Nat) : Int))], h⟩) (fun j => 3 - j) (fun j => j ≤ 3 ∧ ∀ i, i < j → 128 ≤ ((s.drop k).getD (i + 1) 0).toNat ∧ ((s.drop k).getD (i + 1) 0).toNat ≤ 191) 0 (by simp (maxSteps := 1000000) (disch := omega) only [go_sem, ↓reduceIte, Nat.reduceEqDiff, reduceCtorEq, accU]; rfl) ⟨by omega, by omega⟩ ?_
              rintro j ⟨hj, hgo⟩
              have hab := accU_b (l := s.drop k) (c := (b.toNat : Int) - 240) (by omega) (by omega) (j := j) (by omega) hgo
              simp (maxSteps := 1000000) (disch := omega) only [go_sem, ↓reduceIte, Nat.reduceEqDiff, reduceCtorEq]
              rw [condS_some]; refine ⟨fun hx => ?_, fun hx => ?_⟩
              · have hjn : j < 3 := by
                  simp only [decide_eq_true_eq] at hx
                  omega
                obtain ⟨d, hd⟩ := getlt (l := s) (k := k + (j + 1)) (by omega)
                have hdl := d.toNat_lt
                have hdd : (s.drop k).getD (j + 1) 0 = d := getD_drop hd
                have hkj : IntKind.i64.wrap ((k : Int) + ((j + 1 : Nat) : Int)) = ((k + (j + 1) : Nat) : Int) := by rw [wrap64 (by omega) (by omega)]; omega
                simp (maxSteps := 1000000) (disch := omega) only [go_sem, ↓reduceIte, Nat.reduceEqDiff, reduceCtorEq, hkj, hd, byteW]
                rw [condS_some]; refine ⟨fun hx => ?_, fun hx => ?_⟩
                · simp only [Bool.or_eq_true, decide_eq_true_eq] at hx
                  simp (maxSteps := 1000000) (disch := omega) only [go_sem, ↓reduceIte]
                  have hv := u_cont hne hL0 hjn (by rw [hdd]; omega)
                  refine finS_l ?_
                  simp (maxSteps := 1000000) (disch := omega) only [go_sem]
                  all_goals simp [hJ, hv]
                · simp only [Bool.or_eq_false_iff, decide_eq_false_iff_not] at hx
                  simp (maxSteps := 1000000) (disch := omega) only [go_sem, ↓reduceIte, Nat.reduceEqDiff, reduceCtorEq]
                  refine lpm_next (h.length + 0) (j + 1) ?_ ?_ ?_ ?_
                  rotate_left 2
                  · simp (maxSteps := 1000000) (disch := omega) only [go_sem, ↓reduceIte, Nat.reduceAdd, Nat.reduceEqDiff, reduceCtorEq, wrap64, accU, hdd, Int.natCast_add, Int.cast_ofNat_Int]
                    rw [show ((j : Int) + 1 + 1) = (j : Int) + 2 by omega]
                  · simp (maxSteps := 1000000) (disch := omega) only [go_sem]
                  · show 3 - (j + 1) < 3 - j
                    omega
                  · refine ⟨by omega, fun i hi => ?_⟩
                    by_cases hij : i = j
                    · subst hij; rw [hdd]; omega
                    · exact hgo i (by omega)
              · have hjn : j = 3 := by
                  simp only [decide_eq_false_iff_not] at hx
                  omega
                subst hjn
                have hE := u_end hne hL0 (by omega) hgo
                rw [h0] at hE
                simp (maxSteps := 1000000) (disch := omega) only [go_sem, ↓reduceIte, Nat.reduceAdd, Nat.reduceSub, Nat.reduceEqDiff, reduceCtorEq]
                rw [condS_some]; refine ⟨fun hx => ?_, fun hx => ?_⟩
                · simp (maxSteps := 1000000) (disch := omega) only [go_sem, ↓reduceIte]
                  have hv := hE.1 hx
                  refine finS_l ?_
                  simp (maxSteps := 1000000) (disch := omega) only [go_sem]
                  all_goals simp [hJ, hv]
                · simp (maxSteps := 1000000) (disch := omega) only [go_sem, ↓reduceIte, Nat.reduceEqDiff, Int.reduceAdd, reduceCtorEq]
                  have hv := hE.2 hx
                  refine lpm_next (h.length + 0) (k + 3 + 1) ?_ ?_ ?_ ?_
                  rotate_left 2
                  · simp (maxSteps := 1000000) (disch := omega) only [go_sem, ↓reduceIte, Nat.reduceAdd, reduceCtorEq, wrap64, Int.natCast_add, Int.cast_ofNat_Int]
                  · simp (maxSteps := 1000000) (disch := omega) only [go_sem]
                  · show s.length - (k + 3 + 1) < s.length - k
                    omega
                  · refine ⟨by omega, ?_⟩
                    rw [hJ, hv, List.drop_drop]
          · simp only [Bool.and_eq_false_iff, decide_eq_false_iff_not] at hx
            simp (maxSteps := 1000000) (disch := omega) only [go_sem, ↓reduceIte]
            have hv := u_other hne (by rw [h0]; exact hge) (by rw [h0]; omega)
            refine finS_l ?_
            simp (maxSteps := 1000000) (disch := omega) only [go_sem]
            all_goals simp [hJ, hv]
  · have hk : k = s.length := by
      simp at hx
      omega
    simp (maxSteps := 1000000) (disch := omega) only [go_sem, ↓reduceIte]
    subst hk
    simp only [List.drop_length] at hJ
    refine finS_l ?_
    simp (maxSteps := 1000000) (disch := omega) only [go_sem]
    all_goals simp [hJ, Lib.validD_nil]
end Go.Ab.S2

/- Contracts: right values and cells, their order (joistref02, joistref03). -/
namespace Go.Ab.S2
open Go.Ab
set_option maxRecDepth 100000

/-- The lengths of a cell's texts. -/
structure CellSm (c : Cell) : Prop where
  row : c.row.length < 1099511627776
  fam : c.fam.length < 1099511627776
  qual : c.qual.length < 1099511627776
  val : c.val.s.length < 1099511627776
theorem right02_spec (v : Value) (hv : v.s.length < 1099511627776) : Ans N.joistref02_Right [.agg v.e] (.bool (right02 v)) := by
  intro h
  refine spec_of ck_joistref02_Right ?_
  rw [wp_start]
  simp (maxSteps := 1000000) (disch := omega) only [go_sem, ↓reduceIte, Nat.reduceEqDiff, F.joistref02_Right]
  intro t
  rw [condS_some]; refine ⟨fun hx => ?_, fun hx => ?_⟩
  · have k1 : v.kind = 1 := by simpa using hx
    simp (maxSteps := 1000000) (disch := omega) only [go_sem, ↓reduceIte]
    refine finS_l ?_
    simp (maxSteps := 1000000) (disch := omega) only [go_sem]
    all_goals simp [right02, k1]
  · have k1 : ¬ v.kind = 1 := by simpa using hx
    simp (maxSteps := 1000000) (disch := omega) only [go_sem, ↓reduceIte, Nat.reduceEqDiff]
    rw [condS_some]; refine ⟨fun hx => ?_, fun hx => ?_⟩
    · have k2 : v.kind = 2 := by simpa using hx
      simp (maxSteps := 1000000) (disch := omega) only [go_sem, ↓reduceIte, Nat.reduceEqDiff]
      refine finS_l ?_
      simp (maxSteps := 1000000) (disch := omega) only [go_sem]
      all_goals simp [right02, k2]
    · have k2 : ¬ v.kind = 2 := by simpa using hx
      simp (maxSteps := 1000000) (disch := omega) only [go_sem, ↓reduceIte, Nat.reduceEqDiff]
      rw [condS_some]; refine ⟨fun hx => ?_, fun hx => ?_⟩
      · have k3 : v.kind = 3 := by simpa using hx
        simp (maxSteps := 1000000) (disch := omega) only [go_sem, ↓reduceIte, Nat.reduceEqDiff]
        rw [opEg_some]; refine ⟨fun hg => ?_, fun hg => ?_⟩ <;> try simp only [Bool.and_eq_true] at hg
        · have g1 := hg
          simp (maxSteps := 1000000) (disch := omega) only [go_sem, ↓reduceIte, g1]
          refine callS_exact (utf8_spec v.s hv _) ?_
          simp (maxSteps := 1000000) (disch := omega) only [go_sem, ↓reduceIte, Nat.reduceEqDiff]
          refine finS_l ?_
          simp (maxSteps := 1000000) (disch := omega) only [go_sem, ↓reduceIte, Int.reduceEq, right02, k3, g1]
          all_goals (try simp [right02, k3, g1])
        · have g1 := hg
          simp (maxSteps := 1000000) (disch := omega) only [go_sem, ↓reduceIte, Nat.reduceEqDiff, g1]
          refine finS_l ?_
          simp (maxSteps := 1000000) (disch := omega) only [go_sem, ↓reduceIte, Int.reduceEq, right02, k3, g1]
          all_goals (try simp [right02, k3, g1])
      · have k3 : ¬ v.kind = 3 := by simpa using hx
        simp (maxSteps := 1000000) (disch := omega) only [go_sem, ↓reduceIte, Nat.reduceEqDiff]
        rw [condS_some]; refine ⟨fun hx => ?_, fun hx => ?_⟩
        · have k4 : v.kind = 4 := by simpa using hx
          simp (maxSteps := 1000000) (disch := omega) only [go_sem, ↓reduceIte, Nat.reduceEqDiff]
          refine finS_l ?_
          simp (maxSteps := 1000000) (disch := omega) only [go_sem]
          all_goals simp [right02, k4]
        · have k4 : ¬ v.kind = 4 := by simpa using hx
          simp (maxSteps := 1000000) (disch := omega) only [go_sem, ↓reduceIte, Nat.reduceEqDiff]
          rw [condS_some]; refine ⟨fun hx => ?_, fun hx => ?_⟩
          · have k5 : v.kind = 5 := by simpa using hx
            simp (maxSteps := 1000000) (disch := omega) only [go_sem, ↓reduceIte, Nat.reduceEqDiff]
            rw [opEg_some]; refine ⟨fun hg => ?_, fun hg => ?_⟩ <;> try simp only [Bool.and_eq_true, Bool.or_eq_false_iff, Bool.not_eq_true', Bool.not_eq_false'] at hg
            · have g1 := hg
              simp (maxSteps := 1000000) (disch := omega) only [go_sem, ↓reduceIte, g1]
              refine callS_exact (right01_spec v.n _) ?_
              simp (maxSteps := 1000000) (disch := omega) only [go_sem, ↓reduceIte, Nat.reduceEqDiff]
              refine finS_l ?_
              simp (maxSteps := 1000000) (disch := omega) only [go_sem, ↓reduceIte, Int.reduceEq, right02, k5, g1]
              all_goals (try simp [right02, k5, g1])
            · have g1 := hg
              simp (maxSteps := 1000000) (disch := omega) only [go_sem, ↓reduceIte, Nat.reduceEqDiff, g1]
              refine finS_l ?_
              simp (maxSteps := 1000000) (disch := omega) only [go_sem, ↓reduceIte, Int.reduceEq, right02, k5, g1]
              all_goals (try simp [right02, k5, g1])
          · have k5 : ¬ v.kind = 5 := by simpa using hx
            simp (maxSteps := 1000000) (disch := omega) only [go_sem, ↓reduceIte]
            refine finS_l ?_
            simp (maxSteps := 1000000) (disch := omega) only [go_sem]
            all_goals simp [right02, k1, k2, k3, k4, k5]

theorem right02_val (v : Value) : right02 v = valR v := by
  unfold right02 valR
  by_cases k1 : v.kind = 1
  · simp [k1]
  · by_cases k2 : v.kind = 2
    · simp [k2]
    · by_cases k3 : v.kind = 3
      · simp [k3]
      · by_cases k4 : v.kind = 4
        · simp [k4]
        · simp [k1, k2, k3, k4]

def bad03 (c : Cell) : Bool := decide ((c.row.length : Int) < 1) || decide (16 < (c.row.length : Int)) || !nameR c.fam || decide (12 < (c.qual.length : Int)) || decide (c.time < 0) || decide (1099511627776 < c.time)
set_option maxHeartbeats 1000000 in
theorem order03_spec (a b : Cell) (ha : CellSm a) (hb : CellSm b) : Ans N.joistref03_Order [.agg a.e, .agg b.e] (.int .i64 (order a b)) := by
  intro h
  refine spec_of ck_joistref03_Order ?_
  rw [wp_start]
  simp (maxSteps := 1000000) (disch := omega) only [go_sem, ↓reduceIte, Nat.reduceAdd, Nat.reduceEqDiff, reduceCtorEq, F.joistref03_Order]
  intro t t2
  have kn : ∀ {k : Int}, (k == 4) = false → ¬ k = 4 := fun hk => by simpa using hk
  have fin : ∀ (x y : Int), whole a = x → whole b = y → orI [cmpS a.row b.row, cmpS a.fam b.fam, cmpI x y, cmpS a.qual b.qual, cmpI b.time a.time, cmpI b.kind a.kind] = order a b := by
    rintro _ _ rfl rfl
    rfl
  cases ka : (a.kind == 4) <;> cases kb : (b.kind == 4)
  · have hf := fin 1 1 (by simp [whole, kn ka]) (by simp [whole, kn kb])
    simp (maxSteps := 1000000) (disch := omega) only [go_sem, ↓reduceIte, Nat.reduceEqDiff, kb]
    refine callS_exact (texts_spec a.row b.row ha.row hb.row _) ?_
    simp (maxSteps := 1000000) (disch := omega) only [go_sem, opS_s, ↓reduceIte, Nat.reduceEqDiff]
    refine callS_exact (texts_spec a.fam b.fam ha.fam hb.fam _) ?_
    simp (maxSteps := 1000000) (disch := omega) only [go_sem, opS_s, ↓reduceIte, Nat.reduceEqDiff]
    refine callS_exact (cmp3_spec 1 1 _) ?_
    simp (maxSteps := 1000000) (disch := omega) only [go_sem, opS_s, ↓reduceIte, Nat.reduceEqDiff]
    refine callS_exact (texts_spec a.qual b.qual ha.qual hb.qual _) ?_
    simp (maxSteps := 1000000) (disch := omega) only [go_sem, opS_s, ↓reduceIte, Nat.reduceEqDiff]
    refine callS_exact (cmp3_spec b.time a.time _) ?_
    simp (maxSteps := 1000000) (disch := omega) only [go_sem, opS_s, ↓reduceIte, Nat.reduceEqDiff]
    refine callS_exact (cmp3_spec b.kind a.kind _) ?_
    rw [← hf]
    generalize cmpS a.row b.row = x1
    generalize cmpS a.fam b.fam = x2
    generalize cmpI 1 1 = x3
    generalize cmpS a.qual b.qual = x4
    generalize cmpI b.time a.time = x5
    generalize cmpI b.kind a.kind = x6
    simp (maxSteps := 1000000) (disch := omega) only [go_sem, opS_b, ↓reduceIte, Nat.reduceAdd, Nat.reduceMul, Nat.reduceEqDiff, Nat.reduceLeDiff]
    intro s
    have he : [[AV.int IntKind.i64 x1], [AV.int IntKind.i64 x2], [AV.int IntKind.i64 x3], [AV.int IntKind.i64 x4], [AV.int IntKind.i64 x5], [AV.int IntKind.i64 x6]] = ints [x1, x2, x3, x4, x5, x6] := rfl
    rw [he]
    have hl : [x1, x2, x3, x4, x5, x6].length = 6 := rfl
    clear hf he
    generalize [x1, x2, x3, x4, x5, x6] = L at hl ⊢
    refine loopS_list L (fun pre (_ : Unit) => ⟨[(7, .sl (h.length + 2) s 0 L.length), (8, .int .i64 pre.length)], h ++ [.arr t 0 8 [a.e], .arr t2 0 8 [b.e], .arr s 0 1 (ints L)]⟩) (fun pre post _ => orI L = orI post) () (by rw [hl]; rfl) rfl ?_
    rintro pre post ⟨⟩ hpp hJ
    cases post with
    | nil =>
      have hn := nl0 hpp
      simp (maxSteps := 1000000) (disch := omega) only [go_sem, ↓reduceIte, Nat.reduceEqDiff, hn]
      refine finS_l ?_
      simp (maxSteps := 1000000) (disch := omega) only [go_sem, hJ]
      all_goals simp [orI]
    | cons x post =>
      have hn := nl hpp
      simp (maxSteps := 1000000) (disch := omega) only [go_sem, ↓reduceIte, Nat.reduceEqDiff, gints hpp, hn]
      rw [condS_some]; refine ⟨fun hx => ?_, fun hx => ?_⟩
      · simp (maxSteps := 1000000) (disch := omega) only [go_sem, ↓reduceIte, Nat.reduceEqDiff, gints hpp]
        have hx : ¬ x = 0 := by simpa using hx
        refine finS_l ?_
        simp (maxSteps := 1000000) (disch := omega) only [go_sem, hJ]
        all_goals simp [orI, hx]
      · simp (maxSteps := 1000000) (disch := omega) only [go_sem, ↓reduceIte, Nat.reduceEqDiff]
        have hx : x = 0 := by simpa using hx
        refine lp_next (h.length + 3) () hpp ?_ ?_ ?_
        · rw [hJ]; simp [orI, hx]
        · simp (maxSteps := 1000000) (disch := omega) only [go_sem, ↓reduceIte, Nat.reduceEqDiff, wrap64, Int.natCast_add, Int.cast_ofNat_Int]
        · simp (maxSteps := 1000000) (disch := omega) only [go_sem]
  · have hf := fin 1 0 (by simp [whole, kn ka]) (by simp at kb; simp [whole, kb])
    simp (maxSteps := 1000000) (disch := omega) only [go_sem, ↓reduceIte, Nat.reduceEqDiff, kb]
    refine callS_exact (texts_spec a.row b.row ha.row hb.row _) ?_
    simp (maxSteps := 1000000) (disch := omega) only [go_sem, opS_s, ↓reduceIte, Nat.reduceEqDiff]
    refine callS_exact (texts_spec a.fam b.fam ha.fam hb.fam _) ?_
    simp (maxSteps := 1000000) (disch := omega) only [go_sem, opS_s, ↓reduceIte, Nat.reduceEqDiff]
    refine callS_exact (cmp3_spec 1 0 _) ?_
    simp (maxSteps := 1000000) (disch := omega) only [go_sem, opS_s, ↓reduceIte, Nat.reduceEqDiff]
    refine callS_exact (texts_spec a.qual b.qual ha.qual hb.qual _) ?_
    simp (maxSteps := 1000000) (disch := omega) only [go_sem, opS_s, ↓reduceIte, Nat.reduceEqDiff]
    refine callS_exact (cmp3_spec b.time a.time _) ?_
    simp (maxSteps := 1000000) (disch := omega) only [go_sem, opS_s, ↓reduceIte, Nat.reduceEqDiff]
    refine callS_exact (cmp3_spec b.kind a.kind _) ?_
    rw [← hf]
    generalize cmpS a.row b.row = x1
    generalize cmpS a.fam b.fam = x2
    generalize cmpI 1 0 = x3
    generalize cmpS a.qual b.qual = x4
    generalize cmpI b.time a.time = x5
    generalize cmpI b.kind a.kind = x6
    simp (maxSteps := 1000000) (disch := omega) only [go_sem, opS_b, ↓reduceIte, Nat.reduceAdd, Nat.reduceMul, Nat.reduceEqDiff, Nat.reduceLeDiff]
    intro s
    have he : [[AV.int IntKind.i64 x1], [AV.int IntKind.i64 x2], [AV.int IntKind.i64 x3], [AV.int IntKind.i64 x4], [AV.int IntKind.i64 x5], [AV.int IntKind.i64 x6]] = ints [x1, x2, x3, x4, x5, x6] := rfl
    rw [he]
    have hl : [x1, x2, x3, x4, x5, x6].length = 6 := rfl
    clear hf he
    generalize [x1, x2, x3, x4, x5, x6] = L at hl ⊢
    refine loopS_list L (fun pre (_ : Unit) => ⟨[(7, .sl (h.length + 2) s 0 L.length), (8, .int .i64 pre.length)], h ++ [.arr t 0 8 [a.e], .arr t2 0 8 [b.e], .arr s 0 1 (ints L)]⟩) (fun pre post _ => orI L = orI post) () (by rw [hl]; rfl) rfl ?_
    rintro pre post ⟨⟩ hpp hJ
    cases post with
    | nil =>
      have hn := nl0 hpp
      simp (maxSteps := 1000000) (disch := omega) only [go_sem, ↓reduceIte, Nat.reduceEqDiff, hn]
      refine finS_l ?_
      simp (maxSteps := 1000000) (disch := omega) only [go_sem, hJ]
      all_goals simp [orI]
    | cons x post =>
      have hn := nl hpp
      simp (maxSteps := 1000000) (disch := omega) only [go_sem, ↓reduceIte, Nat.reduceEqDiff, gints hpp, hn]
      rw [condS_some]; refine ⟨fun hx => ?_, fun hx => ?_⟩
      · simp (maxSteps := 1000000) (disch := omega) only [go_sem, ↓reduceIte, Nat.reduceEqDiff, gints hpp]
        have hx : ¬ x = 0 := by simpa using hx
        refine finS_l ?_
        simp (maxSteps := 1000000) (disch := omega) only [go_sem, hJ]
        all_goals simp [orI, hx]
      · simp (maxSteps := 1000000) (disch := omega) only [go_sem, ↓reduceIte, Nat.reduceEqDiff]
        have hx : x = 0 := by simpa using hx
        refine lp_next (h.length + 3) () hpp ?_ ?_ ?_
        · rw [hJ]; simp [orI, hx]
        · simp (maxSteps := 1000000) (disch := omega) only [go_sem, ↓reduceIte, Nat.reduceEqDiff, wrap64, Int.natCast_add, Int.cast_ofNat_Int]
        · simp (maxSteps := 1000000) (disch := omega) only [go_sem]
  · have hf := fin 0 1 (by simp at ka; simp [whole, ka]) (by simp [whole, kn kb])
    simp (maxSteps := 1000000) (disch := omega) only [go_sem, ↓reduceIte, Nat.reduceEqDiff, kb]
    refine callS_exact (texts_spec a.row b.row ha.row hb.row _) ?_
    simp (maxSteps := 1000000) (disch := omega) only [go_sem, opS_s, ↓reduceIte, Nat.reduceEqDiff]
    refine callS_exact (texts_spec a.fam b.fam ha.fam hb.fam _) ?_
    simp (maxSteps := 1000000) (disch := omega) only [go_sem, opS_s, ↓reduceIte, Nat.reduceEqDiff]
    refine callS_exact (cmp3_spec 0 1 _) ?_
    simp (maxSteps := 1000000) (disch := omega) only [go_sem, opS_s, ↓reduceIte, Nat.reduceEqDiff]
    refine callS_exact (texts_spec a.qual b.qual ha.qual hb.qual _) ?_
    simp (maxSteps := 1000000) (disch := omega) only [go_sem, opS_s, ↓reduceIte, Nat.reduceEqDiff]
    refine callS_exact (cmp3_spec b.time a.time _) ?_
    simp (maxSteps := 1000000) (disch := omega) only [go_sem, opS_s, ↓reduceIte, Nat.reduceEqDiff]
    refine callS_exact (cmp3_spec b.kind a.kind _) ?_
    rw [← hf]
    generalize cmpS a.row b.row = x1
    generalize cmpS a.fam b.fam = x2
    generalize cmpI 0 1 = x3
    generalize cmpS a.qual b.qual = x4
    generalize cmpI b.time a.time = x5
    generalize cmpI b.kind a.kind = x6
    simp (maxSteps := 1000000) (disch := omega) only [go_sem, opS_b, ↓reduceIte, Nat.reduceAdd, Nat.reduceMul, Nat.reduceEqDiff, Nat.reduceLeDiff]
    intro s
    have he : [[AV.int IntKind.i64 x1], [AV.int IntKind.i64 x2], [AV.int IntKind.i64 x3], [AV.int IntKind.i64 x4], [AV.int IntKind.i64 x5], [AV.int IntKind.i64 x6]] = ints [x1, x2, x3, x4, x5, x6] := rfl
    rw [he]
    have hl : [x1, x2, x3, x4, x5, x6].length = 6 := rfl
    clear hf he
    generalize [x1, x2, x3, x4, x5, x6] = L at hl ⊢
    refine loopS_list L (fun pre (_ : Unit) => ⟨[(7, .sl (h.length + 2) s 0 L.length), (8, .int .i64 pre.length)], h ++ [.arr t 0 8 [a.e], .arr t2 0 8 [b.e], .arr s 0 1 (ints L)]⟩) (fun pre post _ => orI L = orI post) () (by rw [hl]; rfl) rfl ?_
    rintro pre post ⟨⟩ hpp hJ
    cases post with
    | nil =>
      have hn := nl0 hpp
      simp (maxSteps := 1000000) (disch := omega) only [go_sem, ↓reduceIte, Nat.reduceEqDiff, hn]
      refine finS_l ?_
      simp (maxSteps := 1000000) (disch := omega) only [go_sem, hJ]
      all_goals simp [orI]
    | cons x post =>
      have hn := nl hpp
      simp (maxSteps := 1000000) (disch := omega) only [go_sem, ↓reduceIte, Nat.reduceEqDiff, gints hpp, hn]
      rw [condS_some]; refine ⟨fun hx => ?_, fun hx => ?_⟩
      · simp (maxSteps := 1000000) (disch := omega) only [go_sem, ↓reduceIte, Nat.reduceEqDiff, gints hpp]
        have hx : ¬ x = 0 := by simpa using hx
        refine finS_l ?_
        simp (maxSteps := 1000000) (disch := omega) only [go_sem, hJ]
        all_goals simp [orI, hx]
      · simp (maxSteps := 1000000) (disch := omega) only [go_sem, ↓reduceIte, Nat.reduceEqDiff]
        have hx : x = 0 := by simpa using hx
        refine lp_next (h.length + 3) () hpp ?_ ?_ ?_
        · rw [hJ]; simp [orI, hx]
        · simp (maxSteps := 1000000) (disch := omega) only [go_sem, ↓reduceIte, Nat.reduceEqDiff, wrap64, Int.natCast_add, Int.cast_ofNat_Int]
        · simp (maxSteps := 1000000) (disch := omega) only [go_sem]
  · have hf := fin 0 0 (by simp at ka; simp [whole, ka]) (by simp at kb; simp [whole, kb])
    simp (maxSteps := 1000000) (disch := omega) only [go_sem, ↓reduceIte, Nat.reduceEqDiff, kb]
    refine callS_exact (texts_spec a.row b.row ha.row hb.row _) ?_
    simp (maxSteps := 1000000) (disch := omega) only [go_sem, opS_s, ↓reduceIte, Nat.reduceEqDiff]
    refine callS_exact (texts_spec a.fam b.fam ha.fam hb.fam _) ?_
    simp (maxSteps := 1000000) (disch := omega) only [go_sem, opS_s, ↓reduceIte, Nat.reduceEqDiff]
    refine callS_exact (cmp3_spec 0 0 _) ?_
    simp (maxSteps := 1000000) (disch := omega) only [go_sem, opS_s, ↓reduceIte, Nat.reduceEqDiff]
    refine callS_exact (texts_spec a.qual b.qual ha.qual hb.qual _) ?_
    simp (maxSteps := 1000000) (disch := omega) only [go_sem, opS_s, ↓reduceIte, Nat.reduceEqDiff]
    refine callS_exact (cmp3_spec b.time a.time _) ?_
    simp (maxSteps := 1000000) (disch := omega) only [go_sem, opS_s, ↓reduceIte, Nat.reduceEqDiff]
    refine callS_exact (cmp3_spec b.kind a.kind _) ?_
    rw [← hf]
    generalize cmpS a.row b.row = x1
    generalize cmpS a.fam b.fam = x2
    generalize cmpI 0 0 = x3
    generalize cmpS a.qual b.qual = x4
    generalize cmpI b.time a.time = x5
    generalize cmpI b.kind a.kind = x6
    simp (maxSteps := 1000000) (disch := omega) only [go_sem, opS_b, ↓reduceIte, Nat.reduceAdd, Nat.reduceMul, Nat.reduceEqDiff, Nat.reduceLeDiff]
    intro s
    have he : [[AV.int IntKind.i64 x1], [AV.int IntKind.i64 x2], [AV.int IntKind.i64 x3], [AV.int IntKind.i64 x4], [AV.int IntKind.i64 x5], [AV.int IntKind.i64 x6]] = ints [x1, x2, x3, x4, x5, x6] := rfl
    rw [he]
    have hl : [x1, x2, x3, x4, x5, x6].length = 6 := rfl
    clear hf he
    generalize [x1, x2, x3, x4, x5, x6] = L at hl ⊢
    refine loopS_list L (fun pre (_ : Unit) => ⟨[(7, .sl (h.length + 2) s 0 L.length), (8, .int .i64 pre.length)], h ++ [.arr t 0 8 [a.e], .arr t2 0 8 [b.e], .arr s 0 1 (ints L)]⟩) (fun pre post _ => orI L = orI post) () (by rw [hl]; rfl) rfl ?_
    rintro pre post ⟨⟩ hpp hJ
    cases post with
    | nil =>
      have hn := nl0 hpp
      simp (maxSteps := 1000000) (disch := omega) only [go_sem, ↓reduceIte, Nat.reduceEqDiff, hn]
      refine finS_l ?_
      simp (maxSteps := 1000000) (disch := omega) only [go_sem, hJ]
      all_goals simp [orI]
    | cons x post =>
      have hn := nl hpp
      simp (maxSteps := 1000000) (disch := omega) only [go_sem, ↓reduceIte, Nat.reduceEqDiff, gints hpp, hn]
      rw [condS_some]; refine ⟨fun hx => ?_, fun hx => ?_⟩
      · simp (maxSteps := 1000000) (disch := omega) only [go_sem, ↓reduceIte, Nat.reduceEqDiff, gints hpp]
        have hx : ¬ x = 0 := by simpa using hx
        refine finS_l ?_
        simp (maxSteps := 1000000) (disch := omega) only [go_sem, hJ]
        all_goals simp [orI, hx]
      · simp (maxSteps := 1000000) (disch := omega) only [go_sem, ↓reduceIte, Nat.reduceEqDiff]
        have hx : x = 0 := by simpa using hx
        refine lp_next (h.length + 3) () hpp ?_ ?_ ?_
        · rw [hJ]; simp [orI, hx]
        · simp (maxSteps := 1000000) (disch := omega) only [go_sem, ↓reduceIte, Nat.reduceEqDiff, wrap64, Int.natCast_add, Int.cast_ofNat_Int]
        · simp (maxSteps := 1000000) (disch := omega) only [go_sem]
end Go.Ab.S2

/- Contracts: what a request's sizes are; families and columns that can be used (joistref16). -/
namespace Go.Ab.S2
open Go.Ab
set_option maxRecDepth 100000

theorem longRequest_spec (q : Request) : Ans N.joistref00_LongRequest [.agg q.e] (.bool (longRequest q)) := by
  intro h
  refine spec_of ck_joistref00_LongRequest ?_
  rw [wp_start]
  simp (maxSteps := 1000000) (disch := omega) only [go_sem, ↓reduceIte, Nat.reduceAdd, Nat.reduceEqDiff, F.joistref00_LongRequest]
  intro t
  rw [condS_some]; refine ⟨fun hx => ?_, fun hx => ?_⟩
  · simp (maxSteps := 1000000) (disch := omega) only [go_sem, ↓reduceIte]
    have hx0 : longQ0 q = true := hx
    refine finS_l ?_
    simp (maxSteps := 1000000) (disch := omega) only [go_sem]
    all_goals simp [longRequest, hx0]
  · simp (maxSteps := 1000000) (disch := omega) only [go_sem, ↓reduceIte, Nat.reduceEqDiff]
    have hx0 : longQ0 q = false := hx
    have hb : q.filter.fams.length ≤ 20 ∧ q.muts.length ≤ 20 := by
      simp only [longQ0, Bool.or_eq_false_iff, decide_eq_false_iff_not] at hx0
      omega
    refine loopS_list q.filter.fams (fun pre (_ : Unit) => ⟨[(1, .ptr h.length t 0 0), (3, .int .i64 pre.length)], h ++ [.arr t 0 16 [q.e]]⟩) (fun pre post _ => q.filter.fams.any longT = post.any longT) () rfl rfl ?_
    rintro pre post ⟨⟩ hpp hJ
    cases post with
    | nil =>
      have hn := nl0 hpp
      simp (maxSteps := 1000000) (disch := omega) only [go_sem, ↓reduceIte, Nat.reduceEqDiff, hn]
      refine loopS_list q.muts (fun pre (_ : Unit) => ⟨[(1, .ptr h.length t 0 0), (4, .int .i64 pre.length)], h ++ [.arr t 0 16 [q.e]]⟩) (fun pre post _ => q.muts.any longM = post.any longM) () rfl rfl ?_
      rintro pre2 post2 ⟨⟩ hpp2 hJ2
      cases post2 with
      | nil =>
        have hn2 := nl0 hpp2
        simp (maxSteps := 1000000) (disch := omega) only [go_sem, ↓reduceIte, Nat.reduceEqDiff, hn2]
        refine finS_l ?_
        simp (maxSteps := 1000000) (disch := omega) only [go_sem]
        all_goals simp [longRequest, hx0, hJ, hJ2]
      | cons y post2 =>
        have hn2 := nl hpp2
        simp (maxSteps := 1000000) (disch := omega) only [go_sem, ↓reduceIte, Nat.reduceAdd, Nat.reduceEqDiff, gml Mut.e hpp2, hn2]
        rw [condS_some]; refine ⟨fun hx => ?_, fun hx => ?_⟩
        · simp (maxSteps := 1000000) (disch := omega) only [go_sem, ↓reduceIte]
          have hx1 : longM y = true := hx
          refine finS_l ?_
          simp (maxSteps := 1000000) (disch := omega) only [go_sem]
          all_goals simp [longRequest, hJ2, hx1]
        · simp (maxSteps := 1000000) (disch := omega) only [go_sem, ↓reduceIte, Nat.reduceEqDiff]
          have hx1 : longM y = false := hx
          refine lp_next (h.length + 1) () hpp2 ?_ ?_ ?_
          · simp [hJ2, hx1]
          · simp (maxSteps := 1000000) (disch := omega) only [go_sem, ↓reduceIte, Nat.reduceEqDiff, wrap64, Int.natCast_add, Int.cast_ofNat_Int]
          · simp (maxSteps := 1000000) (disch := omega) only [go_sem]
    | cons x post =>
      have hn := nl hpp
      simp (maxSteps := 1000000) (disch := omega) only [go_sem, ↓reduceIte, Nat.reduceEqDiff, gstrs hpp, hn]
      rw [condS_some]; refine ⟨fun hx => ?_, fun hx => ?_⟩
      · simp (maxSteps := 1000000) (disch := omega) only [go_sem, ↓reduceIte]
        have hx1 : longT x = true := hx
        refine finS_l ?_
        simp (maxSteps := 1000000) (disch := omega) only [go_sem]
        all_goals simp [longRequest, hJ, hx1]
      · simp (maxSteps := 1000000) (disch := omega) only [go_sem, ↓reduceIte, Nat.reduceEqDiff]
        have hx1 : longT x = false := hx
        refine lp_next (h.length + 1) () hpp ?_ ?_ ?_
        · simp [hJ, hx1]
        · simp (maxSteps := 1000000) (disch := omega) only [go_sem, ↓reduceIte, Nat.reduceEqDiff, wrap64, Int.natCast_add, Int.cast_ofNat_Int]
        · simp (maxSteps := 1000000) (disch := omega) only [go_sem]

def longB (s : Schema) (q : Request) : Bool := longSchema s || longRequest q
theorem long_spec (s : Schema) (q : Request) : Ans N.joistlaw16_long [.agg s.e, .agg q.e] (.bool (longB s q)) := by
  intro h
  refine spec_of ck_joistlaw16_long ?_
  rw [wp_start]
  simp (maxSteps := 1000000) (disch := omega) only [go_sem, ↓reduceIte, Nat.reduceAdd, Nat.reduceEqDiff, reduceCtorEq, F.joistlaw16_long]
  intro t t2
  refine callS_exact (longSchema_spec s _) ?_
  simp (maxSteps := 1000000) (disch := omega) only [go_sem, ↓reduceIte, Nat.reduceEqDiff]
  rw [opEg_some]; refine ⟨fun hg => ?_, fun hg => ?_⟩ <;> try simp only [Bool.not_eq_true', Bool.not_eq_false'] at hg
  · have g1 := hg
    simp (maxSteps := 1000000) (disch := omega) only [go_sem, ↓reduceIte, g1]
    refine callS_exact (longRequest_spec q _) ?_
    simp (maxSteps := 1000000) (disch := omega) only [go_sem, ↓reduceIte, Nat.reduceEqDiff]
    refine finS_l ?_
    simp (maxSteps := 1000000) (disch := omega) only [go_sem, longB, g1]
    all_goals (try simp [longB, g1])
  · have g1 := hg
    simp (maxSteps := 1000000) (disch := omega) only [go_sem, ↓reduceIte, Nat.reduceEqDiff, g1]
    refine finS_l ?_
    simp (maxSteps := 1000000) (disch := omega) only [go_sem, longB, g1]
    all_goals (try simp [longB, g1])

theorem family16_spec (s : Schema) (n : Str) (hs : s.wf) : Ans N.joistref16_Family [.agg s.e, .str n] (.bool (famU s n)) := by
  intro h
  refine spec_of ck_joistref16_Family ?_
  rw [wp_start]
  simp (maxSteps := 1000000) (disch := omega) only [go_sem, ↓reduceIte, Nat.reduceAdd, Nat.reduceEqDiff, reduceCtorEq, F.joistref16_Family]
  intro t
  refine callS_exact (find_spec s n hs _) ?_
  simp (maxSteps := 1000000) (disch := omega) only [go_sem, ↓reduceIte, Nat.reduceAdd, Nat.reduceEqDiff]
  intro t2
  refine callS_exact (read_spec _ (findF_lays hs n).1 _) ?_
  simp (maxSteps := 1000000) (disch := omega) only [go_sem, ↓reduceIte, Nat.reduceEqDiff]
  refine finS_l ?_
  simp (maxSteps := 1000000) (disch := omega) only [go_sem]
  all_goals simp [famU]

theorem column16_spec (s : Schema) (n q : Str) (hs : s.wf) : Ans N.joistref16_Column [.agg s.e, .str n, .str q] (.int .i64 (columnK s n q)) := by
  intro h
  refine spec_of ck_joistref16_Column ?_
  rw [wp_start]
  simp (maxSteps := 1000000) (disch := omega) only [go_sem, ↓reduceIte, Nat.reduceAdd, Nat.reduceEqDiff, reduceCtorEq, F.joistref16_Column]
  intro t
  refine callS_exact (find_spec s n hs _) ?_
  simp (maxSteps := 1000000) (disch := omega) only [go_sem, ↓reduceIte, Nat.reduceAdd, Nat.reduceEqDiff]
  intro t2
  refine callS_exact (column_spec _ q (findF_lays hs n).2 _) ?_
  simp (maxSteps := 1000000) (disch := omega) only [go_sem, ↓reduceIte, Nat.reduceAdd, Nat.reduceEqDiff]
  intro t3
  refine callS_exact (family16_spec s n hs _) ?_
  simp (maxSteps := 1000000) (disch := omega) only [go_sem, ↓reduceIte, Nat.reduceEqDiff]
  rw [condS_some]; refine ⟨fun hx => ?_, fun hx => ?_⟩
  · simp (maxSteps := 1000000) (disch := omega) only [go_sem, ↓reduceIte]
    refine finS_l ?_
    simp (maxSteps := 1000000) (disch := omega) only [go_sem]
    unfold columnK
    dsimp only
    split
    · rename_i hh
      simp [hh] at hx
    · simp
  · simp (maxSteps := 1000000) (disch := omega) only [go_sem, ↓reduceIte]
    refine finS_l ?_
    simp (maxSteps := 1000000) (disch := omega) only [go_sem]
    unfold columnK
    dsimp only
    split
    · simp
    · rename_i hh
      exact absurd (by simpa using hx) hh
end Go.Ab.S2

/- Contracts: requests, as the references tell them (joistref13, joistref16). -/
namespace Go.Ab.S2
open Go.Ab
set_option maxRecDepth 100000

theorem right13_spec (f : Filter) (hf : f.wf) : Ans N.joistref13_Right [.agg f.e] (.bool (filR f)) := by
  intro h
  refine spec_of ck_joistref13_Right ?_
  rw [wp_start]
  simp (maxSteps := 1000000) (disch := omega) only [go_sem, ↓reduceIte, Nat.reduceEqDiff, F.joistref13_Right]
  intro t
  refine loopS_list f.fams (fun pre (_ : Unit) => ⟨[(1, .ptr h.length t 0 0), (3, .int .i64 pre.length)], h ++ [.arr t 0 7 [f.e]]⟩) (fun pre post _ => (f.fams.any fun s => !nameR s) = post.any fun s => !nameR s) () rfl rfl ?_
  rintro pre post ⟨⟩ hpp hJ
  have hfw := hf.fams
  cases post with
  | nil =>
    have hn := nl0 hpp
    simp (maxSteps := 1000000) (disch := omega) only [go_sem, ↓reduceIte, Nat.reduceEqDiff, hn]
    refine finS_l ?_
    simp (maxSteps := 1000000) (disch := omega) only [go_sem]
    have e6 : decide (6 < (f.fams.length : Int)) = !decide ((f.fams.length : Int) ≤ 6) := by
      rw [Bool.eq_iff_iff]; simp
    rw [filR, hJ, e6, hn]
    simp [Bool.and_assoc]
  | cons x post =>
    have hn := nl hpp
    simp (maxSteps := 1000000) (disch := omega) only [go_sem, ↓reduceIte, Nat.reduceEqDiff, gstrs hpp, hn]
    refine callS_exact (name_spec x (hf.fam x (by simp [hpp])) _) ?_
    simp (maxSteps := 1000000) (disch := omega) only [go_sem, ↓reduceIte, Nat.reduceEqDiff]
    rw [condS_some]; refine ⟨fun hx => ?_, fun hx => ?_⟩
    · have hx1 : nameR x = false := by simpa using hx
      simp (maxSteps := 1000000) (disch := omega) only [go_sem, ↓reduceIte]
      refine finS_l ?_
      simp (maxSteps := 1000000) (disch := omega) only [go_sem]
      rw [filR, hJ]
      simp [hx1]
    · have hx1 : nameR x = true := by simpa using hx
      simp (maxSteps := 1000000) (disch := omega) only [go_sem, ↓reduceIte, Nat.reduceEqDiff]
      refine lp_next (h.length + 1) () hpp ?_ ?_ ?_
      · simp [hJ, hx1]
      · simp (maxSteps := 1000000) (disch := omega) only [go_sem, ↓reduceIte, Nat.reduceEqDiff, wrap64, Int.natCast_add, Int.cast_ofNat_Int]
      · simp (maxSteps := 1000000) (disch := omega) only [go_sem]

theorem empty16_spec (f : Filter) : Ans N.joistref16_empty [.agg f.e] (.bool (empF f)) := by
  intro h
  refine spec_of ck_joistref16_empty ?_
  rw [wp_start]
  simp (maxSteps := 1000000) (disch := omega) only [go_sem, ↓reduceIte, Nat.reduceEqDiff, F.joistref16_empty]
  intro s
  simp (maxSteps := 1000000) (disch := omega) only [go_sem, lenz]
  refine finS_l ?_
  simp (maxSteps := 1000000) (disch := omega) only [go_sem, empF]

theorem mut16_spec (m : Mut) (hm : m.wf) : Ans N.joistref16_mut [.agg m.e] (.bool (mutF m)) := by
  intro h
  refine spec_of ck_joistref16_mut ?_
  rw [wp_start]
  simp (maxSteps := 1000000) (disch := omega) only [go_sem, ↓reduceIte, Nat.reduceEqDiff, F.joistref16_mut]
  intro s
  rw [condS_some]; refine ⟨fun hx => ?_, fun hx => ?_⟩
  · simp (maxSteps := 1000000) (disch := omega) only [go_sem, ↓reduceIte]
    have k1 : m.kind = 1 := by simpa using hx
    refine callS_exact (name_spec _ hm.fam _) ?_
    simp (maxSteps := 1000000) (disch := omega) only [go_sem, ↓reduceIte, Nat.reduceEqDiff]
    rw [opEg_some]; refine ⟨fun hg => ?_, fun hg => ?_⟩ <;> try simp only [Bool.and_eq_true] at hg
    · have g1 := hg
      simp (maxSteps := 1000000) (disch := omega) only [go_sem, ↓reduceIte, g1]
      refine callS_exact (right02_spec _ hm.val.s _) ?_
      simp (maxSteps := 1000000) (disch := omega) only [go_sem, ↓reduceIte, Nat.reduceEqDiff]
      refine finS_l ?_
      simp (maxSteps := 1000000) (disch := omega) only [go_sem, ↓reduceIte, mutF, k1, colN, right02_val, g1]
      all_goals (try simp [mutF, k1, colN, right02_val, g1])
    · have g1 := hg
      simp (maxSteps := 1000000) (disch := omega) only [go_sem, ↓reduceIte, Nat.reduceEqDiff, g1]
      refine finS_l ?_
      simp (maxSteps := 1000000) (disch := omega) only [go_sem, ↓reduceIte, mutF, k1, colN, g1]
      all_goals (try simp [mutF, k1, colN, right02_val, g1])
  · simp (maxSteps := 1000000) (disch := omega) only [go_sem, ↓reduceIte, Nat.reduceEqDiff]
    have k1 : ¬ m.kind = 1 := by simpa using hx
    rw [condS_some]; refine ⟨fun hx => ?_, fun hx => ?_⟩
    · simp (maxSteps := 1000000) (disch := omega) only [go_sem, ↓reduceIte]
      have k2 : m.kind = 2 := by simpa using hx
      refine callS_exact (name_spec _ hm.fam _) ?_
      simp (maxSteps := 1000000) (disch := omega) only [go_sem, ↓reduceIte, Nat.reduceEqDiff]
      refine finS_l ?_
      simp (maxSteps := 1000000) (disch := omega) only [go_sem, ↓reduceIte, Int.reduceEq, mutF, k2, colN, Value.zero]
      all_goals (try simp [mutF, k2, colN, Value.zero])
    · simp (maxSteps := 1000000) (disch := omega) only [go_sem, ↓reduceIte, Nat.reduceEqDiff]
      have k2 : ¬ m.kind = 2 := by simpa using hx
      rw [condS_some]; refine ⟨fun hx => ?_, fun hx => ?_⟩
      · simp (maxSteps := 1000000) (disch := omega) only [go_sem, ↓reduceIte]
        have k3 : m.kind = 3 := by simpa using hx
        refine callS_exact (name_spec _ hm.fam _) ?_
        simp (maxSteps := 1000000) (disch := omega) only [go_sem, ↓reduceIte, Nat.reduceEqDiff]
        refine finS_l ?_
        simp (maxSteps := 1000000) (disch := omega) only [go_sem, ↓reduceIte, Int.reduceEq, mutF, k3, Value.zero]
        all_goals (try simp [mutF, k3, Value.zero])
      · simp (maxSteps := 1000000) (disch := omega) only [go_sem, ↓reduceIte, Nat.reduceEqDiff]
        have k3 : ¬ m.kind = 3 := by simpa using hx
        rw [condS_some]; refine ⟨fun hx => ?_, fun hx => ?_⟩
        · have k4 : m.kind = 4 := by simpa using hx
          simp (maxSteps := 1000000) (disch := omega) only [go_sem, ↓reduceIte, Nat.reduceEqDiff]
          refine finS_l ?_
          simp (maxSteps := 1000000) (disch := omega) only [go_sem]
          have e4 : mutF m = decide (m = ⟨4, [], [], Value.zero⟩) := by simp [mutF, k4]
          rw [e4]
          obtain ⟨mk, mf, mq, mv⟩ := m
          simp only at k4
          subst k4
          congr 2
          rw [Bool.eq_iff_iff]
          simp [Value.zero, and_assoc]
          intros
          exact decide_eq_true_iff
        · simp (maxSteps := 1000000) (disch := omega) only [go_sem, ↓reduceIte]
          have k4 : ¬ m.kind = 4 := by simpa using hx
          refine finS_l ?_
          simp (maxSteps := 1000000) (disch := omega) only [go_sem]
          all_goals simp [mutF, k1, k2, k3, k4]

theorem le_cmp (a b : Str) : (Op.bytesLess a b || a == b) = decide (cmpS a b ≤ 0) := by
  rw [Bool.eq_iff_iff, Bool.or_eq_true, bl_lt, ← cmpS_lt, beq_iff_eq, ← cmpS_eq, decide_eq_true_eq]
  omega
def readG (q : Request) : Bool := (q.muts.length : Int) == 0 && q.fam == ([] : Str) && q.qual == ([] : Str) && decide (q.val = Value.zero)
theorem read_eq (q : Request) : readQ q = ((decide ((q.row.length : Int) ≤ 16) && decide ((q.to.length : Int) ≤ 16)) && ((q.to == ([] : Str) || decide (cmpS q.row q.to ≤ 0)) && (readG q && filR q.filter))) := by
  unfold readQ readG
  rw [le_cmp, lenz]
  simp only [Bool.and_assoc]
def writeW (q : Request) : Bool := decide ((q.row.length : Int) < 1) || decide (16 < (q.row.length : Int)) || !(q.to == ([] : Str))
theorem write_eq (q : Request) : writeQ q = (!(writeW q || !empF q.filter || decide ((q.muts.length : Int) < 1) || decide (8 < (q.muts.length : Int))) && !(q.muts.any fun m => !mutF m)) := by
  have e1 : (!(q.row == ([] : Str))) = !decide ((q.row.length : Int) < 1) := by
    rw [Bool.eq_iff_iff]
    cases q.row <;> simp <;> omega
  have e2 : decide ((q.row.length : Int) ≤ 16) = !decide (16 < (q.row.length : Int)) := by
    rw [Bool.eq_iff_iff]; simp
  have e3 : decide (0 < (q.muts.length : Int)) = !decide ((q.muts.length : Int) < 1) := by
    rw [Bool.eq_iff_iff]; simp; omega
  have e4 : decide ((q.muts.length : Int) ≤ 8) = !decide (8 < (q.muts.length : Int)) := by
    rw [Bool.eq_iff_iff]; simp
  unfold writeQ writeW
  rw [e1, e2, e3, e4]
  simp only [Bool.not_or, Bool.not_not, Bool.and_assoc]

theorem formed16_spec (q : Request) (hq : q.wf) : Ans N.joistref16_Formed [.agg q.e] (.bool (formQ q)) := by
  intro h
  refine spec_of ck_joistref16_Formed ?_
  rw [wp_start]
  simp (maxSteps := 1000000) (disch := omega) only [go_sem, ↓reduceIte, Nat.reduceEqDiff, F.joistref16_Formed]
  intro s
  rw [condS_some]; refine ⟨fun hx => ?_, fun hx => ?_⟩
  · have k3 : q.kind = 3 := by simpa using hx
    have hf := read_eq q
    cases hc : (decide ((q.row.length : Int) ≤ 16) && decide ((q.to.length : Int) ≤ 16)) with
    | false =>
      rw [hc] at hf
      cases hb : (q.to == ([] : Str)) with
      | true =>
        simp (maxSteps := 1000000) (disch := omega) only [go_sem, ↓reduceIte, Nat.reduceEqDiff, hc, hb]
        refine finS_l ?_
        simp (maxSteps := 1000000) (disch := omega) only [go_sem]
        all_goals simp [formQ, k3, hf]
      | false =>
        simp (maxSteps := 1000000) (disch := omega) only [go_sem, ↓reduceIte, Nat.reduceEqDiff, hc, hb]
        refine finS_l ?_
        simp (maxSteps := 1000000) (disch := omega) only [go_sem]
        all_goals simp [formQ, k3, hf]
    | true =>
      cases hb : (q.to == ([] : Str)) with
      | true =>
        rw [hc, hb] at hf
        simp only [Bool.true_and, Bool.true_or] at hf
        simp (maxSteps := 1000000) (disch := omega) only [go_sem, ↓reduceIte, Nat.reduceEqDiff, hc, hb]
        rw [opEg_some]
        refine ⟨fun hg => ?_, fun hg => ?_⟩
        · have hg' : readG q = true := hg
          simp (maxSteps := 1000000) (disch := omega) only [go_sem, ↓reduceIte, hg]
          refine callS_exact (right13_spec q.filter hq.filter _) ?_
          simp (maxSteps := 1000000) (disch := omega) only [go_sem, ↓reduceIte, Nat.reduceEqDiff]
          refine finS_l ?_
          simp (maxSteps := 1000000) (disch := omega) only [go_sem]
          all_goals simp [formQ, k3, hf, hg']
        · have hg' : readG q = false := hg
          simp (maxSteps := 1000000) (disch := omega) only [go_sem, ↓reduceIte, Nat.reduceEqDiff, hg]
          refine finS_l ?_
          simp (maxSteps := 1000000) (disch := omega) only [go_sem]
          all_goals simp [formQ, k3, hf, hg']
      | false =>
        rw [hc, hb] at hf
        simp only [Bool.true_and, Bool.false_or] at hf
        simp (maxSteps := 1000000) (disch := omega) only [go_sem, ↓reduceIte, Nat.reduceEqDiff, hc, hb]
        refine callS_exact (texts_spec q.row q.to hq.row hq.to _) ?_
        simp (maxSteps := 1000000) (disch := omega) only [go_sem, ↓reduceIte, Nat.reduceEqDiff]
        rw [opEg_some]
        refine ⟨fun hg => ?_, fun hg => ?_⟩
        · have hg' : (decide (cmpS q.row q.to ≤ 0) && readG q) = true := by unfold readG; rw [← Bool.and_assoc, ← Bool.and_assoc, ← Bool.and_assoc]; exact hg
          rw [← Bool.and_assoc, hg'] at hf
          simp (maxSteps := 1000000) (disch := omega) only [go_sem, ↓reduceIte, hg]
          refine callS_exact (right13_spec q.filter hq.filter _) ?_
          simp (maxSteps := 1000000) (disch := omega) only [go_sem, ↓reduceIte, Nat.reduceEqDiff]
          refine finS_l ?_
          simp (maxSteps := 1000000) (disch := omega) only [go_sem]
          all_goals simp [formQ, k3, hf]
        · have hg' : (decide (cmpS q.row q.to ≤ 0) && readG q) = false := by unfold readG; rw [← Bool.and_assoc, ← Bool.and_assoc, ← Bool.and_assoc]; exact hg
          rw [← Bool.and_assoc, hg'] at hf
          simp (maxSteps := 1000000) (disch := omega) only [go_sem, ↓reduceIte, Nat.reduceEqDiff, hg]
          refine finS_l ?_
          simp (maxSteps := 1000000) (disch := omega) only [go_sem]
          all_goals simp [formQ, k3, hf]
  · have k3 : ¬ q.kind = 3 := by simpa using hx
    have hf := write_eq q
    have hbad : writeQ q = false → formQ q = false := fun hw => by simp [formQ, k3, hw]
    simp (maxSteps := 1000000) (disch := omega) only [go_sem, ↓reduceIte, Nat.reduceEqDiff]
    rw [opEg_some]
    refine ⟨fun hg => ?_, fun hg => ?_⟩
    · have hg' : writeW q = false := by
        rw [Bool.not_eq_true'] at hg
        exact hg
      rw [hg', Bool.false_or] at hf
      rw [Bool.not_eq_true'] at hg
      simp (maxSteps := 1000000) (disch := omega) only [go_sem, ↓reduceIte, hg]
      refine callS_exact (empty16_spec q.filter _) ?_
      simp (maxSteps := 1000000) (disch := omega) only [go_sem, ↓reduceIte, Nat.reduceEqDiff]
      rw [condS_some]; refine ⟨fun hx => ?_, fun hx => ?_⟩
      · rw [hx] at hf
        simp (maxSteps := 1000000) (disch := omega) only [go_sem, ↓reduceIte]
        refine finS_l ?_
        simp (maxSteps := 1000000) (disch := omega) only [go_sem]
        all_goals simp [hbad, hf]
      · rw [hx, Bool.not_false, Bool.true_and] at hf
        have hml : q.muts.length ≤ 8 := by
          simp only [Bool.or_eq_false_iff, decide_eq_false_iff_not] at hx
          omega
        simp (maxSteps := 1000000) (disch := omega) only [go_sem, ↓reduceIte, Nat.reduceEqDiff]
        refine loopS_list q.muts (fun pre (_ : Unit) => ⟨[(1, .ptr h.length s 0 0), (3, .int .i64 pre.length)], h ++ [.arr s 0 16 [q.e]]⟩) (fun pre post _ => (q.muts.any fun m => !mutF m) = post.any fun m => !mutF m) () rfl rfl ?_
        rintro pre post ⟨⟩ hpp hJ
        cases post with
        | cons m post =>
          have hn := nl hpp
          simp (maxSteps := 1000000) (disch := omega) only [go_sem, ↓reduceIte, Nat.reduceEqDiff, gml Mut.e hpp, hn]
          refine callS_exact (mut16_spec m (hq.mutw m (by simp [hpp])) _) ?_
          simp (maxSteps := 1000000) (disch := omega) only [go_sem, ↓reduceIte, Nat.reduceEqDiff]
          rw [condS_some]; refine ⟨fun hx => ?_, fun hx => ?_⟩
          · have hm : mutF m = false := by simpa using hx
            rw [hJ] at hf
            simp only [List.any_cons, hm, Bool.not_false, Bool.true_or, Bool.not_true] at hf
            simp (maxSteps := 1000000) (disch := omega) only [go_sem, ↓reduceIte]
            refine finS_l ?_
            simp (maxSteps := 1000000) (disch := omega) only [go_sem]
            all_goals simp [hbad, hf]
          · have hm : mutF m = true := by simpa using hx
            simp (maxSteps := 1000000) (disch := omega) only [go_sem, ↓reduceIte, Nat.reduceEqDiff]
            refine lp_next (h.length + 1) () hpp ?_ ?_ ?_
            · simp [hJ, hm]
            · simp (maxSteps := 1000000) (disch := omega) only [go_sem, ↓reduceIte, Nat.reduceEqDiff, wrap64, Int.natCast_add, Int.cast_ofNat_Int]
            · simp (maxSteps := 1000000) (disch := omega) only [go_sem]
        | nil =>
          have hn := nl0 hpp
          rw [hJ] at hf
          simp only [List.any_nil, Bool.not_false] at hf
          simp (maxSteps := 1000000) (disch := omega) only [go_sem, ↓reduceIte, Nat.reduceEqDiff, hn]
          rw [condS_some]; refine ⟨fun hx => ?_, fun hx => ?_⟩
          · have k2 : q.kind = 2 := by simpa using hx
            have hfq : formQ q = ((nameR q.fam && decide ((q.qual.length : Int) ≤ 12)) && (decide (q.val = Value.zero) || valR q.val)) := by
              simp only [formQ, k2, hf, colN, Bool.true_and, show ¬ ((2 : Int) = 3) by decide, show ¬ ((2 : Int) = 1) by decide, if_false, if_true]
            rw [hfq]
            simp (maxSteps := 1000000) (disch := omega) only [go_sem, ↓reduceIte]
            refine callS_exact (name_spec q.fam hq.fam _) ?_
            by_cases hv : q.val = ⟨0, 0, []⟩
            · have hv' : (q.val = ⟨0, 0, []⟩) = True := eq_true hv
              cases hA : (nameR q.fam && decide ((q.qual.length : Int) ≤ 12)) with
              | false =>
                simp (maxSteps := 1000000) (disch := omega) only [go_sem, ↓reduceIte, Nat.reduceEqDiff, hA, hv']
                refine finS_l ?_
                simp (maxSteps := 1000000) (disch := omega) only [go_sem]
                all_goals simp []
              | true =>
                simp (maxSteps := 1000000) (disch := omega) only [go_sem, ↓reduceIte, Nat.reduceEqDiff, hA, hv']
                refine finS_l ?_
                simp (maxSteps := 1000000) (disch := omega) only [go_sem]
                try simp [Value.zero, hv]
            · have hv' : (q.val = ⟨0, 0, []⟩) = False := eq_false hv
              cases hA : (nameR q.fam && decide ((q.qual.length : Int) ≤ 12)) with
              | false =>
                simp (maxSteps := 1000000) (disch := omega) only [go_sem, ↓reduceIte, Nat.reduceEqDiff, hA, hv']
                refine finS_l ?_
                simp (maxSteps := 1000000) (disch := omega) only [go_sem]
                all_goals simp []
              | true =>
                simp (maxSteps := 1000000) (disch := omega) only [go_sem, ↓reduceIte, Nat.reduceEqDiff, hA, hv']
                refine callS_exact (right02_spec q.val hq.val.s _) ?_
                simp (maxSteps := 1000000) (disch := omega) only [go_sem, ↓reduceIte, Nat.reduceEqDiff, right02_val]
                refine finS_l ?_
                simp (maxSteps := 1000000) (disch := omega) only [go_sem]
                try simp [Value.zero, hv]
          · have k2 : ¬ q.kind = 2 := by simpa using hx
            have hfq : formQ q = if q.kind = 1 then ((q.fam == ([] : Str)) && q.qual == ([] : Str)) && decide (q.val = Value.zero) else false := by
              simp only [formQ, k2, k3, hf, Bool.true_and, if_false]
            rw [hfq]
            simp (maxSteps := 1000000) (disch := omega) only [go_sem, ↓reduceIte, Nat.reduceEqDiff]
            refine finS_l ?_
            simp (maxSteps := 1000000) (disch := omega) only [go_sem]
            congr 2
            by_cases k1 : q.kind = 1
            · rw [Bool.eq_iff_iff]; simp [k1]
            · simp [k1]
    · have hg' : writeW q = true := by
        rw [Bool.not_eq_false'] at hg
        exact hg
      rw [hg'] at hf
      rw [Bool.not_eq_false'] at hg
      simp (maxSteps := 1000000) (disch := omega) only [go_sem, ↓reduceIte, Nat.reduceEqDiff, hg]
      refine finS_l ?_
      simp (maxSteps := 1000000) (disch := omega) only [go_sem]
      all_goals simp [hbad, hf]
end Go.Ab.S2

/- What is to be seen behind a write: the plain law. -/
namespace Go.Ab.S2
open Go.Ab
set_option maxRecDepth 100000

/-! the order of cells -/
structure Tot {α : Type} (f : α → α → Int) : Prop where
  lt : ∀ {a b c}, f a b < 0 → f b c < 0 → f a c < 0
  zl : ∀ {a b c}, f a b = 0 → f b c < 0 → f a c < 0
  lz : ∀ {a b c}, f a b < 0 → f b c = 0 → f a c < 0
  zz : ∀ {a b c}, f a b = 0 → f b c = 0 → f a c = 0
  flip : ∀ {a b}, 0 < f a b → f b a < 0
  sym : ∀ {a b}, f a b = 0 → f b a = 0

def lex {α : Type} (f g : α → α → Int) (a b : α) : Int := if f a b = 0 then g a b else f a b
theorem Tot.lex {α : Type} {f g : α → α → Int} (hf : Tot f) (hg : Tot g) : Tot (lex f g) where
  lt {a b c} h k := by
    unfold S2.lex at *
    split at h
    · rename_i e
      split at k
      · rename_i e2; rw [if_pos (hf.zz e e2)]; exact hg.lt h k
      · rename_i e2; have := hf.zl e k; rw [if_neg (by omega)]; exact this
    · rename_i e
      split at k
      · rename_i e2; have := hf.lz h e2; rw [if_neg (by omega)]; exact this
      · rename_i e2; have := hf.lt h k; rw [if_neg (by omega)]; exact this
  zl {a b c} h k := by
    unfold S2.lex at *
    split at h
    · rename_i e
      split at k
      · rename_i e2; rw [if_pos (hf.zz e e2)]; exact hg.zl h k
      · rename_i e2; have := hf.zl e k; rw [if_neg (by omega)]; exact this
    · omega
  lz {a b c} h k := by
    unfold S2.lex at *
    split at k
    · rename_i e2
      split at h
      · rename_i e; rw [if_pos (hf.zz e e2)]; exact hg.lz h k
      · rename_i e; have := hf.lz h e2; rw [if_neg (by omega)]; exact this
    · omega
  zz {a b c} h k := by
    unfold S2.lex at *
    split at h
    · rename_i e
      split at k
      · rename_i e2; rw [if_pos (hf.zz e e2)]; exact hg.zz h k
      · omega
    · omega
  flip {a b} h := by
    unfold S2.lex at *
    split at h
    · rename_i e; rw [if_pos (hf.sym e)]; exact hg.flip h
    · rename_i e; have := hf.flip h; rw [if_neg (by omega)]; exact this
  sym {a b} h := by
    unfold S2.lex at *
    split at h
    · rename_i e; rw [if_pos (hf.sym e)]; exact hg.sym h
    · omega
theorem totS {α : Type} (g : α → Str) : Tot fun a b => cmpS (g a) (g b) where
  lt h k := by rw [cmpS_lt] at *; exact slt_trans h k
  zl h k := by rw [cmpS_eq] at h; rw [h]; exact k
  lz h k := by rw [cmpS_eq] at k; rw [← k]; exact h
  zz h k := by rw [cmpS_eq] at *; rw [h, k]
  flip {a b} h := by
    rw [cmpS_lt]
    rcases slt_tri (g a) (g b) with h1 | h1 | h1
    · rw [← cmpS_lt] at h1; omega
    · rw [← cmpS_eq] at h1; omega
    · exact h1
  sym h := by rw [cmpS_eq] at *; exact h.symm
theorem cmpI_lt {a b : Int} : cmpI a b < 0 ↔ a < b := by unfold cmpI; split <;> (try split) <;> omega
theorem cmpI_gt {a b : Int} : 0 < cmpI a b ↔ b < a := by unfold cmpI; split <;> (try split) <;> omega
theorem cmpI_eq {a b : Int} : cmpI a b = 0 ↔ a = b := by unfold cmpI; split <;> (try split) <;> omega
theorem totI {α : Type} (g : α → Int) : Tot fun a b => cmpI (g a) (g b) where
  lt h k := by rw [cmpI_lt] at *; omega
  zl h k := by rw [cmpI_eq] at h; rw [cmpI_lt] at *; omega
  lz h k := by rw [cmpI_eq] at k; rw [cmpI_lt] at *; omega
  zz h k := by rw [cmpI_eq] at *; omega
  flip h := by rw [cmpI_gt] at h; rw [cmpI_lt]; omega
  sym h := by rw [cmpI_eq] at *; omega
theorem Tot.rev {α : Type} {f : α → α → Int} (h : Tot f) : Tot fun a b => f b a where
  lt a b := h.lt b a
  zl a b := h.lz b a
  lz a b := h.zl b a
  zz a b := h.zz b a
  flip a := h.flip a
  sym a := h.sym a
theorem order_lex : order = lex (fun a b : Cell => cmpS a.row b.row) (lex (fun a b => cmpS a.fam b.fam) (lex (fun a b => cmpI (whole a) (whole b)) (lex (fun a b => cmpS a.qual b.qual) (lex (fun a b => cmpI b.time a.time) (fun a b => cmpI b.kind a.kind))))) := by
  funext a b
  simp only [order, lex, orI]
  repeat' split
  all_goals (first | rfl | omega | simp_all)
theorem totO : Tot order := by
  rw [order_lex]
  exact (totS Cell.row).lex ((totS Cell.fam).lex ((totI whole).lex ((totS Cell.qual).lex ((totI Cell.time).rev.lex (totI Cell.kind).rev))))
theorem order_zero {a b : Cell} : order a b = 0 ↔ a.row = b.row ∧ a.fam = b.fam ∧ a.qual = b.qual ∧ a.time = b.time ∧ a.kind = b.kind := by
  rw [order_lex]
  constructor
  · intro h
    simp only [lex] at h
    repeat' split at h
    all_goals (first | omega | skip)
    simp only [cmpS_eq, cmpI_eq] at *
    simp_all
  · rintro ⟨h1, h2, h3, h4, h5⟩
    have z : ∀ s, cmpS s s = 0 := fun s => (cmpS_eq s s).2 rfl
    have y : ∀ s, cmpI s s = 0 := fun s => cmpI_eq.2 rfl
    simp [lex, h1, h2, h3, h4, h5, whole, z, y]

/-! sorted cells -/
def oLt (a b : Cell) : Prop := order a b < 0
theorem snoc_ind {α : Type} {P : List α → Prop} (h0 : P []) (h1 : ∀ l x, P l → P (l ++ [x])) (l : List α) : P l := by
  have : ∀ l : List α, P l.reverse := by
    intro l
    induction l with
    | nil => exact h0
    | cons x l ih => rw [List.reverse_cons]; exact h1 _ _ ih
  have h := this l.reverse
  rwa [List.reverse_reverse] at h
/-! what is seen, of cells of one row -/
def Kills (d c : Cell) : Prop := d.fam = c.fam ∧ (d.kind = 4 ∧ c.time ≤ d.time ∨ d.qual = c.qual ∧ (d.kind = 3 ∧ c.time ≤ d.time ∨ d.kind = 2 ∧ d.time = c.time))
structure SeenIn (M : Cell → Prop) (c : Cell) : Prop where
  mem : M c
  put : c.kind = 1
  live : ∀ d, M d → ¬ Kills d c
  new : ∀ d, M d → d.kind = 1 → d.fam = c.fam → d.qual = c.qual → (∀ e, M e → ¬ Kills e d) → d.time ≤ c.time
abbrev Sees := Str → Str → Value → Prop
def SS (M : Cell → Prop) : Sees := fun f q v => ∃ c, SeenIn M c ∧ c.fam = f ∧ c.qual = q ∧ c.val = v
def Put (l : List Cell) : Sees := fun f q v => ∃ c ∈ l, c.kind = 1 ∧ c.fam = f ∧ c.qual = q ∧ c.val = v
def Del (l : List Cell) (f q : Str) : Prop := ∃ c ∈ l, c.fam = f ∧ (c.kind = 4 ∨ c.kind = 3 ∧ c.qual = q)
def App (l : List Cell) (X : Sees) : Sees := fun f q v => Put l f q v ∨ (¬ ∃ w, Put l f q w) ∧ ¬ Del l f q ∧ X f q v
def UniC (r : Str) (t : Int) (c : Cell) : Prop := c.row = r ∧ (c.kind = 1 ∧ c.time = t ∨ c.kind = 3 ∧ c.time = t - 1 ∨ c.kind = 4 ∧ c.time = t - 1)
structure Uni (r : Str) (t : Int) (l : List Cell) : Prop where
  c : ∀ c ∈ l, UniC r t c
  one : ∀ c ∈ l, ∀ d ∈ l, order c d = 0 → c = d

/-! what a cell, and what a part of a write does to what is seen -/
def updC (c : Cell) (X : Sees) : Sees := fun f q v =>
  if c.kind = 1 then (if f = c.fam ∧ q = c.qual then v = c.val else X f q v)
  else if c.kind = 3 then X f q v ∧ ¬ (f = c.fam ∧ q = c.qual)
  else X f q v ∧ ¬ f = c.fam
theorem App.nil (X : Sees) : App [] X = X := by
  funext f q v
  simp [App, Put, Del]
theorem needless_true {x c : Cell} : needless x c = true ↔ order x c = 0 ∨ x.fam = c.fam ∧ (c.kind = 4 ∨ c.kind = 3 ∧ x.kind = 1 ∧ x.qual = c.qual) := by
  unfold needless
  by_cases h : order x c = 0
  · simp [h]
  · by_cases h2 : x.fam = c.fam
    · simp [h, h2, and_assoc]
    · simp [h, h2]
theorem addF_mem {l : List Cell} {c x : Cell} : x ∈ addF l c ↔ (x ∈ l ∧ ¬ needless x c = true) ∨ x = c := by
  simp [addF]
theorem Uni.add {r : Str} {t : Int} {l : List Cell} {c : Cell} (h : Uni r t l) (hc : UniC r t c) : Uni r t (addF l c) := by
  refine ⟨fun x hx => ?_, fun x hx y hy e => ?_⟩
  · rcases addF_mem.1 hx with ⟨hx, -⟩ | rfl
    · exact h.c x hx
    · exact hc
  · rcases addF_mem.1 hx with ⟨hx, nx⟩ | rfl
    · rcases addF_mem.1 hy with ⟨hy, -⟩ | rfl
      · exact h.one x hx y hy e
      · exact absurd (needless_true.2 (.inl e)) nx
    · rcases addF_mem.1 hy with ⟨hy, ny⟩ | rfl
      · exact absurd (needless_true.2 (.inl (totO.sym e))) ny
      · rfl
theorem App.add {r : Str} {t : Int} {l : List Cell} {c : Cell} (h : Uni r t l) (hc : UniC r t c) (X : Sees) : App (addF l c) X = updC c (App l X) := by
  have lk : ∀ x ∈ l, x.kind = 1 → x.time = t := fun x hx hk => by have := (h.c x hx).2; omega
  have lr : ∀ x ∈ l, x.row = r := fun x hx => (h.c x hx).1
  have l2 : ∀ x ∈ l, x.kind ≠ 2 := fun c hc hk => by have := (h.c c hc).2; omega
  funext f q v
  apply propext
  rcases hc.2 with ⟨k, tm⟩ | ⟨k, tm⟩ | ⟨k, tm⟩
  · -- a put
    have hp : ∀ f q v, Put (addF l c) f q v ↔ if f = c.fam ∧ q = c.qual then v = c.val else Put l f q v := by
      intro f q v
      split
      · rename_i e
        obtain ⟨rfl, rfl⟩ := e
        constructor
        · rintro ⟨x, hx, xk, xf, xq, rfl⟩
          rcases addF_mem.1 hx with ⟨hx, nx⟩ | rfl
          · exact absurd (needless_true.2 (.inl (order_zero.2 ⟨by rw [lr x hx, hc.1], xf, xq, by rw [lk x hx xk, tm], by rw [xk, k]⟩))) nx
          · rfl
        · rintro rfl
          exact ⟨c, addF_mem.2 (.inr rfl), k, rfl, rfl, rfl⟩
      · rename_i e
        constructor
        · rintro ⟨x, hx, xk, xf, xq, rfl⟩
          rcases addF_mem.1 hx with ⟨hx, nx⟩ | rfl
          · exact ⟨x, hx, xk, xf, xq, rfl⟩
          · exact absurd ⟨xf.symm, xq.symm⟩ e
        · rintro ⟨x, hx, xk, xf, xq, rfl⟩
          refine ⟨x, addF_mem.2 (.inl ⟨hx, fun hn => ?_⟩), xk, xf, xq, rfl⟩
          rcases needless_true.1 hn with h1 | ⟨h1, h2⟩
          · have := order_zero.1 h1
            exact e ⟨by rw [← xf, this.2.1], by rw [← xq, this.2.2.1]⟩
          · omega
    have hd : ∀ f q, Del (addF l c) f q ↔ Del l f q := by
      intro f q
      constructor
      · rintro ⟨x, hx, xf, xk⟩
        rcases addF_mem.1 hx with ⟨hx, -⟩ | rfl
        · exact ⟨x, hx, xf, xk⟩
        · omega
      · rintro ⟨x, hx, xf, xk⟩
        refine ⟨x, addF_mem.2 (.inl ⟨hx, fun hn => ?_⟩), xf, xk⟩
        rcases needless_true.1 hn with h1 | ⟨h1, h2⟩
        · have := order_zero.1 h1; omega
        · omega
    unfold App updC
    rw [if_pos k]
    simp only [hp, hd]
    by_cases e : f = c.fam ∧ q = c.qual
    · simp only [if_pos e]
      constructor
      · rintro (h | ⟨h, -⟩)
        · exact h
        · exact absurd ⟨_, rfl⟩ h
      · intro h; exact .inl h
    · simp only [if_neg e]
  · -- a column
    have hp : ∀ f q v, Put (addF l c) f q v ↔ Put l f q v ∧ ¬ (f = c.fam ∧ q = c.qual) := by
      intro f q v
      constructor
      · rintro ⟨x, hx, xk, rfl, rfl, rfl⟩
        rcases addF_mem.1 hx with ⟨hx, nx⟩ | rfl
        · exact ⟨⟨x, hx, xk, rfl, rfl, rfl⟩, fun e => nx (needless_true.2 (.inr ⟨e.1, .inr ⟨k, xk, e.2⟩⟩))⟩
        · omega
      · rintro ⟨⟨x, hx, xk, rfl, rfl, rfl⟩, e⟩
        refine ⟨x, addF_mem.2 (.inl ⟨hx, fun hn => ?_⟩), xk, rfl, rfl, rfl⟩
        rcases needless_true.1 hn with h1 | ⟨h1, h2⟩
        · have := order_zero.1 h1; omega
        · rcases h2 with h2 | h2
          · omega
          · exact e ⟨h1, h2.2.2⟩
    have hd : ∀ f q, Del (addF l c) f q ↔ Del l f q ∨ f = c.fam ∧ q = c.qual := by
      intro f q
      constructor
      · rintro ⟨x, hx, rfl, xk⟩
        rcases addF_mem.1 hx with ⟨hx, -⟩ | rfl
        · exact .inl ⟨x, hx, rfl, xk⟩
        · rcases xk with xk | xk
          · omega
          · exact .inr ⟨rfl, xk.2.symm⟩
      · rintro (⟨x, hx, rfl, xk⟩ | ⟨rfl, rfl⟩)
        · by_cases hn : needless x c = true
          · refine ⟨c, addF_mem.2 (.inr rfl), ?_⟩
            rcases needless_true.1 hn with h1 | ⟨h1, h2⟩
            · have := order_zero.1 h1
              refine ⟨this.2.1.symm, .inr ⟨k, ?_⟩⟩
              rcases xk with xk | xk
              · omega
              · rw [← this.2.2.1, xk.2]
            · omega
          · exact ⟨x, addF_mem.2 (.inl ⟨hx, hn⟩), rfl, xk⟩
        · exact ⟨c, addF_mem.2 (.inr rfl), rfl, .inr ⟨k, rfl⟩⟩
    unfold App updC
    rw [if_neg (by omega), if_pos k]
    simp only [hp, hd]
    by_cases e : f = c.fam ∧ q = c.qual
    · simp [e]
    · simp [e]
  · -- a family
    have hp : ∀ f q v, Put (addF l c) f q v ↔ Put l f q v ∧ ¬ f = c.fam := by
      intro f q v
      constructor
      · rintro ⟨x, hx, xk, rfl, rfl, rfl⟩
        rcases addF_mem.1 hx with ⟨hx, nx⟩ | rfl
        · exact ⟨⟨x, hx, xk, rfl, rfl, rfl⟩, fun e => nx (needless_true.2 (.inr ⟨e, .inl k⟩))⟩
        · omega
      · rintro ⟨⟨x, hx, xk, rfl, rfl, rfl⟩, e⟩
        refine ⟨x, addF_mem.2 (.inl ⟨hx, fun hn => ?_⟩), xk, rfl, rfl, rfl⟩
        rcases needless_true.1 hn with h1 | ⟨h1, h2⟩
        · have := order_zero.1 h1; omega
        · exact e h1
    have hd : ∀ f q, Del (addF l c) f q ↔ Del l f q ∨ f = c.fam := by
      intro f q
      constructor
      · rintro ⟨x, hx, rfl, xk⟩
        rcases addF_mem.1 hx with ⟨hx, -⟩ | rfl
        · exact .inl ⟨x, hx, rfl, xk⟩
        · exact .inr rfl
      · rintro (⟨x, hx, rfl, xk⟩ | rfl)
        · by_cases hn : x.fam = c.fam
          · exact ⟨c, addF_mem.2 (.inr rfl), hn.symm, .inl k⟩
          · refine ⟨x, addF_mem.2 (.inl ⟨hx, fun h2 => ?_⟩), rfl, xk⟩
            rcases needless_true.1 h2 with h1 | ⟨h1, h2⟩
            · exact hn (order_zero.1 h1).2.1
            · exact hn h1
        · exact ⟨c, addF_mem.2 (.inr rfl), rfl, .inl k⟩
    unfold App updC
    rw [if_neg (by omega), if_neg (by omega)]
    simp only [hp, hd]
    by_cases e : f = c.fam
    · simp [e]
    · simp [e]

def updM (s : Schema) (X : Sees) (m : Mut) : Sees := fun f q v =>
  if m.kind = 1 then (if f = m.fam ∧ q = m.qual then v = m.val else X f q v)
  else if m.kind = 2 then X f q v ∧ ¬ (f = m.fam ∧ q = m.qual)
  else if m.kind = 3 then X f q v ∧ ¬ f = m.fam
  else if m.kind = 4 then X f q v ∧ ¬ ∃ g ∈ s.fams, famU s g.name = true ∧ f = g.name
  else X f q v
theorem App.rowF (s : Schema) {r : Str} {t : Int} (X : Sees) : ∀ (fs : List Family) (l : List Cell), Uni r t l → Uni r t (rowF s r t l fs) ∧ App (rowF s r t l fs) X = fun f q v => App l X f q v ∧ ¬ ∃ g ∈ fs, famU s g.name = true ∧ f = g.name
  | [], l, h => by simp [S2.rowF, h]
  | g :: fs, l, h => by
    rw [S2.rowF]
    have hc : UniC r t ⟨r, g.name, [], t - 1, 4, Value.zero⟩ := ⟨rfl, .inr (.inr ⟨rfl, rfl⟩)⟩
    by_cases hu : famU s g.name = true
    · rw [if_pos hu]
      have ih := App.rowF s X fs _ (h.add hc)
      refine ⟨ih.1, ?_⟩
      rw [ih.2, App.add h hc]
      funext f q v
      apply propext
      simp only [updC, List.mem_cons, exists_eq_or_imp, hu, true_and]
      simp only [show ¬ ((4 : Int) = 1) by decide, show ¬ ((4 : Int) = 3) by decide, if_false, not_or, and_assoc]
    · rw [if_neg hu]
      have ih := App.rowF s X fs _ h
      refine ⟨ih.1, ?_⟩
      rw [ih.2]
      funext f q v
      apply propext
      have hu' : famU s g.name = false := by simpa using hu
      simp only [List.mem_cons, exists_eq_or_imp, hu', Bool.false_eq_true, false_and, false_or]
theorem App.doF (s : Schema) {r : Str} {t : Int} (X : Sees) (m : Mut) (l : List Cell) (h : Uni r t l) : Uni r t (doF s r t l m) ∧ App (doF s r t l m) X = updM s (App l X) m := by
  unfold S2.doF updM
  by_cases h1 : m.kind = 1
  · simp only [if_pos h1]
    have hc : UniC r t ⟨r, m.fam, m.qual, t, 1, m.val⟩ := ⟨rfl, .inl ⟨rfl, rfl⟩⟩
    refine ⟨h.add hc, ?_⟩
    rw [App.add h hc]
    rfl
  · simp only [if_neg h1]
    by_cases h2 : m.kind = 2
    · simp only [if_pos h2]
      have hc : UniC r t ⟨r, m.fam, m.qual, t - 1, 3, Value.zero⟩ := ⟨rfl, .inr (.inl ⟨rfl, rfl⟩)⟩
      refine ⟨h.add hc, ?_⟩
      rw [App.add h hc]
      rfl
    · simp only [if_neg h2]
      by_cases h3 : m.kind = 3
      · simp only [if_pos h3]
        have hc : UniC r t ⟨r, m.fam, [], t - 1, 4, Value.zero⟩ := ⟨rfl, .inr (.inr ⟨rfl, rfl⟩)⟩
        refine ⟨h.add hc, ?_⟩
        rw [App.add h hc]
        rfl
      · simp only [if_neg h3]
        by_cases h4 : m.kind = 4
        · simp only [if_pos h4]
          exact App.rowF s X s.fams l h
        · simp only [if_neg h4]
          exact ⟨h, trivial⟩
theorem App.fold (s : Schema) {r : Str} {t : Int} (X : Sees) : ∀ (ms : List Mut) (l : List Cell), Uni r t l → Uni r t (ms.foldl (S2.doF s r t) l) ∧ App (ms.foldl (S2.doF s r t) l) X = ms.foldl (updM s) (App l X)
  | [], l, h => ⟨h, rfl⟩
  | m :: ms, l, h => by
    have h1 := App.doF s X m l h
    have ih := App.fold s X ms _ h1.1
    exact ⟨ih.1, by rw [List.foldl_cons, ih.2, h1.2, List.foldl_cons]⟩
theorem Uni.nil (r : Str) (t : Int) : Uni r t [] := ⟨by simp, by simp⟩

/-! lists of cells -/
def Mem (l : List Cell) : Cell → Prop := fun c => c ∈ sort06 l
/-! what Seen answers -/
def tr (c : Cell) : Str × Str × Value := (c.fam, c.qual, c.val)
def trLt (a b : Str × Str × Value) : Prop := a.1 < b.1 ∨ a.1 = b.1 ∧ a.2.1 < b.2.1
end Go.Ab.S2

/- PlanSees answers true. -/
namespace Go.Ab.S2
open Go.Ab
set_option maxRecDepth 100000

theorem chk_sch {s : Schema} {q : Request} (h : chkE s q = 0) : schP s = true ∧ formQ q = true := by
  unfold chkE at h
  split at h
  · simp at h
  · rename_i hx
    simpa only [Bool.or_eq_true, Bool.not_eq_true', not_or, Bool.not_eq_false] using hx
theorem sch_parts {s : Schema} (h : schP s = true) : (s.fams.map Family.name).Nodup ∧ ∀ f ∈ s.fams, famP f = true := by
  simp only [schP, Bool.and_eq_true, Bool.not_eq_true', List.any_eq_false, Bool.not_eq_false, decide_eq_true_eq] at h
  exact ⟨h.1.2, fun f hf => by simpa using h.1.1.2 f hf⟩
theorem fam_parts {f : Family} (h : famP f = true) : (f.cols.map Column.qual).Nodup ∧ ∀ c ∈ f.cols, colBad c = false := by
  simp only [famP, colsP, Bool.and_eq_true, Bool.not_eq_true', List.any_eq_false, decide_eq_true_eq] at h
  exact ⟨h.2.2, fun c hc => by simpa using h.2.1.2 c hc⟩
theorem col_kind {c : Column} (h : colBad c = false) : 1 ≤ c.kind ∧ c.kind ≤ 5 := by
  simp only [colBad, Bool.or_eq_false_iff, decide_eq_false_iff_not] at h
  omega
theorem isort_mem {l : List Str} {x : Str} : x ∈ isort l ↔ x ∈ l := (isort_perm l).mem_iff

end Go.Ab.S2
