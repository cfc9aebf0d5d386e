/- Contracts: cells are struck out of a slice of one's own (slices.DeleteFunc). -/
import Derived.Test.YtghiionknnpajaaGreatDoorC10
set_option linter.unusedVariables false
set_option linter.unusedSimpArgs false
namespace Go.Ab.S2
open Go.Ab
set_option maxRecDepth 100000

theorem set_get {h : Heap} {l : Nat} (hl : l < h.length) (o : AObj) : (h.set l o)[l]? = some o := List.getElem?_set_self hl
theorem set_set' (h : Heap) (l : Nat) (o o' : AObj) : (h.set l o).set l o' = h.set l o' := List.set_set ..
theorem set_same {h : Heap} {l : Nat} {o : AObj} (hl : h[l]? = some o) : h.set l o = h := by
  refine List.ext_getElem? fun i => ?_
  by_cases hi : l = i
  · subst hi; rw [List.getElem?_set_self (List.getElem?_eq_some_iff.1 hl).1, hl]
  · rw [List.getElem?_set_ne hi]
theorem app_get {h : Heap} {l : Nat} (hl : l < h.length) (o : AObj) (r : Heap) : (h.set l o ++ r)[l]? = some o := by
  rw [List.getElem?_append_left (by simpa using hl)]; exact set_get hl o
theorem app_set {h : Heap} {l : Nat} (hl : l < h.length) (o o' : AObj) (r : Heap) : (h.set l o ++ r).set l o' = h.set l o' ++ r := by
  rw [List.set_append_left _ _ (by simpa using hl), set_set']

/-- What the rest of memory holds is as it was. -/
def Rest (h : Heap) (l : Nat) (H : Heap) : Prop := ∀ k, k ≠ l → k < h.length → H[k]? = h[k]?
theorem Rest.set {h : Heap} {l : Nat} (o : AObj) (r : Heap) : Rest h l (h.set l o ++ r) := by
  intro k hk hlt
  rw [List.getElem?_append_left (by simpa using hlt), List.getElem?_set_ne (fun e => hk e.symm)]
theorem Rest.set0 {h : Heap} {l : Nat} (o : AObj) : Rest h l (h.set l o) := by
  intro k hk hlt
  rw [List.getElem?_set_ne (fun e => hk e.symm)]
theorem Rest.refl (h : Heap) (l : Nat) : Rest h l h := fun _ _ _ => rfl

theorem indexSl (xs : List Cell) (f : FuncId) (ca : List AV) (p : Cell → Bool) (h : Heap) (l s : Nat) (hx : h[l]? = some (.arr s 0 8 (xs.map Cell.e))) (hl : xs.length < 1099511627776)
    (hp : ∀ x ∈ xs, SpecA PP f (.agg x.e :: ca) h (fun r h' => r = .ret (.bool (p x)) ∧ h' = h)) :
    SpecA PP N.slices_IndexFunc_api_Cell_api_Cell_ [.sl l s 0 xs.length, .fn f [] ca] h (fun r h' => r = .ret (.int .i64 (idx p xs)) ∧ h' = h) := by
  refine spec_of ck_slices_IndexFunc_api_Cell_api_Cell_ ?_
  rw [wp_start]
  simp (maxSteps := 1000000) (disch := omega) only [go_sem, opS_s, opS_sg, opS_b, opS_bg, ↓reduceIte, Nat.reduceAdd, Nat.reduceMul, Nat.reduceSub, Nat.reduceEqDiff, Nat.reduceLeDiff, Nat.reduceLT, Nat.reduceBEq, Int.reduceBEq, Int.reduceBNe, Int.reduceEq, Int.reduceNeg, Int.reduceAdd, Int.reduceSub, Int.reduceMul, List.cons_beq_cons, BEq.rfl, Int.reduceToNat, Int.reduceLE, Int.reduceLT, reduceCtorEq, F.slices_IndexFunc_api_Cell_api_Cell_]
  simp (maxSteps := 1000000) (disch := omega) only [go_sem, opS_s, opS_sg, opS_b, opS_bg, ↓reduceIte, Nat.reduceAdd, Nat.reduceMul, Nat.reduceSub, Nat.reduceEqDiff, Nat.reduceLeDiff, Nat.reduceLT, Nat.reduceBEq, Int.reduceBEq, Int.reduceBNe, Int.reduceEq, Int.reduceNeg, Int.reduceAdd, Int.reduceSub, Int.reduceMul, List.cons_beq_cons, BEq.rfl, Int.reduceToNat, Int.reduceLE, Int.reduceLT, reduceCtorEq, hx]
  refine loopS_list xs (fun pre (_ : Unit) => ⟨[(0, .sl l s 0 xs.length), (1, .fn f [] ca), (7, .int .i64 xs.length), (8, .int .i64 pre.length)], h⟩) (fun pre post _ => xs.findIdx? p = (post.findIdx? p).map (· + pre.length)) () rfl (by simp) ?_
  rintro pre post ⟨⟩ hpp hJ
  cases post with
  | nil =>
    simp (maxSteps := 1000000) (disch := omega) only [go_sem, opS_s, opS_sg, opS_b, opS_bg, ↓reduceIte, Nat.reduceAdd, Nat.reduceMul, Nat.reduceSub, Nat.reduceEqDiff, Nat.reduceLeDiff, Nat.reduceLT, Nat.reduceBEq, Int.reduceBEq, Int.reduceBNe, Int.reduceEq, Int.reduceNeg, Int.reduceAdd, Int.reduceSub, Int.reduceMul, List.cons_beq_cons, BEq.rfl, Int.reduceToNat, Int.reduceLE, Int.reduceLT, reduceCtorEq, nl0 hpp]
    refine finS_l ?_
    simp (maxSteps := 1000000) (disch := omega) only [go_sem, opS_s, opS_sg, opS_b, opS_bg, ↓reduceIte, Nat.reduceAdd, Nat.reduceMul, Nat.reduceSub, Nat.reduceEqDiff, Nat.reduceLeDiff, Nat.reduceLT, Nat.reduceBEq, Int.reduceBEq, Int.reduceBNe, Int.reduceEq, Int.reduceNeg, Int.reduceAdd, Int.reduceSub, Int.reduceMul, List.cons_beq_cons, BEq.rfl, Int.reduceToNat, Int.reduceLE, Int.reduceLT, reduceCtorEq]
    all_goals simp [idx, hJ]
  | cons x post =>
    have hn := nl hpp
    have hlt : (((pre.length : Int) < ((xs.length : Nat) : Int))) = True := by simp; omega
    simp (maxSteps := 1000000) (disch := omega) only [go_sem, opS_s, opS_sg, opS_b, opS_bg, ↓reduceIte, Nat.reduceAdd, Nat.reduceMul, Nat.reduceSub, Nat.reduceEqDiff, Nat.reduceLeDiff, Nat.reduceLT, Nat.reduceBEq, Int.reduceBEq, Int.reduceBNe, Int.reduceEq, Int.reduceNeg, Int.reduceAdd, Int.reduceSub, Int.reduceMul, List.cons_beq_cons, BEq.rfl, Int.reduceToNat, Int.reduceLE, Int.reduceLT, reduceCtorEq, hx, gml Cell.e hpp, hlt]
    refine callS_exact (hp x (by simp [hpp])) ?_
    simp (maxSteps := 1000000) (disch := omega) only [go_sem, opS_s, opS_sg, opS_b, opS_bg, ↓reduceIte, Nat.reduceAdd, Nat.reduceMul, Nat.reduceSub, Nat.reduceEqDiff, Nat.reduceLeDiff, Nat.reduceLT, Nat.reduceBEq, Int.reduceBEq, Int.reduceBNe, Int.reduceEq, Int.reduceNeg, Int.reduceAdd, Int.reduceSub, Int.reduceMul, List.cons_beq_cons, BEq.rfl, Int.reduceToNat, Int.reduceLE, Int.reduceLT, reduceCtorEq]
    rw [condS_some]; refine ⟨fun hx => ?_, fun hx => ?_⟩
    · simp (maxSteps := 1000000) (disch := omega) only [go_sem, opS_s, opS_sg, opS_b, opS_bg, ↓reduceIte, Nat.reduceAdd, Nat.reduceMul, Nat.reduceSub, Nat.reduceEqDiff, Nat.reduceLeDiff, Nat.reduceLT, Nat.reduceBEq, Int.reduceBEq, Int.reduceBNe, Int.reduceEq, Int.reduceNeg, Int.reduceAdd, Int.reduceSub, Int.reduceMul, List.cons_beq_cons, BEq.rfl, Int.reduceToNat, Int.reduceLE, Int.reduceLT, reduceCtorEq]
      refine finS_l ?_
      simp (maxSteps := 1000000) (disch := omega) only [go_sem, opS_s, opS_sg, opS_b, opS_bg, ↓reduceIte, Nat.reduceAdd, Nat.reduceMul, Nat.reduceSub, Nat.reduceEqDiff, Nat.reduceLeDiff, Nat.reduceLT, Nat.reduceBEq, Int.reduceBEq, Int.reduceBNe, Int.reduceEq, Int.reduceNeg, Int.reduceAdd, Int.reduceSub, Int.reduceMul, List.cons_beq_cons, BEq.rfl, Int.reduceToNat, Int.reduceLE, Int.reduceLT, reduceCtorEq]
      all_goals simp [(fidx hJ).1 hx]
    · simp (maxSteps := 1000000) (disch := omega) only [go_sem, opS_s, opS_sg, opS_b, opS_bg, ↓reduceIte, Nat.reduceAdd, Nat.reduceMul, Nat.reduceSub, Nat.reduceEqDiff, Nat.reduceLeDiff, Nat.reduceLT, Nat.reduceBEq, Int.reduceBEq, Int.reduceBNe, Int.reduceEq, Int.reduceNeg, Int.reduceAdd, Int.reduceSub, Int.reduceMul, List.cons_beq_cons, BEq.rfl, Int.reduceToNat, Int.reduceLE, Int.reduceLT, reduceCtorEq]
      refine lp_next (h.length + 0) () hpp ((fidx hJ).2 hx) ?_ ?_
      · simp (maxSteps := 1000000) (disch := omega) only [go_sem, opS_s, opS_sg, opS_b, opS_bg, ↓reduceIte, Nat.reduceAdd, Nat.reduceMul, Nat.reduceSub, Nat.reduceEqDiff, Nat.reduceLeDiff, Nat.reduceLT, Nat.reduceBEq, Int.reduceBEq, Int.reduceBNe, Int.reduceEq, Int.reduceNeg, Int.reduceAdd, Int.reduceSub, Int.reduceMul, List.cons_beq_cons, BEq.rfl, Int.reduceToNat, Int.reduceLE, Int.reduceLT, reduceCtorEq, wrap64, Int.natCast_add, Int.cast_ofNat_Int, Int.natCast_one, hn]
      · simp (maxSteps := 1000000) (disch := omega) only [go_sem, opS_s, opS_sg, opS_b, opS_bg, ↓reduceIte, Nat.reduceAdd, Nat.reduceMul, Nat.reduceSub, Nat.reduceEqDiff, Nat.reduceLeDiff, Nat.reduceLT, Nat.reduceBEq, Int.reduceBEq, Int.reduceBNe, Int.reduceEq, Int.reduceNeg, Int.reduceAdd, Int.reduceSub, Int.reduceMul, List.cons_beq_cons, BEq.rfl, Int.reduceToNat, Int.reduceLE, Int.reduceLT, reduceCtorEq]

theorem gapp {α β : Type} (f : α → β) (a b c : List α) (x : α) {k : Nat} (hk : k = a.length + b.length) : ((a ++ (b ++ x :: c)).map f)[k]? = some (f x) := by
  subst hk
  rw [← List.append_assoc, ← List.length_append]
  exact gml f rfl
theorem setapp {α β : Type} (f : α → β) (a b : List α) (m x : α) : ((a ++ m :: b).map f).set a.length (f x) = (a ++ x :: b).map f := by
  simp [List.set_append_right]

theorem deleteFunc_spec (xs : List Cell) (f : FuncId) (ca : List AV) (p : Cell → Bool) (h : Heap) (l s : Nat) (hx : h[l]? = some (.arr s 0 8 (xs.map Cell.e))) (hl : xs.length < 1099511627776)
    (hp : ∀ x ∈ xs, ∀ H, Rest h l H → SpecA PP f (.agg x.e :: ca) H (fun r h' => r = .ret (.bool (p x)) ∧ h' = H)) :
    SpecA PP N.slices_DeleteFunc_api_Cell_api_Cell_ [.sl l s 0 xs.length, .fn f [] ca] h (fun r h' => r = .ret (.sl l s 0 (xs.filter fun x => !p x).length) ∧ h' = h.set l (.arr s 0 8 ((xs.filter fun x => !p x).map Cell.e))) := by
  have hlt := (List.getElem?_eq_some_iff.1 hx).1
  refine spec_of ck_slices_DeleteFunc_api_Cell_api_Cell_ ?_
  rw [wp_start]
  simp (maxSteps := 1000000) (disch := omega) only [go_sem, opS_s, opS_sg, opS_b, opS_bg, ↓reduceIte, Nat.reduceAdd, Nat.reduceMul, Nat.reduceSub, Nat.reduceEqDiff, Nat.reduceLeDiff, Nat.reduceLT, Nat.reduceBEq, Int.reduceBEq, Int.reduceBNe, Int.reduceEq, Int.reduceNeg, Int.reduceAdd, Int.reduceSub, Int.reduceMul, List.cons_beq_cons, BEq.rfl, Int.reduceToNat, Int.reduceLE, Int.reduceLT, reduceCtorEq, F.slices_DeleteFunc_api_Cell_api_Cell_]
  refine callS_exact (indexSl xs f ca p h l s hx hl (fun x hm => hp x hm h (.refl h l))) ?_
  simp (maxSteps := 1000000) (disch := omega) only [go_sem, opS_s, opS_sg, opS_b, opS_bg, ↓reduceIte, Nat.reduceAdd, Nat.reduceMul, Nat.reduceSub, Nat.reduceEqDiff, Nat.reduceLeDiff, Nat.reduceLT, Nat.reduceBEq, Int.reduceBEq, Int.reduceBNe, Int.reduceEq, Int.reduceNeg, Int.reduceAdd, Int.reduceSub, Int.reduceMul, List.cons_beq_cons, BEq.rfl, Int.reduceToNat, Int.reduceLE, Int.reduceLT, reduceCtorEq, hx]
  cases hi : xs.findIdx? p with
  | none =>
    have e : idx p xs = -1 := by simp [idx, hi]
    rw [List.findIdx?_eq_none_iff] at hi
    have ef : xs.filter (fun x => !p x) = xs := List.filter_eq_self.2 fun x hxm => by simp [hi x hxm]
    simp (maxSteps := 1000000) (disch := omega) only [go_sem, opS_s, opS_sg, opS_b, opS_bg, ↓reduceIte, Nat.reduceAdd, Nat.reduceMul, Nat.reduceSub, Nat.reduceEqDiff, Nat.reduceLeDiff, Nat.reduceLT, Nat.reduceBEq, Int.reduceBEq, Int.reduceBNe, Int.reduceEq, Int.reduceNeg, Int.reduceAdd, Int.reduceSub, Int.reduceMul, List.cons_beq_cons, BEq.rfl, Int.reduceToNat, Int.reduceLE, Int.reduceLT, reduceCtorEq, e]
    refine finS_keep ?_
    rw [ef, set_same hx]
    exact ⟨rfl, rfl⟩
  | some k =>
    obtain ⟨hk, hpk, hmin⟩ := List.findIdx?_eq_some_iff_getElem.1 hi
    have e : idx p xs = (k : Int) := by simp [idx, hi]
    have hne : ((k : Int) == -1) = false := by simp
    simp (maxSteps := 1000000) (disch := omega) only [go_sem, opS_s, opS_sg, opS_b, opS_bg, ↓reduceIte, Nat.reduceAdd, Nat.reduceMul, Nat.reduceSub, Nat.reduceEqDiff, Nat.reduceLeDiff, Nat.reduceLT, Nat.reduceBEq, Int.reduceBEq, Int.reduceBNe, Int.reduceEq, Int.reduceNeg, Int.reduceAdd, Int.reduceSub, Int.reduceMul, List.cons_beq_cons, BEq.rfl, Int.reduceToNat, Int.reduceLE, Int.reduceLT, reduceCtorEq, e, hne, wrap64]
    have hsplit : xs = xs.take k ++ xs[k] :: xs.drop (k + 1) := by rw [List.getElem_cons_drop, List.take_append_drop]
    have hfk : (xs.take k).filter (fun x => !p x) = xs.take k := by
      refine List.filter_eq_self.2 fun x hxm => ?_
      obtain ⟨j, hj, rfl⟩ := List.mem_take_iff_getElem.1 hxm
      simpa using hmin j (by omega)
    have hlen0 : (xs.take k).length = k := by simp; omega
    have hfin : xs.filter (fun x => !p x) = xs.take k ++ (xs.drop (k + 1)).filter fun x => !p x := by
      conv => lhs; rw [hsplit]
      rw [List.filter_append, hfk, List.filter_cons]
      simp [hpk]
    -- what is kept of what has been gone through, what lies behind it, the rest
    refine loopS_list (xs.drop (k + 1)) (fun _ (e : List Cell × List Cell × Nat × Nat) => ⟨[(0, .sl l s 0 xs.length), (1, .fn f [] ca), (5, .int .i64 e.2.2.1), (6, .int .i64 e.2.2.2)], h.set l (.arr s 0 8 ((e.1 ++ (e.2.1 ++ xs.drop e.2.2.2)).map Cell.e))⟩) (fun pre post e => 0 < e.2.1.length ∧ e.1 = (xs.take k ++ pre.filter fun x => !p x) ∧ e.2.2.1 = e.1.length ∧ e.2.2.2 = k + 1 + pre.length ∧ e.2.2.1 + e.2.1.length = e.2.2.2) (xs.take k, [xs[k]], k, k + 1) ?_ ?_ ?_
    · have : (xs.take k ++ (xs[k] :: xs.drop (k + 1))) = xs := hsplit.symm
      simp only [List.cons_append, List.nil_append, this]
      rw [set_same hx]
      simp (maxSteps := 1000000) (disch := omega) only [go_sem, opS_s, opS_sg, opS_b, opS_bg, ↓reduceIte, Nat.reduceAdd, Nat.reduceMul, Nat.reduceSub, Nat.reduceEqDiff, Nat.reduceLeDiff, Nat.reduceLT, Nat.reduceBEq, Int.reduceBEq, Int.reduceBNe, Int.reduceEq, Int.reduceNeg, Int.reduceAdd, Int.reduceSub, Int.reduceMul, List.cons_beq_cons, BEq.rfl, Int.reduceToNat, Int.reduceLE, Int.reduceLT, reduceCtorEq]
      all_goals simp
    · simp [hlen0]
    rintro pre post ⟨K, M, i, j⟩ hpp ⟨hM, hK, hi', hj', hlenM⟩
    simp only at hM hK hi' hj' hlenM ⊢
    have hd : xs.drop j = post := by rw [hj', ← List.drop_drop, hpp]; simp
    have hxl : xs.length = j + post.length := by
      have := congrArg List.length hpp
      simp at this; omega
    rw [hd]
    cases post with
    | nil =>
      simp only [List.length_nil] at hxl
      have hlt2 : ((j : Int) < (xs.length : Int)) = False := by simp; omega
      simp only [List.append_nil] at hpp
      have c1 : i ≤ xs.length := by omega
      have c2 : i < xs.length := by omega
      simp (maxSteps := 1000000) (disch := omega) only [go_sem, opS_s, opS_sg, opS_b, opS_bg, ↓reduceIte, Nat.reduceAdd, Nat.reduceMul, Nat.reduceSub, Nat.reduceEqDiff, Nat.reduceLeDiff, Nat.reduceLT, Nat.reduceBEq, Int.reduceBEq, Int.reduceBNe, Int.reduceEq, Int.reduceNeg, Int.reduceAdd, Int.reduceSub, Int.reduceMul, List.cons_beq_cons, BEq.rfl, Int.reduceToNat, Int.reduceLE, Int.reduceLT, reduceCtorEq, set_get hlt, hlt2, c1, c2, set_set']
      refine finS_keep ?_
      have ek : K = xs.filter fun x => !p x := by rw [hK, hfin, hpp]
      rw [← ek, hi']
      refine ⟨rfl, ?_⟩
      congr 2
      simp (maxSteps := 1000000) (disch := omega) only [go_sem, opS_s, opS_sg, opS_b, opS_bg, ↓reduceIte, Nat.reduceAdd, Nat.reduceMul, Nat.reduceSub, Nat.reduceEqDiff, Nat.reduceLeDiff, Nat.reduceLT, Nat.reduceBEq, Int.reduceBEq, Int.reduceBNe, Int.reduceEq, Int.reduceNeg, Int.reduceAdd, Int.reduceSub, Int.reduceMul, List.cons_beq_cons, BEq.rfl, Int.reduceToNat, Int.reduceLE, Int.reduceLT, reduceCtorEq, List.append_nil, List.map_append]
      rw [← List.length_map (f := Cell.e), List.take_left']
      rfl
    | cons x post =>
      simp only [List.length_cons] at hxl
      have hlt2 : ((j : Int) < (xs.length : Int)) = True := by simp; omega
      have hg : ((K ++ (M ++ x :: post)).map Cell.e)[j]? = some x.e := gapp Cell.e _ _ _ x (by omega)
      have hgj : j < xs.length := by omega
      simp (maxSteps := 1000000) (disch := omega) only [go_sem, opS_s, opS_sg, opS_b, opS_bg, ↓reduceIte, Nat.reduceAdd, Nat.reduceMul, Nat.reduceSub, Nat.reduceEqDiff, Nat.reduceLeDiff, Nat.reduceLT, Nat.reduceBEq, Int.reduceBEq, Int.reduceBNe, Int.reduceEq, Int.reduceNeg, Int.reduceAdd, Int.reduceSub, Int.reduceMul, List.cons_beq_cons, BEq.rfl, Int.reduceToNat, Int.reduceLE, Int.reduceLT, reduceCtorEq, set_get hlt, hlt2, hg, Int.toNat_natCast]
      intro s2
      refine callS_exact (hp x (List.mem_of_mem_drop (by rw [hpp]; simp)) _ (.set _ _)) ?_
      simp (maxSteps := 1000000) (disch := omega) only [go_sem, opS_s, opS_sg, opS_b, opS_bg, ↓reduceIte, Nat.reduceAdd, Nat.reduceMul, Nat.reduceSub, Nat.reduceEqDiff, Nat.reduceLeDiff, Nat.reduceLT, Nat.reduceBEq, Int.reduceBEq, Int.reduceBNe, Int.reduceEq, Int.reduceNeg, Int.reduceAdd, Int.reduceSub, Int.reduceMul, List.cons_beq_cons, BEq.rfl, Int.reduceToNat, Int.reduceLE, Int.reduceLT, reduceCtorEq]
      rw [condS_some]; refine ⟨fun hx => ?_, fun hx => ?_⟩
      · obtain ⟨m, M', rfl⟩ : ∃ m M', M = m :: M' := by cases M with | nil => simp at hM | cons m M' => exact ⟨m, M', rfl⟩
        have hgi : ((K ++ m :: (M' ++ x :: post)).map Cell.e)[i]? = some m.e := by have := gapp Cell.e K [] (M' ++ x :: post) m (k := i) (by simp [hi']); simpa using this
        have hgs : ((K ++ m :: (M' ++ x :: post)).map Cell.e).set i x.e = ((K ++ x :: (M' ++ x :: post)).map Cell.e) := by rw [hi']; exact setapp Cell.e K (M' ++ x :: post) m x
        have c2 : ((i : Int) < (xs.length : Int)) = True := by simp; omega
        have hnp : p x = false := by simpa using hx
        have hd2 : xs.drop (j + 1) = post := by rw [← List.drop_drop, hd]; rfl
        simp (maxSteps := 1000000) (disch := omega) only [go_sem, opS_s, opS_sg, opS_b, opS_bg, ↓reduceIte, Nat.reduceAdd, Nat.reduceMul, Nat.reduceSub, Nat.reduceEqDiff, Nat.reduceLeDiff, Nat.reduceLT, Nat.reduceBEq, Int.reduceBEq, Int.reduceBNe, Int.reduceEq, Int.reduceNeg, Int.reduceAdd, Int.reduceSub, Int.reduceMul, List.cons_beq_cons, BEq.rfl, Int.reduceToNat, Int.reduceLE, Int.reduceLT, reduceCtorEq, set_get hlt, app_get hlt, app_set hlt, hlt2, c2, hgi, hgs]
        refine lp_next (h.length + 0) (K ++ [x], M' ++ [x], i + 1, j + 1) hpp ?_ ?_ ?_
        · simp only [List.length_append, List.length_cons, List.length_nil, List.filter_append, List.filter_cons, hnp, hK] at *
          simp
          omega
        · simp (maxSteps := 1000000) (disch := omega) only [go_sem, opS_s, opS_sg, opS_b, opS_bg, ↓reduceIte, Nat.reduceAdd, Nat.reduceMul, Nat.reduceSub, Nat.reduceEqDiff, Nat.reduceLeDiff, Nat.reduceLT, Nat.reduceBEq, Int.reduceBEq, Int.reduceBNe, Int.reduceEq, Int.reduceNeg, Int.reduceAdd, Int.reduceSub, Int.reduceMul, List.cons_beq_cons, BEq.rfl, Int.reduceToNat, Int.reduceLE, Int.reduceLT, reduceCtorEq, wrap64, Int.natCast_add, Int.cast_ofNat_Int, Int.natCast_one]
        · simp only [hd2]
          simp (maxSteps := 1000000) (disch := omega) only [go_sem, opS_s, opS_sg, opS_b, opS_bg, ↓reduceIte, Nat.reduceAdd, Nat.reduceMul, Nat.reduceSub, Nat.reduceEqDiff, Nat.reduceLeDiff, Nat.reduceLT, Nat.reduceBEq, Int.reduceBEq, Int.reduceBNe, Int.reduceEq, Int.reduceNeg, Int.reduceAdd, Int.reduceSub, Int.reduceMul, List.cons_beq_cons, BEq.rfl, Int.reduceToNat, Int.reduceLE, Int.reduceLT, reduceCtorEq]
      · have hnp : p x = true := by simpa using hx
        have hd2 : xs.drop (j + 1) = post := by rw [← List.drop_drop, hd]; rfl
        simp (maxSteps := 1000000) (disch := omega) only [go_sem, opS_s, opS_sg, opS_b, opS_bg, ↓reduceIte, Nat.reduceAdd, Nat.reduceMul, Nat.reduceSub, Nat.reduceEqDiff, Nat.reduceLeDiff, Nat.reduceLT, Nat.reduceBEq, Int.reduceBEq, Int.reduceBNe, Int.reduceEq, Int.reduceNeg, Int.reduceAdd, Int.reduceSub, Int.reduceMul, List.cons_beq_cons, BEq.rfl, Int.reduceToNat, Int.reduceLE, Int.reduceLT, reduceCtorEq]
        refine lp_next (h.length + 0) (K, M ++ [x], i, j + 1) hpp ?_ ?_ ?_
        · simp only [List.length_append, List.length_cons, List.length_nil, List.filter_append, List.filter_cons, hnp, hK] at *
          simp
          omega
        · simp (maxSteps := 1000000) (disch := omega) only [go_sem, opS_s, opS_sg, opS_b, opS_bg, ↓reduceIte, Nat.reduceAdd, Nat.reduceMul, Nat.reduceSub, Nat.reduceEqDiff, Nat.reduceLeDiff, Nat.reduceLT, Nat.reduceBEq, Int.reduceBEq, Int.reduceBNe, Int.reduceEq, Int.reduceNeg, Int.reduceAdd, Int.reduceSub, Int.reduceMul, List.cons_beq_cons, BEq.rfl, Int.reduceToNat, Int.reduceLE, Int.reduceLT, reduceCtorEq, wrap64, Int.natCast_add, Int.cast_ofNat_Int, Int.natCast_one]
        · simp only [hd2]
          simp (maxSteps := 1000000) (disch := omega) only [go_sem, opS_s, opS_sg, opS_b, opS_bg, ↓reduceIte, Nat.reduceAdd, Nat.reduceMul, Nat.reduceSub, Nat.reduceEqDiff, Nat.reduceLeDiff, Nat.reduceLT, Nat.reduceBEq, Int.reduceBEq, Int.reduceBNe, Int.reduceEq, Int.reduceNeg, Int.reduceAdd, Int.reduceSub, Int.reduceMul, List.cons_beq_cons, BEq.rfl, Int.reduceToNat, Int.reduceLE, Int.reduceLT, reduceCtorEq]
end Go.Ab.S2
