/- Contracts of the program's schema: what is asked of it. -/
import Derived.Test.YtghiionknnpajaaGreatDoorK2
import Derived.Test.YtghiionknnpajaaGreatDoorCards
import Derived.Test.YtghiionknnpajaaGreatDoorTie
import Derived.WalkKit
set_option linter.unusedVariables false
set_option linter.unusedSimpArgs false
namespace Go.Ab.S2
open Go.Ab
set_option maxRecDepth 100000

theorem hgl {h : Heap} {l : Nat} {o : AObj} (hl : h[l]? = some o) (r : Heap) : (h ++ r)[l]? = some o := by
  rw [List.getElem?_append_left (List.getElem?_eq_some_iff.1 hl).1]; exact hl
theorem idx_find {α : Type} (p : α → Bool) (l : List α) : (idx p l < 0 → l.find? p = none) ∧ (¬ idx p l < 0 → ∃ (k : Nat) (x : α), idx p l = (k : Int) ∧ l[k]? = some x ∧ l.find? p = some x) := by
  unfold idx
  cases h : l.findIdx? p with
  | none =>
    rw [List.findIdx?_eq_none_iff] at h
    refine ⟨fun _ => ?_, fun hn => absurd (by simp) hn⟩
    rw [List.find?_eq_none]
    intro x hx
    simp [h x hx]
  | some k =>
    refine ⟨fun hn => absurd hn (by simp), fun _ => ?_⟩
    obtain ⟨hk, hp, hmin⟩ := List.findIdx?_eq_some_iff_getElem.1 h
    refine ⟨k, l[k], rfl, by simp, ?_⟩
    rw [List.find?_eq_some_iff_getElem]
    exact ⟨hp, k, hk, rfl, fun j hj => by simpa using hmin j hj⟩

theorem sclone_spec (f : Family) (h1 : f.layouts.length < 1099511627776) (h2 : f.cols.length < 1099511627776) : Ans N.schema_clone [.agg f.e] (.agg f.e) := by
  intro h
  refine spec_of ck_schema_clone ?_
  rw [wp_start]
  simp (maxSteps := 1000000) (disch := omega) only [go_sem, ↓reduceIte, Nat.reduceAdd, F.schema_clone]
  intro s s2
  refine callS_exact (clone_Layout _ h1 _) ?_
  simp (maxSteps := 1000000) (disch := omega) only [go_sem, ↓reduceIte, Nat.reduceEqDiff]
  refine callS_exact (clone_Column _ h2 _) ?_
  simp (maxSteps := 1000000) (disch := omega) only [go_sem, ↓reduceIte, Nat.reduceEqDiff]
  refine finS_l ?_
  simp (maxSteps := 1000000) (disch := omega) only [go_sem]
  all_goals simp []

theorem find1_spec (f : Family) (n : Str) (h : Heap) (l s imm : Nat) (hl : h[l]? = some (.arr s imm 1 [[.str n]])) : SpecA PP N.schema_Find_1 [.agg f.e, .ptr l s 0 0] h (fun r h' => r = .ret (.bool (f.name == n)) ∧ h' = h) := by
  have hl' := hgl hl
  refine spec_of ck_schema_Find_1 ?_
  rw [wp_start]
  simp (maxSteps := 1000000) (disch := omega) only [go_sem, ↓reduceIte, Nat.reduceAdd, Nat.reduceEqDiff, reduceCtorEq, F.schema_Find_1]
  intro s2
  simp (maxSteps := 1000000) (disch := omega) only [go_sem, ↓reduceIte, hl']
  refine finS_l ?_
  simp (maxSteps := 1000000) (disch := omega) only [go_sem]
  all_goals simp []

theorem sfind_spec (s : Schema) (n : Str) (hs : s.wf) : Ans N.schema_Find [.agg s.e, .str n] (.tup [.agg ((findF s n).getD Family.zero).e, .bool (findF s n).isSome]) := by
  intro h
  refine spec_of ck_schema_Find ?_
  rw [wp_start]
  simp (maxSteps := 1000000) (disch := omega) only [go_sem, ↓reduceIte, Nat.reduceAdd, Nat.reduceEqDiff, reduceCtorEq, F.schema_Find]
  intro s1 s2 s3
  refine callS_exact (indexFunc_Family s.fams _ [] [.ptr (h.length + 1) s2 0 0] (fun f => f.name == n) _ hs.fams (fun x _ => find1_spec x n _ _ s2 0 (by simp (maxSteps := 1000000) (disch := omega) only [go_sem]))) ?_
  simp (maxSteps := 1000000) (disch := omega) only [go_sem, ↓reduceIte, Nat.reduceEqDiff]
  have hi := idx_find (fun f : Family => f.name == n) s.fams
  rw [condS_some]; refine ⟨fun hx => ?_, fun hx => ?_⟩
  · simp (maxSteps := 1000000) (disch := omega) only [go_sem, ↓reduceIte, Nat.reduceAdd, Nat.reduceEqDiff]
    have hx := hi.1 (by simpa using hx)
    refine finS_l ?_
    simp (maxSteps := 1000000) (disch := omega) only [go_sem]
    all_goals simp [findF, hx, Family.zero_e]
  · obtain ⟨k, x, hk, hkx, hf⟩ := hi.2 (by simpa using hx)
    simp (maxSteps := 1000000) (disch := omega) only [go_sem, ↓reduceIte, Nat.reduceEqDiff, hk, gmap Family.e hkx]
    have hw := hs.fam x (List.mem_of_getElem? hkx)
    refine callS_exact (sclone_spec x hw.lays hw.cols _) ?_
    simp (maxSteps := 1000000) (disch := omega) only [go_sem, ↓reduceIte, Nat.reduceEqDiff]
    refine finS_l ?_
    simp (maxSteps := 1000000) (disch := omega) only [go_sem]
    all_goals simp [findF, hf]

theorem column1_spec (f : Column) (n : Str) (h : Heap) (l s imm : Nat) (hl : h[l]? = some (.arr s imm 1 [[.str n]])) : SpecA PP N.schema_Column_1 [.agg f.e, .ptr l s 0 0] h (fun r h' => r = .ret (.bool (f.qual == n)) ∧ h' = h) := by
  have hl' := hgl hl
  refine spec_of ck_schema_Column_1 ?_
  rw [wp_start]
  simp (maxSteps := 1000000) (disch := omega) only [go_sem, ↓reduceIte, Nat.reduceAdd, Nat.reduceEqDiff, reduceCtorEq, F.schema_Column_1]
  intro s2
  simp (maxSteps := 1000000) (disch := omega) only [go_sem, ↓reduceIte, hl']
  refine finS_l ?_
  simp (maxSteps := 1000000) (disch := omega) only [go_sem]
  all_goals simp []

theorem scolumn_spec (f : Family) (n : Str) (hl : f.cols.length < 1099511627776) : Ans N.schema_Column [.agg f.e, .str n] (.tup [.agg ((colF f n).getD Column.zero).e, .bool (colF f n).isSome]) := by
  intro h
  refine spec_of ck_schema_Column ?_
  rw [wp_start]
  simp (maxSteps := 1000000) (disch := omega) only [go_sem, ↓reduceIte, Nat.reduceAdd, Nat.reduceEqDiff, reduceCtorEq, F.schema_Column]
  intro s1 s2 s3
  refine callS_exact (indexFunc_Column f.cols _ [] [.ptr (h.length + 1) s2 0 0] (fun f => f.qual == n) _ hl (fun x _ => column1_spec x n _ _ s2 0 (by simp (maxSteps := 1000000) (disch := omega) only [go_sem]))) ?_
  simp (maxSteps := 1000000) (disch := omega) only [go_sem, ↓reduceIte, Nat.reduceEqDiff]
  have hi := idx_find (fun f : Column => f.qual == n) f.cols
  rw [condS_some]; refine ⟨fun hx => ?_, fun hx => ?_⟩
  · simp (maxSteps := 1000000) (disch := omega) only [go_sem, ↓reduceIte, Nat.reduceAdd, Nat.reduceEqDiff]
    have hx := hi.1 (by simpa using hx)
    refine finS_l ?_
    simp (maxSteps := 1000000) (disch := omega) only [go_sem]
    all_goals simp [colF, hx, Column.zero_e]
  · obtain ⟨k, x, hk, hkx, hf⟩ := hi.2 (by simpa using hx)
    simp (maxSteps := 1000000) (disch := omega) only [go_sem, ↓reduceIte, Nat.reduceEqDiff, hk, gmap Column.e hkx]
    refine finS_l ?_
    simp (maxSteps := 1000000) (disch := omega) only [go_sem]
    all_goals simp [colF, hf]

theorem read1_spec (l : Layout) : Ans N.schema_Read_1 [.agg l.e] (.bool (l.state == 3)) := by
  intro h
  refine spec_of ck_schema_Read_1 ?_
  rw [wp_start]
  simp (maxSteps := 1000000) (disch := omega) only [go_sem, ↓reduceIte, F.schema_Read_1]
  intro s
  refine finS_l ?_
  simp (maxSteps := 1000000) (disch := omega) only [go_sem]
  all_goals simp []

theorem sread_spec (f : Family) (hl : f.layouts.length < 1099511627776) : Ans N.schema_Read [.agg f.e] (.tup [.int .i64 ((readF f).map Layout.group |>.getD 0), .bool (readF f).isSome]) := by
  intro h
  refine spec_of ck_schema_Read ?_
  rw [wp_start]
  simp (maxSteps := 1000000) (disch := omega) only [go_sem, ↓reduceIte, Nat.reduceEqDiff, F.schema_Read]
  intro s1
  refine callS_exact (indexFunc_Layout f.layouts _ [] [] (fun l => l.state == 3) _ hl (fun x _ => read1_spec x _)) ?_
  simp (maxSteps := 1000000) (disch := omega) only [go_sem, ↓reduceIte, Nat.reduceEqDiff]
  have hi := idx_find (fun l : Layout => l.state == 3) f.layouts
  rw [condS_some]; refine ⟨fun hx => ?_, fun hx => ?_⟩
  · simp (maxSteps := 1000000) (disch := omega) only [go_sem, ↓reduceIte, Nat.reduceEqDiff]
    have hx := hi.1 (by simpa using hx)
    refine finS_l ?_
    simp (maxSteps := 1000000) (disch := omega) only [go_sem]
    all_goals simp [readF, hx]
  · obtain ⟨k, x, hk, hkx, hf⟩ := hi.2 (by simpa using hx)
    simp (maxSteps := 1000000) (disch := omega) only [go_sem, ↓reduceIte, Nat.reduceEqDiff, hk, gmap Layout.e hkx]
    refine finS_l ?_
    simp (maxSteps := 1000000) (disch := omega) only [go_sem]
    all_goals simp [readF, hf]

theorem sgroups_spec (f : Family) (fn : FuncId) (p : Int → Bool) (hl : f.layouts.length < 1099511627776) (hf : ∀ n, Ans fn [.int .i64 n] (.bool (p n))) : Ans N.schema_groups [.agg f.e, .fn fn [] []] (.psl (ints ((f.layouts.filter fun l => p l.state).map Layout.group))) := by
  intro h
  refine spec_of ck_schema_groups ?_
  rw [wp_start]
  simp (maxSteps := 1000000) (disch := omega) only [go_sem, ↓reduceIte, Nat.reduceAdd, Nat.reduceEqDiff, reduceCtorEq, F.schema_groups]
  intro s1 s2
  refine loopS_list f.layouts (fun pre s2 => ⟨[(1, .fn fn [] []), (5, .sl (h.length + 1) s2 0 (pre.filter fun l => p l.state).length), (9, .psl (f.layouts.map Layout.e)), (10, .int .i64 f.layouts.length), (11, .int .i64 pre.length)], h ++ [.arr s1 0 5 [f.e], .arr s2 0 1 (ints ((pre.filter fun l => p l.state).map Layout.group))]⟩) (fun pre post _ => True) s2 rfl trivial ?_
  rintro pre post s2 hpp hJ
  have hk : (pre.filter fun l => p l.state).length ≤ pre.length := List.length_filter_le _ _
  cases post with
  | nil =>
    simp (maxSteps := 1000000) (disch := omega) only [go_sem, ↓reduceIte, Nat.reduceEqDiff, nl0 hpp]
    simp only [List.append_nil] at hpp
    refine finS_l ?_
    simp (maxSteps := 1000000) (disch := omega) only [go_sem, ↓reduceIte, hpp]
  | cons x post =>
    have hn := nl hpp
    simp (maxSteps := 1000000) (disch := omega) only [go_sem, ↓reduceIte, Nat.reduceAdd, Nat.reduceEqDiff, gml Layout.e hpp, hn]
    intro s3
    refine callS_exact (hf _ _) ?_
    simp (maxSteps := 1000000) (disch := omega) only [go_sem, ↓reduceIte, Nat.reduceEqDiff]
    rw [condS_some]; refine ⟨fun hx => ?_, fun hx => ?_⟩
    · simp (maxSteps := 1000000) (disch := omega) only [go_sem, ↓reduceIte, Nat.reduceAdd, Nat.reduceMul, Nat.reduceEqDiff]
      refine fun s3 => ⟨by omega, fun s4 => ?_⟩
      refine lp_next (h.length + 2) s4 hpp trivial ?_ ?_
      · simp (maxSteps := 1000000) (disch := omega) only [go_sem, ↓reduceIte, Nat.reduceEqDiff, wrap64, Int.natCast_add, Int.cast_ofNat_Int, List.filter_append]
        all_goals simp [hx]
      · simp (maxSteps := 1000000) (disch := omega) only [go_sem, List.filter_append, List.map_append]
        all_goals simp [hx, ints]
    · simp (maxSteps := 1000000) (disch := omega) only [go_sem, ↓reduceIte, Nat.reduceEqDiff]
      refine lp_next (h.length + 2) s2 hpp trivial ?_ ?_
      · simp (maxSteps := 1000000) (disch := omega) only [go_sem, ↓reduceIte, Nat.reduceEqDiff, wrap64, Int.natCast_add, Int.cast_ofNat_Int, List.filter_append]
        all_goals simp [hx]
      · simp (maxSteps := 1000000) (disch := omega) only [go_sem, List.filter_append]
        all_goals simp [hx]

theorem written1_spec (n : Int) : Ans N.schema_Written_1 [.int .i64 n] (.bool (n == 2 || n == 3)) := by
  intro h
  refine spec_of ck_schema_Written_1 ?_
  rw [wp_start]
  simp (maxSteps := 1000000) (disch := omega) only [go_sem, ↓reduceIte, Nat.reduceEqDiff, reduceCtorEq, F.schema_Written_1]
  refine finS_l ?_
  simp (maxSteps := 1000000) (disch := omega) only [go_sem]
  all_goals simp []
theorem gone1_spec (n : Int) : Ans N.schema_Gone_1 [.int .i64 n] (.bool (n != 0)) := by
  intro h
  refine spec_of ck_schema_Gone_1 ?_
  rw [wp_start]
  simp (maxSteps := 1000000) (disch := omega) only [go_sem, ↓reduceIte, reduceCtorEq, F.schema_Gone_1]
  refine finS_l ?_
  simp (maxSteps := 1000000) (disch := omega) only [go_sem]
  all_goals simp []
theorem inG2 (l : Layout) : (l.state == 2 || l.state == 3) = inG 2 l := by
  unfold inG; rw [Bool.eq_iff_iff]; simp; omega
theorem written_spec (f : Family) (hl : f.layouts.length < 1099511627776) : Ans N.schema_Written [.agg f.e] (.psl (ints ((f.layouts.filter (inG 2)).map Layout.group))) := by
  intro h
  refine spec_of ck_schema_Written ?_
  rw [wp_start]
  simp (maxSteps := 1000000) (disch := omega) only [go_sem, ↓reduceIte, F.schema_Written]
  intro s
  refine callS_exact (sgroups_spec f _ (fun n => n == 2 || n == 3) hl written1_spec _) ?_
  simp (maxSteps := 1000000) (disch := omega) only [go_sem, ↓reduceIte]
  refine finS_l ?_
  simp (maxSteps := 1000000) (disch := omega) only [go_sem, inG2]
  all_goals rfl
theorem sgone_spec (f : Family) (hl : f.layouts.length < 1099511627776) : Ans N.schema_Gone [.agg f.e] (.psl (ints ((f.layouts.filter (fun l => l.state != 0)).map Layout.group))) := by
  intro h
  refine spec_of ck_schema_Gone ?_
  rw [wp_start]
  simp (maxSteps := 1000000) (disch := omega) only [go_sem, ↓reduceIte, F.schema_Gone]
  intro s
  refine callS_exact (sgroups_spec f _ (fun n => n != 0) hl gone1_spec _) ?_
  simp (maxSteps := 1000000) (disch := omega) only [go_sem, ↓reduceIte]
  refine finS_l ?_
  simp (maxSteps := 1000000) (disch := omega) only [go_sem]
  all_goals simp []
end Go.Ab.S2

/- Contracts: is a filter, a mutation, a request well formed? (filter, plan) -/
namespace Go.Ab.S2
open Go.Ab
set_option maxRecDepth 100000

theorem fwithin_spec (n a : Int) : Ans N.filter_within [.int .i64 n, .int .i64 a] (.bool (decide (0 ≤ n) && decide (n ≤ a))) := by
  intro h
  refine spec_of ck_filter_within ?_
  rw [wp_start]
  simp (maxSteps := 1000000) (disch := omega) only [go_sem, ↓reduceIte, Nat.reduceAdd, Nat.reduceEqDiff, reduceCtorEq, F.filter_within]
  refine finS_l ?_
  simp (maxSteps := 1000000) (disch := omega) only [go_sem]
  all_goals simp []
theorem fright1_spec (s : Str) : Ans N.filter_Right_1 [.str s] (.bool (!nameR s)) := by
  intro h
  refine spec_of ck_filter_Right_1 ?_
  rw [wp_start]
  simp (maxSteps := 1000000) (disch := omega) only [go_sem, ↓reduceIte, reduceCtorEq, F.filter_Right_1]
  refine callS_exact (name_filter s _) ?_
  simp (maxSteps := 1000000) (disch := omega) only [go_sem, ↓reduceIte]
  refine finS_l ?_
  simp (maxSteps := 1000000) (disch := omega) only [go_sem]
  all_goals simp []

def filR (f : Filter) : Bool := !(decide (6 < (f.fams.length : Int)) || f.fams.any fun s => !nameR s) &&
  (((((decide ((f.from_.length : Int) ≤ 12) && decide ((f.to.length : Int) ≤ 12)) && (decide (0 ≤ f.since) && decide (f.since ≤ 1099511627776))) && (decide (0 ≤ f.until_) && decide (f.until_ ≤ 1099511627776))) && (decide (0 ≤ f.versions) && decide (f.versions ≤ 8))) && (decide (0 ≤ f.rows) && decide (f.rows ≤ 1000)))

theorem filter_spec (f : Filter) (hf : f.wf) : Ans N.filter_Right [.agg f.e] (.bool (filR f)) := by
  intro h
  refine spec_of ck_filter_Right ?_
  rw [wp_start]
  simp (maxSteps := 1000000) (disch := omega) only [go_sem, ↓reduceIte, Nat.reduceEqDiff, F.filter_Right]
  intro s
  rw [opEg_some]; refine ⟨fun hg => ?_, fun hg => ?_⟩ <;> try simp only [Bool.not_eq_true', Bool.not_eq_false'] at hg
  · have g0 := hg
    simp (maxSteps := 1000000) (disch := omega) only [go_sem, ↓reduceIte, g0]
    refine callS_exact (containsFunc_Str f.fams _ [] [] (fun s => !nameR s) _ hf.fams (fun x _ => fright1_spec x _)) ?_
    simp (maxSteps := 1000000) (disch := omega) only [go_sem, ↓reduceIte, Nat.reduceEqDiff]
    rw [condS_some]; refine ⟨fun hx => ?_, fun hx => ?_⟩
    · simp (maxSteps := 1000000) (disch := omega) only [go_sem, ↓reduceIte]
      refine finS_l ?_
      simp (maxSteps := 1000000) (disch := omega) only [go_sem]
      all_goals simp [filR, g0, hx]
    · simp (maxSteps := 1000000) (disch := omega) only [go_sem, ↓reduceIte, Nat.reduceEqDiff]
      rw [opEg_some]; refine ⟨fun hg => ?_, fun hg => ?_⟩ <;> try simp only [Bool.and_eq_true] at hg
      · have g1 := hg
        simp (maxSteps := 1000000) (disch := omega) only [go_sem, ↓reduceIte, g1]
        refine callS_exact (fwithin_spec _ _ _) ?_
        simp (maxSteps := 1000000) (disch := omega) only [go_sem, ↓reduceIte, Nat.reduceEqDiff]
        rw [opEg_some]; refine ⟨fun hg => ?_, fun hg => ?_⟩ <;> try simp only [Bool.and_eq_true] at hg
        · have g2 := hg
          simp (maxSteps := 1000000) (disch := omega) only [go_sem, ↓reduceIte, g2]
          refine callS_exact (fwithin_spec _ _ _) ?_
          simp (maxSteps := 1000000) (disch := omega) only [go_sem, ↓reduceIte, Nat.reduceEqDiff]
          rw [opEg_some]; refine ⟨fun hg => ?_, fun hg => ?_⟩ <;> try simp only [Bool.and_eq_true] at hg
          · have g3 := hg
            simp (maxSteps := 1000000) (disch := omega) only [go_sem, ↓reduceIte, g3]
            refine callS_exact (fwithin_spec _ _ _) ?_
            simp (maxSteps := 1000000) (disch := omega) only [go_sem, ↓reduceIte, Nat.reduceEqDiff]
            rw [opEg_some]; refine ⟨fun hg => ?_, fun hg => ?_⟩ <;> try simp only [Bool.and_eq_true] at hg
            · have g4 := hg
              simp (maxSteps := 1000000) (disch := omega) only [go_sem, ↓reduceIte, g4]
              refine callS_exact (fwithin_spec _ _ _) ?_
              simp (maxSteps := 1000000) (disch := omega) only [go_sem, ↓reduceIte, Nat.reduceEqDiff]
              refine finS_l ?_
              simp (maxSteps := 1000000) (disch := omega) only [go_sem, filR, hx, g0, g1, g2, g3, g4]
              all_goals (try simp [filR, hx, g0, g1, g2, g3, g4])
            · have g4 := hg
              simp (maxSteps := 1000000) (disch := omega) only [go_sem, ↓reduceIte, Nat.reduceEqDiff, g4]
              refine finS_l ?_
              simp (maxSteps := 1000000) (disch := omega) only [go_sem, filR, hx, g0, g1, g2, g3, g4]
              all_goals (try simp [filR, hx, g0, g1, g2, g3, g4])
          · have g3 := hg
            simp (maxSteps := 1000000) (disch := omega) only [go_sem, ↓reduceIte, Nat.reduceEqDiff, g3]
            refine finS_l ?_
            simp (maxSteps := 1000000) (disch := omega) only [go_sem, filR, hx, g0, g1, g2, g3]
            all_goals (try simp [filR, hx, g0, g1, g2, g3])
        · have g2 := hg
          simp (maxSteps := 1000000) (disch := omega) only [go_sem, ↓reduceIte, Nat.reduceEqDiff, g2]
          refine finS_l ?_
          simp (maxSteps := 1000000) (disch := omega) only [go_sem, filR, hx, g0, g1, g2]
          all_goals (try simp [filR, hx, g0, g1, g2])
      · have g1 := hg
        simp (maxSteps := 1000000) (disch := omega) only [go_sem, ↓reduceIte, Nat.reduceEqDiff, g1]
        refine finS_l ?_
        simp (maxSteps := 1000000) (disch := omega) only [go_sem, filR, hx, g0, g1]
        all_goals (try simp [filR, hx, g0, g1])
  · have g0 := hg
    simp (maxSteps := 1000000) (disch := omega) only [go_sem, ↓reduceIte, Nat.reduceEqDiff, g0]
    refine finS_l ?_
    simp (maxSteps := 1000000) (disch := omega) only [go_sem]
    all_goals simp [filR, g0]

theorem fclone_spec (f : Filter) (hf : f.wf) : Ans N.filter_Clone [.agg f.e] (.agg f.e) := by
  intro h
  refine spec_of ck_filter_Clone ?_
  rw [wp_start]
  simp (maxSteps := 1000000) (disch := omega) only [go_sem, ↓reduceIte, Nat.reduceAdd, F.filter_Clone]
  intro s s2
  refine callS_exact (clone_Str _ hf.fams _) ?_
  simp (maxSteps := 1000000) (disch := omega) only [go_sem, ↓reduceIte, Nat.reduceEqDiff]
  refine finS_l ?_
  simp (maxSteps := 1000000) (disch := omega) only [go_sem]
  all_goals simp []

def colN (fam qual : Str) : Bool := nameR fam && decide ((qual.length : Int) ≤ 12)
theorem pcolumn_spec (fam qual : Str) : Ans N.plan_column [.str fam, .str qual] (.bool (colN fam qual)) := by
  intro h
  refine spec_of ck_plan_column ?_
  rw [wp_start]
  simp (maxSteps := 1000000) (disch := omega) only [go_sem, ↓reduceIte, Nat.reduceAdd, Nat.reduceEqDiff, reduceCtorEq, F.plan_column]
  refine callS_exact (name_plan fam _) ?_
  simp (maxSteps := 1000000) (disch := omega) only [go_sem, ↓reduceIte, Nat.reduceEqDiff, reduceCtorEq]
  refine finS_l ?_
  simp (maxSteps := 1000000) (disch := omega) only [go_sem]
  all_goals simp [colN]
theorem pnone_spec (v : Value) : Ans N.plan_none [.agg v.e] (.bool (decide (v = Value.zero))) := by
  intro h
  refine spec_of ck_plan_none ?_
  rw [wp_start]
  simp (maxSteps := 1000000) (disch := omega) only [go_sem, ↓reduceIte, F.plan_none]
  intro s
  refine finS_l ?_
  simp (maxSteps := 1000000) (disch := omega) only [go_sem]
  all_goals simp [Value.zero]
def empF (f : Filter) : Bool := f.fams.length == 0 && f.from_ == ([] : Str) && f.to == ([] : Str) && f.since == 0 && f.until_ == 0 && f.versions == 0 && f.rows == 0
theorem lenz (n : Nat) : ((n : Int) == 0) = (n == 0) := by rw [Bool.eq_iff_iff]; simp
theorem pempty_spec (f : Filter) : Ans N.plan_empty [.agg f.e] (.bool (empF f)) := by
  intro h
  refine spec_of ck_plan_empty ?_
  rw [wp_start]
  simp (maxSteps := 1000000) (disch := omega) only [go_sem, ↓reduceIte, Nat.reduceEqDiff, F.plan_empty]
  intro s
  simp (maxSteps := 1000000) (disch := omega) only [go_sem, lenz]
  refine finS_l ?_
  simp (maxSteps := 1000000) (disch := omega) only [go_sem, empF]

def mutF (m : Mut) : Bool :=
  if m.kind = 1 then colN m.fam m.qual && valR m.val
  else if m.kind = 2 then colN m.fam m.qual && decide (m.val = Value.zero)
  else if m.kind = 3 then (nameR m.fam && m.qual == ([] : Str)) && decide (m.val = Value.zero)
  else if m.kind = 4 then decide (m = ⟨4, [], [], Value.zero⟩)
  else false

theorem mut4 (m : Mut) : eqCells [0, 1, 1, 0, 0, 1] m.e [.int .i64 4, .str [], .str [], .int .i64 0, .int .i64 0, .str []] = some (decide (m = ⟨4, [], [], Value.zero⟩)) := Mut.eq m ⟨4, [], [], Value.zero⟩

theorem pmut_spec (m : Mut) (hm : m.wf) : Ans N.plan_mut [.agg m.e] (.bool (mutF m)) := by
  intro h
  refine spec_of ck_plan_mut ?_
  rw [wp_start]
  simp (maxSteps := 1000000) (disch := omega) only [go_sem, ↓reduceIte, Nat.reduceEqDiff, F.plan_mut]
  intro s
  rw [condS_some]; refine ⟨fun hx => ?_, fun hx => ?_⟩
  · simp (maxSteps := 1000000) (disch := omega) only [go_sem, ↓reduceIte, Nat.reduceEqDiff]
    have k1 : m.kind = 1 := by simpa using hx
    refine callS_exact (pcolumn_spec _ _ _) ?_
    simp (maxSteps := 1000000) (disch := omega) only [go_sem, ↓reduceIte, Nat.reduceEqDiff]
    rw [opEg_some]; refine ⟨fun hg => ?_, fun hg => ?_⟩ <;> try simp only [Bool.and_eq_true, Bool.or_eq_false_iff, Bool.not_eq_true', Bool.not_eq_false'] at hg
    · have g1 := hg
      simp (maxSteps := 1000000) (disch := omega) only [go_sem, ↓reduceIte, g1]
      refine callS_exact (val_spec _ hm.val _) ?_
      simp (maxSteps := 1000000) (disch := omega) only [go_sem, ↓reduceIte, Nat.reduceEqDiff]
      refine finS_l ?_
      simp (maxSteps := 1000000) (disch := omega) only [go_sem, ↓reduceIte, mutF, k1, g1]
      all_goals (try simp [mutF, k1, g1])
    · have g1 := hg
      simp (maxSteps := 1000000) (disch := omega) only [go_sem, ↓reduceIte, Nat.reduceEqDiff, g1]
      refine finS_l ?_
      simp (maxSteps := 1000000) (disch := omega) only [go_sem, ↓reduceIte, mutF, k1, g1]
      all_goals (try simp [mutF, k1, g1])
  · simp (maxSteps := 1000000) (disch := omega) only [go_sem, ↓reduceIte, Nat.reduceEqDiff]
    have k1 : ¬ m.kind = 1 := by simpa using hx
    rw [condS_some]; refine ⟨fun hx => ?_, fun hx => ?_⟩
    · simp (maxSteps := 1000000) (disch := omega) only [go_sem, ↓reduceIte, Nat.reduceEqDiff]
      have k2 : m.kind = 2 := by simpa using hx
      refine callS_exact (pcolumn_spec _ _ _) ?_
      simp (maxSteps := 1000000) (disch := omega) only [go_sem, ↓reduceIte, Nat.reduceEqDiff]
      rw [opEg_some]; refine ⟨fun hg => ?_, fun hg => ?_⟩ <;> try simp only [Bool.and_eq_true, Bool.or_eq_false_iff, Bool.not_eq_true', Bool.not_eq_false'] at hg
      · have g1 := hg
        simp (maxSteps := 1000000) (disch := omega) only [go_sem, ↓reduceIte, g1]
        refine callS_exact (pnone_spec _ _) ?_
        simp (maxSteps := 1000000) (disch := omega) only [go_sem, ↓reduceIte, Nat.reduceEqDiff]
        refine finS_l ?_
        simp (maxSteps := 1000000) (disch := omega) only [go_sem, ↓reduceIte, Int.reduceEq, mutF, k2, g1]
        all_goals (try simp [mutF, k2, g1])
      · have g1 := hg
        simp (maxSteps := 1000000) (disch := omega) only [go_sem, ↓reduceIte, Nat.reduceEqDiff, g1]
        refine finS_l ?_
        simp (maxSteps := 1000000) (disch := omega) only [go_sem, ↓reduceIte, Int.reduceEq, mutF, k2, g1]
        all_goals (try simp [mutF, k2, g1])
    · simp (maxSteps := 1000000) (disch := omega) only [go_sem, ↓reduceIte, Nat.reduceEqDiff]
      have k2 : ¬ m.kind = 2 := by simpa using hx
      rw [condS_some]; refine ⟨fun hx => ?_, fun hx => ?_⟩
      · simp (maxSteps := 1000000) (disch := omega) only [go_sem, ↓reduceIte]
        have k3 : m.kind = 3 := by simpa using hx
        refine callS_exact (name_plan _ _) ?_
        simp (maxSteps := 1000000) (disch := omega) only [go_sem, ↓reduceIte, Nat.reduceEqDiff]
        rw [opEg_some]; refine ⟨fun hg => ?_, fun hg => ?_⟩ <;> try simp only [Bool.and_eq_true] at hg
        · have g1 := hg
          simp (maxSteps := 1000000) (disch := omega) only [go_sem, ↓reduceIte, g1]
          refine callS_exact (pnone_spec _ _) ?_
          simp (maxSteps := 1000000) (disch := omega) only [go_sem, ↓reduceIte, Nat.reduceEqDiff]
          refine finS_l ?_
          simp (maxSteps := 1000000) (disch := omega) only [go_sem, ↓reduceIte, Int.reduceEq, mutF, k3, g1]
          all_goals (try simp [mutF, k3, g1])
        · have g1 := hg
          simp (maxSteps := 1000000) (disch := omega) only [go_sem, ↓reduceIte, Nat.reduceEqDiff, g1]
          refine finS_l ?_
          simp (maxSteps := 1000000) (disch := omega) only [go_sem, ↓reduceIte, Int.reduceEq, mutF, k3, g1]
          all_goals (try simp [mutF, k3, g1])
      · simp (maxSteps := 1000000) (disch := omega) only [go_sem, ↓reduceIte, Nat.reduceEqDiff]
        have k3 : ¬ m.kind = 3 := by simpa using hx
        rw [condS_some]; refine ⟨fun hx => ?_, fun hx => ?_⟩
        · simp (maxSteps := 1000000) (disch := omega) only [go_sem, ↓reduceIte, Nat.reduceAdd, Nat.reduceLeDiff, mut4]
          have k4 : m.kind = 4 := by simpa using hx
          refine finS_l ?_
          simp (maxSteps := 1000000) (disch := omega) only [go_sem, ↓reduceIte, Int.reduceEq, mutF, k4]
          all_goals (try simp [mutF, k4])
        · simp (maxSteps := 1000000) (disch := omega) only [go_sem, ↓reduceIte]
          have k4 : ¬ m.kind = 4 := by simpa using hx
          refine finS_l ?_
          simp (maxSteps := 1000000) (disch := omega) only [go_sem]
          all_goals simp [mutF, k1, k2, k3, k4]

def readQ (q : Request) : Bool := ((((((decide ((q.row.length : Int) ≤ 16) && decide ((q.to.length : Int) ≤ 16)) && (q.to == ([] : Str) || (Op.bytesLess q.row q.to || q.row == q.to))) && q.muts.length == 0) && q.fam == ([] : Str)) && q.qual == ([] : Str)) && decide (q.val = Value.zero)) && filR q.filter
theorem pread_spec (q : Request) (hq : q.wf) : Ans N.plan_read [.agg q.e] (.bool (readQ q)) := by
  intro h
  refine spec_of ck_plan_read ?_
  rw [wp_start]
  simp (maxSteps := 1000000) (disch := omega) only [go_sem, ↓reduceIte, Nat.reduceEqDiff, F.plan_read]
  intro s
  simp (maxSteps := 1000000) (disch := omega) only [go_sem, lenz]
  rw [opEg_some]; refine ⟨fun hg => ?_, fun hg => ?_⟩ <;> try simp only [Bool.and_eq_true] at hg
  · have g1 := hg
    simp (maxSteps := 1000000) (disch := omega) only [go_sem, ↓reduceIte, g1]
    refine callS_exact (pnone_spec _ _) ?_
    simp (maxSteps := 1000000) (disch := omega) only [go_sem, ↓reduceIte, Nat.reduceEqDiff]
    rw [opEg_some]; refine ⟨fun hg => ?_, fun hg => ?_⟩ <;> try simp only [Bool.and_eq_true, Bool.or_eq_false_iff, Bool.not_eq_true', Bool.not_eq_false'] at hg
    · have g2 := hg
      simp (maxSteps := 1000000) (disch := omega) only [go_sem, ↓reduceIte, g2]
      refine callS_exact (filter_spec _ hq.filter _) ?_
      simp (maxSteps := 1000000) (disch := omega) only [go_sem, ↓reduceIte, Nat.reduceEqDiff]
      refine finS_l ?_
      simp (maxSteps := 1000000) (disch := omega) only [go_sem, readQ, g1, g2]
      all_goals (try simp [readQ, g1, g2])
    · have g2 := hg
      simp (maxSteps := 1000000) (disch := omega) only [go_sem, ↓reduceIte, Nat.reduceEqDiff, g2]
      refine finS_l ?_
      simp (maxSteps := 1000000) (disch := omega) only [go_sem, readQ, g1, g2]
      all_goals (try simp [readQ, g1, g2])
  · have g1 := hg
    simp (maxSteps := 1000000) (disch := omega) only [go_sem, ↓reduceIte, Nat.reduceEqDiff, g1]
    refine finS_l ?_
    simp (maxSteps := 1000000) (disch := omega) only [go_sem, readQ, g1]
    all_goals (try simp [readQ, g1])

theorem write1_spec (m : Mut) (hm : m.wf) : Ans N.plan_write_1 [.agg m.e] (.bool (!mutF m)) := by
  intro h
  refine spec_of ck_plan_write_1 ?_
  rw [wp_start]
  simp (maxSteps := 1000000) (disch := omega) only [go_sem, ↓reduceIte, F.plan_write_1]
  intro s
  refine callS_exact (pmut_spec m hm _) ?_
  simp (maxSteps := 1000000) (disch := omega) only [go_sem, ↓reduceIte]
  refine finS_l ?_
  simp (maxSteps := 1000000) (disch := omega) only [go_sem]
  all_goals simp []
def writeQ (q : Request) : Bool := (((((!(q.row == ([] : Str)) && decide ((q.row.length : Int) ≤ 16)) && q.to == ([] : Str)) && empF q.filter) && decide (0 < (q.muts.length : Int))) && decide ((q.muts.length : Int) ≤ 8)) && !(q.muts.any fun m => !mutF m)
theorem pwrite_spec (q : Request) (hq : q.wf) : Ans N.plan_write [.agg q.e] (.bool (writeQ q)) := by
  intro h
  refine spec_of ck_plan_write ?_
  rw [wp_start]
  simp (maxSteps := 1000000) (disch := omega) only [go_sem, ↓reduceIte, Nat.reduceEqDiff, F.plan_write]
  intro s
  rw [opEg_some]; refine ⟨fun hg => ?_, fun hg => ?_⟩ <;> try simp only [Bool.and_eq_true, Bool.not_eq_true'] at hg
  · have g1 := hg
    simp (maxSteps := 1000000) (disch := omega) only [go_sem, ↓reduceIte, g1]
    refine callS_exact (pempty_spec _ _) ?_
    simp (maxSteps := 1000000) (disch := omega) only [go_sem, ↓reduceIte, Nat.reduceEqDiff]
    rw [opEg_some]; refine ⟨fun hg => ?_, fun hg => ?_⟩ <;> try simp only [Bool.and_eq_true] at hg
    · have g2 := hg
      simp (maxSteps := 1000000) (disch := omega) only [go_sem, ↓reduceIte, g2]
      refine callS_exact (containsFunc_Mut q.muts _ [] [] (fun m => !mutF m) _ hq.muts (fun x hx => write1_spec x (hq.mutw x hx) _)) ?_
      simp (maxSteps := 1000000) (disch := omega) only [go_sem, ↓reduceIte, Nat.reduceEqDiff]
      refine finS_l ?_
      simp (maxSteps := 1000000) (disch := omega) only [go_sem, writeQ, g1, g2]
      all_goals (try simp [writeQ, g1, g2])
    · have g2 := hg
      simp (maxSteps := 1000000) (disch := omega) only [go_sem, ↓reduceIte, Nat.reduceEqDiff, g2]
      refine finS_l ?_
      simp (maxSteps := 1000000) (disch := omega) only [go_sem, writeQ, g1, g2]
      all_goals (try simp [writeQ, g1, g2])
  · have g1 := hg
    simp (maxSteps := 1000000) (disch := omega) only [go_sem, ↓reduceIte, Nat.reduceEqDiff, g1]
    refine finS_l ?_
    simp (maxSteps := 1000000) (disch := omega) only [go_sem, writeQ, g1]
    all_goals (try simp [writeQ, g1])

def formQ (q : Request) : Bool :=
  if q.kind = 3 then readQ q
  else if q.kind = 1 then ((writeQ q && q.fam == ([] : Str)) && q.qual == ([] : Str)) && decide (q.val = Value.zero)
  else if q.kind = 2 then (writeQ q && colN q.fam q.qual) && (decide (q.val = Value.zero) || valR q.val)
  else false
theorem formed_spec (q : Request) (hq : q.wf) : Ans N.plan_Formed [.agg q.e] (.bool (formQ q)) := by
  intro h
  refine spec_of ck_plan_Formed ?_
  rw [wp_start]
  simp (maxSteps := 1000000) (disch := omega) only [go_sem, ↓reduceIte, Nat.reduceEqDiff, F.plan_Formed]
  intro s
  rw [condS_some]; refine ⟨fun hx => ?_, fun hx => ?_⟩
  · simp (maxSteps := 1000000) (disch := omega) only [go_sem, ↓reduceIte]
    have k3 : q.kind = 3 := by simpa using hx
    refine callS_exact (pread_spec q hq _) ?_
    simp (maxSteps := 1000000) (disch := omega) only [go_sem, ↓reduceIte]
    refine finS_l ?_
    simp (maxSteps := 1000000) (disch := omega) only [go_sem]
    all_goals simp [formQ, k3]
  · simp (maxSteps := 1000000) (disch := omega) only [go_sem, ↓reduceIte, Nat.reduceEqDiff]
    have k3 : ¬ q.kind = 3 := by simpa using hx
    rw [condS_some]; refine ⟨fun hx => ?_, fun hx => ?_⟩
    · simp (maxSteps := 1000000) (disch := omega) only [go_sem, ↓reduceIte]
      have k1 : q.kind = 1 := by simpa using hx
      refine callS_exact (pwrite_spec q hq _) ?_
      simp (maxSteps := 1000000) (disch := omega) only [go_sem, ↓reduceIte, Nat.reduceEqDiff]
      rw [opEg_some]; refine ⟨fun hg => ?_, fun hg => ?_⟩ <;> try simp only [Bool.and_eq_true] at hg
      · have g1 := hg
        simp (maxSteps := 1000000) (disch := omega) only [go_sem, ↓reduceIte, g1]
        refine callS_exact (pnone_spec _ _) ?_
        simp (maxSteps := 1000000) (disch := omega) only [go_sem, ↓reduceIte, Nat.reduceEqDiff]
        refine finS_l ?_
        simp (maxSteps := 1000000) (disch := omega) only [go_sem, ↓reduceIte, Int.reduceEq, formQ, k1, g1]
        all_goals (try simp [formQ, k1, g1])
      · have g1 := hg
        simp (maxSteps := 1000000) (disch := omega) only [go_sem, ↓reduceIte, Nat.reduceEqDiff, g1]
        refine finS_l ?_
        simp (maxSteps := 1000000) (disch := omega) only [go_sem, ↓reduceIte, Int.reduceEq, formQ, k1, g1]
        all_goals (try simp [formQ, k1, g1])
    · simp (maxSteps := 1000000) (disch := omega) only [go_sem, ↓reduceIte, Nat.reduceEqDiff]
      have k1 : ¬ q.kind = 1 := by simpa using hx
      rw [condS_some]; refine ⟨fun hx => ?_, fun hx => ?_⟩
      · simp (maxSteps := 1000000) (disch := omega) only [go_sem, ↓reduceIte]
        have k2 : q.kind = 2 := by simpa using hx
        refine callS_exact (pwrite_spec q hq _) ?_
        simp (maxSteps := 1000000) (disch := omega) only [go_sem, ↓reduceIte, Nat.reduceEqDiff]
        rw [opEg_some]; refine ⟨fun hg => ?_, fun hg => ?_⟩ <;> try simp only [Bool.and_eq_true, Bool.or_eq_false_iff, Bool.not_eq_true', Bool.not_eq_false'] at hg
        · have g1 := hg
          simp (maxSteps := 1000000) (disch := omega) only [go_sem, ↓reduceIte, Nat.reduceEqDiff, g1]
          refine callS_exact (pcolumn_spec _ _ _) ?_
          simp (maxSteps := 1000000) (disch := omega) only [go_sem, ↓reduceIte, Nat.reduceEqDiff]
          rw [opEg_some]; refine ⟨fun hg => ?_, fun hg => ?_⟩ <;> try simp only [Bool.and_eq_true, Bool.or_eq_false_iff, Bool.not_eq_true', Bool.not_eq_false'] at hg
          · have g2 := hg
            simp (maxSteps := 1000000) (disch := omega) only [go_sem, ↓reduceIte, g2]
            refine callS_exact (pnone_spec _ _) ?_
            simp (maxSteps := 1000000) (disch := omega) only [go_sem, ↓reduceIte, Nat.reduceEqDiff]
            rw [opEg_some]; refine ⟨fun hg => ?_, fun hg => ?_⟩ <;> try simp only [Bool.not_eq_true', Bool.not_eq_false'] at hg
            · have g3 := hg
              simp (maxSteps := 1000000) (disch := omega) only [go_sem, ↓reduceIte, g3]
              refine callS_exact (val_spec _ hq.val _) ?_
              simp (maxSteps := 1000000) (disch := omega) only [go_sem, ↓reduceIte, Nat.reduceEqDiff]
              refine finS_l ?_
              simp (maxSteps := 1000000) (disch := omega) only [go_sem, ↓reduceIte, Int.reduceEq, formQ, k2, g1, g2, g3]
              all_goals (try simp [formQ, k2, g1, g2, g3])
            · have g3 := hg
              simp (maxSteps := 1000000) (disch := omega) only [go_sem, ↓reduceIte, Nat.reduceEqDiff, g3]
              refine finS_l ?_
              simp (maxSteps := 1000000) (disch := omega) only [go_sem, ↓reduceIte, Int.reduceEq, formQ, k2, g1, g2, g3]
              all_goals (try simp [formQ, k2, g1, g2, g3])
          · have g2 := hg
            simp (maxSteps := 1000000) (disch := omega) only [go_sem, ↓reduceIte, Nat.reduceEqDiff, g2]
            refine finS_l ?_
            simp (maxSteps := 1000000) (disch := omega) only [go_sem, ↓reduceIte, Int.reduceEq, formQ, k2, g1, g2]
            all_goals (try simp [formQ, k2, g1, g2])
        · have g1 := hg
          simp (maxSteps := 1000000) (disch := omega) only [go_sem, ↓reduceIte, Nat.reduceEqDiff, g1]
          refine finS_l ?_
          simp (maxSteps := 1000000) (disch := omega) only [go_sem, ↓reduceIte, Int.reduceEq, formQ, k2, g1]
          all_goals (try simp [formQ, k2, g1])
      · simp (maxSteps := 1000000) (disch := omega) only [go_sem, ↓reduceIte]
        have k2 : ¬ q.kind = 2 := by simpa using hx
        refine finS_l ?_
        simp (maxSteps := 1000000) (disch := omega) only [go_sem]
        all_goals simp [formQ, k1, k2, k3]

end Go.Ab.S2

/- Contracts: a request held against a schema (plan). -/
namespace Go.Ab.S2
open Go.Ab
set_option maxRecDepth 100000

def famU (s : Schema) (n : Str) : Bool := (readF ((findF s n).getD Family.zero)).isSome
theorem findF_mem {s : Schema} {n : Str} {f : Family} (h : findF s n = some f) : f ∈ s.fams ∧ f.name = n := by
  unfold findF at h
  exact ⟨List.mem_of_find?_eq_some h, by simpa using List.find?_some h⟩
theorem findF_lays {s : Schema} (hs : s.wf) (n : Str) : ((findF s n).getD Family.zero).layouts.length < 1099511627776 ∧ ((findF s n).getD Family.zero).cols.length < 1099511627776 := by
  cases h : findF s n with
  | none => simp [Family.zero]
  | some f => have := hs.fam f (findF_mem h).1; exact ⟨this.lays, this.cols⟩

theorem vfamily_spec (s : Schema) (n : Str) (hs : s.wf) : Ans N.plan_view_family [.agg s.e, .str n] (.tup [.agg ((findF s n).getD Family.zero).e, .bool (famU s n)]) := by
  intro h
  refine spec_of ck_plan_view_family ?_
  rw [wp_start]
  simp (maxSteps := 1000000) (disch := omega) only [go_sem, ↓reduceIte, Nat.reduceAdd, Nat.reduceEqDiff, reduceCtorEq, F.plan_view_family]
  intro s1 s2
  refine callS_exact (sfind_spec s n hs _) ?_
  simp (maxSteps := 1000000) (disch := omega) only [go_sem, ↓reduceIte, Nat.reduceAdd, Nat.reduceEqDiff]
  intro s3
  refine callS_exact (sread_spec _ (findF_lays hs n).1 _) ?_
  simp (maxSteps := 1000000) (disch := omega) only [go_sem, ↓reduceIte, Nat.reduceEqDiff]
  refine finS_l ?_
  simp (maxSteps := 1000000) (disch := omega) only [go_sem]
  all_goals simp [famU]

def namE (s : Schema) (n : Str) : Int := if famU s n then 0 else 12
theorem vnamed_spec (s : Schema) (n : Str) (hs : s.wf) : Ans N.plan_view_named [.agg s.e, .str n] (.int .i64 (namE s n)) := by
  intro h
  refine spec_of ck_plan_view_named ?_
  rw [wp_start]
  simp (maxSteps := 1000000) (disch := omega) only [go_sem, ↓reduceIte, Nat.reduceAdd, Nat.reduceEqDiff, reduceCtorEq, F.plan_view_named]
  intro s1
  refine callS_exact (vfamily_spec s n hs _) ?_
  simp (maxSteps := 1000000) (disch := omega) only [go_sem, ↓reduceIte, Nat.reduceAdd, Nat.reduceEqDiff]
  intro s2
  rw [condS_some]; refine ⟨fun hx => ?_, fun hx => ?_⟩
  · simp (maxSteps := 1000000) (disch := omega) only [go_sem, ↓reduceIte]
    rw [Bool.not_eq_true'] at hx
    refine finS_l ?_
    simp (maxSteps := 1000000) (disch := omega) only [go_sem, ↓reduceIte, namE, hx]
    all_goals (try simp [namE, hx])
  · simp (maxSteps := 1000000) (disch := omega) only [go_sem, ↓reduceIte]
    rw [Bool.not_eq_false'] at hx
    refine finS_l ?_
    simp (maxSteps := 1000000) (disch := omega) only [go_sem, ↓reduceIte, namE, hx]
    all_goals (try simp [namE, hx])

def valE (s : Schema) (fam qual : Str) (x : Value) : Int :=
  if !famU s fam || !(colF ((findF s fam).getD Family.zero) qual).isSome || ((colF ((findF s fam).getD Family.zero) qual).getD Column.zero).state != 3 then 12
  else if x.kind != 0 && x.kind != ((colF ((findF s fam).getD Family.zero) qual).getD Column.zero).kind then 14 else 0
theorem vvalue_spec (s : Schema) (fam qual : Str) (x : Value) (hs : s.wf) : Ans N.plan_view_value [.agg s.e, .str fam, .str qual, .agg x.e] (.int .i64 (valE s fam qual x)) := by
  intro h
  refine spec_of ck_plan_view_value ?_
  rw [wp_start]
  simp (maxSteps := 1000000) (disch := omega) only [go_sem, ↓reduceIte, Nat.reduceAdd, Nat.reduceEqDiff, reduceCtorEq, F.plan_view_value]
  intro s1 s2
  refine callS_exact (vfamily_spec s fam hs _) ?_
  simp (maxSteps := 1000000) (disch := omega) only [go_sem, ↓reduceIte, Nat.reduceAdd, Nat.reduceEqDiff]
  intro s3
  refine callS_exact (scolumn_spec _ qual (findF_lays hs fam).2 _) ?_
  simp (maxSteps := 1000000) (disch := omega) only [go_sem, ↓reduceIte, Nat.reduceAdd, Nat.reduceEqDiff]
  intro s4
  rw [condS_some]; refine ⟨fun hx => ?_, fun hx => ?_⟩
  · simp (maxSteps := 1000000) (disch := omega) only [go_sem, ↓reduceIte]
    refine finS_l ?_
    simp (maxSteps := 1000000) (disch := omega) only [go_sem, ↓reduceIte, valE, hx]
    all_goals (try simp [valE, hx])
  · simp (maxSteps := 1000000) (disch := omega) only [go_sem, ↓reduceIte, Nat.reduceEqDiff]
    have hx1 := hx
    rw [condS_some]; refine ⟨fun hx => ?_, fun hx => ?_⟩
    · simp (maxSteps := 1000000) (disch := omega) only [go_sem, ↓reduceIte]
      refine finS_l ?_
      simp (maxSteps := 1000000) (disch := omega) only [go_sem, ↓reduceIte, valE, hx1, hx]
      all_goals (try simp [valE, hx1, hx])
    · simp (maxSteps := 1000000) (disch := omega) only [go_sem, ↓reduceIte]
      refine finS_l ?_
      simp (maxSteps := 1000000) (disch := omega) only [go_sem, ↓reduceIte, valE, hx1, hx]
      all_goals (try simp [valE, hx1, hx])

def mutE (s : Schema) (m : Mut) : Int := if m.kind = 1 ∨ m.kind = 2 then valE s m.fam m.qual m.val else if m.kind = 3 then namE s m.fam else 0
theorem vmut_spec (s : Schema) (m : Mut) (hs : s.wf) : Ans N.plan_view_mut [.agg s.e, .agg m.e] (.int .i64 (mutE s m)) := by
  intro h
  refine spec_of ck_plan_view_mut ?_
  rw [wp_start]
  simp (maxSteps := 1000000) (disch := omega) only [go_sem, ↓reduceIte, Nat.reduceAdd, Nat.reduceEqDiff, reduceCtorEq, F.plan_view_mut]
  intro s1 s2
  have c1 : (m.kind == 1) = true ∨ (m.kind == 1) = false := by cases (m.kind == 1) <;> simp
  have c2 : (m.kind == 2) = true ∨ (m.kind == 2) = false := by cases (m.kind == 2) <;> simp
  rcases c1 with c1 | c1
  · simp (maxSteps := 1000000) (disch := omega) only [go_sem, ↓reduceIte, Nat.reduceEqDiff, c1]
    have k1 : m.kind = 1 := by simpa using c1
    refine callS_exact (vvalue_spec s _ _ _ hs _) ?_
    simp (maxSteps := 1000000) (disch := omega) only [go_sem, ↓reduceIte]
    refine finS_l ?_
    simp (maxSteps := 1000000) (disch := omega) only [go_sem]
    all_goals simp [mutE, k1]
  · rcases c2 with c2 | c2
    · simp (maxSteps := 1000000) (disch := omega) only [go_sem, ↓reduceIte, Nat.reduceEqDiff, c1, c2]
      have k2 : m.kind = 2 := by simpa using c2
      refine callS_exact (vvalue_spec s _ _ _ hs _) ?_
      simp (maxSteps := 1000000) (disch := omega) only [go_sem, ↓reduceIte]
      refine finS_l ?_
      simp (maxSteps := 1000000) (disch := omega) only [go_sem]
      all_goals simp [mutE, k2]
    · simp (maxSteps := 1000000) (disch := omega) only [go_sem, ↓reduceIte, Nat.reduceEqDiff, c1, c2]
      have k1 : ¬ m.kind = 1 := by simpa using c1
      have k2 : ¬ m.kind = 2 := by simpa using c2
      rw [condS_some]; refine ⟨fun hx => ?_, fun hx => ?_⟩
      · simp (maxSteps := 1000000) (disch := omega) only [go_sem, ↓reduceIte, Nat.reduceEqDiff]
        have k3 : m.kind = 3 := by simpa using hx
        refine callS_exact (vnamed_spec s _ hs _) ?_
        simp (maxSteps := 1000000) (disch := omega) only [go_sem, ↓reduceIte]
        refine finS_l ?_
        simp (maxSteps := 1000000) (disch := omega) only [go_sem]
        all_goals simp [mutE, k3]
      · simp (maxSteps := 1000000) (disch := omega) only [go_sem, ↓reduceIte]
        have k3 : ¬ m.kind = 3 := by simpa using hx
        refine finS_l ?_
        simp (maxSteps := 1000000) (disch := omega) only [go_sem]
        all_goals simp [mutE, k1, k2, k3]

def firstE {α : Type} (g : α → Int) : List α → Int
  | [] => 0
  | x :: r => if g x = 0 then firstE g r else g x

theorem first_Str (l : List Str) (f : FuncId) (fi ca : List AV) (g : Str → Int) (h : Heap) (hl : l.length < 1099511627776) (hf : ∀ x ∈ l, Ans f (fi ++ (.str x :: ca)) (.int .i64 (g x))) : SpecA PP N.plan_first_string [.psl (strs l), .fn f fi ca] h (fun r h' => r = .ret (.int .i64 (firstE g l)) ∧ h' = h) := by
  refine spec_of ck_plan_first_string ?_
  rw [wp_start]
  simp (maxSteps := 1000000) (disch := omega) only [go_sem, ↓reduceIte, Nat.reduceAdd, Nat.reduceEqDiff, reduceCtorEq, F.plan_first_string]
  refine loopS_list l (fun pre (_ : Unit) => ⟨[(1, .fn f fi ca), (8, .psl (strs l)), (9, .int .i64 l.length), (10, .int .i64 pre.length)], h⟩) (fun pre post _ => firstE g l = firstE g post) () rfl rfl ?_
  rintro pre post ⟨⟩ hpp hJ
  cases post with
  | nil =>
    simp (maxSteps := 1000000) (disch := omega) only [go_sem, ↓reduceIte, Nat.reduceEqDiff, nl0 hpp]
    refine finS_l ?_
    simp (maxSteps := 1000000) (disch := omega) only [go_sem, hJ]
    all_goals simp [firstE]
  | cons x post =>
    have hn := nl hpp
    simp (maxSteps := 1000000) (disch := omega) only [go_sem, ↓reduceIte, Nat.reduceEqDiff, gstrs hpp, hn]
    try intro s2
    refine callS_exact (hf x (by simp [hpp]) _) ?_
    simp (maxSteps := 1000000) (disch := omega) only [go_sem, ↓reduceIte, Nat.reduceEqDiff]
    rw [condS_some]; refine ⟨fun hx => ?_, fun hx => ?_⟩
    · simp (maxSteps := 1000000) (disch := omega) only [go_sem, ↓reduceIte, Nat.reduceEqDiff]
      have hx : ¬ g x = 0 := by simpa using hx
      refine finS_l ?_
      simp (maxSteps := 1000000) (disch := omega) only [go_sem, hJ]
      all_goals simp [firstE, hx]
    · simp (maxSteps := 1000000) (disch := omega) only [go_sem, ↓reduceIte, Nat.reduceEqDiff]
      have hx : g x = 0 := by simpa using hx
      refine lp_next (h.length + 0) () hpp ?_ ?_ ?_
      · rw [hJ]; simp [firstE, hx]
      · simp (maxSteps := 1000000) (disch := omega) only [go_sem, ↓reduceIte, Nat.reduceEqDiff, wrap64, Int.natCast_add, Int.cast_ofNat_Int]
      · simp (maxSteps := 1000000) (disch := omega) only [go_sem]
theorem first_Mut (l : List Mut) (f : FuncId) (fi ca : List AV) (g : Mut → Int) (h : Heap) (hl : l.length < 1099511627776) (hf : ∀ x ∈ l, Ans f (fi ++ (.agg x.e :: ca)) (.int .i64 (g x))) : SpecA PP N.plan_first_apiMut [.psl (l.map Mut.e), .fn f fi ca] h (fun r h' => r = .ret (.int .i64 (firstE g l)) ∧ h' = h) := by
  refine spec_of ck_plan_first_apiMut ?_
  rw [wp_start]
  simp (maxSteps := 1000000) (disch := omega) only [go_sem, ↓reduceIte, Nat.reduceAdd, Nat.reduceEqDiff, reduceCtorEq, F.plan_first_apiMut]
  refine loopS_list l (fun pre (_ : Unit) => ⟨[(1, .fn f fi ca), (8, .psl (l.map Mut.e)), (9, .int .i64 l.length), (10, .int .i64 pre.length)], h⟩) (fun pre post _ => firstE g l = firstE g post) () rfl rfl ?_
  rintro pre post ⟨⟩ hpp hJ
  cases post with
  | nil =>
    simp (maxSteps := 1000000) (disch := omega) only [go_sem, ↓reduceIte, Nat.reduceEqDiff, nl0 hpp]
    refine finS_l ?_
    simp (maxSteps := 1000000) (disch := omega) only [go_sem, hJ]
    all_goals simp [firstE]
  | cons x post =>
    have hn := nl hpp
    simp (maxSteps := 1000000) (disch := omega) only [go_sem, ↓reduceIte, Nat.reduceAdd, Nat.reduceEqDiff, gml Mut.e hpp, hn]
    try intro s2
    refine callS_exact (hf x (by simp [hpp]) _) ?_
    simp (maxSteps := 1000000) (disch := omega) only [go_sem, ↓reduceIte, Nat.reduceEqDiff]
    rw [condS_some]; refine ⟨fun hx => ?_, fun hx => ?_⟩
    · simp (maxSteps := 1000000) (disch := omega) only [go_sem, ↓reduceIte, Nat.reduceEqDiff]
      have hx : ¬ g x = 0 := by simpa using hx
      refine finS_l ?_
      simp (maxSteps := 1000000) (disch := omega) only [go_sem, hJ]
      all_goals simp [firstE, hx]
    · simp (maxSteps := 1000000) (disch := omega) only [go_sem, ↓reduceIte, Nat.reduceEqDiff]
      have hx : g x = 0 := by simpa using hx
      refine lp_next (h.length + 0) () hpp ?_ ?_ ?_
      · rw [hJ]; simp [firstE, hx]
      · simp (maxSteps := 1000000) (disch := omega) only [go_sem, ↓reduceIte, Nat.reduceEqDiff, wrap64, Int.natCast_add, Int.cast_ofNat_Int]
      · simp (maxSteps := 1000000) (disch := omega) only [go_sem]

def chkE (s : Schema) (q : Request) : Int :=
  if !schP s || !formQ q then 10
  else if q.kind = 3 then firstE (namE s) q.filter.fams
  else if q.kind = 2 ∧ valE s q.fam q.qual q.val ≠ 0 then valE s q.fam q.qual q.val
  else firstE (mutE s) q.muts

theorem check_spec (s : Schema) (q : Request) (hs : s.wf) (hq : q.wf) : Ans N.plan_Check [.agg s.e, .agg q.e] (.int .i64 (chkE s q)) := by
  intro h
  refine spec_of ck_plan_Check ?_
  rw [wp_start]
  simp (maxSteps := 1000000) (disch := omega) only [go_sem, ↓reduceIte, Nat.reduceAdd, Nat.reduceEqDiff, reduceCtorEq, F.plan_Check]
  intro s1 s2
  refine callS_exact (right_spec s hs _) ?_
  simp (maxSteps := 1000000) (disch := omega) only [go_sem, ↓reduceIte, Nat.reduceEqDiff]
  rw [opEg_some]; refine ⟨fun hg => ?_, fun hg => ?_⟩ <;> try simp only [Bool.and_eq_true, Bool.or_eq_false_iff, Bool.not_eq_true', Bool.not_eq_false'] at hg
  · have g1 := hg
    simp (maxSteps := 1000000) (disch := omega) only [go_sem, ↓reduceIte, g1]
    refine callS_exact (formed_spec q hq _) ?_
    simp (maxSteps := 1000000) (disch := omega) only [go_sem, ↓reduceIte, Nat.reduceEqDiff]
    rw [condS_some]; refine ⟨fun hx => ?_, fun hx => ?_⟩
    · simp (maxSteps := 1000000) (disch := omega) only [go_sem, ↓reduceIte]
      rw [Bool.not_eq_true'] at hx
      refine finS_l ?_
      simp (maxSteps := 1000000) (disch := omega) only [go_sem, ↓reduceIte, chkE, hx]
      all_goals (try simp [chkE, hx])
    · simp (maxSteps := 1000000) (disch := omega) only [go_sem, ↓reduceIte, Nat.reduceAdd, Nat.reduceEqDiff]
      rw [Bool.not_eq_false'] at hx
      have g2 := hx
      intro s3
      rw [condS_some]; refine ⟨fun hx => ?_, fun hx => ?_⟩
      · simp (maxSteps := 1000000) (disch := omega) only [go_sem, ↓reduceIte, Nat.reduceEqDiff]
        have k3 : q.kind = 3 := by simpa using hx
        refine callS_exact (first_Str q.filter.fams _ [.agg s.e] [] (namE s) _ hq.filter.fams (fun x _ => vnamed_spec s x hs)) ?_
        simp (maxSteps := 1000000) (disch := omega) only [go_sem, ↓reduceIte]
        refine finS_l ?_
        simp (maxSteps := 1000000) (disch := omega) only [go_sem]
        all_goals simp [chkE, g1, g2, k3]
      · simp (maxSteps := 1000000) (disch := omega) only [go_sem, ↓reduceIte, Nat.reduceEqDiff]
        have k3 : ¬ q.kind = 3 := by simpa using hx
        rw [condS_some]; refine ⟨fun hx => ?_, fun hx => ?_⟩
        · simp (maxSteps := 1000000) (disch := omega) only [go_sem, ↓reduceIte, Nat.reduceEqDiff]
          have k2 : q.kind = 2 := by simpa using hx
          refine callS_exact (vvalue_spec s _ _ _ hs _) ?_
          simp (maxSteps := 1000000) (disch := omega) only [go_sem, ↓reduceIte, Nat.reduceEqDiff]
          rw [condS_some]; refine ⟨fun hx => ?_, fun hx => ?_⟩
          · simp (maxSteps := 1000000) (disch := omega) only [go_sem, ↓reduceIte, Nat.reduceEqDiff]
            have hv : ¬ valE s q.fam q.qual q.val = 0 := by simpa using hx
            refine finS_l ?_
            simp (maxSteps := 1000000) (disch := omega) only [go_sem]
            all_goals simp [chkE, g1, g2, k2, hv]
          · simp (maxSteps := 1000000) (disch := omega) only [go_sem, ↓reduceIte, Nat.reduceEqDiff]
            have hv : valE s q.fam q.qual q.val = 0 := by simpa using hx
            refine callS_exact (first_Mut q.muts _ [.agg s.e] [] (mutE s) _ hq.muts (fun x _ => vmut_spec s x hs)) ?_
            simp (maxSteps := 1000000) (disch := omega) only [go_sem, ↓reduceIte]
            refine finS_l ?_
            simp (maxSteps := 1000000) (disch := omega) only [go_sem]
            all_goals simp [chkE, g1, g2, k2, hv]
        · simp (maxSteps := 1000000) (disch := omega) only [go_sem, ↓reduceIte, Nat.reduceEqDiff]
          have k2 : ¬ q.kind = 2 := by simpa using hx
          refine callS_exact (first_Mut q.muts _ [.agg s.e] [] (mutE s) _ hq.muts (fun x _ => vmut_spec s x hs)) ?_
          simp (maxSteps := 1000000) (disch := omega) only [go_sem, ↓reduceIte]
          refine finS_l ?_
          simp (maxSteps := 1000000) (disch := omega) only [go_sem]
          all_goals simp [chkE, g1, g2, k2, k3]
  · have g1 := hg
    simp (maxSteps := 1000000) (disch := omega) only [go_sem, ↓reduceIte, Nat.reduceEqDiff, g1]
    refine finS_l ?_
    simp (maxSteps := 1000000) (disch := omega) only [go_sem, ↓reduceIte, chkE, g1]
    all_goals (try simp [chkE, g1])
end Go.Ab.S2

/- Contracts: cells are struck out of a slice of one's own (slices.DeleteFunc). -/
namespace Go.Ab.S2
open Go.Ab
set_option maxRecDepth 100000

theorem set_get {h : Heap} {l : Nat} (hl : l < h.length) (o : AObj) : (h.set l o)[l]? = some o := List.getElem?_set_self hl
theorem set_set' (h : Heap) (l : Nat) (o o' : AObj) : (h.set l o).set l o' = h.set l o' := List.set_set ..
theorem set_same {h : Heap} {l : Nat} {o : AObj} (hl : h[l]? = some o) : h.set l o = h := by
  refine List.ext_getElem? fun i => ?_
  by_cases hi : l = i
  · subst hi; rw [List.getElem?_set_self (List.getElem?_eq_some_iff.1 hl).1, hl]
  · rw [List.getElem?_set_ne hi]
theorem app_get {h : Heap} {l : Nat} (hl : l < h.length) (o : AObj) (r : Heap) : (h.set l o ++ r)[l]? = some o := by
  rw [List.getElem?_append_left (by simpa using hl)]; exact set_get hl o
theorem app_set {h : Heap} {l : Nat} (hl : l < h.length) (o o' : AObj) (r : Heap) : (h.set l o ++ r).set l o' = h.set l o' ++ r := by
  rw [List.set_append_left _ _ (by simpa using hl), set_set']

/-- What the rest of memory holds is as it was. -/
def Rest (h : Heap) (l : Nat) (H : Heap) : Prop := ∀ k, k ≠ l → k < h.length → H[k]? = h[k]?
theorem Rest.set {h : Heap} {l : Nat} (o : AObj) (r : Heap) : Rest h l (h.set l o ++ r) := by
  intro k hk hlt
  rw [List.getElem?_append_left (by simpa using hlt), List.getElem?_set_ne (fun e => hk e.symm)]
theorem Rest.set0 {h : Heap} {l : Nat} (o : AObj) : Rest h l (h.set l o) := by
  intro k hk hlt
  rw [List.getElem?_set_ne (fun e => hk e.symm)]
theorem Rest.refl (h : Heap) (l : Nat) : Rest h l h := fun _ _ _ => rfl

theorem indexSl (xs : List Cell) (f : FuncId) (ca : List AV) (p : Cell → Bool) (h : Heap) (l s : Nat) (hx : h[l]? = some (.arr s 0 8 (xs.map Cell.e))) (hl : xs.length < 1099511627776)
    (hp : ∀ x ∈ xs, SpecA PP f (.agg x.e :: ca) h (fun r h' => r = .ret (.bool (p x)) ∧ h' = h)) :
    SpecA PP N.slices_IndexFunc_api_Cell_api_Cell_ [.sl l s 0 xs.length, .fn f [] ca] h (fun r h' => r = .ret (.int .i64 (idx p xs)) ∧ h' = h) := by
  refine spec_of ck_slices_IndexFunc_api_Cell_api_Cell_ ?_
  rw [wp_start]
  simp (maxSteps := 1000000) (disch := omega) only [go_sem, ↓reduceIte, Nat.reduceAdd, Nat.reduceEqDiff, Int.reduceNeg, reduceCtorEq, F.slices_IndexFunc_api_Cell_api_Cell_]
  simp (maxSteps := 1000000) (disch := omega) only [go_sem, ↓reduceIte, Nat.reduceEqDiff, Int.reduceNeg, reduceCtorEq, hx]
  refine loopS_list xs (fun pre (_ : Unit) => ⟨[(0, .sl l s 0 xs.length), (1, .fn f [] ca), (7, .int .i64 xs.length), (8, .int .i64 pre.length)], h⟩) (fun pre post _ => xs.findIdx? p = (post.findIdx? p).map (· + pre.length)) () rfl (by simp) ?_
  rintro pre post ⟨⟩ hpp hJ
  cases post with
  | nil =>
    simp (maxSteps := 1000000) (disch := omega) only [go_sem, ↓reduceIte, Nat.reduceEqDiff, Int.reduceNeg, reduceCtorEq, nl0 hpp]
    refine finS_l ?_
    simp (maxSteps := 1000000) (disch := omega) only [go_sem, Int.reduceNeg]
    all_goals simp [idx, hJ]
  | cons x post =>
    have hn := nl hpp
    have hlt : (((pre.length : Int) < ((xs.length : Nat) : Int))) = True := by simp; omega
    simp (maxSteps := 1000000) (disch := omega) only [go_sem, ↓reduceIte, Nat.reduceEqDiff, Int.reduceNeg, reduceCtorEq, hx, gml Cell.e hpp, hlt]
    refine callS_exact (hp x (by simp [hpp])) ?_
    simp (maxSteps := 1000000) (disch := omega) only [go_sem, ↓reduceIte, Nat.reduceEqDiff, Int.reduceNeg, reduceCtorEq]
    rw [condS_some]; refine ⟨fun hx => ?_, fun hx => ?_⟩
    · simp (maxSteps := 1000000) (disch := omega) only [go_sem, ↓reduceIte, Nat.reduceEqDiff, Int.reduceNeg, reduceCtorEq]
      refine finS_l ?_
      simp (maxSteps := 1000000) (disch := omega) only [go_sem]
      all_goals simp [(fidx hJ).1 hx]
    · simp (maxSteps := 1000000) (disch := omega) only [go_sem, ↓reduceIte, Nat.reduceEqDiff, Int.reduceNeg, reduceCtorEq]
      refine lp_next (h.length + 0) () hpp ((fidx hJ).2 hx) ?_ ?_
      · simp (maxSteps := 1000000) (disch := omega) only [go_sem, ↓reduceIte, Nat.reduceEqDiff, reduceCtorEq, wrap64, Int.natCast_add, Int.cast_ofNat_Int, hn]
      · simp (maxSteps := 1000000) (disch := omega) only [go_sem]

theorem gapp {α β : Type} (f : α → β) (a b c : List α) (x : α) {k : Nat} (hk : k = a.length + b.length) : ((a ++ (b ++ x :: c)).map f)[k]? = some (f x) := by
  subst hk
  rw [← List.append_assoc, ← List.length_append]
  exact gml f rfl
theorem setapp {α β : Type} (f : α → β) (a b : List α) (m x : α) : ((a ++ m :: b).map f).set a.length (f x) = (a ++ x :: b).map f := by
  simp [List.set_append_right]

theorem deleteFunc_spec (xs : List Cell) (f : FuncId) (ca : List AV) (p : Cell → Bool) (h : Heap) (l s : Nat) (hx : h[l]? = some (.arr s 0 8 (xs.map Cell.e))) (hl : xs.length < 1099511627776)
    (hp : ∀ x ∈ xs, ∀ H, Rest h l H → SpecA PP f (.agg x.e :: ca) H (fun r h' => r = .ret (.bool (p x)) ∧ h' = H)) :
    SpecA PP N.slices_DeleteFunc_api_Cell_api_Cell_ [.sl l s 0 xs.length, .fn f [] ca] h (fun r h' => r = .ret (.sl l s 0 (xs.filter fun x => !p x).length) ∧ h' = h.set l (.arr s 0 8 ((xs.filter fun x => !p x).map Cell.e))) := by
  have hlt := (List.getElem?_eq_some_iff.1 hx).1
  refine spec_of ck_slices_DeleteFunc_api_Cell_api_Cell_ ?_
  rw [wp_start]
  simp (maxSteps := 1000000) (disch := omega) only [go_sem, ↓reduceIte, Nat.reduceAdd, Nat.reduceEqDiff, Int.reduceNeg, reduceCtorEq, F.slices_DeleteFunc_api_Cell_api_Cell_]
  refine callS_exact (indexSl xs f ca p h l s hx hl (fun x hm => hp x hm h (.refl h l))) ?_
  simp (maxSteps := 1000000) (disch := omega) only [go_sem, ↓reduceIte, Nat.reduceEqDiff, Int.reduceNeg, reduceCtorEq]
  cases hi : xs.findIdx? p with
  | none =>
    have e : idx p xs = -1 := by simp [idx, hi]
    rw [List.findIdx?_eq_none_iff] at hi
    have ef : xs.filter (fun x => !p x) = xs := List.filter_eq_self.2 fun x hxm => by simp [hi x hxm]
    simp (maxSteps := 1000000) (disch := omega) only [go_sem, ↓reduceIte, Int.reduceNeg, BEq.rfl, e]
    refine finS_keep ?_
    rw [ef, set_same hx]
    exact ⟨rfl, rfl⟩
  | some k =>
    obtain ⟨hk, hpk, hmin⟩ := List.findIdx?_eq_some_iff_getElem.1 hi
    have e : idx p xs = (k : Int) := by simp [idx, hi]
    have hne : ((k : Int) == -1) = false := by simp
    simp (maxSteps := 1000000) (disch := omega) only [go_sem, ↓reduceIte, Nat.reduceEqDiff, Int.reduceNeg, reduceCtorEq, e, hne, wrap64]
    have hsplit : xs = xs.take k ++ xs[k] :: xs.drop (k + 1) := by rw [List.getElem_cons_drop, List.take_append_drop]
    have hfk : (xs.take k).filter (fun x => !p x) = xs.take k := by
      refine List.filter_eq_self.2 fun x hxm => ?_
      obtain ⟨j, hj, rfl⟩ := List.mem_take_iff_getElem.1 hxm
      simpa using hmin j (by omega)
    have hlen0 : (xs.take k).length = k := by simp; omega
    have hfin : xs.filter (fun x => !p x) = xs.take k ++ (xs.drop (k + 1)).filter fun x => !p x := by
      conv => lhs; rw [hsplit]
      rw [List.filter_append, hfk, List.filter_cons]
      simp [hpk]
    -- what is kept of what has been gone through, what lies behind it, the rest
    refine loopS_list (xs.drop (k + 1)) (fun _ (e : List Cell × List Cell × Nat × Nat) => ⟨[(0, .sl l s 0 xs.length), (1, .fn f [] ca), (5, .int .i64 e.2.2.1), (6, .int .i64 e.2.2.2)], h.set l (.arr s 0 8 ((e.1 ++ (e.2.1 ++ xs.drop e.2.2.2)).map Cell.e))⟩) (fun pre post e => 0 < e.2.1.length ∧ e.1 = (xs.take k ++ pre.filter fun x => !p x) ∧ e.2.2.1 = e.1.length ∧ e.2.2.2 = k + 1 + pre.length ∧ e.2.2.1 + e.2.1.length = e.2.2.2) (xs.take k, [xs[k]], k, k + 1) ?_ ?_ ?_
    · have : (xs.take k ++ (xs[k] :: xs.drop (k + 1))) = xs := hsplit.symm
      simp only [List.cons_append, List.nil_append, this]
      rw [set_same hx]
      simp (maxSteps := 1000000) (disch := omega) only [go_sem, ↓reduceIte, Nat.reduceEqDiff, reduceCtorEq]
      all_goals simp
    · simp [hlen0]
    rintro pre post ⟨K, M, i, j⟩ hpp ⟨hM, hK, hi', hj', hlenM⟩
    simp only at hM hK hi' hj' hlenM ⊢
    have hd : xs.drop j = post := by rw [hj', ← List.drop_drop, hpp]; simp
    have hxl : xs.length = j + post.length := by
      have := congrArg List.length hpp
      simp at this; omega
    rw [hd]
    cases post with
    | nil =>
      simp only [List.length_nil] at hxl
      have hlt2 : ((j : Int) < (xs.length : Int)) = False := by simp; omega
      simp only [List.append_nil] at hpp
      have c1 : i ≤ xs.length := by omega
      have c2 : i < xs.length := by omega
      simp (maxSteps := 1000000) (disch := omega) only [go_sem, ↓reduceIte, Nat.reduceEqDiff, reduceCtorEq, set_get hlt, hlt2, c1, c2, set_set']
      refine finS_keep ?_
      have ek : K = xs.filter fun x => !p x := by rw [hK, hfin, hpp]
      rw [← ek, hi']
      refine ⟨rfl, ?_⟩
      congr 2
      simp (maxSteps := 1000000) (disch := omega) only [go_sem, List.append_nil, List.map_append]
      rw [← List.length_map (f := Cell.e), List.take_left']
      rfl
    | cons x post =>
      simp only [List.length_cons] at hxl
      have hlt2 : ((j : Int) < (xs.length : Int)) = True := by simp; omega
      have hg : ((K ++ (M ++ x :: post)).map Cell.e)[j]? = some x.e := gapp Cell.e _ _ _ x (by omega)
      have hgj : j < xs.length := by omega
      simp (maxSteps := 1000000) (disch := omega) only [go_sem, ↓reduceIte, Nat.reduceAdd, Nat.reduceEqDiff, reduceCtorEq, set_get hlt, hlt2, hg, Int.toNat_natCast]
      intro s2
      refine callS_exact (hp x (List.mem_of_mem_drop (by rw [hpp]; simp)) _ (.set _ _)) ?_
      simp (maxSteps := 1000000) (disch := omega) only [go_sem, ↓reduceIte, Nat.reduceEqDiff, reduceCtorEq]
      rw [condS_some]; refine ⟨fun hx => ?_, fun hx => ?_⟩
      · obtain ⟨m, M', rfl⟩ : ∃ m M', M = m :: M' := by cases M with | nil => simp at hM | cons m M' => exact ⟨m, M', rfl⟩
        have hgi : ((K ++ m :: (M' ++ x :: post)).map Cell.e)[i]? = some m.e := by have := gapp Cell.e K [] (M' ++ x :: post) m (k := i) (by simp [hi']); simpa using this
        have hgs : ((K ++ m :: (M' ++ x :: post)).map Cell.e).set i x.e = ((K ++ x :: (M' ++ x :: post)).map Cell.e) := by rw [hi']; exact setapp Cell.e K (M' ++ x :: post) m x
        have c2 : ((i : Int) < (xs.length : Int)) = True := by simp; omega
        have hnp : p x = false := by simpa using hx
        have hd2 : xs.drop (j + 1) = post := by rw [← List.drop_drop, hd]; rfl
        simp (maxSteps := 1000000) (disch := omega) only [go_sem, ↓reduceIte, Nat.reduceEqDiff, reduceCtorEq, app_get hlt, app_set hlt, c2, hgi, hgs]
        refine lp_next (h.length + 0) (K ++ [x], M' ++ [x], i + 1, j + 1) hpp ?_ ?_ ?_
        · simp only [List.length_append, List.length_cons, List.length_nil, List.filter_append, List.filter_cons, hnp, hK] at *
          simp
          omega
        · simp (maxSteps := 1000000) (disch := omega) only [go_sem, ↓reduceIte, Nat.reduceEqDiff, reduceCtorEq, wrap64, Int.natCast_add, Int.cast_ofNat_Int]
        · simp only [hd2]
          simp (maxSteps := 1000000) (disch := omega) only [go_sem]
      · have hnp : p x = true := by simpa using hx
        have hd2 : xs.drop (j + 1) = post := by rw [← List.drop_drop, hd]; rfl
        simp (maxSteps := 1000000) (disch := omega) only [go_sem, ↓reduceIte, Nat.reduceEqDiff, reduceCtorEq]
        refine lp_next (h.length + 0) (K, M ++ [x], i, j + 1) hpp ?_ ?_ ?_
        · simp only [List.length_append, List.length_cons, List.length_nil, List.filter_append, List.filter_cons, hnp, hK] at *
          simp
          omega
        · simp (maxSteps := 1000000) (disch := omega) only [go_sem, ↓reduceIte, Nat.reduceEqDiff, reduceCtorEq, wrap64, Int.natCast_add, Int.cast_ofNat_Int]
        · simp only [hd2]
          simp (maxSteps := 1000000) (disch := omega) only [go_sem]
end Go.Ab.S2

/- The contract of the cells' order (codec). -/
namespace Go.Ab.S2
open Go.Ab
set_option maxRecDepth 100000

def order (a b : Cell) : Int := orI [cmpS a.row b.row, cmpS a.fam b.fam, cmpI (whole a) (whole b), cmpS a.qual b.qual, cmpI b.time a.time, cmpI b.kind a.kind]

set_option maxHeartbeats 8000000 in
theorem order_spec (a b : Cell) : Ans N.codec_Order [.agg a.e, .agg b.e] (.int .i64 (order a b)) := by
  intro h
  refine spec_of ck_codec_Order ?_
  rw [wp_start]
  simp (maxSteps := 1000000) (disch := omega) only [go_sem, ↓reduceIte, Nat.reduceAdd, Nat.reduceEqDiff, reduceCtorEq, F.codec_Order]
  intro s s2
  refine callS_exact (compare_spec _ _ _) ?_
  try simp (maxSteps := 1000000) (disch := omega) only [go_sem, ↓reduceIte, Nat.reduceAdd, Nat.reduceMul, Nat.reduceSub, Nat.reduceEqDiff, Nat.reduceLeDiff, Nat.reduceLT, Nat.reduceBEq, Int.reduceBEq, Int.reduceBNe, Int.reduceEq, Int.reduceNeg, Int.reduceAdd, Int.reduceSub, Int.reduceMul, List.cons_beq_cons, BEq.rfl, Int.reduceToNat, Int.reduceLE, Int.reduceLT, reduceCtorEq]
  repeat first | refine opS_sI (by simp (maxSteps := 1000000) (disch := omega) only [go_sem, ↓reduceIte, Nat.reduceEqDiff]) ?_ | refine opS_sgI (by simp (maxSteps := 1000000) (disch := omega) only [go_sem, opS_s, opS_sg, opS_b, opS_bg, ↓reduceIte, Nat.reduceAdd, Nat.reduceMul, Nat.reduceSub, Nat.reduceEqDiff, Nat.reduceLeDiff, Nat.reduceLT, Nat.reduceBEq, Int.reduceBEq, Int.reduceBNe, Int.reduceEq, Int.reduceNeg, Int.reduceAdd, Int.reduceSub, Int.reduceMul, List.cons_beq_cons, BEq.rfl, Int.reduceToNat, Int.reduceLE, Int.reduceLT, reduceCtorEq]) ?_ | refine opS_bI (by simp (maxSteps := 1000000) (disch := omega) only [go_sem]) ?_
  try simp (maxSteps := 1000000) (disch := omega) only [go_sem, ↓reduceIte, Nat.reduceEqDiff]
  refine callS_exact (compare_spec _ _ _) ?_
  try simp (maxSteps := 1000000) (disch := omega) only [go_sem, ↓reduceIte, Nat.reduceAdd, Nat.reduceMul, Nat.reduceSub, Nat.reduceEqDiff, Nat.reduceLeDiff, Nat.reduceLT, Nat.reduceBEq, Int.reduceBEq, Int.reduceBNe, Int.reduceEq, Int.reduceNeg, Int.reduceAdd, Int.reduceSub, Int.reduceMul, List.cons_beq_cons, BEq.rfl, Int.reduceToNat, Int.reduceLE, Int.reduceLT, reduceCtorEq]
  repeat first | refine opS_sI (by simp (maxSteps := 1000000) (disch := omega) only [go_sem, ↓reduceIte, Nat.reduceEqDiff]) ?_ | refine opS_sgI (by simp (maxSteps := 1000000) (disch := omega) only [go_sem, opS_s, opS_sg, opS_b, opS_bg, ↓reduceIte, Nat.reduceAdd, Nat.reduceMul, Nat.reduceSub, Nat.reduceEqDiff, Nat.reduceLeDiff, Nat.reduceLT, Nat.reduceBEq, Int.reduceBEq, Int.reduceBNe, Int.reduceEq, Int.reduceNeg, Int.reduceAdd, Int.reduceSub, Int.reduceMul, List.cons_beq_cons, BEq.rfl, Int.reduceToNat, Int.reduceLE, Int.reduceLT, reduceCtorEq]) ?_ | refine opS_bI (by simp (maxSteps := 1000000) (disch := omega) only [go_sem]) ?_
  try simp (maxSteps := 1000000) (disch := omega) only [go_sem, ↓reduceIte, Nat.reduceEqDiff]
  refine callS_exact (whole_spec _ _) ?_
  try simp (maxSteps := 1000000) (disch := omega) only [go_sem, ↓reduceIte, Nat.reduceAdd, Nat.reduceMul, Nat.reduceSub, Nat.reduceEqDiff, Nat.reduceLeDiff, Nat.reduceLT, Nat.reduceBEq, Int.reduceBEq, Int.reduceBNe, Int.reduceEq, Int.reduceNeg, Int.reduceAdd, Int.reduceSub, Int.reduceMul, List.cons_beq_cons, BEq.rfl, Int.reduceToNat, Int.reduceLE, Int.reduceLT, reduceCtorEq]
  repeat first | refine opS_sI (by simp (maxSteps := 1000000) (disch := omega) only [go_sem, ↓reduceIte, Nat.reduceEqDiff]) ?_ | refine opS_sgI (by simp (maxSteps := 1000000) (disch := omega) only [go_sem, opS_s, opS_sg, opS_b, opS_bg, ↓reduceIte, Nat.reduceAdd, Nat.reduceMul, Nat.reduceSub, Nat.reduceEqDiff, Nat.reduceLeDiff, Nat.reduceLT, Nat.reduceBEq, Int.reduceBEq, Int.reduceBNe, Int.reduceEq, Int.reduceNeg, Int.reduceAdd, Int.reduceSub, Int.reduceMul, List.cons_beq_cons, BEq.rfl, Int.reduceToNat, Int.reduceLE, Int.reduceLT, reduceCtorEq]) ?_ | refine opS_bI (by simp (maxSteps := 1000000) (disch := omega) only [go_sem]) ?_
  try simp (maxSteps := 1000000) (disch := omega) only [go_sem, ↓reduceIte, Nat.reduceEqDiff]
  refine callS_exact (whole_spec _ _) ?_
  try simp (maxSteps := 1000000) (disch := omega) only [go_sem, ↓reduceIte, Nat.reduceAdd, Nat.reduceMul, Nat.reduceSub, Nat.reduceEqDiff, Nat.reduceLeDiff, Nat.reduceLT, Nat.reduceBEq, Int.reduceBEq, Int.reduceBNe, Int.reduceEq, Int.reduceNeg, Int.reduceAdd, Int.reduceSub, Int.reduceMul, List.cons_beq_cons, BEq.rfl, Int.reduceToNat, Int.reduceLE, Int.reduceLT, reduceCtorEq]
  repeat first | refine opS_sI (by simp (maxSteps := 1000000) (disch := omega) only [go_sem, ↓reduceIte, Nat.reduceEqDiff]) ?_ | refine opS_sgI (by simp (maxSteps := 1000000) (disch := omega) only [go_sem, opS_s, opS_sg, opS_b, opS_bg, ↓reduceIte, Nat.reduceAdd, Nat.reduceMul, Nat.reduceSub, Nat.reduceEqDiff, Nat.reduceLeDiff, Nat.reduceLT, Nat.reduceBEq, Int.reduceBEq, Int.reduceBNe, Int.reduceEq, Int.reduceNeg, Int.reduceAdd, Int.reduceSub, Int.reduceMul, List.cons_beq_cons, BEq.rfl, Int.reduceToNat, Int.reduceLE, Int.reduceLT, reduceCtorEq]) ?_ | refine opS_bI (by simp (maxSteps := 1000000) (disch := omega) only [go_sem]) ?_
  try simp (maxSteps := 1000000) (disch := omega) only [go_sem, ↓reduceIte, Nat.reduceEqDiff]
  refine callS_exact (cmpInt_spec _ _ _) ?_
  try simp (maxSteps := 1000000) (disch := omega) only [go_sem, ↓reduceIte, Nat.reduceAdd, Nat.reduceMul, Nat.reduceSub, Nat.reduceEqDiff, Nat.reduceLeDiff, Nat.reduceLT, Nat.reduceBEq, Int.reduceBEq, Int.reduceBNe, Int.reduceEq, Int.reduceNeg, Int.reduceAdd, Int.reduceSub, Int.reduceMul, List.cons_beq_cons, BEq.rfl, Int.reduceToNat, Int.reduceLE, Int.reduceLT, reduceCtorEq]
  repeat first | refine opS_sI (by simp (maxSteps := 1000000) (disch := omega) only [go_sem, ↓reduceIte, Nat.reduceEqDiff]) ?_ | refine opS_sgI (by simp (maxSteps := 1000000) (disch := omega) only [go_sem, opS_s, opS_sg, opS_b, opS_bg, ↓reduceIte, Nat.reduceAdd, Nat.reduceMul, Nat.reduceSub, Nat.reduceEqDiff, Nat.reduceLeDiff, Nat.reduceLT, Nat.reduceBEq, Int.reduceBEq, Int.reduceBNe, Int.reduceEq, Int.reduceNeg, Int.reduceAdd, Int.reduceSub, Int.reduceMul, List.cons_beq_cons, BEq.rfl, Int.reduceToNat, Int.reduceLE, Int.reduceLT, reduceCtorEq]) ?_ | refine opS_bI (by simp (maxSteps := 1000000) (disch := omega) only [go_sem]) ?_
  try simp (maxSteps := 1000000) (disch := omega) only [go_sem, ↓reduceIte, Nat.reduceEqDiff]
  refine callS_exact (compare_spec _ _ _) ?_
  try simp (maxSteps := 1000000) (disch := omega) only [go_sem, ↓reduceIte, Nat.reduceAdd, Nat.reduceMul, Nat.reduceSub, Nat.reduceEqDiff, Nat.reduceLeDiff, Nat.reduceLT, Nat.reduceBEq, Int.reduceBEq, Int.reduceBNe, Int.reduceEq, Int.reduceNeg, Int.reduceAdd, Int.reduceSub, Int.reduceMul, List.cons_beq_cons, BEq.rfl, Int.reduceToNat, Int.reduceLE, Int.reduceLT, reduceCtorEq]
  repeat first | refine opS_sI (by simp (maxSteps := 1000000) (disch := omega) only [go_sem, ↓reduceIte, Nat.reduceEqDiff]) ?_ | refine opS_sgI (by simp (maxSteps := 1000000) (disch := omega) only [go_sem, opS_s, opS_sg, opS_b, opS_bg, ↓reduceIte, Nat.reduceAdd, Nat.reduceMul, Nat.reduceSub, Nat.reduceEqDiff, Nat.reduceLeDiff, Nat.reduceLT, Nat.reduceBEq, Int.reduceBEq, Int.reduceBNe, Int.reduceEq, Int.reduceNeg, Int.reduceAdd, Int.reduceSub, Int.reduceMul, List.cons_beq_cons, BEq.rfl, Int.reduceToNat, Int.reduceLE, Int.reduceLT, reduceCtorEq]) ?_ | refine opS_bI (by simp (maxSteps := 1000000) (disch := omega) only [go_sem]) ?_
  try simp (maxSteps := 1000000) (disch := omega) only [go_sem, ↓reduceIte, Nat.reduceEqDiff]
  refine callS_exact (cmpInt_spec _ _ _) ?_
  try simp (maxSteps := 1000000) (disch := omega) only [go_sem, ↓reduceIte, Nat.reduceAdd, Nat.reduceMul, Nat.reduceSub, Nat.reduceEqDiff, Nat.reduceLeDiff, Nat.reduceLT, Nat.reduceBEq, Int.reduceBEq, Int.reduceBNe, Int.reduceEq, Int.reduceNeg, Int.reduceAdd, Int.reduceSub, Int.reduceMul, List.cons_beq_cons, BEq.rfl, Int.reduceToNat, Int.reduceLE, Int.reduceLT, reduceCtorEq]
  repeat first | refine opS_sI (by simp (maxSteps := 1000000) (disch := omega) only [go_sem, ↓reduceIte, Nat.reduceEqDiff]) ?_ | refine opS_sgI (by simp (maxSteps := 1000000) (disch := omega) only [go_sem, opS_s, opS_sg, opS_b, opS_bg, ↓reduceIte, Nat.reduceAdd, Nat.reduceMul, Nat.reduceSub, Nat.reduceEqDiff, Nat.reduceLeDiff, Nat.reduceLT, Nat.reduceBEq, Int.reduceBEq, Int.reduceBNe, Int.reduceEq, Int.reduceNeg, Int.reduceAdd, Int.reduceSub, Int.reduceMul, List.cons_beq_cons, BEq.rfl, Int.reduceToNat, Int.reduceLE, Int.reduceLT, reduceCtorEq]) ?_ | refine opS_bI (by simp (maxSteps := 1000000) (disch := omega) only [go_sem]) ?_
  try simp (maxSteps := 1000000) (disch := omega) only [go_sem, ↓reduceIte, Nat.reduceEqDiff]
  refine callS_exact (cmpInt_spec _ _ _) ?_
  try simp (maxSteps := 1000000) (disch := omega) only [go_sem, ↓reduceIte, Nat.reduceAdd, Nat.reduceMul, Nat.reduceSub, Nat.reduceEqDiff, Nat.reduceLeDiff, Nat.reduceLT, Nat.reduceBEq, Int.reduceBEq, Int.reduceBNe, Int.reduceEq, Int.reduceNeg, Int.reduceAdd, Int.reduceSub, Int.reduceMul, List.cons_beq_cons, BEq.rfl, Int.reduceToNat, Int.reduceLE, Int.reduceLT, reduceCtorEq]
  repeat first | refine opS_sI (by simp (maxSteps := 1000000) (disch := omega) only [go_sem, opS_s, opS_sg, opS_b, opS_bg, ↓reduceIte, Nat.reduceAdd, Nat.reduceMul, Nat.reduceSub, Nat.reduceEqDiff, Nat.reduceLeDiff, Nat.reduceLT, Nat.reduceBEq, Int.reduceBEq, Int.reduceBNe, Int.reduceEq, Int.reduceNeg, Int.reduceAdd, Int.reduceSub, Int.reduceMul, List.cons_beq_cons, BEq.rfl, Int.reduceToNat, Int.reduceLE, Int.reduceLT, reduceCtorEq]) ?_ | refine opS_sgI (by simp (maxSteps := 1000000) (disch := omega) only [go_sem, opS_s, opS_sg, opS_b, opS_bg, ↓reduceIte, Nat.reduceAdd, Nat.reduceMul, Nat.reduceSub, Nat.reduceEqDiff, Nat.reduceLeDiff, Nat.reduceLT, Nat.reduceBEq, Int.reduceBEq, Int.reduceBNe, Int.reduceEq, Int.reduceNeg, Int.reduceAdd, Int.reduceSub, Int.reduceMul, List.cons_beq_cons, BEq.rfl, Int.reduceToNat, Int.reduceLE, Int.reduceLT, reduceCtorEq]) ?_ | refine opS_bI (by simp (maxSteps := 1000000) (disch := omega) only [go_sem, ↓reduceIte, Nat.reduceAdd, Nat.reduceMul, Nat.reduceEqDiff, Nat.reduceLeDiff]) ?_
  try simp (maxSteps := 1000000) (disch := omega) only [go_sem, ↓reduceIte, Nat.reduceAdd, Nat.reduceMul, Nat.reduceEqDiff, Nat.reduceLeDiff]
  intro s3
  try simp (maxSteps := 1000000) (disch := omega) only [go_sem, opS_s, opS_sg, opS_b, opS_bg, ↓reduceIte, Nat.reduceAdd, Nat.reduceMul, Nat.reduceSub, Nat.reduceEqDiff, Nat.reduceLeDiff, Nat.reduceLT, Nat.reduceBEq, Int.reduceBEq, Int.reduceBNe, Int.reduceEq, Int.reduceNeg, Int.reduceAdd, Int.reduceSub, Int.reduceMul, List.cons_beq_cons, BEq.rfl, Int.reduceToNat, Int.reduceLE, Int.reduceLT, reduceCtorEq]
  refine callS_exact (or_spec [cmpS a.row b.row, cmpS a.fam b.fam, cmpI (whole a) (whole b), cmpS a.qual b.qual, cmpI b.time a.time, cmpI b.kind a.kind] (by simp) _) ?_
  simp (maxSteps := 1000000) (disch := omega) only [go_sem, ↓reduceIte]
  refine finS_l ?_
  simp (maxSteps := 1000000) (disch := omega) only [go_sem]
  all_goals simp [order]

end Go.Ab.S2

/- Contracts: the cells that a write makes (plan). -/
namespace Go.Ab.S2
open Go.Ab
set_option maxRecDepth 100000

def needless (x c : Cell) : Bool := if order x c = 0 then true else if x.fam ≠ c.fam then false else c.kind == 4 || (c.kind == 3 && x.kind == 1) && x.qual == c.qual

theorem needless_spec (x c : Cell) : Ans N.plan_needless [.agg x.e, .agg c.e] (.bool (needless x c)) := by
  intro h
  refine spec_of ck_plan_needless ?_
  rw [wp_start]
  simp (maxSteps := 1000000) (disch := omega) only [go_sem, ↓reduceIte, Nat.reduceAdd, Nat.reduceEqDiff, reduceCtorEq, F.plan_needless]
  intro s1 s2
  refine callS_exact (order_spec x c _) ?_
  simp (maxSteps := 1000000) (disch := omega) only [go_sem, ↓reduceIte, Nat.reduceEqDiff]
  rw [condS_some]; refine ⟨fun hx => ?_, fun hx => ?_⟩
  · simp (maxSteps := 1000000) (disch := omega) only [go_sem, ↓reduceIte]
    have ho : order x c = 0 := by simpa using hx
    refine finS_l ?_
    simp (maxSteps := 1000000) (disch := omega) only [go_sem]
    all_goals simp [needless, ho]
  · simp (maxSteps := 1000000) (disch := omega) only [go_sem, ↓reduceIte, Nat.reduceEqDiff]
    have ho : ¬ order x c = 0 := by simpa using hx
    rw [condS_some]; refine ⟨fun hx => ?_, fun hx => ?_⟩
    · simp (maxSteps := 1000000) (disch := omega) only [go_sem, ↓reduceIte]
      have hf : ¬ x.fam = c.fam := by simpa using hx
      refine finS_l ?_
      simp (maxSteps := 1000000) (disch := omega) only [go_sem]
      all_goals simp [needless, ho, hf]
    · simp (maxSteps := 1000000) (disch := omega) only [go_sem, ↓reduceIte, Nat.reduceEqDiff]
      have hf : x.fam = c.fam := by simpa using hx
      refine finS_l ?_
      simp (maxSteps := 1000000) (disch := omega) only [go_sem]
      simp [needless, ho, hf]

theorem add1_spec (x c : Cell) (H : Heap) (l s : Nat) (hl : H[l]? = some (.arr s 0 8 [c.e])) : SpecA PP N.plan_maker_add_1 [.agg x.e, .ptr l s 0 0] H (fun r h' => r = .ret (.bool (needless x c)) ∧ h' = H) := by
  have hl' := hgl hl
  refine spec_of ck_plan_maker_add_1 ?_
  rw [wp_start]
  simp (maxSteps := 1000000) (disch := omega) only [go_sem, ↓reduceIte, Nat.reduceAdd, Nat.reduceEqDiff, reduceCtorEq, F.plan_maker_add_1]
  intro s2
  simp (maxSteps := 1000000) (disch := omega) only [go_sem, ↓reduceIte, hl']
  refine callS_exact (needless_spec x c _) ?_
  simp (maxSteps := 1000000) (disch := omega) only [go_sem, ↓reduceIte]
  refine finS_l ?_
  simp (maxSteps := 1000000) (disch := omega) only [go_sem]
  all_goals simp []

/-- A maker's cells of memory. -/
def Mk.e (s : Schema) (row : Str) (time : Int) (o : AV) : List AV := [.int .i64 s.version, .psl (s.fams.map Family.e), .int .i64 s.change.kind, .str s.change.fam, .str s.change.qual, .int .i64 s.change.type, .int .i64 s.change.group, .int .i64 s.change.versions, .int .i64 s.change.life, .int .i64 s.step, .str row, .int .i64 time, o]
section
variable (s : Schema) (row : Str) (time : Int) (o o' : AV)
@[go_sem high] theorem Mk.len : (Mk.e s row time o).length = 13 := rfl
@[go_sem high] theorem Mk.g1 : (Mk.e s row time o)[1]? = some (.psl (s.fams.map Family.e)) := rfl
@[go_sem high] theorem Mk.g10 : (Mk.e s row time o)[10]? = some (.str row) := rfl
@[go_sem high] theorem Mk.g11 : (Mk.e s row time o)[11]? = some (.int .i64 time) := rfl
@[go_sem high] theorem Mk.g12 : (Mk.e s row time o)[12]? = some o := rfl
@[go_sem high] theorem Mk.cut : cutL 0 10 (Mk.e s row time o) = some s.e := rfl
@[go_sem high] theorem Mk.set12 (l t i n : Nat) : setL 12 (.sl l t i n) (Mk.e s row time o) = some (Mk.e s row time (.sl l t i n)) := rfl
end

/-- Memory, but for two of its objects. -/
def H2 (h : Heap) (lo : Nat) (a : AObj) (lm : Nat) (b : AObj) : Heap := (h.set lo a).set lm b
section
variable {h : Heap} {lo lm : Nat} (a b x : AObj) (r : Heap) (k : Nat)
@[go_sem] theorem H2.len : (H2 h lo a lm b).length = h.length := by simp [H2]
@[go_sem] theorem H2.g0 : (H2 h lo a lm b ++ r)[h.length]? = r[0]? := by rw [List.getElem?_append_right (by simp [H2])]; simp [H2]
@[go_sem] theorem H2.gk : (H2 h lo a lm b ++ r)[h.length + k]? = r[k]? := by rw [List.getElem?_append_right (by simp [H2])]; simp [H2]
@[go_sem] theorem H2.s0 : (H2 h lo a lm b ++ r).set h.length x = H2 h lo a lm b ++ r.set 0 x := by rw [List.set_append_right _ _ (by simp [H2])]; simp [H2]
@[go_sem] theorem H2.sk : (H2 h lo a lm b ++ r).set (h.length + k) x = H2 h lo a lm b ++ r.set k x := by rw [List.set_append_right _ _ (by simp [H2])]; simp [H2]
@[go_sem] theorem H2.tk : (H2 h lo a lm b ++ r).take h.length = H2 h lo a lm b := by rw [List.take_append_of_le_length (by simp [H2])]; exact List.take_of_length_le (by simp [H2])
@[go_sem] theorem H2.tkk : (H2 h lo a lm b ++ r).take (h.length + k) = H2 h lo a lm b ++ r.take k := by rw [show h.length + k = (H2 h lo a lm b).length + k by simp [H2], List.take_length_add_append]
@[go_sem] theorem H2.tk0 : (H2 h lo a lm b).take h.length = H2 h lo a lm b := List.take_of_length_le (by simp [H2])
end
theorem H2.glo {h : Heap} {lo lm : Nat} (hlo : lo < h.length) (hlm : lm < h.length) (hne : lo ≠ lm) (a b : AObj) : (H2 h lo a lm b)[lo]? = some a := by unfold H2; rw [List.getElem?_set_ne (fun e => hne e.symm), List.getElem?_set_self hlo]
theorem H2.glor {h : Heap} {lo lm : Nat} (hlo : lo < h.length) (hlm : lm < h.length) (hne : lo ≠ lm) (a b : AObj) (r : Heap) : (H2 h lo a lm b ++ r)[lo]? = some a := by rw [List.getElem?_append_left (by simpa [H2] using hlo)]; exact H2.glo hlo hlm hne a b
theorem H2.glm {h : Heap} {lo lm : Nat} (hlo : lo < h.length) (hlm : lm < h.length) (hne : lo ≠ lm) (a b : AObj) : (H2 h lo a lm b)[lm]? = some b := by unfold H2; rw [List.getElem?_set_self (by simpa using hlm)]
theorem H2.glmr {h : Heap} {lo lm : Nat} (hlo : lo < h.length) (hlm : lm < h.length) (hne : lo ≠ lm) (a b : AObj) (r : Heap) : (H2 h lo a lm b ++ r)[lm]? = some b := by rw [List.getElem?_append_left (by simpa [H2] using hlm)]; exact H2.glm hlo hlm hne a b
theorem H2.slo {h : Heap} {lo lm : Nat} (hlo : lo < h.length) (hlm : lm < h.length) (hne : lo ≠ lm) (a b x : AObj) : (H2 h lo a lm b).set lo x = H2 h lo x lm b := by unfold H2; rw [List.set_comm _ _ (fun e => hne e.symm), List.set_set]
theorem H2.slor {h : Heap} {lo lm : Nat} (hlo : lo < h.length) (hlm : lm < h.length) (hne : lo ≠ lm) (a b x : AObj) (r : Heap) : (H2 h lo a lm b ++ r).set lo x = H2 h lo x lm b ++ r := by rw [List.set_append_left _ _ (by simpa [H2] using hlo), H2.slo hlo hlm hne]
theorem H2.slm {h : Heap} {lo lm : Nat} (hlo : lo < h.length) (hlm : lm < h.length) (hne : lo ≠ lm) (a b x : AObj) : (H2 h lo a lm b).set lm x = H2 h lo a lm x := by unfold H2; rw [List.set_set]
theorem H2.slmr {h : Heap} {lo lm : Nat} (hlo : lo < h.length) (hlm : lm < h.length) (hne : lo ≠ lm) (a b x : AObj) (r : Heap) : (H2 h lo a lm b ++ r).set lm x = H2 h lo a lm x ++ r := by rw [List.set_append_left _ _ (by simpa [H2] using hlm), H2.slm hlo hlm hne]
theorem H2.same {h : Heap} {lo lm : Nat} {a b : AObj} (h1 : h[lo]? = some a) (h2 : h[lm]? = some b) : H2 h lo a lm b = h := by unfold H2; rw [set_same h1, set_same h2]
def addF (l : List Cell) (c : Cell) : List Cell := (l.filter fun x => !needless x c) ++ [c]

theorem add_spec (s : Schema) (row : Str) (time : Int) (l : List Cell) (c : Cell) (h : Heap) (lo lm so sm : Nat) (hlo : lo < h.length) (hlm : lm < h.length) (hne : lo ≠ lm) (hl : l.length < 1000000000) :
    SpecA PP N.plan_maker_add [.ptr lm sm 0 0, .agg c.e] (H2 h lo (.arr so 0 8 (l.map Cell.e)) lm (.arr sm 0 13 [Mk.e s row time (.sl lo so 0 l.length)])) (fun r h' => r = .ret (.tup []) ∧ ∃ so', h' = H2 h lo (.arr so' 0 8 ((addF l { c with row := row }).map Cell.e)) lm (.arr sm 0 13 [Mk.e s row time (.sl lo so' 0 (addF l { c with row := row }).length)])) := by
  have e1 := @H2.glo h lo lm hlo hlm hne
  have e2 := @H2.glor h lo lm hlo hlm hne
  have e3 := @H2.glm h lo lm hlo hlm hne
  have e4 := @H2.glmr h lo lm hlo hlm hne
  have e5 := @H2.slo h lo lm hlo hlm hne
  have e6 := @H2.slor h lo lm hlo hlm hne
  have e7 := @H2.slm h lo lm hlo hlm hne
  have e8 := @H2.slmr h lo lm hlo hlm hne
  refine spec_of ck_plan_maker_add ?_
  rw [wp_start]
  simp (maxSteps := 1000000) (disch := omega) only [go_sem, ↓reduceIte, Nat.reduceAdd, reduceCtorEq, F.plan_maker_add]
  simp (maxSteps := 1000000) (disch := omega) only [go_sem, ↓reduceIte, Nat.reduceEqDiff, reduceCtorEq, e4]
  intro s3
  try simp (maxSteps := 1000000) (disch := omega) only [go_sem, opS_s, opS_sg, opS_b, opS_bg, ↓reduceIte, Nat.reduceAdd, Nat.reduceMul, Nat.reduceSub, Nat.reduceEqDiff, Nat.reduceLeDiff, Nat.reduceLT, Nat.reduceBEq, Int.reduceBEq, Int.reduceBNe, Int.reduceEq, Int.reduceNeg, Int.reduceAdd, Int.reduceSub, Int.reduceMul, List.cons_beq_cons, BEq.rfl, Int.reduceToNat, Int.reduceLE, Int.reduceLT, reduceCtorEq, e1, e2, e3, e4, e5, e6, e7, e8]
  refine callS_exact (deleteFunc_spec l _ [.ptr h.length s3 0 0] (fun x => needless x { c with row := row }) _ lo so (e2 _ _ _) (by omega) (fun x _ H hR => add1_spec x _ H _ _ ((hR h.length (by omega) (by simp [H2])).trans (by simp (maxSteps := 1000000) (disch := omega) only [go_sem])))) ?_
  simp (maxSteps := 1000000) (disch := omega) only [go_sem, opS_s, opS_b, ↓reduceIte, Nat.reduceMul, Nat.reduceEqDiff, reduceCtorEq, e2, e4, e6, e8]
  have hk : (l.filter fun x => !needless x { c with row := row }).length ≤ l.length := List.length_filter_le _ _
  refine fun s4 => ⟨by omega, fun s5 => ?_⟩
  refine finS_l ?_
  simp (maxSteps := 1000000) (disch := omega) only [go_sem, addF, List.map_append]
  exact ⟨s5, rfl⟩

theorem H2.app {h : Heap} {lo lm : Nat} (hlo : lo < h.length) (hlm : lm < h.length) (a b : AObj) (r : Heap) : H2 h lo a lm b ++ r = H2 (h ++ r) lo a lm b := by
  unfold H2; rw [List.set_append_left _ _ hlo, List.set_append_left _ _ (by simpa using hlm)]
theorem onRet_ret (K Kp : AV → Heap → Prop) (v : AV) (h : Heap) : onRet K Kp (.ret v) h = K v h := rfl

def rowF (s : Schema) (row : Str) (time : Int) (l : List Cell) : List Family → List Cell
  | [] => l
  | f :: r => rowF s row time (if famU s f.name then addF l ⟨row, f.name, [], time - 1, 4, Value.zero⟩ else l) r
def doF (s : Schema) (row : Str) (time : Int) (l : List Cell) (m : Mut) : List Cell :=
  if m.kind = 1 then addF l ⟨row, m.fam, m.qual, time, 1, m.val⟩
  else if m.kind = 2 then addF l ⟨row, m.fam, m.qual, time - 1, 3, Value.zero⟩
  else if m.kind = 3 then addF l ⟨row, m.fam, [], time - 1, 4, Value.zero⟩
  else if m.kind = 4 then rowF s row time l s.fams
  else l

theorem addF_len (l : List Cell) (c : Cell) : (addF l c).length ≤ l.length + 1 := by
  unfold addF; have := List.length_filter_le (fun x => !needless x c) l; simp; omega
theorem rowF_len (s : Schema) (row : Str) (time : Int) : ∀ (fs : List Family) (l : List Cell), (rowF s row time l fs).length ≤ l.length + fs.length
  | [], l => by simp [rowF]
  | f :: r, l => by
    simp only [rowF]
    refine Nat.le_trans (rowF_len s row time r _) ?_
    split
    · have := addF_len l ⟨row, f.name, [], time - 1, 4, Value.zero⟩; simp; omega
    · simp

theorem do_spec (s : Schema) (row : Str) (time : Int) (l : List Cell) (m : Mut) (hs : s.wf) (h : Heap) (lo lm so sm : Nat) (hlo : lo < h.length) (hlm : lm < h.length) (hne : lo ≠ lm) (hl : l.length + s.fams.length < 1000000000) (ht1 : 1 ≤ time) (ht2 : time ≤ 1099511627776) :
    SpecA PP N.plan_maker_do [.ptr lm sm 0 0, .agg m.e] (H2 h lo (.arr so 0 8 (l.map Cell.e)) lm (.arr sm 0 13 [Mk.e s row time (.sl lo so 0 l.length)])) (fun r h' => r = .ret (.tup []) ∧ ∃ so', h' = H2 h lo (.arr so' 0 8 ((doF s row time l m).map Cell.e)) lm (.arr sm 0 13 [Mk.e s row time (.sl lo so' 0 (doF s row time l m).length)])) := by
  have e1 := @H2.glo h lo lm hlo hlm hne
  have e2 := @H2.glor h lo lm hlo hlm hne
  have e3 := @H2.glm h lo lm hlo hlm hne
  have e4 := @H2.glmr h lo lm hlo hlm hne
  have lo' : ∀ r : Heap, lo < (h ++ r).length := fun r => by simp; omega
  have lm' : ∀ r : Heap, lm < (h ++ r).length := fun r => by simp; omega
  refine spec_of ck_plan_maker_do ?_
  rw [wp_start]
  simp (maxSteps := 1000000) (disch := omega) only [go_sem, ↓reduceIte, Nat.reduceAdd, Nat.reduceEqDiff, reduceCtorEq, F.plan_maker_do]
  intro s3
  try simp (maxSteps := 1000000) (disch := omega) only [go_sem, opS_s, opS_sg, opS_b, opS_bg, ↓reduceIte, Nat.reduceAdd, Nat.reduceMul, Nat.reduceSub, Nat.reduceEqDiff, Nat.reduceLeDiff, Nat.reduceLT, Nat.reduceBEq, Int.reduceBEq, Int.reduceBNe, Int.reduceEq, Int.reduceNeg, Int.reduceAdd, Int.reduceSub, Int.reduceMul, List.cons_beq_cons, BEq.rfl, Int.reduceToNat, Int.reduceLE, Int.reduceLT, reduceCtorEq, e1, e2, e3, e4]
  rw [condS_some]; refine ⟨fun hx => ?_, fun hx => ?_⟩
  · have k1 : m.kind = 1 := by simpa using hx
    simp (maxSteps := 1000000) (disch := omega) only [go_sem, ↓reduceIte, Nat.reduceAdd, Nat.reduceEqDiff, Nat.reduceLeDiff, reduceCtorEq, e4]
    rw [H2.app hlo hlm]
    refine callS_any (add_spec s row time l ⟨[], m.fam, m.qual, time, 1, m.val⟩ _ lo lm so sm (lo' _) (lm' _) hne (by omega)) ?_
    rintro _ _ ⟨rfl, so', rfl⟩
    rw [← H2.app hlo hlm]
    simp (maxSteps := 1000000) (disch := omega) only [go_sem, onRet_ret]
    refine finS_l ?_
    simp (maxSteps := 1000000) (disch := omega) only [go_sem, ↓reduceIte, doF, k1]
    exact ⟨so', rfl⟩
  · have k1 : ¬ m.kind = 1 := by simpa using hx
    simp (maxSteps := 1000000) (disch := omega) only [go_sem, ↓reduceIte, Nat.reduceEqDiff, reduceCtorEq]
    rw [condS_some]; refine ⟨fun hx => ?_, fun hx => ?_⟩
    · have k2 : m.kind = 2 := by simpa using hx
      simp (maxSteps := 1000000) (disch := omega) only [go_sem, ↓reduceIte, Nat.reduceAdd, Nat.reduceEqDiff, Nat.reduceLeDiff, reduceCtorEq, e4, wrap64]
      rw [H2.app hlo hlm]
      refine callS_any (add_spec s row time l ⟨[], m.fam, m.qual, time - 1, 3, Value.zero⟩ _ lo lm so sm (lo' _) (lm' _) hne (by omega)) ?_
      rintro _ _ ⟨rfl, so', rfl⟩
      rw [← H2.app hlo hlm]
      simp (maxSteps := 1000000) (disch := omega) only [go_sem, onRet_ret]
      refine finS_l ?_
      simp (maxSteps := 1000000) (disch := omega) only [go_sem, ↓reduceIte, Int.reduceEq, doF, k2]
      exact ⟨so', rfl⟩
    · have k2 : ¬ m.kind = 2 := by simpa using hx
      simp (maxSteps := 1000000) (disch := omega) only [go_sem, ↓reduceIte, Nat.reduceEqDiff, reduceCtorEq]
      rw [condS_some]; refine ⟨fun hx => ?_, fun hx => ?_⟩
      · have k3 : m.kind = 3 := by simpa using hx
        simp (maxSteps := 1000000) (disch := omega) only [go_sem, ↓reduceIte, Nat.reduceAdd, Nat.reduceEqDiff, Nat.reduceLeDiff, reduceCtorEq, e4, wrap64]
        rw [H2.app hlo hlm]
        refine callS_any (add_spec s row time l ⟨[], m.fam, [], time - 1, 4, Value.zero⟩ _ lo lm so sm (lo' _) (lm' _) hne (by omega)) ?_
        rintro _ _ ⟨rfl, so', rfl⟩
        rw [← H2.app hlo hlm]
        simp (maxSteps := 1000000) (disch := omega) only [go_sem, onRet_ret]
        refine finS_l ?_
        simp (maxSteps := 1000000) (disch := omega) only [go_sem, ↓reduceIte, Int.reduceEq, doF, k3]
        exact ⟨so', rfl⟩
      · have k3 : ¬ m.kind = 3 := by simpa using hx
        simp (maxSteps := 1000000) (disch := omega) only [go_sem, ↓reduceIte, Nat.reduceEqDiff, reduceCtorEq]
        rw [condS_some]; refine ⟨fun hx => ?_, fun hx => ?_⟩
        · have k4 : m.kind = 4 := by simpa using hx
          simp (maxSteps := 1000000) (disch := omega) only [go_sem, ↓reduceIte, Nat.reduceEqDiff, reduceCtorEq, e4]
          have hd : doF s row time l m = rowF s row time l s.fams := by simp [doF, k4]
          rw [hd]
          refine loopS_list s.fams (fun pre (e : List Cell × Nat) => ⟨[(0, .ptr lm sm 0 0), (56, .psl (s.fams.map Family.e)), (57, .int .i64 s.fams.length), (58, .int .i64 pre.length)], H2 h lo (.arr e.2 0 8 (e.1.map Cell.e)) lm (.arr sm 0 13 [Mk.e s row time (.sl lo e.2 0 e.1.length)]) ++ [.arr s3 0 6 [m.e]]⟩) (fun pre post e => rowF s row time l s.fams = rowF s row time e.1 post ∧ e.1.length + post.length ≤ l.length + s.fams.length) (l, so) ?_ ⟨rfl, Nat.le_refl _⟩ ?_
          · rfl
          · rintro pre post ⟨l2, so2⟩ hpp ⟨hJ, hJl⟩
            simp only at hJ hJl ⊢
            have hfl := hs.fams
            cases post with
            | nil =>
              simp (maxSteps := 1000000) (disch := omega) only [go_sem, ↓reduceIte, Nat.reduceEqDiff, reduceCtorEq, nl0 hpp]
              refine finS_l ?_
              simp (maxSteps := 1000000) (disch := omega) only [go_sem, hJ, rowF]
              exact ⟨so2, rfl⟩
            | cons x post =>
              have hn := nl hpp
              simp only [List.length_cons] at hJl
              simp (maxSteps := 1000000) (disch := omega) only [go_sem, ↓reduceIte, Nat.reduceAdd, Nat.reduceEqDiff, reduceCtorEq, gml Family.e hpp, hn, e4]
              intro s4
              try simp (maxSteps := 1000000) (disch := omega) only [go_sem, opS_s, opS_sg, opS_b, opS_bg, ↓reduceIte, Nat.reduceAdd, Nat.reduceMul, Nat.reduceSub, Nat.reduceEqDiff, Nat.reduceLeDiff, Nat.reduceLT, Nat.reduceBEq, Int.reduceBEq, Int.reduceBNe, Int.reduceEq, Int.reduceNeg, Int.reduceAdd, Int.reduceSub, Int.reduceMul, List.cons_beq_cons, BEq.rfl, Int.reduceToNat, Int.reduceLE, Int.reduceLT, reduceCtorEq, e1, e2, e3, e4]
              refine callS_exact (vnamed_spec s x.name hs _) ?_
              simp (maxSteps := 1000000) (disch := omega) only [go_sem, ↓reduceIte, Nat.reduceEqDiff, reduceCtorEq]
              rw [condS_some]; refine ⟨fun hx => ?_, fun hx => ?_⟩
              · have hu : famU s x.name = true := by
                  unfold namE at hx
                  cases hq : famU s x.name with
                  | true => rfl
                  | false => rw [hq] at hx; simp at hx
                simp (maxSteps := 1000000) (disch := omega) only [go_sem, ↓reduceIte, Nat.reduceAdd, Nat.reduceEqDiff, Nat.reduceLeDiff, reduceCtorEq, e4, wrap64]
                rw [H2.app hlo hlm]
                refine callS_any (add_spec s row time l2 ⟨[], x.name, [], time - 1, 4, Value.zero⟩ _ lo lm so2 sm (lo' _) (lm' _) hne (by omega)) ?_
                rintro _ _ ⟨rfl, so', rfl⟩
                rw [← H2.app hlo hlm]
                simp (maxSteps := 1000000) (disch := omega) only [go_sem, ↓reduceIte, Nat.reduceEqDiff, reduceCtorEq, onRet_ret]
                refine lp_next (h.length + 1) (addF l2 ⟨row, x.name, [], time - 1, 4, Value.zero⟩, so') hpp ?_ ?_ ?_
                · refine ⟨?_, ?_⟩
                  · rw [hJ, rowF, hu]; simp
                  · have := addF_len l2 ⟨row, x.name, [], time - 1, 4, Value.zero⟩; simp only; omega
                · simp (maxSteps := 1000000) (disch := omega) only [go_sem, ↓reduceIte, Nat.reduceEqDiff, reduceCtorEq, wrap64, Int.natCast_add, Int.cast_ofNat_Int]
                · simp (maxSteps := 1000000) (disch := omega) only [go_sem]
              · have hu : famU s x.name = false := by
                  unfold namE at hx
                  cases hq : famU s x.name with
                  | true => rw [hq] at hx; simp at hx
                  | false => rfl
                simp (maxSteps := 1000000) (disch := omega) only [go_sem, ↓reduceIte, Nat.reduceEqDiff, reduceCtorEq]
                refine lp_next (h.length + 1) (l2, so2) hpp ?_ ?_ ?_
                · refine ⟨?_, ?_⟩
                  · rw [hJ, rowF, hu]; simp
                  · simp only; omega
                · simp (maxSteps := 1000000) (disch := omega) only [go_sem, ↓reduceIte, Nat.reduceEqDiff, reduceCtorEq, wrap64, Int.natCast_add, Int.cast_ofNat_Int]
                · simp (maxSteps := 1000000) (disch := omega) only [go_sem]
        · have k4 : ¬ m.kind = 4 := by simpa using hx
          simp (maxSteps := 1000000) (disch := omega) only [go_sem]
          refine finS_l ?_
          simp (maxSteps := 1000000) (disch := omega) only [go_sem, ↓reduceIte, doF, k1, k2, k3, k4]
          exact ⟨so, rfl⟩
end Go.Ab.S2


namespace Go.Ab.S2
open Go.Ab
set_option maxRecDepth 100000

theorem doF_len (s : Schema) (row : Str) (time : Int) (l : List Cell) (m : Mut) : (doF s row time l m).length ≤ l.length + s.fams.length + 1 := by
  unfold doF
  split
  · have := addF_len l ⟨row, m.fam, m.qual, time, 1, m.val⟩; omega
  · split
    · have := addF_len l ⟨row, m.fam, m.qual, time - 1, 3, Value.zero⟩; omega
    · split
      · have := addF_len l ⟨row, m.fam, [], time - 1, 4, Value.zero⟩; omega
      · split
        · have := rowF_len s row time s.fams l; omega
        · omega

def cellsF (s : Schema) (q : Request) (time : Int) : List Cell × Int :=
  if chkE s q ≠ 0 then ([], chkE s q)
  else if q.kind = 3 then ([], 10)
  else if time < 1 ∨ time > 1099511627776 then ([], 18)
  else (q.muts.foldl (doF s q.row time) [], 0)

theorem chk_bounds {s : Schema} {q : Request} (h : chkE s q = 0) (h3 : q.kind ≠ 3) : s.fams.length ≤ 6 ∧ q.muts.length ≤ 8 := by
  unfold chkE at h
  split at h
  · simp at h
  · rename_i hx
    simp at hx
    obtain ⟨h1, h2⟩ := hx
    constructor
    · simp [schP] at h1
      omega
    · have hw : writeQ q = true := by
        unfold formQ at h2
        rw [if_neg h3] at h2
        split at h2
        · simp at h2; exact h2.1.1.1
        · split at h2
          · simp at h2; exact h2.1.1
          · simp at h2
      simp [writeQ] at hw
      omega

@[go_sem high] theorem Mk.put10 (s : Schema) (row : Str) : putL 10 [AV.str row] (s.e ++ [AV.str [], AV.int IntKind.i64 0, AV.vn]) = some (Mk.e s row 0 .vn) := rfl
@[go_sem high] theorem Mk.put11 (s : Schema) (row : Str) (time : Int) (o : AV) : putL 11 [AV.int IntKind.i64 time] (Mk.e s row 0 o) = some (Mk.e s row time o) := rfl
@[go_sem high] theorem Mk.set (s : Schema) (row : Str) (time : Int) (o x : AV) : (Mk.e s row time o).set 12 x = Mk.e s row time x := rfl
@[go_sem high] theorem Mk.one1 (s : Schema) (row : Str) (time : Int) : (Mk.e s row time .vn).all AV.one = true := rfl
@[go_sem high] theorem Mk.one2 (s : Schema) (row : Str) (time : Int) (l t i n : Nat) : (Mk.e s row time (.sl l t i n)).all AV.one = true := rfl
theorem H2.tkn {h : Heap} {lo lm n : Nat} {a b : AObj} (h1 : n ≤ lo) (h2 : n ≤ lm) : (H2 h lo a lm b).take n = h.take n := by
  unfold H2; rw [List.take_set_of_le h2, List.take_set_of_le h1]

theorem cells_spec (s : Schema) (q : Request) (time : Int) (hs : s.wf) (hq : q.wf) : Ans N.plan_Cells [.agg s.e, .agg q.e, .int .i64 time] (.tup [.psl ((cellsF s q time).1.map Cell.e), .int .i64 (cellsF s q time).2]) := by
  intro h
  refine spec_of ck_plan_Cells ?_
  rw [wp_start]
  simp (maxSteps := 1000000) (disch := omega) only [go_sem, ↓reduceIte, Nat.reduceAdd, Nat.reduceEqDiff, reduceCtorEq, F.plan_Cells]
  intro s1 s2
  refine callS_exact (check_spec s q hs hq _) ?_
  simp (maxSteps := 1000000) (disch := omega) only [go_sem, ↓reduceIte, Nat.reduceEqDiff]
  rw [condS_some]; refine ⟨fun hx => ?_, fun hx => ?_⟩
  · have h1 : ¬ chkE s q = 0 := by simpa using hx
    refine finS_l ?_
    simp (maxSteps := 1000000) (disch := omega) only [go_sem, ↓reduceIte, Nat.reduceEqDiff]
    all_goals simp [cellsF, h1]
  · have h1 : chkE s q = 0 := by simpa using hx
    simp (maxSteps := 1000000) (disch := omega) only [go_sem, ↓reduceIte, Nat.reduceEqDiff]
    rw [condS_some]; refine ⟨fun hx => ?_, fun hx => ?_⟩
    · have h3 : q.kind = 3 := by simpa using hx
      refine finS_l ?_
      simp (maxSteps := 1000000) (disch := omega) only [go_sem, ↓reduceIte, Nat.reduceEqDiff]
      all_goals simp [cellsF, h1, h3]
    · have h3 : ¬ q.kind = 3 := by simpa using hx
      simp (maxSteps := 1000000) (disch := omega) only [go_sem, ↓reduceIte, Nat.reduceEqDiff]
      rw [condS_some]; refine ⟨fun hx => ?_, fun hx => ?_⟩
      · have h4 : time < 1 ∨ 1099511627776 < time := by simpa using hx
        refine finS_l ?_
        simp (maxSteps := 1000000) (disch := omega) only [go_sem, ↓reduceIte, Nat.reduceEqDiff]
        all_goals simp [cellsF, h1, h3, h4]
      · have h4 : ¬ (time < 1 ∨ 1099511627776 < time) := by simpa using hx
        simp (maxSteps := 1000000) (disch := omega) only [go_sem, ↓reduceIte, Nat.reduceAdd, Nat.reduceEqDiff, Nat.reduceLeDiff]
        intro so sm
        obtain ⟨hfs, hms⟩ := chk_bounds h1 h3
        generalize hH : h ++ [AObj.arr s1 0 10 [s.e], AObj.arr s2 0 16 [q.e], AObj.arr so 0 8 [], AObj.arr sm 0 13 [Mk.e s q.row time (AV.sl (h.length + 2) so 0 0)]] = H
        have hHl : H.length = h.length + 4 := by rw [← hH]; simp
        have hHt : H.take h.length = h := by rw [← hH]; simp
        have hlo : h.length + 2 < H.length := by omega
        have hlm : h.length + 3 < H.length := by omega
        have hne : h.length + 2 ≠ h.length + 3 := by omega
        have hsame : H2 H (h.length + 2) (.arr so 0 8 []) (h.length + 3) (.arr sm 0 13 [Mk.e s q.row time (.sl (h.length + 2) so 0 0)]) = H := H2.same (by rw [← hH]; simp) (by rw [← hH]; simp)
        have e1 := @H2.glo H _ _ hlo hlm hne
        have e2 := @H2.glor H _ _ hlo hlm hne
        have e3 := @H2.glm H _ _ hlo hlm hne
        have e4 := @H2.glmr H _ _ hlo hlm hne
        refine loopS_list q.muts (fun pre (e : List Cell × Nat) => ⟨[(9, .ptr (h.length + 3) sm 0 0), (38, .psl (q.muts.map Mut.e)), (39, .int .i64 q.muts.length), (40, .int .i64 pre.length)], H2 H (h.length + 2) (.arr e.2 0 8 (e.1.map Cell.e)) (h.length + 3) (.arr sm 0 13 [Mk.e s q.row time (.sl (h.length + 2) e.2 0 e.1.length)])⟩) (fun pre post e => q.muts.foldl (doF s q.row time) [] = post.foldl (doF s q.row time) e.1 ∧ e.1.length + post.length * 7 ≤ 56) ([], so) ?_ ⟨rfl, by simp; omega⟩ ?_
        · simp (maxSteps := 1000000) (disch := omega) only [go_sem, ↓reduceIte, Nat.reduceEqDiff, hsame]
          rfl
        · rintro pre post ⟨l2, so2⟩ hpp ⟨hJ, hJl⟩
          simp only at hJ hJl ⊢
          cases post with
          | nil =>
            simp (maxSteps := 1000000) (disch := omega) only [go_sem, ↓reduceIte, Nat.reduceEqDiff, nl0 hpp, e3]
            refine finS_l ?_
            have ht : ∀ a b, (H2 H (h.length + 2) a (h.length + 3) b).take h.length = h := fun a b => by rw [H2.tkn (by omega) (by omega), hHt]
            have e5 := @H2.slo H _ _ hlo hlm hne
            simp (maxSteps := 1000000) (disch := omega) only [go_sem, ↓reduceIte, e1, e5, ht]
            simp [cellsF, h1, h3, h4, hJ]
          | cons x post =>
            have hn := nl hpp
            simp only [List.length_cons] at hJl
            simp (maxSteps := 1000000) (disch := omega) only [go_sem, ↓reduceIte, Nat.reduceAdd, Nat.reduceEqDiff, gml Mut.e hpp, hn]
            intro s4
            try simp (maxSteps := 1000000) (disch := omega) only [go_sem, opS_s, opS_sg, opS_b, opS_bg, ↓reduceIte, Nat.reduceAdd, Nat.reduceMul, Nat.reduceSub, Nat.reduceEqDiff, Nat.reduceLeDiff, Nat.reduceLT, Nat.reduceBEq, Int.reduceBEq, Int.reduceBNe, Int.reduceEq, Int.reduceNeg, Int.reduceAdd, Int.reduceSub, Int.reduceMul, List.cons_beq_cons, BEq.rfl, Int.reduceToNat, Int.reduceLE, Int.reduceLT, reduceCtorEq, e1, e2, e3, e4]
            rw [H2.app hlo hlm]
            refine callS_any (do_spec s q.row time l2 x hs _ (h.length + 2) (h.length + 3) so2 sm (by simp; omega) (by simp; omega) hne (by omega) (by omega) (by omega)) ?_
            rintro _ _ ⟨rfl, so', rfl⟩
            rw [← H2.app hlo hlm]
            simp (maxSteps := 1000000) (disch := omega) only [go_sem, ↓reduceIte, Nat.reduceEqDiff, onRet_ret]
            refine lp_next H.length (doF s q.row time l2 x, so') hpp ?_ ?_ ?_
            · refine ⟨hJ, ?_⟩
              have := doF_len s q.row time l2 x
              simp only; omega
            · simp (maxSteps := 1000000) (disch := omega) only [go_sem, ↓reduceIte, Nat.reduceEqDiff, wrap64, Int.natCast_add, Int.cast_ofNat_Int]
            · simp (maxSteps := 1000000) (disch := omega) only [go_sem]
end Go.Ab.S2

/- Contracts: where cells go (plan). -/
namespace Go.Ab.S2
open Go.Ab
set_option maxRecDepth 100000

theorem lays1_spec (y : Cell) (h : Heap) (f : Family) (n s : Nat) (hn : h[n]? = some (.arr s 0 5 [f.e])) : SpecA PP N.plan_Layouts_1 [.agg y.e, .ptr n s 0 0] h (fun r h' => r = .ret (.bool (y.fam == f.name)) ∧ h' = h) := by
  have hlt : n < h.length := by
    rcases Nat.lt_or_ge n h.length with q | q
    · exact q
    · rw [List.getElem?_eq_none q] at hn; simp at hn
  have hn2 : ∀ r : Heap, (h ++ r)[n]? = some (.arr s 0 5 [f.e]) := fun r => by rw [List.getElem?_append_left hlt, hn]
  refine spec_of ck_plan_Layouts_1 ?_
  rw [wp_start]
  simp (maxSteps := 1000000) (disch := omega) only [go_sem, ↓reduceIte, Nat.reduceAdd, Nat.reduceEqDiff, reduceCtorEq, F.plan_Layouts_1]
  intro s1
  simp (maxSteps := 1000000) (disch := omega) only [go_sem, ↓reduceIte, Nat.reduceEqDiff, hn2]
  refine finS_l ?_
  simp (maxSteps := 1000000) (disch := omega) only [go_sem]
  all_goals simp []

theorem playouts_spec (s : Schema) (l : List Cell) (hs : s.wf) (hl : l.length < 1099511627776) : Ans N.plan_Layouts [.agg s.e, .psl (l.map Cell.e)] (.psl ((laysF s l).map Layouted.e)) := by
  intro h
  refine spec_of ck_plan_Layouts ?_
  rw [wp_start]
  simp (maxSteps := 1000000) (disch := omega) only [go_sem, ↓reduceIte, Nat.reduceAdd, Nat.reduceEqDiff, reduceCtorEq, F.plan_Layouts]
  intro s1 s2
  have hfl := hs.fams
  refine loopS_list s.fams (fun pre s2 => ⟨[(1, .psl (l.map Cell.e)), (5, .sl (h.length + 1) s2 0 (pre.filter (layF l)).length), (9, .psl (s.fams.map Family.e)), (10, .int .i64 s.fams.length), (11, .int .i64 pre.length)], h ++ [.arr s1 0 10 [s.e], .arr s2 0 2 (((pre.filter (layF l)).map fun f => ⟨f.name, f.layouts⟩).map Layouted.e)]⟩) (fun pre post _ => True) s2 rfl trivial ?_
  rintro pre post s2 hpp hJ
  have hk : (pre.filter (layF l)).length ≤ pre.length := List.length_filter_le _ _
  cases post with
  | nil =>
    have hn := nl0 hpp
    simp only [List.append_nil] at hpp
    simp (maxSteps := 1000000) (disch := omega) only [go_sem, ↓reduceIte, Nat.reduceEqDiff, hn]
    refine finS_l ?_
    simp (maxSteps := 1000000) (disch := omega) only [go_sem, ↓reduceIte, hpp, laysF]
  | cons x post =>
    have hn := nl hpp
    have hf := hs.fam x (by simp [hpp])
    simp (maxSteps := 1000000) (disch := omega) only [go_sem, ↓reduceIte, Nat.reduceAdd, Nat.reduceEqDiff, gml Family.e hpp, hn]
    intro s3
    refine callS_exact (containsFunc_Cell l _ [] [.ptr (h.length + 2) s3 0 0] (fun c => c.fam == x.name) _ hl (fun y _ => lays1_spec y _ x _ s3 (by simp (maxSteps := 1000000) (disch := omega) only [go_sem]))) ?_
    simp (maxSteps := 1000000) (disch := omega) only [go_sem, ↓reduceIte, Nat.reduceEqDiff]
    rw [condS_some]; refine ⟨fun hx => ?_, fun hx => ?_⟩
    · have hx' : layF l x = true := hx
      simp (maxSteps := 1000000) (disch := omega) only [go_sem, ↓reduceIte, Nat.reduceEqDiff]
      refine callS_exact (clone_Layout _ hf.lays _) ?_
      simp (maxSteps := 1000000) (disch := omega) only [go_sem, opS_s, opS_b, ↓reduceIte, Nat.reduceAdd, Nat.reduceMul, Nat.reduceEqDiff, Nat.reduceLeDiff]
      intro s5
      refine ⟨by omega, fun s6 => ?_⟩
      refine lp_next (h.length + 2) s6 hpp trivial ?_ ?_
      · simp (maxSteps := 1000000) (disch := omega) only [go_sem, ↓reduceIte, Nat.reduceEqDiff, wrap64, Int.natCast_add, Int.cast_ofNat_Int, List.filter_append, List.filter_cons_of_pos hx', List.filter_nil]
      · simp (maxSteps := 1000000) (disch := omega) only [go_sem, List.filter_append, List.map_append, List.filter_cons_of_pos hx', List.filter_nil]
        all_goals simp [Layouted.e]
    · have hx' : ¬ layF l x = true := by simp [layF, hx]
      simp (maxSteps := 1000000) (disch := omega) only [go_sem, ↓reduceIte, Nat.reduceEqDiff]
      refine lp_next (h.length + 2) s2 hpp trivial ?_ ?_
      · simp (maxSteps := 1000000) (disch := omega) only [go_sem, ↓reduceIte, Nat.reduceEqDiff, wrap64, Int.natCast_add, Int.cast_ofNat_Int, List.filter_append, List.filter_cons_of_neg hx']
        all_goals simp
      · simp (maxSteps := 1000000) (disch := omega) only [go_sem, List.filter_append, List.filter_cons_of_neg hx']
        all_goals simp

theorem targets1_spec (y : Layouted) (h : Heap) (f : Cell) (n s : Nat) (hn : h[n]? = some (.arr s 0 8 [f.e])) : SpecA PP N.plan_Targets_1 [.agg y.e, .ptr n s 0 0] h (fun r h' => r = .ret (.bool (y.fam == f.fam)) ∧ h' = h) := by
  have hlt : n < h.length := by
    rcases Nat.lt_or_ge n h.length with q | q
    · exact q
    · rw [List.getElem?_eq_none q] at hn; simp at hn
  have hn2 : ∀ r : Heap, (h ++ r)[n]? = some (.arr s 0 8 [f.e]) := fun r => by rw [List.getElem?_append_left hlt, hn]
  refine spec_of ck_plan_Targets_1 ?_
  rw [wp_start]
  simp (maxSteps := 1000000) (disch := omega) only [go_sem, ↓reduceIte, Nat.reduceAdd, Nat.reduceEqDiff, reduceCtorEq, F.plan_Targets_1]
  intro s1
  simp (maxSteps := 1000000) (disch := omega) only [go_sem, ↓reduceIte, Nat.reduceEqDiff, hn2]
  refine finS_l ?_
  simp (maxSteps := 1000000) (disch := omega) only [go_sem]
  all_goals simp []

theorem ptargets_spec (l : List Layouted) (c : Cell) (hl : l.length < 1099511627776) (hl2 : ∀ x ∈ l, x.layouts.length < 1099511627776) : Ans N.plan_Targets [.psl (l.map Layouted.e), .agg c.e] (.psl (ints (targetsF l c))) := by
  intro h
  refine spec_of ck_plan_Targets ?_
  rw [wp_start]
  simp (maxSteps := 1000000) (disch := omega) only [go_sem, ↓reduceIte, Nat.reduceAdd, Nat.reduceEqDiff, reduceCtorEq, F.plan_Targets]
  intro s1
  refine callS_exact (indexFunc_Layouted l _ [] [.ptr h.length s1 0 0] (fun x => x.fam == c.fam) _ hl (fun x _ => targets1_spec x _ c _ s1 (by simp (maxSteps := 1000000) (disch := omega) only [go_sem]))) ?_
  simp (maxSteps := 1000000) (disch := omega) only [go_sem, ↓reduceIte, Nat.reduceEqDiff, reduceCtorEq]
  have hi := idx_find (fun x : Layouted => x.fam == c.fam) l
  rw [condS_some]; refine ⟨fun hx => ?_, fun hx => ?_⟩
  · simp (maxSteps := 1000000) (disch := omega) only [go_sem, ↓reduceIte]
    have hx := hi.1 (by simpa using hx)
    refine finS_l ?_
    simp (maxSteps := 1000000) (disch := omega) only [go_sem]
    all_goals simp [targetsF, hx, ints]
  · obtain ⟨k, x, hk, hkx, hf⟩ := hi.2 (by simpa using hx)
    have hxl := hl2 x (List.mem_of_getElem? hkx)
    simp (maxSteps := 1000000) (disch := omega) only [go_sem, ↓reduceIte, Nat.reduceAdd, Nat.reduceEqDiff, Nat.reduceLeDiff, reduceCtorEq, hk, gmap Layouted.e hkx]
    have hfe : ∀ ls : List Layout, [AV.str [], AV.int .i64 0, AV.int .i64 0, AV.psl (ls.map Layout.e), AV.psl []] = Family.e ⟨[], 0, 0, ls, []⟩ := fun ls => by simp [Family.e]
    intro s2
    try simp (maxSteps := 1000000) (disch := omega) only [go_sem, opS_s, opS_sg, opS_b, opS_bg, ↓reduceIte, Nat.reduceAdd, Nat.reduceMul, Nat.reduceSub, Nat.reduceEqDiff, Nat.reduceLeDiff, Nat.reduceLT, Nat.reduceBEq, Int.reduceBEq, Int.reduceBNe, Int.reduceEq, Int.reduceNeg, Int.reduceAdd, Int.reduceSub, Int.reduceMul, List.cons_beq_cons, BEq.rfl, Int.reduceToNat, Int.reduceLE, Int.reduceLT, reduceCtorEq]
    rw [condS_some]; refine ⟨fun hx => ?_, fun hx => ?_⟩
    · have hc : c.kind = 1 := by simpa using hx
      simp (maxSteps := 1000000) (disch := omega) only [go_sem, ↓reduceIte, Nat.reduceAdd]
      try rw [hfe]
      refine callS_exact (written_spec ⟨[], 0, 0, x.layouts, []⟩ hxl _) ?_
      simp (maxSteps := 1000000) (disch := omega) only [go_sem, ↓reduceIte]
      refine finS_l ?_
      simp (maxSteps := 1000000) (disch := omega) only [go_sem]
      all_goals simp [targetsF, hf, hc]
    · have hc : ¬ c.kind = 1 := by simpa using hx
      simp (maxSteps := 1000000) (disch := omega) only [go_sem, ↓reduceIte, Nat.reduceAdd]
      try rw [hfe]
      refine callS_exact (sgone_spec ⟨[], 0, 0, x.layouts, []⟩ hxl _) ?_
      simp (maxSteps := 1000000) (disch := omega) only [go_sem, ↓reduceIte]
      refine finS_l ?_
      simp (maxSteps := 1000000) (disch := omega) only [go_sem]
      all_goals simp [targetsF, hf, hc]
end Go.Ab.S2

/- Contracts: the sorting of texts (slices.Sort). -/
namespace Go.Ab.S2
open Go.Ab
set_option maxRecDepth 100000

/-- A text into sorted ones, from the right. -/
def insGo : List Str → Str → List Str → List Str
  | [], x, B => x :: B
  | y :: r, x, B => if Op.bytesLess x y then insGo r x (y :: B) else (y :: r).reverse ++ x :: B
def insR (l : List Str) (x : Str) : List Str := insGo l.reverse x []
def isort (l : List Str) : List Str := l.foldl insR []
theorem insGo_len : ∀ (r : List Str) (x : Str) (B : List Str), (insGo r x B).length = r.length + B.length + 1
  | [], x, B => by simp [insGo]
  | y :: r, x, B => by
    unfold insGo
    split
    · rw [insGo_len r x (y :: B)]; simp; omega
    · simp; omega
theorem insR_len (l : List Str) (x : Str) : (insR l x).length = l.length + 1 := by simp [insR, insGo_len]

theorem isNaN_str (a : Str) : Ans N.cmp_isNaN_string [.str a] (.bool false) := by
  intro h
  refine spec_of ck_cmp_isNaN_string ?_
  rw [wp_start]
  simp (maxSteps := 1000000) (disch := omega) only [go_sem, ↓reduceIte, BEq.rfl, reduceCtorEq, F.cmp_isNaN_string]
  refine finS_l ?_
  simp (maxSteps := 1000000) (disch := omega) only [go_sem]
  all_goals simp []

theorem less_str (a b : Str) : Ans N.cmp_Less_string [.str a, .str b] (.bool (Op.bytesLess a b)) := by
  intro h
  refine spec_of ck_cmp_Less_string ?_
  rw [wp_start]
  simp (maxSteps := 1000000) (disch := omega) only [go_sem, ↓reduceIte, Nat.reduceAdd, Nat.reduceEqDiff, reduceCtorEq, F.cmp_Less_string]
  refine callS_exact (isNaN_str _ _) ?_
  simp (maxSteps := 1000000) (disch := omega) only [go_sem, ↓reduceIte, Nat.reduceEqDiff, reduceCtorEq]
  refine finS_l ?_
  simp (maxSteps := 1000000) (disch := omega) only [go_sem]
  all_goals simp []

theorem len64_spec (n : Nat) (hn : n ≤ 8) : Ans N.math_bits_Len64 [.int .u64 n] (.int .i64 ([0, 1, 2, 2, 3, 3, 3, 3, 4].getD n 0)) := by
  intro h
  refine spec_of ck_math_bits_Len64 ?_
  rw [wp_start]
  simp (maxSteps := 1000000) (disch := omega) only [go_sem, ↓reduceIte, Nat.reduceEqDiff, reduceCtorEq, F.math_bits_Len64]
  rw [condS_some]; refine ⟨fun hx => ?_, fun hx => ?_⟩
  · exfalso; have : (4294967296 : Int) ≤ n := by simpa using hx
    omega
  simp (maxSteps := 1000000) (disch := omega) only [go_sem, ↓reduceIte, Nat.reduceEqDiff, reduceCtorEq]
  rw [condS_some]; refine ⟨fun hx => ?_, fun hx => ?_⟩
  · exfalso; have : (65536 : Int) ≤ n := by simpa using hx
    omega
  simp (maxSteps := 1000000) (disch := omega) only [go_sem, ↓reduceIte, Nat.reduceEqDiff, reduceCtorEq]
  rw [condS_some]; refine ⟨fun hx => ?_, fun hx => ?_⟩
  · exfalso; have : (256 : Int) ≤ n := by simpa using hx
    omega
  have hw : IntKind.u8.wrap n = n := by have : IntKind.u8.wrap n = (n : Int) % 256 := rfl
                                        rw [this]; omega
  simp (maxSteps := 1000000) (disch := omega) only [go_sem, ↓reduceIte, reduceCtorEq, hw]
  rcases (by omega : n = 0 ∨ n = 1 ∨ n = 2 ∨ n = 3 ∨ n = 4 ∨ n = 5 ∨ n = 6 ∨ n = 7 ∨ n = 8) with rfl | rfl | rfl | rfl | rfl | rfl | rfl | rfl | rfl
  all_goals
    simp (maxSteps := 1000000) (disch := omega) only [go_sem, ↓reduceIte, Nat.reduceEqDiff, List.getElem?_cons_succ, List.getElem?_cons_zero]
    refine finS_l ?_
    simp (maxSteps := 1000000) (disch := omega) only [go_sem]
    all_goals simp []
    rfl

theorem len_spec (n : Nat) (hn : n ≤ 8) : Ans N.math_bits_Len [.int .u64 n] (.int .i64 ([0, 1, 2, 2, 3, 3, 3, 3, 4].getD n 0)) := by
  intro h
  refine spec_of ck_math_bits_Len ?_
  rw [wp_start]
  simp (maxSteps := 1000000) (disch := omega) only [go_sem, ↓reduceIte, reduceCtorEq, F.math_bits_Len]
  refine callS_exact (len64_spec n hn _) ?_
  simp (maxSteps := 1000000) (disch := omega) only [go_sem, ↓reduceIte]
  refine finS_l ?_
  simp (maxSteps := 1000000) (disch := omega) only [go_sem]
  all_goals simp []

theorem insertion_nil (h : Heap) (l s : Nat) (hx : h[l]? = some (.arr s 0 1 (strs []))) :
    SpecA PP N.slices_insertionSortOrdered_string [.sl l s 0 0, .int .i64 0, .int .i64 0] h (fun r h' => r = .ret (.tup []) ∧ h' = h) := by
  refine spec_of ck_slices_insertionSortOrdered_string ?_
  rw [wp_start]
  simp (maxSteps := 1000000) (disch := omega) only [go_sem, ↓reduceIte, Nat.reduceAdd, Nat.reduceEqDiff, Int.reduceAdd, reduceCtorEq, F.slices_insertionSortOrdered_string]
  refine loopS_meas (fun (_ : Unit) => ⟨[(0, .sl l s 0 0), (1, .int .i64 0), (2, .int .i64 0), (6, .int .i64 1)], h⟩) (fun _ => 0) (fun _ => True) () ?_ trivial ?_
  · simp (maxSteps := 1000000) (disch := omega) only [go_sem, ↓reduceIte, Nat.reduceEqDiff, reduceCtorEq, wrap64]
  rintro ⟨⟩ _
  simp (maxSteps := 1000000) (disch := omega) only [go_sem, ↓reduceIte, Nat.reduceEqDiff, Int.reduceLT, reduceCtorEq]
  refine finS_l ?_
  simp (maxSteps := 1000000) (disch := omega) only [go_sem]
  all_goals simp []

theorem insertion_cons (a : Str) (xs : List Str) (h : Heap) (l s : Nat) (hx : h[l]? = some (.arr s 0 1 (strs (a :: xs)))) (hl : xs.length < 1000000000) :
    SpecA PP N.slices_insertionSortOrdered_string [.sl l s 0 (xs.length + 1), .int .i64 0, .int .i64 ↑(xs.length + 1)] h (fun r h' => r = .ret (.tup []) ∧ h' = h.set l (.arr s 0 1 (strs (isort (a :: xs))))) := by
  have hlt := (List.getElem?_eq_some_iff.1 hx).1
  refine spec_of ck_slices_insertionSortOrdered_string ?_
  rw [wp_start]
  simp (maxSteps := 1000000) (disch := omega) only [go_sem, ↓reduceIte, Nat.reduceAdd, Nat.reduceEqDiff, Int.reduceAdd, reduceCtorEq, F.slices_insertionSortOrdered_string]
  refine loopS_list xs (fun pre (D : List Str) => ⟨[(0, .sl l s 0 (xs.length + 1)), (1, .int .i64 0), (2, .int .i64 ↑(xs.length + 1)), (6, .int .i64 D.length)], h.set l (.arr s 0 1 (strs (D ++ xs.drop pre.length)))⟩) (fun pre post D => isort (a :: xs) = post.foldl insR D ∧ D.length + post.length = xs.length + 1) [a] ?_ ⟨rfl, by simp; omega⟩ ?_
  · have e : strs ([a] ++ xs.drop ([] : List Str).length) = strs (a :: xs) := rfl
    rw [e, set_same hx]
    simp (maxSteps := 1000000) (disch := omega) only [go_sem, ↓reduceIte, Nat.reduceEqDiff, reduceCtorEq, wrap64]
    rfl
  rintro pre post D hpp ⟨hJ, hJl⟩
  have hd : xs.drop pre.length = post := by rw [hpp]; simp
  simp only [hd]
  cases post with
  | nil =>
    simp only [List.length_nil, Nat.add_zero] at hJl
    have c1 : ((D.length : Int) < ((xs.length + 1 : Nat) : Int)) = False := by simp; omega
    simp (maxSteps := 1000000) (disch := omega) only [go_sem, ↓reduceIte, Nat.reduceEqDiff, reduceCtorEq, c1]
    refine finS_keep ?_
    simp [hJ]
  | cons x post =>
    simp only [List.length_cons] at hJl
    have c1 : ((D.length : Int) < ((xs.length + 1 : Nat) : Int)) = True := by simp; omega
    simp (maxSteps := 1000000) (disch := omega) only [go_sem, ↓reduceIte, Nat.reduceEqDiff, reduceCtorEq, c1]
    refine loopS_meas (fun (e : List Str × List Str) => ⟨[(0, .sl l s 0 (xs.length + 1)), (1, .int .i64 0), (2, .int .i64 ↑(xs.length + 1)), (6, .int .i64 D.length), (7, .int .i64 e.1.length)], h.set l (.arr s 0 1 (strs (e.1.reverse ++ x :: (e.2 ++ post))))⟩) (fun e => e.1.length) (fun e => insGo e.1 x e.2 = insR D x ∧ e.1.length + e.2.length = D.length) (D.reverse, []) ?_ ⟨rfl, by simp⟩ ?_
    · simp (maxSteps := 1000000) (disch := omega) only [go_sem, ↓reduceIte, Nat.reduceEqDiff, reduceCtorEq]
      simp
    rintro ⟨rA, B⟩ ⟨hG, hGl⟩
    simp only at hG hGl ⊢
    cases rA with
    | nil =>
      have c0 : decide ((0 : Int) < ((0 : Nat) : Int)) = false := rfl
      have c5 : (((0 : Nat) : Int) < ((xs.length + 1 : Nat) : Int)) = True := by simp
      have c6 : IntKind.i64.wrap (((0 : Nat) : Int) - 1) = -1 := rfl
      have g0 : (strs (([] : List Str).reverse ++ x :: (B ++ post)))[0]? = some [.str x] := rfl
      have c7 : ((0 : Int) ≤ -1) = False := by simp
      simp (maxSteps := 1000000) (disch := omega) only [go_sem, ↓reduceIte, Nat.reduceEqDiff, Int.reduceNeg, reduceCtorEq, c0, c5, c6, c7, set_get hlt, g0, false_and]
      refine lp_next (h.length + 0) (insR D x) hpp (And.intro hJ ?_) ?_ ?_
      · rw [insR_len]; omega
      · rw [insR_len]; simp (maxSteps := 1000000) (disch := omega) only [go_sem, ↓reduceIte, Nat.reduceEqDiff, reduceCtorEq, wrap64, Int.natCast_add, Int.cast_ofNat_Int]
      · rw [← hG]
        simp only [insGo, hpp]
        simp (maxSteps := 1000000) (disch := omega) only [go_sem]
        simp
    | cons y r =>
      generalize hA : r.reverse = A
      have hAl : r.length = A.length := by rw [← hA]; simp
      simp only [List.length_cons, List.reverse_cons, hA, hAl, List.append_assoc, List.cons_append, List.nil_append] at hG hGl ⊢
      have c0 : decide ((0 : Int) < ((A.length + 1 : Nat) : Int)) = true := by simp
      have c2 : (((A.length + 1 : Nat) : Int) < ((xs.length + 1 : Nat) : Int)) = True := by simp; omega
      have c3 : ((A.length : Int) < ((xs.length + 1 : Nat) : Int)) = True := by simp; omega
      have gx : (strs (A ++ y :: x :: (B ++ post)))[A.length + 1]? = some [.str x] := by simp [strs]
      have gy : (strs (A ++ y :: x :: (B ++ post)))[A.length]? = some [.str y] := by simp [strs]
      have c4 : IntKind.i64.wrap (((A.length + 1 : Nat) : Int) - 1) = A.length := by rw [wrap64 (by omega) (by omega)]; simp
      simp (maxSteps := 1000000) (disch := omega) only [go_sem, ↓reduceIte, Nat.reduceEqDiff, reduceCtorEq, set_get hlt, c0, c2, c3, c4, gx, gy]
      refine callS_exact (less_str _ _ _) ?_
      simp (maxSteps := 1000000) (disch := omega) only [go_sem, ↓reduceIte, Nat.reduceEqDiff, reduceCtorEq]
      rw [condS_some]; refine ⟨fun hx => ?_, fun hx => ?_⟩
      · simp (maxSteps := 1000000) (disch := omega) only [go_sem, ↓reduceIte, Nat.reduceEqDiff, reduceCtorEq]
        have gs : ((strs (A ++ y :: x :: (B ++ post))).set (A.length + 1) [.str y]).set A.length [.str x] = strs (A ++ x :: y :: (B ++ post)) := by simp [strs, List.set_append_right]
        have gs2 : ((strs (A ++ y :: x :: (B ++ post))).set A.length [.str x]).set (A.length + 1) [.str y] = strs (A ++ x :: y :: (B ++ post)) := by simp [strs, List.set_append_right]
        have gy2 : ((strs (A ++ y :: x :: (B ++ post))).set (A.length + 1) [.str y])[A.length]? = some [.str y] := by simp [strs, List.set_append_right]
        simp (maxSteps := 1000000) (disch := omega) only [go_sem, ↓reduceIte, Nat.reduceEqDiff, Nat.reduceLT, reduceCtorEq, set_get hlt, set_set', c2, c3, c4, gx, gy, gy2, gs]
        refine lpm_next (h.length + 0) (r, y :: B) ?_ ?_ ?_ ?_
        · simp only; omega
        · refine ⟨?_, ?_⟩
          · rw [← hG]; simp only [insGo, hx, if_true]
          · simp only [List.length_cons]; omega
        · simp (maxSteps := 1000000) (disch := omega) only [go_sem, ↓reduceIte, Nat.reduceEqDiff, reduceCtorEq, hAl]
        · simp (maxSteps := 1000000) (disch := omega) only [go_sem, hA]
          all_goals simp [hA]
      · simp (maxSteps := 1000000) (disch := omega) only [go_sem, ↓reduceIte, Nat.reduceEqDiff, reduceCtorEq]
        refine lp_next (h.length + 0) (insR D x) hpp (And.intro hJ ?_) ?_ ?_
        · rw [insR_len]; omega
        · rw [insR_len]; simp (maxSteps := 1000000) (disch := omega) only [go_sem, ↓reduceIte, Nat.reduceEqDiff, reduceCtorEq, wrap64, Int.natCast_add, Int.cast_ofNat_Int]
        · rw [← hG]
          simp only [insGo, hpp, hx]
          simp (maxSteps := 1000000) (disch := omega) only [go_sem, ↓reduceIte]
          simp [hA]

theorem insertion_spec (xs : List Str) (h : Heap) (l s : Nat) (hx : h[l]? = some (.arr s 0 1 (strs xs))) (hl : xs.length < 1000000000) :
    SpecA PP N.slices_insertionSortOrdered_string [.sl l s 0 xs.length, .int .i64 0, .int .i64 xs.length] h (fun r h' => r = .ret (.tup []) ∧ h' = h.set l (.arr s 0 1 (strs (isort xs)))) := by
  cases xs with
  | nil =>
    have := insertion_nil h l s hx
    rw [show isort [] = ([] : List Str) from rfl, set_same hx]
    exact this
  | cons a xs =>
    exact insertion_cons a xs h l s hx (by simp at hl; omega)

theorem pdq_spec (xs : List Str) (h : Heap) (l s : Nat) (k : Int) (hx : h[l]? = some (.arr s 0 1 (strs xs))) (hl : xs.length ≤ 12) :
    SpecA PP N.slices_pdqsortOrdered_string [.sl l s 0 xs.length, .int .i64 0, .int .i64 xs.length, .int .i64 k] h (fun r h' => r = .ret (.tup []) ∧ h' = h.set l (.arr s 0 1 (strs (isort xs)))) := by
  refine spec_of ck_slices_pdqsortOrdered_string ?_
  rw [wp_start]
  simp (maxSteps := 1000000) (disch := omega) only [go_sem, ↓reduceIte, Nat.reduceAdd, Nat.reduceEqDiff, reduceCtorEq, F.slices_pdqsortOrdered_string]
  refine loopS_meas (fun (_ : Unit) => ⟨[(0, .sl l s 0 xs.length), (1, .int .i64 0), (2, .int .i64 xs.length), (3, .int .i64 k), (8, .bool true), (9, .bool true)], h⟩) (fun _ => 0) (fun _ => True) () ?_ trivial ?_
  · simp (maxSteps := 1000000) (disch := omega) only [go_sem, ↓reduceIte, Nat.reduceEqDiff, reduceCtorEq]
  rintro ⟨⟩ _
  have c1 : IntKind.i64.wrap ((xs.length : Int) - 0) = xs.length := by rw [wrap64 (by omega) (by omega)]; simp
  have c2 : decide ((xs.length : Int) ≤ 12) = true := by simp; omega
  simp (maxSteps := 1000000) (disch := omega) only [go_sem, ↓reduceIte, Nat.reduceEqDiff, reduceCtorEq, c1, c2]
  refine callS_exact (insertion_spec xs h l s hx (by omega)) ?_
  simp (maxSteps := 1000000) (disch := omega) only [go_sem]
  refine finS_keep ?_
  exact ⟨rfl, rfl⟩

theorem sort_spec (xs : List Str) (h : Heap) (l s : Nat) (hx : h[l]? = some (.arr s 0 1 (strs xs))) (hl : xs.length ≤ 8) :
    SpecA PP N.slices_Sort_string_string_ [.sl l s 0 xs.length] h (fun r h' => r = .ret (.tup []) ∧ h' = h.set l (.arr s 0 1 (strs (isort xs)))) := by
  refine spec_of ck_slices_Sort_string_string_ ?_
  rw [wp_start]
  simp (maxSteps := 1000000) (disch := omega) only [go_sem, ↓reduceIte, F.slices_Sort_string_string_]
  simp (maxSteps := 1000000) (disch := omega) only [go_sem, ↓reduceIte, Nat.reduceEqDiff, reduceCtorEq, hx]
  have hw : IntKind.u64.wrap (xs.length : Int) = xs.length := by
    have : IntKind.u64.wrap (xs.length : Int) = (xs.length : Int) % 18446744073709551616 := rfl
    rw [this]; omega
  simp (maxSteps := 1000000) (disch := omega) only [go_sem, hw]
  refine callS_exact (len_spec _ hl _) ?_
  simp (maxSteps := 1000000) (disch := omega) only [go_sem, ↓reduceIte, Nat.reduceEqDiff]
  refine callS_exact (pdq_spec xs h l s _ hx (by omega)) ?_
  simp (maxSteps := 1000000) (disch := omega) only [go_sem]
  refine finS_keep ?_
  exact ⟨rfl, rfl⟩

def pubC (c : Column) : Bool := c.state == 3
def qualsF (f : Family) : List Str := isort ((f.cols.filter pubC).map Column.qual)

theorem isort_len (xs : List Str) : (isort xs).length = xs.length := by
  have : ∀ (xs D : List Str), (xs.foldl insR D).length = D.length + xs.length := by
    intro xs
    induction xs with
    | nil => intro D; rfl
    | cons x r ih => intro D; rw [List.foldl_cons, ih, insR_len]; simp; omega
  simpa [isort] using this xs []

theorem quals_spec (f : Family) (hl : f.cols.length ≤ 8) : Ans N.plan_quals [.agg f.e] (.psl (strs (qualsF f))) := by
  intro h
  refine spec_of ck_plan_quals ?_
  rw [wp_start]
  simp (maxSteps := 1000000) (disch := omega) only [go_sem, ↓reduceIte, Nat.reduceEqDiff, F.plan_quals]
  intro s1 s2
  refine loopS_list f.cols (fun pre s2 => ⟨[(3, .sl (h.length + 1) s2 0 (pre.filter pubC).length), (7, .psl (f.cols.map Column.e)), (8, .int .i64 f.cols.length), (9, .int .i64 pre.length)], h ++ [.arr s1 0 5 [f.e], .arr s2 0 1 (strs ((pre.filter pubC).map Column.qual))]⟩) (fun pre post _ => True) s2 rfl trivial ?_
  rintro pre post s2 hpp hJ
  have hk : (pre.filter pubC).length ≤ pre.length := List.length_filter_le _ _
  cases post with
  | nil =>
    have hn := nl0 hpp
    simp only [List.append_nil] at hpp
    simp (maxSteps := 1000000) (disch := omega) only [go_sem, ↓reduceIte, Nat.reduceEqDiff, hn]
    have hq : qualsF f = isort ((pre.filter pubC).map Column.qual) := by rw [qualsF, hpp]
    have hlx : (pre.filter pubC).length = ((pre.filter pubC).map Column.qual).length := by simp
    rw [hlx] at hk ⊢
    generalize hxs : (pre.filter pubC).map Column.qual = xs at hq hk ⊢
    refine callS_exact (sort_spec xs _ (h.length + 1) s2 (by simp) (by omega)) ?_
    have hil := isort_len xs
    simp (maxSteps := 1000000) (disch := omega) only [go_sem, ↓reduceIte, Nat.reduceEqDiff]
    refine finS_l ?_
    simp (maxSteps := 1000000) (disch := omega) only [go_sem, ↓reduceIte, hq, hil]
    rw [List.take_of_length_le (by simp [strs, hil])]
  | cons x post =>
    have hn := nl hpp
    simp (maxSteps := 1000000) (disch := omega) only [go_sem, ↓reduceIte, Nat.reduceAdd, Nat.reduceEqDiff, gml Column.e hpp, hn]
    intro s3
    try simp (maxSteps := 1000000) (disch := omega) only [go_sem, opS_s, opS_sg, opS_b, opS_bg, ↓reduceIte, Nat.reduceAdd, Nat.reduceMul, Nat.reduceSub, Nat.reduceEqDiff, Nat.reduceLeDiff, Nat.reduceLT, Nat.reduceBEq, Int.reduceBEq, Int.reduceBNe, Int.reduceEq, Int.reduceNeg, Int.reduceAdd, Int.reduceSub, Int.reduceMul, List.cons_beq_cons, BEq.rfl, Int.reduceToNat, Int.reduceLE, Int.reduceLT, reduceCtorEq]
    rw [condS_some]; refine ⟨fun hx => ?_, fun hx => ?_⟩
    · have hx' : pubC x = true := hx
      simp (maxSteps := 1000000) (disch := omega) only [go_sem, ↓reduceIte, Nat.reduceAdd, Nat.reduceMul, Nat.reduceEqDiff]
      intro s5
      refine ⟨by omega, fun s6 => ?_⟩
      refine lp_next (h.length + 2) s6 hpp trivial ?_ ?_
      · simp (maxSteps := 1000000) (disch := omega) only [go_sem, ↓reduceIte, Nat.reduceEqDiff, wrap64, Int.natCast_add, Int.cast_ofNat_Int, List.filter_append, List.filter_cons_of_pos hx', List.filter_nil]
      · simp (maxSteps := 1000000) (disch := omega) only [go_sem, List.filter_append, List.map_append, List.filter_cons_of_pos hx', List.filter_nil]
        all_goals simp
    · have hx' : ¬ pubC x = true := by simp [pubC, hx]
      simp (maxSteps := 1000000) (disch := omega) only [go_sem, ↓reduceIte, Nat.reduceEqDiff]
      refine lp_next (h.length + 2) s2 hpp trivial ?_ ?_
      · simp (maxSteps := 1000000) (disch := omega) only [go_sem, ↓reduceIte, Nat.reduceEqDiff, wrap64, Int.natCast_add, Int.cast_ofNat_Int, List.filter_append, List.filter_cons_of_neg hx']
        all_goals simp
      · simp (maxSteps := 1000000) (disch := omega) only [go_sem, List.filter_append, List.filter_cons_of_neg hx']
        all_goals simp
end Go.Ab.S2

/- Contracts: what a read may see (plan). -/
namespace Go.Ab.S2
open Go.Ab
set_option maxRecDepth 100000

def seenF (q : Request) (f : Family) : Bool := (readF f).isSome && (((q.filter.fams.length : Int) == 0) || q.filter.fams.any fun x => f.name == x)
def placeF (f : Family) : Place := ⟨f.name, (readF f).map Layout.group |>.getD 0, f.versions, f.life, qualsF f⟩
def visF (s : Schema) (q : Request) : Filter × List Place :=
  if q.kind = 3 ∧ chkE s q = 0 then (q.filter, (s.fams.filter (seenF q)).map placeF) else (Filter.zero, [])

theorem chk_cols {s : Schema} {q : Request} (h : chkE s q = 0) : ∀ f ∈ s.fams, f.cols.length ≤ 8 := by
  intro f hf
  unfold chkE at h
  split at h
  · simp at h
  · rename_i hx
    simp only [Bool.or_eq_true, Bool.not_eq_true', not_or, Bool.not_eq_false] at hx
    obtain ⟨h1, -⟩ := hx
    simp only [schP, Bool.and_eq_true, Bool.not_eq_true', List.any_eq_false, Bool.not_eq_false] at h1
    have := h1.1.1.2 f hf
    simp only [famP, colsP, Bool.and_eq_true, decide_eq_true_eq] at this
    omega

@[go_sem] theorem selV_d1 (b : Bool) : selV false (.bool b) .dead = some .dead := rfl
@[go_sem] theorem selV_d2 (b : Bool) : selV true (.bool b) .dead = some (.bool b) := rfl
theorem visible_spec (s : Schema) (q : Request) (hs : s.wf) (hq : q.wf) : Ans N.plan_Visible [.agg s.e, .agg q.e] (.tup [.agg (visF s q).1.e, .psl ((visF s q).2.map Place.e)]) := by
  intro h
  refine spec_of ck_plan_Visible ?_
  rw [wp_start]
  simp (maxSteps := 1000000) (disch := omega) only [go_sem, ↓reduceIte, Nat.reduceAdd, Nat.reduceEqDiff, reduceCtorEq, F.plan_Visible]
  intro s1 s2 s3
  rw [opEg_some]; refine ⟨fun hg => ?_, fun hg => ?_⟩ <;> try simp only [Bool.not_eq_true', Bool.not_eq_false'] at hg
  · have g1 := hg
    simp (maxSteps := 1000000) (disch := omega) only [go_sem, ↓reduceIte, g1]
    have hk : q.kind = 3 := by simpa using hg
    refine callS_exact (check_spec s q hs hq _) ?_
    simp (maxSteps := 1000000) (disch := omega) only [go_sem, ↓reduceIte, Nat.reduceEqDiff]
    rw [condS_some]; refine ⟨fun hx => ?_, fun hx => ?_⟩
    · have hc : ¬ chkE s q = 0 := by simpa using hx
      simp (maxSteps := 1000000) (disch := omega) only [go_sem, ↓reduceIte, Nat.reduceAdd, Nat.reduceEqDiff]
      refine finS_l ?_
      simp (maxSteps := 1000000) (disch := omega) only [go_sem]
      all_goals simp [visF, hc, hk]
      rfl
    · have hc : chkE s q = 0 := by simpa using hx
      have hcols := chk_cols hc
      simp (maxSteps := 1000000) (disch := omega) only [go_sem, ↓reduceIte, Nat.reduceAdd, Nat.reduceEqDiff]
      intro s4
      try simp (maxSteps := 1000000) (disch := omega) only [go_sem, opS_s, opS_sg, opS_b, opS_bg, ↓reduceIte, Nat.reduceAdd, Nat.reduceMul, Nat.reduceSub, Nat.reduceEqDiff, Nat.reduceLeDiff, Nat.reduceLT, Nat.reduceBEq, Int.reduceBEq, Int.reduceBNe, Int.reduceEq, Int.reduceNeg, Int.reduceAdd, Int.reduceSub, Int.reduceMul, List.cons_beq_cons, BEq.rfl, Int.reduceToNat, Int.reduceLE, Int.reduceLT, reduceCtorEq]
      have hfl := hs.fams
      have hff := hq.filter.fams
      refine loopS_list s.fams (fun pre s4 => ⟨[(3, .ptr (h.length + 1) s2 0 0), (4, .ptr (h.length + 2) s3 0 0), (6, .sl (h.length + 3) s4 0 (pre.filter (seenF q)).length), (22, .psl (s.fams.map Family.e)), (23, .int .i64 s.fams.length), (24, .int .i64 pre.length)], h ++ [.arr s1 0 10 [s.e], .arr s2 0 16 [q.e], .arr s3 0 7 [Filter.zero.e], .arr s4 0 5 (((pre.filter (seenF q)).map placeF).map Place.e)]⟩) (fun pre post _ => True) s4 rfl trivial ?_
      rintro pre post s4 hpp hJ
      have hk2 : (pre.filter (seenF q)).length ≤ pre.length := List.length_filter_le _ _
      cases post with
      | nil =>
        have hn := nl0 hpp
        simp only [List.append_nil] at hpp
        simp (maxSteps := 1000000) (disch := omega) only [go_sem, ↓reduceIte, Nat.reduceEqDiff, hn]
        refine callS_exact (fclone_spec _ hq.filter _) ?_
        simp (maxSteps := 1000000) (disch := omega) only [go_sem, ↓reduceIte, Nat.reduceEqDiff]
        refine finS_l ?_
        simp (maxSteps := 1000000) (disch := omega) only [go_sem, ↓reduceIte]
        simp [visF, hk, hc, hpp]
      | cons x post =>
        have hn := nl hpp
        have hf := hs.fam x (by simp [hpp])
        have hx8 := hcols x (by simp [hpp])
        simp (maxSteps := 1000000) (disch := omega) only [go_sem, ↓reduceIte, Nat.reduceAdd, Nat.reduceEqDiff, gml Family.e hpp, hn]
        intro s5
        refine callS_exact (sread_spec x hf.lays _) ?_
        simp (maxSteps := 1000000) (disch := omega) only [go_sem, ↓reduceIte, Nat.reduceEqDiff]
        rw [opEg_some]; refine ⟨fun hg => ?_, fun hg => ?_⟩ <;> try simp only [Bool.and_eq_true, Bool.not_eq_true'] at hg
        · obtain ⟨g1, g2⟩ := hg
          simp (maxSteps := 1000000) (disch := omega) only [go_sem, ↓reduceIte, Nat.reduceEqDiff, g1, g2]
          refine callS_exact (contains_str q.filter.fams x.name hff _) ?_
          simp (maxSteps := 1000000) (disch := omega) only [go_sem, ↓reduceIte, Nat.reduceEqDiff]
          rw [condS_some]; refine ⟨fun hx => ?_, fun hx => ?_⟩
          · skip
            have hs5 : seenF q x = true := by simp [seenF, g1, g2, hx]
            try simp (maxSteps := 1000000) (disch := omega) only [go_sem, ↓reduceIte, Nat.reduceEqDiff]
            refine callS_exact (quals_spec x hx8 _) ?_
            simp (maxSteps := 1000000) (disch := omega) only [go_sem, opS_s, opS_b, ↓reduceIte, Nat.reduceAdd, Nat.reduceMul, Nat.reduceEqDiff, Nat.reduceLeDiff]
            intro s6
            refine ⟨by omega, fun s7 => ?_⟩
            refine lp_next (h.length + 4) s7 hpp trivial ?_ ?_
            · simp (maxSteps := 1000000) (disch := omega) only [go_sem, ↓reduceIte, Nat.reduceEqDiff, wrap64, Int.natCast_add, Int.cast_ofNat_Int, List.filter_append, List.filter_cons_of_pos hs5, List.filter_nil]
            · simp (maxSteps := 1000000) (disch := omega) only [go_sem, List.filter_append, List.map_append, List.filter_cons_of_pos hs5, List.filter_nil]
              all_goals simp [Place.e, placeF]
          · skip
            have hs5 : ¬ seenF q x = true := by simp [seenF, g1, g2, hx]
            try simp (maxSteps := 1000000) (disch := omega) only [go_sem, ↓reduceIte, Nat.reduceEqDiff]
            refine lp_next (h.length + 4) s4 hpp trivial ?_ ?_
            · simp (maxSteps := 1000000) (disch := omega) only [go_sem, ↓reduceIte, Nat.reduceEqDiff, wrap64, Int.natCast_add, Int.cast_ofNat_Int, List.filter_append, List.filter_cons_of_neg hs5]
              all_goals simp
            · simp (maxSteps := 1000000) (disch := omega) only [go_sem, List.filter_append, List.filter_cons_of_neg hs5]
              all_goals simp
        · cases hr : (readF x).isSome with
          | false =>
            cases hz : ((q.filter.fams.length : Int) == 0) with
            | false =>
                simp (maxSteps := 1000000) (disch := omega) only [go_sem, ↓reduceIte, Nat.reduceEqDiff]
                have hs5 : ¬ seenF q x = true := by simp [seenF, hr]
                try simp (maxSteps := 1000000) (disch := omega) only [go_sem, opS_s, opS_sg, opS_b, opS_bg, ↓reduceIte, Nat.reduceAdd, Nat.reduceMul, Nat.reduceSub, Nat.reduceEqDiff, Nat.reduceLeDiff, Nat.reduceLT, Nat.reduceBEq, Int.reduceBEq, Int.reduceBNe, Int.reduceEq, Int.reduceNeg, Int.reduceAdd, Int.reduceSub, Int.reduceMul, List.cons_beq_cons, BEq.rfl, Int.reduceToNat, Int.reduceLE, Int.reduceLT, reduceCtorEq]
                refine lp_next (h.length + 4) s4 hpp trivial ?_ ?_
                · simp (maxSteps := 1000000) (disch := omega) only [go_sem, ↓reduceIte, Nat.reduceEqDiff, wrap64, Int.natCast_add, Int.cast_ofNat_Int, List.filter_append, List.filter_cons_of_neg hs5]
                  all_goals simp
                · simp (maxSteps := 1000000) (disch := omega) only [go_sem, List.filter_append, List.filter_cons_of_neg hs5]
                  all_goals simp
            | true =>
                simp (maxSteps := 1000000) (disch := omega) only [go_sem, ↓reduceIte, Nat.reduceEqDiff]
                have hs5 : ¬ seenF q x = true := by simp [seenF, hr]
                try simp (maxSteps := 1000000) (disch := omega) only [go_sem, opS_s, opS_sg, opS_b, opS_bg, ↓reduceIte, Nat.reduceAdd, Nat.reduceMul, Nat.reduceSub, Nat.reduceEqDiff, Nat.reduceLeDiff, Nat.reduceLT, Nat.reduceBEq, Int.reduceBEq, Int.reduceBNe, Int.reduceEq, Int.reduceNeg, Int.reduceAdd, Int.reduceSub, Int.reduceMul, List.cons_beq_cons, BEq.rfl, Int.reduceToNat, Int.reduceLE, Int.reduceLT, reduceCtorEq]
                refine lp_next (h.length + 4) s4 hpp trivial ?_ ?_
                · simp (maxSteps := 1000000) (disch := omega) only [go_sem, ↓reduceIte, Nat.reduceEqDiff, wrap64, Int.natCast_add, Int.cast_ofNat_Int, List.filter_append, List.filter_cons_of_neg hs5]
                  all_goals simp
                · simp (maxSteps := 1000000) (disch := omega) only [go_sem, List.filter_append, List.filter_cons_of_neg hs5]
                  all_goals simp
          | true =>
            have hz : ((q.filter.fams.length : Int) == 0) = true := by simpa [hr] using hg
            simp (maxSteps := 1000000) (disch := omega) only [go_sem, ↓reduceIte, Nat.reduceEqDiff, hz]
            have hs5 : seenF q x = true := by simp [seenF, hr, hz]
            try simp (maxSteps := 1000000) (disch := omega) only [go_sem, opS_s, opS_sg, opS_b, opS_bg, ↓reduceIte, Nat.reduceAdd, Nat.reduceMul, Nat.reduceSub, Nat.reduceEqDiff, Nat.reduceLeDiff, Nat.reduceLT, Nat.reduceBEq, Int.reduceBEq, Int.reduceBNe, Int.reduceEq, Int.reduceNeg, Int.reduceAdd, Int.reduceSub, Int.reduceMul, List.cons_beq_cons, BEq.rfl, Int.reduceToNat, Int.reduceLE, Int.reduceLT, reduceCtorEq, hr, hz]
            refine callS_exact (quals_spec x hx8 _) ?_
            simp (maxSteps := 1000000) (disch := omega) only [go_sem, opS_s, opS_b, ↓reduceIte, Nat.reduceAdd, Nat.reduceMul, Nat.reduceEqDiff, Nat.reduceLeDiff]
            intro s6
            refine ⟨by omega, fun s7 => ?_⟩
            refine lp_next (h.length + 4) s7 hpp trivial ?_ ?_
            · simp (maxSteps := 1000000) (disch := omega) only [go_sem, ↓reduceIte, Nat.reduceEqDiff, wrap64, Int.natCast_add, Int.cast_ofNat_Int, List.filter_append, List.filter_cons_of_pos hs5, List.filter_nil]
            · simp (maxSteps := 1000000) (disch := omega) only [go_sem, List.filter_append, List.map_append, List.filter_cons_of_pos hs5, List.filter_nil]
              all_goals simp [Place.e, placeF]
  · have g1 := hg
    have hk : ¬ q.kind = 3 := by simpa using hg
    simp (maxSteps := 1000000) (disch := omega) only [go_sem, ↓reduceIte, Nat.reduceAdd, Nat.reduceEqDiff, g1]
    refine finS_l ?_
    simp (maxSteps := 1000000) (disch := omega) only [go_sem]
    all_goals simp [visF, hk]
    rfl
end Go.Ab.S2

/- Contracts: the statements' own fixed write (joistlaw16.one, alive). -/
namespace Go.Ab.S2
open Go.Ab
set_option maxRecDepth 100000

def oneC (x : UInt8) : Column := ⟨[x], 1, 3⟩
def oneFam : Family := ⟨[102], 1, 0, [⟨0, 3⟩], [oneC 112, oneC 113]⟩
def oneS : Schema := ⟨1, [oneFam], Change.zero, 0⟩
def mA1 : Mut := ⟨1, [102], [112], ⟨1, 1, []⟩⟩
def mA2 : Mut := ⟨3, [102], [], Value.zero⟩
def mA3 : Mut := ⟨1, [102], [113], ⟨1, 2, []⟩⟩
def qA : Request := ⟨1, [97], [], [mA1, mA2, mA3], [], [], Value.zero, Filter.zero⟩
def qR : Request := ⟨3, [], [], [], [], [], Value.zero, Filter.zero⟩
def cA1 : Cell := ⟨[97], [102], [], 4, 4, Value.zero⟩
def cA2 : Cell := ⟨[97], [102], [113], 5, 1, ⟨1, 2, []⟩⟩
def lA : Layouted := ⟨[102], [⟨0, 3⟩]⟩
def pA : Place := ⟨[102], 0, 1, 0, [[112], [113]]⟩
theorem a1 : cellsF oneS qA 5 = ([cA1, cA2], 0) := by decide +kernel
theorem a2 : cellsF oneS qA 0 = ([], 18) := by decide +kernel
theorem a3 : visF oneS qR = (Filter.zero, [pA]) := by decide +kernel
theorem a4 : laysF oneS [cA1, cA2] = [lA] := by decide +kernel
theorem a5 : targetsF [lA] cA2 = [0] := by decide +kernel
theorem a6 : formQ qA = true := by decide +kernel
theorem a7 : chkE oneS qA = 0 := by decide +kernel

theorem one_spec : Ans N.joistlaw16_one [] (.agg oneS.e) := by
  intro h
  refine spec_of ck_joistlaw16_one ?_
  rw [wp_start]
  simp (maxSteps := 1000000) (disch := omega) only [go_sem, ↓reduceIte, Nat.reduceAdd, Nat.reduceMul, Nat.reduceEqDiff, Nat.reduceLeDiff, reduceCtorEq, F.joistlaw16_one]
  intro s1 s2 s3 s4
  refine finS_l ?_
  simp (maxSteps := 1000000) (disch := omega) only [go_sem, ↓reduceIte]
  simp [oneS, Schema.e, Family.e, Layout.e, Column.e, oneFam, oneC, Change.zero]

theorem oneS_wf : oneS.wf := by
  refine ⟨by simp [oneS], fun f hf => ?_⟩
  simp [oneS] at hf; subst hf
  refine ⟨by simp [oneFam], by simp [oneFam], by simp [oneFam], fun c hc => ?_⟩
  simp [oneFam] at hc
  rcases hc with rfl | rfl <;> exact ⟨by simp [oneC]⟩
theorem Value.zero_wf : Value.zero.wf := ⟨by simp [Value.zero], by simp [Value.zero], by simp [Value.zero]⟩
theorem Filter.zero_wf : Filter.zero.wf := ⟨by simp [Filter.zero], by simp [Filter.zero], by simp [Filter.zero], by simp [Filter.zero]⟩
theorem qA_wf : qA.wf := by
  refine ⟨by simp [qA], by simp [qA], by simp [qA], fun m hm => ?_, by simp [qA], by simp [qA], Value.zero_wf, Filter.zero_wf⟩
  simp [qA] at hm
  rcases hm with rfl | rfl | rfl
  · exact ⟨by simp [mA1], by simp [mA1], by simp [mA1], by simp [mA1], by simp [mA1]⟩
  · exact ⟨by simp [mA2], by simp [mA2], Value.zero_wf⟩
  · exact ⟨by simp [mA3], by simp [mA3], by simp [mA3], by simp [mA3], by simp [mA3]⟩
theorem qR_wf : qR.wf := ⟨by simp [qR], by simp [qR], by simp [qR], by simp [qR], by simp [qR], by simp [qR], Value.zero_wf, Filter.zero_wf⟩

theorem alive_spec : Ans N.joistlaw16_alive [] (.bool true) := by
  intro h
  refine spec_of ck_joistlaw16_alive ?_
  rw [wp_start]
  simp (maxSteps := 1000000) (disch := omega) only [go_sem, ↓reduceIte, Nat.reduceAdd, Nat.reduceMul, Nat.reduceEqDiff, Nat.reduceLeDiff, F.joistlaw16_alive]
  intro s1 s2
  refine callS_exact (one_spec _) ?_
  simp (maxSteps := 1000000) (disch := omega) only [go_sem, opS_s, ↓reduceIte, Nat.reduceAdd, Nat.reduceEqDiff]
  refine callS_exact (cells_spec oneS qA 5 oneS_wf qA_wf _) ?_
  simp (maxSteps := 1000000) (disch := omega) only [go_sem, ↓reduceIte, Nat.reduceAdd, Nat.reduceEqDiff, a1]
  refine callS_exact (one_spec _) ?_
  simp (maxSteps := 1000000) (disch := omega) only [go_sem, opS_s, ↓reduceIte, Nat.reduceAdd, Nat.reduceEqDiff]
  refine callS_exact (cells_spec oneS qA 0 oneS_wf qA_wf _) ?_
  simp (maxSteps := 1000000) (disch := omega) only [go_sem, ↓reduceIte, Nat.reduceEqDiff, a2]
  refine callS_exact (one_spec _) ?_
  simp (maxSteps := 1000000) (disch := omega) only [go_sem, ↓reduceIte, Nat.reduceAdd, Nat.reduceLeDiff]
  refine callS_exact (visible_spec oneS qR oneS_wf qR_wf _) ?_
  simp (maxSteps := 1000000) (disch := omega) only [go_sem, ↓reduceIte, Nat.reduceAdd, Nat.reduceEqDiff, a3]
  intro s3
  refine callS_exact (one_spec _) ?_
  simp (maxSteps := 1000000) (disch := omega) only [go_sem, ↓reduceIte, Nat.reduceEqDiff]
  refine callS_exact (playouts_spec oneS [cA1, cA2] oneS_wf (by simp) _) ?_
  have z2 : (((2 : Nat) : Int) == 2) = true := rfl
  have z1 : (((1 : Nat) : Int) == 1) = true := rfl
  have q1 : eqCells [1, 1, 1, 0, 0, 0, 0, 1] cA1.e [AV.str [97], AV.str [102], AV.str [], AV.int IntKind.i64 4, AV.int IntKind.i64 4, AV.int IntKind.i64 0, AV.int IntKind.i64 0, AV.str []] = some true := by decide +kernel
  have t5 : (cA2.time == 5) = true := rfl
  have q113 : (cA2.qual == [113]) = true := rfl
  have pq : ((pA.quals.length : Int) == 2) = true := rfl
  simp (maxSteps := 1000000) (disch := omega) only [go_sem, opS_bg, ↓reduceIte, Nat.reduceAdd, Nat.reduceMul, Nat.reduceEqDiff, Nat.reduceLeDiff, BEq.rfl, Int.reduceToNat, Int.reduceLE, a4, z2, z1, q1, t5, q113, pq]
  refine ⟨id, id, id, id, id, ?_⟩
  refine callS_exact (ptargets_spec [lA] cA2 (by simp) (by simp [lA]) _) ?_
  simp (maxSteps := 1000000) (disch := omega) only [go_sem, opS_sg, opS_bg, ↓reduceIte, Nat.reduceAdd, Nat.reduceMul, Nat.reduceEqDiff, Int.reduceToNat, Int.reduceLE, a5]
  refine ⟨id, fun s4 => ?_⟩
  refine callS_exact (sameints_spec [0] [0] (by simp) _) ?_
  have d0 : decide (([0] : List Int) = [0]) = true := rfl
  simp (maxSteps := 1000000) (disch := omega) only [go_sem, ↓reduceIte, Nat.reduceAdd, Nat.reduceEqDiff]
  refine callS_exact (formed_spec qA qA_wf _) ?_
  simp (maxSteps := 1000000) (disch := omega) only [go_sem, ↓reduceIte, Nat.reduceAdd, Nat.reduceEqDiff, a6]
  refine callS_exact (one_spec _) ?_
  simp (maxSteps := 1000000) (disch := omega) only [go_sem, opS_sg, ↓reduceIte, Nat.reduceAdd, Nat.reduceEqDiff]
  refine callS_exact (check_spec oneS qA oneS_wf qA_wf _) ?_
  simp (maxSteps := 1000000) (disch := omega) only [go_sem, ↓reduceIte, Nat.reduceEqDiff, BEq.rfl, a7]
  refine finS_l ?_
  simp (maxSteps := 1000000) (disch := omega) only [go_sem]
end Go.Ab.S2

/- PlanGoes answers true. -/
namespace Go.Ab.S2
open Go.Ab
set_option maxRecDepth 100000

theorem copyCells_own (l : List Cell) (hl : l.length < 1099511627776) (h : Heap) : SpecA PP N.joistref00_CopyCells [.psl (l.map Cell.e)] h (fun r h' => ∃ s, r = .ret (.sl h.length s 0 l.length) ∧ h' = h ++ [.arr s 0 8 (l.map Cell.e)]) := by
  refine spec_of ck_joistref00_CopyCells ?_
  rw [wp_start]
  simp (maxSteps := 1000000) (disch := omega) only [go_sem, ↓reduceIte, Nat.reduceMul, reduceCtorEq, F.joistref00_CopyCells]
  refine fun s => ⟨by omega, fun s2 => ?_⟩
  refine finS_keep ?_
  exact ⟨s2, rfl, rfl⟩

end Go.Ab.S2

/- joistlaw16.PlanGoes, the second form: the row, the card. -/
namespace Go.Proofs.YtghiionknnpajaaGreatDoor
open Go.Ab.S2 Go.Ab Go.ChangeShapes Go.WideShapes Go.ChangeAt Go.RowKit
set_option maxRecDepth 100000

theorem own : ownKnob Tryz.prog.godebug = none := by kernel_rfl

/-- A world for the witness: the settled one, the two variables holding what their initialisers lay. -/
noncomputable def laidWorld (os : Os) : World :=
  let w0 := World.holding Tryz.prog os ⟨#[], #[], []⟩
  let put (h : Array Obj) (g : Nat) (cs : Array Go.Value) : Array Obj := h.modify g fun
    | .cells _ t frozen => .cells cs t frozen
    | o => o
  let h1 := put w0.heap 0 (Lib.firstTab.map fun z => Go.Value.int .u8 z).toArray
  let h2 := put h1 1 ((List.range 16).flatMap fun i => [Go.Value.int .u8 (Lib.accLo i), Go.Value.int .u8 (Lib.accHi i)]).toArray
  { w0 with heap := h2 }

theorem accept_eq : (Rows.laid_unicode_utf8_acceptRanges : DataW Unit) = Lib.acceptData := by kernel_rfl
theorem first_eq : Rows.laid_unicode_utf8_first = Lib.firstData := by kernel_rfl

def laidTwo : List (String × DataW Unit) := [("unicode/utf8.acceptRanges", Rows.laid_unicode_utf8_acceptRanges), ("unicode/utf8.first", Rows.laid_unicode_utf8_first)]

theorem tabs {W : World} (hL : laidMetH Tryz.prog laidTwo W) : Lib.Utf8Tabs 0 1 W :=
  utf8Tabs_of_readsT (U8Types.of196 lays196) ⟨by kernel_rfl, by kernel_rfl, by kernel_rfl, by kernel_rfl, by kernel_rfl, by kernel_rfl, by kernel_rfl⟩
    (by rw [← first_eq]; exact Lib.laidMet.reads hL (.tail _ (.head _))) (by rw [← accept_eq]; exact Lib.laidMet.reads hL (.head _))

theorem laid_met (os : Os) (args : Array Go.Value) : laidMet Tryz.prog laidTwo ((laidWorld os).forCall (fun _ _ => 0) ⟨#[], args, []⟩).memory :=
  (LaidIn.of_run (l := laidTwo) [1, 0] 8 (by kernel_rfl) (by kernel_rfl) (by kernel_rfl) (by kernel_rfl)).met
end Go.Proofs.YtghiionknnpajaaGreatDoor
