/- Texts in order: plain laws. -/
import Derived.Test.YtghiionknnpajaaGreatDoorC10
set_option linter.unusedVariables false
set_option linter.unusedSimpArgs false
namespace Go.Ab.S2
open Go.Ab
set_option maxRecDepth 100000

theorem cmpS_lt : ∀ a b : Str, cmpS a b < 0 ↔ a < b
  | [], [] => by simp [cmpS]
  | [], y :: b => by simp [cmpS]
  | x :: a, [] => by simp [cmpS]
  | x :: a, y :: b => by
    rw [List.cons_lt_cons_iff]
    unfold cmpS
    by_cases h : x = y
    · subst h
      simp [cmpS_lt a b]
    · rw [if_neg h]
      by_cases h2 : x < y
      · simp [h2]
      · simp [h, h2]
theorem cmpS_eq : ∀ a b : Str, cmpS a b = 0 ↔ a = b
  | [], [] => by simp [cmpS]
  | [], y :: b => by simp [cmpS]
  | x :: a, [] => by simp [cmpS]
  | x :: a, y :: b => by
    unfold cmpS
    by_cases h : x = y
    · subst h
      simp [cmpS_eq a b]
    · rw [if_neg h]
      by_cases h2 : x < y
      · simp [h2, h]
      · simp [h, h2]
theorem bl_lt : ∀ a b : Str, Op.bytesLess a b = true ↔ a < b
  | [], [] => by simp [Op.bytesLess]
  | [], y :: b => by simp [Op.bytesLess]
  | x :: a, [] => by simp [Op.bytesLess]
  | x :: a, y :: b => by
    rw [List.cons_lt_cons_iff, Op.bytesLess, Bool.or_eq_true, Bool.and_eq_true, bl_lt a b]
    simp

theorem slt_trans {a b c : Str} (h : a < b) (k : b < c) : a < c := List.lt_trans h k
theorem slt_irrefl (a : Str) : ¬ a < a := List.lt_irrefl a
theorem slt_tri (a b : Str) : a < b ∨ a = b ∨ b < a := by
  rcases Int.lt_trichotomy (cmpS a b) 0 with h | h | h
  · exact .inl ((cmpS_lt a b).1 h)
  · exact .inr (.inl ((cmpS_eq a b).1 h))
  · by_cases h2 : b < a
    · exact .inr (.inr h2)
    · exfalso
      have h3 : ¬ a < b := fun e => by have := (cmpS_lt a b).2 e; omega
      have h4 : ¬ a = b := fun e => by have := (cmpS_eq a b).2 e; omega
      exact h4 (List.le_antisymm (List.not_lt.1 h2) (List.not_lt.1 h3))
/-- Not above. -/
def sle (a b : Str) : Prop := ¬ b < a
theorem sle_trans {a b c : Str} (h : sle a b) (k : sle b c) : sle a c := by
  intro e
  rcases slt_tri a b with h1 | rfl | h1
  · exact k (slt_trans e h1)
  · exact k e
  · exact h h1
theorem slt_sle {a b : Str} (h : a < b) : sle a b := fun e => slt_irrefl a (slt_trans h e)

theorem insGo_perm : ∀ (r : List Str) (x : Str) (B : List Str), (insGo r x B).Perm (x :: (r.reverse ++ B))
  | [], x, B => by simp [insGo]
  | y :: r, x, B => by
    unfold insGo
    split
    · refine (insGo_perm r x (y :: B)).trans ?_
      simp
    · exact List.perm_middle
theorem insGo_sorted : ∀ (r : List Str) (x : Str) (B : List Str), (r.reverse ++ B).Pairwise sle → (∀ b ∈ B, x < b) → (insGo r x B).Pairwise sle
  | [], x, B, h, hx => by
    simp only [List.reverse_nil, List.nil_append] at h
    exact List.pairwise_cons.2 ⟨fun b hb => slt_sle (hx b hb), h⟩
  | y :: r, x, B, h, hx => by
    unfold insGo
    split
    · rename_i hl
      refine insGo_sorted r x (y :: B) (by simpa using h) fun b hb => ?_
      rcases List.mem_cons.1 hb with rfl | hb
      · exact (bl_lt _ _).1 hl
      · exact hx b hb
    · rename_i hl
      have hl : sle y x := fun e => hl ((bl_lt _ _).2 e)
      rw [List.pairwise_append] at h ⊢
      refine ⟨h.1, List.pairwise_cons.2 ⟨fun b hb => slt_sle (hx b hb), h.2.1⟩, fun a ha b hb => ?_⟩
      rcases List.mem_cons.1 hb with rfl | hb
      · rw [List.reverse_cons, List.mem_append] at ha
        rcases ha with ha | ha
        · have h3 := h.1
          rw [List.reverse_cons, List.pairwise_append] at h3
          exact sle_trans (h3.2.2 a ha y (by simp)) hl
        · simp at ha; subst ha; exact hl
      · exact h.2.2 a ha b hb
theorem insR_perm (l : List Str) (x : Str) : (insR l x).Perm (x :: l) := by
  have := insGo_perm l.reverse x []
  simpa [insR] using this
theorem insR_sorted {l : List Str} (x : Str) (h : l.Pairwise sle) : (insR l x).Pairwise sle :=
  insGo_sorted l.reverse x [] (by simpa using h) (by simp)
theorem isort_aux : ∀ (l a : List Str), a.Pairwise sle → (l.foldl insR a).Perm (l ++ a) ∧ (l.foldl insR a).Pairwise sle
  | [], a, h => ⟨by simp, h⟩
  | x :: l, a, h => by
    have ih := isort_aux l (insR a x) (insR_sorted x h)
    refine ⟨ih.1.trans ?_, ih.2⟩
    refine ((insR_perm a x).append_left l).trans ?_
    exact List.perm_middle
theorem isort_perm (l : List Str) : (isort l).Perm l := by
  have := (isort_aux l [] List.Pairwise.nil).1
  simpa [isort] using this
theorem isort_sorted (l : List Str) : (isort l).Pairwise sle := (isort_aux l [] List.Pairwise.nil).2
theorem isort_strict {l : List Str} (h : l.Nodup) : (isort l).Pairwise (fun a b => cmpS a b < 0) := by
  have h1 := isort_sorted l
  have h2 : (isort l).Nodup := (isort_perm l).nodup_iff.2 h
  have := h1.and h2
  refine this.imp fun {a b} h => ?_
  rw [cmpS_lt]
  rcases slt_tri a b with h3 | h3 | h3
  · exact h3
  · exact absurd h3 h.2
  · exact absurd h3 h.1

theorem find_nodup {α β : Type} [BEq β] [LawfulBEq β] (g : α → β) : ∀ {l : List α}, (l.map g).Nodup → ∀ {x : α}, x ∈ l → l.find? (fun y => g y == g x) = some x
  | [], _, x, hx => by simp at hx
  | y :: l, h, x, hx => by
    simp only [List.map_cons, List.nodup_cons] at h
    rw [List.find?_cons]
    rcases List.mem_cons.1 hx with rfl | hx
    · simp
    · have : (g y == g x) = false := by
        rw [beq_eq_false_iff_ne]
        intro e
        exact h.1 (e ▸ List.mem_map_of_mem hx)
      rw [this]
      exact find_nodup g h.2 hx
theorem nodup_sub {α : Type} [DecidableEq α] : ∀ {a b : List α}, a.Nodup → (∀ x ∈ a, x ∈ b) → a.length ≤ b.length
  | [], b, _, _ => Nat.zero_le _
  | x :: a, b, h, hs => by
    rw [List.nodup_cons] at h
    have hx : x ∈ b := hs x (by simp)
    have := nodup_sub (a := a) (b := b.erase x) h.2 fun y hy => by
      have hne : y ≠ x := fun e => h.1 (e ▸ hy)
      exact (List.mem_erase_of_ne hne).2 (hs y (by simp [hy]))
    rw [List.length_erase_of_mem hx] at this
    have : 0 < b.length := List.length_pos_of_mem hx
    simp; omega
end Go.Ab.S2

/- What the references of cells and plans compute: definitions. -/
namespace Go.Ab.S2
open Go.Ab
set_option maxRecDepth 100000

def right02 (v : Value) : Bool :=
  if v.kind = 1 then v.s == ([] : Str) else if v.kind = 2 then v.n == 0 && decide ((v.s.length : Int) ≤ 32)
  else if v.kind = 3 then (v.n == 0 && decide ((v.s.length : Int) ≤ 32)) && Lib.validD v.s
  else if v.kind = 4 then v.s == ([] : Str) && (v.n == 0 || v.n == 1)
  else if v.kind = 5 then v.s == ([] : Str) && fR v.n else false
def right03 (c : Cell) : Bool :=
  if (decide ((c.row.length : Int) < 1) || decide (16 < (c.row.length : Int)) || !nameR c.fam || decide (12 < (c.qual.length : Int)) || decide (c.time < 0) || decide (1099511627776 < c.time)) = true then false
  else if c.kind = 1 then valR c.val else if c.kind = 2 ∨ c.kind = 3 then decide (c.val = Value.zero) else if c.kind = 4 then decide (c.val = Value.zero) && c.qual == ([] : Str) else false

/-- A cell into sorted ones. -/
def insC (x : Cell) : Bool → List Cell → List Cell
  | d, [] => if d then [] else [x]
  | d, y :: r => (if (!d && decide (order x y ≤ 0)) = true then [x] else []) ++ ((if order x y = 0 then [] else [y]) ++ insC x (d || decide (order x y ≤ 0)) r)
def sortS (out : List Cell) (x : Cell) : List Cell := if right03 x then insC x false out else out
def sort06 (l : List Cell) : List Cell := l.foldl sortS []
def killB (c d : Cell) : Bool := (d.row == c.row && d.fam == c.fam) && ((d.kind == 4 && decide (c.time ≤ d.time)) || d.qual == c.qual && ((d.kind == 3 && decide (c.time ≤ d.time)) || (d.kind == 2 && d.time == c.time)))
def lives06 (l : List Cell) (c : Cell) (life now : Int) : Bool := (c.kind == 1 && !(decide (0 < life) && decide (life ≤ IntKind.i64.wrap (now - c.time)))) && !(l.any (killB c))
def laterB (s : List Cell) (x : Cell) (life now : Int) (y : Cell) : Bool := ((((y.row == x.row && y.fam == x.fam) && y.qual == x.qual) && decide (x.time < y.time)) && lives06 s y life now)
def seenB (s : List Cell) (versions life now : Int) (x : Cell) : Bool := lives06 s x life now && decide (((s.countP (laterB s x life now) : Nat) : Int) < versions)
def seen06 (l : List Cell) (versions life now : Int) : List Cell :=
  if versions < 1 ∨ 8 < versions ∨ life < 0 then [] else (sort06 l).filter (seenB (sort06 l) versions life now)

def columnK (s : Schema) (fam qual : Str) : Int :=
  let c := (colF ((findF s fam).getD Family.zero) qual).getD Column.zero
  if famU s fam = true ∧ c.state = 3 then c.kind else 0

def longT (s : Str) : Bool := decide (100 < (s.length : Int))
def longM (m : Mut) : Bool := decide (100 < (m.fam.length : Int)) || decide (100 < (m.qual.length : Int)) || decide (100 < (m.val.s.length : Int))
def longQ0 (q : Request) : Bool := decide (100 < (q.row.length : Int)) || decide (100 < (q.to.length : Int)) || decide (100 < (q.fam.length : Int)) || decide (100 < (q.qual.length : Int)) || decide (100 < (q.val.s.length : Int)) || decide (20 < (q.muts.length : Int)) || decide (20 < (q.filter.fams.length : Int)) || decide (100 < (q.filter.from_.length : Int)) || decide (100 < (q.filter.to.length : Int))
def longRequest (q : Request) : Bool := longQ0 q || q.filter.fams.any longT || q.muts.any longM
end Go.Ab.S2

/- Contracts: what a request's sizes are; families and columns that can be used (joistref16). -/
namespace Go.Ab.S2
open Go.Ab
set_option maxRecDepth 100000

theorem longRequest_spec (q : Request) : Ans N.joistref00_LongRequest [.agg q.e] (.bool (longRequest q)) := by
  intro h
  refine spec_of ck_joistref00_LongRequest ?_
  rw [wp_start]
  simp (maxSteps := 1000000) (disch := omega) only [go_sem, ↓reduceIte, Nat.reduceAdd, Nat.reduceEqDiff, F.joistref00_LongRequest]
  intro t
  rw [condS_some]; refine ⟨fun hx => ?_, fun hx => ?_⟩
  · simp (maxSteps := 1000000) (disch := omega) only [go_sem, ↓reduceIte]
    have hx0 : longQ0 q = true := hx
    refine finS_l ?_
    simp (maxSteps := 1000000) (disch := omega) only [go_sem]
    all_goals simp [longRequest, hx0]
  · simp (maxSteps := 1000000) (disch := omega) only [go_sem, ↓reduceIte, Nat.reduceEqDiff]
    have hx0 : longQ0 q = false := hx
    have hb : q.filter.fams.length ≤ 20 ∧ q.muts.length ≤ 20 := by
      simp only [longQ0, Bool.or_eq_false_iff, decide_eq_false_iff_not] at hx0
      omega
    refine loopS_list q.filter.fams (fun pre (_ : Unit) => ⟨[(1, .ptr h.length t 0 0), (3, .int .i64 pre.length)], h ++ [.arr t 0 16 [q.e]]⟩) (fun pre post _ => q.filter.fams.any longT = post.any longT) () rfl rfl ?_
    rintro pre post ⟨⟩ hpp hJ
    cases post with
    | nil =>
      have hn := nl0 hpp
      simp (maxSteps := 1000000) (disch := omega) only [go_sem, ↓reduceIte, Nat.reduceEqDiff, hn]
      refine loopS_list q.muts (fun pre (_ : Unit) => ⟨[(1, .ptr h.length t 0 0), (4, .int .i64 pre.length)], h ++ [.arr t 0 16 [q.e]]⟩) (fun pre post _ => q.muts.any longM = post.any longM) () rfl rfl ?_
      rintro pre2 post2 ⟨⟩ hpp2 hJ2
      cases post2 with
      | nil =>
        have hn2 := nl0 hpp2
        simp (maxSteps := 1000000) (disch := omega) only [go_sem, ↓reduceIte, Nat.reduceEqDiff, hn2]
        refine finS_l ?_
        simp (maxSteps := 1000000) (disch := omega) only [go_sem]
        all_goals simp [longRequest, hx0, hJ, hJ2]
      | cons y post2 =>
        have hn2 := nl hpp2
        simp (maxSteps := 1000000) (disch := omega) only [go_sem, ↓reduceIte, Nat.reduceAdd, Nat.reduceEqDiff, gml Mut.e hpp2, hn2]
        rw [condS_some]; refine ⟨fun hx => ?_, fun hx => ?_⟩
        · simp (maxSteps := 1000000) (disch := omega) only [go_sem, ↓reduceIte]
          have hx1 : longM y = true := hx
          refine finS_l ?_
          simp (maxSteps := 1000000) (disch := omega) only [go_sem]
          all_goals simp [longRequest, hJ2, hx1]
        · simp (maxSteps := 1000000) (disch := omega) only [go_sem, ↓reduceIte, Nat.reduceEqDiff]
          have hx1 : longM y = false := hx
          refine lp_next (h.length + 1) () hpp2 ?_ ?_ ?_
          · simp [hJ2, hx1]
          · simp (maxSteps := 1000000) (disch := omega) only [go_sem, ↓reduceIte, Nat.reduceEqDiff, wrap64, Int.natCast_add, Int.cast_ofNat_Int]
          · simp (maxSteps := 1000000) (disch := omega) only [go_sem]
    | cons x post =>
      have hn := nl hpp
      simp (maxSteps := 1000000) (disch := omega) only [go_sem, ↓reduceIte, Nat.reduceEqDiff, gstrs hpp, hn]
      rw [condS_some]; refine ⟨fun hx => ?_, fun hx => ?_⟩
      · simp (maxSteps := 1000000) (disch := omega) only [go_sem, ↓reduceIte]
        have hx1 : longT x = true := hx
        refine finS_l ?_
        simp (maxSteps := 1000000) (disch := omega) only [go_sem]
        all_goals simp [longRequest, hJ, hx1]
      · simp (maxSteps := 1000000) (disch := omega) only [go_sem, ↓reduceIte, Nat.reduceEqDiff]
        have hx1 : longT x = false := hx
        refine lp_next (h.length + 1) () hpp ?_ ?_ ?_
        · simp [hJ, hx1]
        · simp (maxSteps := 1000000) (disch := omega) only [go_sem, ↓reduceIte, Nat.reduceEqDiff, wrap64, Int.natCast_add, Int.cast_ofNat_Int]
        · simp (maxSteps := 1000000) (disch := omega) only [go_sem]

def longB (s : Schema) (q : Request) : Bool := longSchema s || longRequest q
theorem long_spec (s : Schema) (q : Request) : Ans N.joistlaw16_long [.agg s.e, .agg q.e] (.bool (longB s q)) := by
  intro h
  refine spec_of ck_joistlaw16_long ?_
  rw [wp_start]
  simp (maxSteps := 1000000) (disch := omega) only [go_sem, ↓reduceIte, Nat.reduceAdd, Nat.reduceEqDiff, reduceCtorEq, F.joistlaw16_long]
  intro t t2
  refine callS_exact (longSchema_spec s _) ?_
  simp (maxSteps := 1000000) (disch := omega) only [go_sem, ↓reduceIte, Nat.reduceEqDiff]
  rw [opEg_some]; refine ⟨fun hg => ?_, fun hg => ?_⟩ <;> try simp only [Bool.not_eq_true', Bool.not_eq_false'] at hg
  · have g1 := hg
    simp (maxSteps := 1000000) (disch := omega) only [go_sem, ↓reduceIte, g1]
    refine callS_exact (longRequest_spec q _) ?_
    simp (maxSteps := 1000000) (disch := omega) only [go_sem, ↓reduceIte, Nat.reduceEqDiff]
    refine finS_l ?_
    simp (maxSteps := 1000000) (disch := omega) only [go_sem, longB, g1]
    all_goals (try simp [longB, g1])
  · have g1 := hg
    simp (maxSteps := 1000000) (disch := omega) only [go_sem, ↓reduceIte, Nat.reduceEqDiff, g1]
    refine finS_l ?_
    simp (maxSteps := 1000000) (disch := omega) only [go_sem, longB, g1]
    all_goals (try simp [longB, g1])

theorem family16_spec (s : Schema) (n : Str) (hs : s.wf) : Ans N.joistref16_Family [.agg s.e, .str n] (.bool (famU s n)) := by
  intro h
  refine spec_of ck_joistref16_Family ?_
  rw [wp_start]
  simp (maxSteps := 1000000) (disch := omega) only [go_sem, ↓reduceIte, Nat.reduceAdd, Nat.reduceEqDiff, reduceCtorEq, F.joistref16_Family]
  intro t
  refine callS_exact (find_spec s n hs _) ?_
  simp (maxSteps := 1000000) (disch := omega) only [go_sem, ↓reduceIte, Nat.reduceAdd, Nat.reduceEqDiff]
  intro t2
  refine callS_exact (read_spec _ (findF_lays hs n).1 _) ?_
  simp (maxSteps := 1000000) (disch := omega) only [go_sem, ↓reduceIte, Nat.reduceEqDiff]
  refine finS_l ?_
  simp (maxSteps := 1000000) (disch := omega) only [go_sem]
  all_goals simp [famU]

theorem column16_spec (s : Schema) (n q : Str) (hs : s.wf) : Ans N.joistref16_Column [.agg s.e, .str n, .str q] (.int .i64 (columnK s n q)) := by
  intro h
  refine spec_of ck_joistref16_Column ?_
  rw [wp_start]
  simp (maxSteps := 1000000) (disch := omega) only [go_sem, ↓reduceIte, Nat.reduceAdd, Nat.reduceEqDiff, reduceCtorEq, F.joistref16_Column]
  intro t
  refine callS_exact (find_spec s n hs _) ?_
  simp (maxSteps := 1000000) (disch := omega) only [go_sem, ↓reduceIte, Nat.reduceAdd, Nat.reduceEqDiff]
  intro t2
  refine callS_exact (column_spec _ q (findF_lays hs n).2 _) ?_
  simp (maxSteps := 1000000) (disch := omega) only [go_sem, ↓reduceIte, Nat.reduceAdd, Nat.reduceEqDiff]
  intro t3
  refine callS_exact (family16_spec s n hs _) ?_
  simp (maxSteps := 1000000) (disch := omega) only [go_sem, ↓reduceIte, Nat.reduceEqDiff]
  rw [condS_some]; refine ⟨fun hx => ?_, fun hx => ?_⟩
  · simp (maxSteps := 1000000) (disch := omega) only [go_sem, ↓reduceIte]
    refine finS_l ?_
    simp (maxSteps := 1000000) (disch := omega) only [go_sem]
    unfold columnK
    dsimp only
    split
    · rename_i hh
      simp [hh] at hx
    · simp
  · simp (maxSteps := 1000000) (disch := omega) only [go_sem, ↓reduceIte]
    refine finS_l ?_
    simp (maxSteps := 1000000) (disch := omega) only [go_sem]
    unfold columnK
    dsimp only
    split
    · simp
    · rename_i hh
      exact absurd (by simpa using hx) hh
end Go.Ab.S2

/- PlanSees answers true. -/
namespace Go.Ab.S2
open Go.Ab
set_option maxRecDepth 100000

theorem chk_sch {s : Schema} {q : Request} (h : chkE s q = 0) : schP s = true ∧ formQ q = true := by
  unfold chkE at h
  split at h
  · simp at h
  · rename_i hx
    simpa only [Bool.or_eq_true, Bool.not_eq_true', not_or, Bool.not_eq_false] using hx
theorem sch_parts {s : Schema} (h : schP s = true) : (s.fams.map Family.name).Nodup ∧ ∀ f ∈ s.fams, famP f = true := by
  simp only [schP, Bool.and_eq_true, Bool.not_eq_true', List.any_eq_false, Bool.not_eq_false, decide_eq_true_eq] at h
  exact ⟨h.1.2, fun f hf => by simpa using h.1.1.2 f hf⟩
theorem fam_parts {f : Family} (h : famP f = true) : (f.cols.map Column.qual).Nodup ∧ ∀ c ∈ f.cols, colBad c = false := by
  simp only [famP, colsP, Bool.and_eq_true, Bool.not_eq_true', List.any_eq_false, decide_eq_true_eq] at h
  exact ⟨h.2.2, fun c hc => by simpa using h.2.1.2 c hc⟩
theorem findF_of {s : Schema} (h : schP s = true) {f : Family} (hf : f ∈ s.fams) : findF s f.name = some f := find_nodup Family.name (sch_parts h).1 hf
theorem colF_of {f : Family} (h : famP f = true) {c : Column} (hc : c ∈ f.cols) : colF f c.qual = some c := find_nodup Column.qual (fam_parts h).1 hc
theorem col_kind {c : Column} (h : colBad c = false) : 1 ≤ c.kind ∧ c.kind ≤ 5 := by
  simp only [colBad, Bool.or_eq_false_iff, decide_eq_false_iff_not] at h
  omega
theorem isort_mem {l : List Str} {x : Str} : x ∈ isort l ↔ x ∈ l := (isort_perm l).mem_iff

theorem columnK_of {s : Schema} (h : schP s = true) {f : Family} (hf : f ∈ s.fams) (hr : (readF f).isSome = true) {x : Str} (hx : x ∈ qualsF f) : columnK s f.name x ≠ 0 := by
  have hp := (sch_parts h).2 f hf
  rw [qualsF, isort_mem, List.mem_map] at hx
  obtain ⟨c, hc, rfl⟩ := hx
  rw [List.mem_filter] at hc
  have hk := col_kind ((fam_parts hp).2 c hc.1)
  unfold columnK famU
  rw [findF_of h hf]
  simp only [Option.getD_some, colF_of hp hc.1, hr, true_and]
  have : c.state = 3 := by simpa [pubC] using hc.2
  rw [if_pos this]
  omega
theorem quals_sorted {f : Family} (h : famP f = true) : (qualsF f).Pairwise (fun a b => cmpS a b < 0) := by
  refine isort_strict ?_
  exact ((fam_parts h).1.sublist ((List.filter_sublist).map _))
theorem pair_next {α : Type} {R : α → α → Prop} {l pre post : List α} {a b : α} (h : l.Pairwise R) (e : l = pre ++ a :: b :: post) : R a b := by
  subst e
  rw [List.pairwise_append, List.pairwise_cons] at h
  exact h.2.1.1 b (by simp)

theorem sees_len {s : Schema} {q : Request} (h : schP s = true) (hq : ¬ (q.filter.fams.length : Int) = 0) : (s.fams.filter (seenF q)).length ≤ q.filter.fams.length := by
  have h1 : ((s.fams.filter (seenF q)).map Family.name).Nodup := (sch_parts h).1.sublist ((List.filter_sublist).map _)
  have := nodup_sub h1 (b := q.filter.fams) fun x hx => by
    rw [List.mem_map] at hx
    obtain ⟨f, hf, rfl⟩ := hx
    rw [List.mem_filter] at hf
    have h2 := hf.2
    simp only [seenF, Bool.and_eq_true, Bool.or_eq_true, beq_iff_eq, hq, false_or, List.any_eq_true] at h2
    obtain ⟨y, hy, e⟩ := h2.2
    rw [e]; exact hy
  simpa using this

theorem sees_spec (s : Schema) (q : Request) (hs : s.wf) (hq : q.wf) : Ans N.joistlaw16_PlanSees [.agg s.e, .agg q.e] (.bool true) := by
  intro h
  refine spec_of ck_joistlaw16_PlanSees ?_
  rw [wp_start]
  simp (maxSteps := 1000000) (disch := omega) only [go_sem, ↓reduceIte, Nat.reduceAdd, Nat.reduceEqDiff, reduceCtorEq, F.joistlaw16_PlanSees]
  intro s1 s2
  refine callS_exact (alive_spec _) ?_
  simp (maxSteps := 1000000) (disch := omega) only [go_sem, ↓reduceIte, Nat.reduceEqDiff]
  refine callS_exact (long_spec s q _) ?_
  simp (maxSteps := 1000000) (disch := omega) only [go_sem, ↓reduceIte, Nat.reduceEqDiff]
  cases hL : longB s q with
  | true =>
    simp (maxSteps := 1000000) (disch := omega) only [go_sem, ↓reduceIte]
    refine finS_l ?_
    simp (maxSteps := 1000000) (disch := omega) only [go_sem]
    all_goals simp []
  | false =>
    simp (maxSteps := 1000000) (disch := omega) only [go_sem, ↓reduceIte, Nat.reduceEqDiff]
    refine callS_exact (visible_spec s q hs hq _) ?_
    simp (maxSteps := 1000000) (disch := omega) only [go_sem, ↓reduceIte, Nat.reduceAdd, Nat.reduceEqDiff]
    intro s3
    refine callS_exact (check_spec s q hs hq _) ?_
    simp (maxSteps := 1000000) (disch := omega) only [go_sem, ↓reduceIte, Nat.reduceEqDiff]
    rw [condS_some]; refine ⟨fun hx => ?_, fun hx => ?_⟩
    · have hv : visF s q = (Filter.zero, []) := by
        unfold visF
        rw [if_neg]
        rintro ⟨h1, h2⟩
        simp [h1, h2] at hx
      have z0 : (((([] : List Place).map Place.e).length : Int) == 0) = true := rfl
      simp (maxSteps := 1000000) (disch := omega) only [go_sem, ↓reduceIte, Nat.reduceEqDiff, hv]
      refine finS_l ?_
      simp (maxSteps := 1000000) (disch := omega) only [go_sem]
      all_goals simp []
    · have hk : q.kind = 3 ∧ chkE s q = 0 := by
        simp only [Bool.or_eq_false_iff, bne_eq_false_iff_eq] at hx
        exact ⟨hx.2, hx.1⟩
      have hv : visF s q = (q.filter, (s.fams.filter (seenF q)).map placeF) := by
        unfold visF
        rw [if_pos hk]
      obtain ⟨hsch, -⟩ := chk_sch hk.2
      have hfl := hs.fams
      have hfl2 := List.length_filter_le (seenF q) s.fams
      simp (maxSteps := 1000000) (disch := omega) only [go_sem, ↓reduceIte, Nat.reduceEqDiff, hv]
      have hlen : ¬ (q.filter.fams.length : Int) = 0 → ((s.fams.filter (seenF q)).map placeF).length ≤ q.filter.fams.length := fun hz => by
        rw [List.length_map]; exact sees_len hsch hz
      have hmem : ∀ x ∈ (s.fams.filter (seenF q)).map placeF, ∃ f ∈ s.fams, (readF f).isSome = true ∧ x = placeF f := by
        intro x hx
        rw [List.mem_map] at hx
        obtain ⟨f, hf, rfl⟩ := hx
        rw [List.mem_filter] at hf
        refine ⟨f, hf.1, ?_, rfl⟩
        have h2 := hf.2
        simp only [seenF, Bool.and_eq_true] at h2
        exact h2.1
      have hLl : ((s.fams.filter (seenF q)).map placeF).length < 1099511627776 := by rw [List.length_map]; omega
      generalize (s.fams.filter (seenF q)).map placeF = L at hlen hmem hLl ⊢
      refine loopS_list L (fun pre (_ : Unit) => ⟨[(2, .ptr h.length s1 0 0), (3, .ptr (h.length + 1) s2 0 0), (6, .psl (L.map Place.e)), (7, .int .i64 pre.length)], h ++ [.arr s1 0 10 [s.e], .arr s2 0 16 [q.e], .arr s3 0 7 [q.filter.e]]⟩) (fun _ _ _ => True) () rfl trivial ?_
      rintro pre post ⟨⟩ hpp hJ
      cases post with
      | nil =>
        have hn := nl0 hpp
        simp (maxSteps := 1000000) (disch := omega) only [go_sem, ↓reduceIte, Nat.reduceEqDiff, hn]
        refine finS_l ?_
        by_cases hz : (q.filter.fams.length : Int) = 0
        · simp (maxSteps := 1000000) (disch := omega) only [go_sem, BEq.rfl, hz]
        · have hz' : ((q.filter.fams.length : Int) == 0) = false := by simpa using hz
          have hlen' := hlen hz
          have hle : decide ((pre.length : Int) ≤ (q.filter.fams.length : Int)) = true := by rw [← hn]; simpa using hlen'
          simp (maxSteps := 1000000) (disch := omega) only [go_sem, hz', hle]
      | cons x post =>
        have hn := nl hpp
        obtain ⟨f, hf, hr, hxf⟩ := hmem x (by simp [hpp])
        have hfind := findF_of hsch hf
        have hff := hs.fam f hf
        have hp := (sch_parts hsch).2 f hf
        obtain ⟨g, hg⟩ := Option.isSome_iff_exists.1 hr
        have hqs := quals_sorted hp
        have hqk : ∀ y ∈ qualsF f, columnK s f.name y ≠ 0 := fun y hy => columnK_of hsch hf hr hy
        have hx1 : x.fam = f.name := by rw [hxf]; rfl
        have hx2 : x.group = g.group := by rw [hxf]; simp [placeF, hg]
        have hx3 : x.versions = f.versions := by rw [hxf]; rfl
        have hx4 : x.life = f.life := by rw [hxf]; rfl
        have hx5 : x.quals = qualsF f := by rw [hxf]; rfl
        have hgp := gml Place.e hpp
        have hql : (qualsF f).length < 1099511627776 := by
          rw [qualsF, isort_len, List.length_map]
          exact Nat.lt_of_le_of_lt (List.length_filter_le _ _) hff.cols
        have hqb : ∀ y ∈ qualsF f, y.length < 1099511627776 := by
          intro y hy
          rw [qualsF, isort_mem, List.mem_map] at hy
          obtain ⟨c, hc, rfl⟩ := hy
          exact (hff.col c (List.mem_filter.1 hc).1).qual
        generalize qualsF f = Q at hx5 hqs hqk hql hqb
        clear hxf
        simp (maxSteps := 1000000) (disch := omega) only [go_sem, ↓reduceIte, Nat.reduceEqDiff, hgp, hn]
        refine callS_exact (find_spec s x.fam hs _) ?_
        simp (maxSteps := 1000000) (disch := omega) only [go_sem, opS_s, ↓reduceIte, Nat.reduceAdd, Nat.reduceEqDiff, hgp, hx1, hfind, Option.getD_some, Option.isSome_some]
        intro s4
        refine callS_exact (read_spec f hff.lays _) ?_
        have e2 : (g.group != g.group) = false := by simp
        have e3 : (f.versions != f.versions) = false := by simp
        have e4 : (f.life != f.life) = false := by simp
        simp (maxSteps := 1000000) (disch := omega) only [go_sem, ↓reduceIte, Nat.reduceEqDiff, hgp, hg, hx2, hx3, hx4, Option.getD_some, Option.isSome_some, e2, e3, e4]
        refine loopS_list Q (fun pre2 (_ : Unit) => ⟨[(2, .ptr h.length s1 0 0), (3, .ptr (h.length + 1) s2 0 0), (6, .psl (L.map Place.e)), (7, .int .i64 pre.length), (12, .int .i64 pre2.length)], h ++ [.arr s1 0 10 [s.e], .arr s2 0 16 [q.e], .arr s3 0 7 [q.filter.e], .arr s4 0 5 [f.e]]⟩) (fun _ _ _ => True) () rfl trivial ?_
        rintro pre2 post2 ⟨⟩ hpp2 hJ2
        cases post2 with
        | nil =>
          have hn2 := nl0 hpp2
          simp (maxSteps := 1000000) (disch := omega) only [go_sem, ↓reduceIte, Nat.reduceEqDiff, hgp, hx5, hn2]
          refine lp_next (h.length + 3) () hpp trivial ?_ ?_
          · simp (maxSteps := 1000000) (disch := omega) only [go_sem, ↓reduceIte, Nat.reduceEqDiff, wrap64, Int.natCast_add, Int.cast_ofNat_Int]
          · simp (maxSteps := 1000000) (disch := omega) only [go_sem]
        | cons y post2 =>
          have hn2 := nl hpp2
          have hyk := hqk y (by simp [hpp2])
          have hyk' : (columnK s f.name y == 0) = false := by simpa using hyk
          have hgs := gstrs hpp2
          rcases List.eq_nil_or_concat pre2 with rfl | ⟨pre0, z, hz⟩
          · have d0 : decide ((0 : Int) < ((0 : Nat) : Int)) = false := rfl
            have dw : IntKind.i64.wrap (((0 : Nat) : Int) - 1) = -1 := rfl
            simp only [List.length_nil] at hgs
            have dl : decide (((0 : Nat) : Int) < (Q.length : Int)) = true := by rw [hn2]; simp
            simp (maxSteps := 1000000) (disch := omega) only [go_sem, ↓reduceIte, Nat.reduceEqDiff, hgp, hx5, dl, hx1, hgs]
            refine callS_exact (column16_spec s f.name y hs _) ?_
            simp (maxSteps := 1000000) (disch := omega) only [go_sem, ↓reduceIte, Nat.reduceEqDiff, Int.reduceNeg, Int.reduceLE, hyk', hgp, hx5, hgs, d0, dw]
            refine lp_next (h.length + 4) () hpp2 trivial ?_ ?_
            · simp (maxSteps := 1000000) (disch := omega) only [go_sem, ↓reduceIte, Nat.reduceEqDiff, Int.reduceAdd, wrap64, Int.cast_ofNat_Int]
            · simp (maxSteps := 1000000) (disch := omega) only [go_sem]
          · rw [List.concat_eq_append] at hz
            subst hz
            have hpp3 : Q = pre0 ++ z :: (y :: post2) := by rw [hpp2]; simp
            have hlt := pair_next hqs hpp3
            have hgz := gstrs hpp3
            simp only [List.length_append, List.length_singleton] at hgs
            have hn3 : Q.length = pre0.length + 1 + (post2.length + 1) := by rw [hn2]; simp
            have dl : decide (((pre0.length + 1 : Nat) : Int) < (Q.length : Int)) = true := by rw [hn3]; simp; omega
            have d0 : decide ((0 : Int) < ((pre0.length + 1 : Nat) : Int)) = true := by rw [decide_eq_true_eq]; omega
            have dw : IntKind.i64.wrap (((pre0.length + 1 : Nat) : Int) - 1) = (pre0.length : Int) := by rw [wrap64 (by omega) (by omega)]; omega
            have dc : decide (0 ≤ cmpS z y) = false := by simpa using hlt
            simp (maxSteps := 1000000) (disch := omega) only [go_sem, ↓reduceIte, Nat.reduceEqDiff, hgp, hx5, dl, hx1, hgs]
            refine callS_exact (column16_spec s f.name y hs _) ?_
            simp (maxSteps := 1000000) (disch := omega) only [go_sem, ↓reduceIte, Nat.reduceEqDiff, hyk', hgp, hx5, hgs, hgz, d0, dw]
            refine callS_exact (texts_spec z y (hqb z (by simp [hpp3])) (hqb y (by simp [hpp2])) _) ?_
            simp (maxSteps := 1000000) (disch := omega) only [go_sem, ↓reduceIte, Nat.reduceEqDiff, dc]
            refine lp_next (h.length + 4) () hpp2 trivial ?_ ?_
            · simp (maxSteps := 1000000) (disch := omega) only [go_sem, ↓reduceIte, Nat.reduceAdd, Nat.reduceEqDiff, Int.reduceAdd, wrap64, Int.natCast_add, Int.cast_ofNat_Int, Int.add_assoc]
            · simp (maxSteps := 1000000) (disch := omega) only [go_sem]
end Go.Ab.S2
