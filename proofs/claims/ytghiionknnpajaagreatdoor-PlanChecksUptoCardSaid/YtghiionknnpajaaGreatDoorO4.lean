/- The cells that a write makes: plain laws. -/
import Derived.Test.YtghiionknnpajaaGreatDoorC17
import Derived.Test.YtghiionknnpajaaGreatDoorC8
set_option linter.unusedVariables false
set_option linter.unusedSimpArgs false
namespace Go.Ab.S2
open Go.Ab
set_option maxRecDepth 100000

def MadeC (s : Schema) (r : Str) (t : Int) (c : Cell) : Prop :=
  c.row = r ∧ nameR c.fam = true ∧ c.qual.length ≤ 12 ∧
  (c.kind = 1 ∧ c.time = t ∧ valR c.val = true ∧ c.val.kind = columnK s c.fam c.qual ∧ columnK s c.fam c.qual ≠ 0 ∧ famU s c.fam = true ∨
   c.kind = 3 ∧ c.time = t - 1 ∧ c.val = Value.zero ∧ columnK s c.fam c.qual ≠ 0 ∧ famU s c.fam = true ∨
   c.kind = 4 ∧ c.time = t - 1 ∧ c.val = Value.zero ∧ c.qual = [] ∧ famU s c.fam = true)
structure Made (s : Schema) (r : Str) (t : Int) (l : List Cell) : Prop where
  c : ∀ c ∈ l, MadeC s r t c
  one : l.Pairwise fun x y => order x y ≠ 0

theorem Made.nil (s : Schema) (r : Str) (t : Int) : Made s r t [] := ⟨by simp, List.Pairwise.nil⟩
theorem Made.add {s : Schema} {r : Str} {t : Int} {l : List Cell} {c : Cell} (h : Made s r t l) (hc : MadeC s r t c) : Made s r t (addF l c) := by
  refine ⟨fun x hx => ?_, ?_⟩
  · rcases addF_mem.1 hx with ⟨hx, -⟩ | rfl
    · exact h.c x hx
    · exact hc
  · unfold addF
    rw [List.pairwise_append]
    refine ⟨h.one.filter _, by simp, fun x hx y hy => ?_⟩
    rw [List.mem_singleton] at hy
    subst hy
    intro e
    rw [List.mem_filter] at hx
    have := needless_true.2 (.inl e)
    rw [this] at hx
    simp at hx
theorem famU_find {s : Schema} {n : Str} (h : famU s n = true) : ∃ f, findF s n = some f ∧ f ∈ s.fams ∧ f.name = n := by
  cases hf : findF s n with
  | none => rw [famU, hf] at h; simp [Family.zero, readF] at h
  | some f => exact ⟨f, rfl, findF_mem hf⟩
theorem sch_fam {s : Schema} (h : schP s = true) {f : Family} (hf : f ∈ s.fams) : nameR f.name = true := by
  have := (sch_parts h).2 f hf
  simp only [famP, Bool.and_eq_true] at this
  exact this.1.1.1.1
theorem valE_zero {s : Schema} (hs : schP s = true) {f q : Str} {x : Value} (h : valE s f q x = 0) : famU s f = true ∧ columnK s f q ≠ 0 ∧ (x.kind ≠ 0 → x.kind = columnK s f q) := by
  unfold valE at h
  split at h
  · simp at h
  · rename_i h1
    simp only [Bool.or_eq_true, Bool.not_eq_true', not_or, Bool.not_eq_false, bne_iff_ne, ne_eq, Decidable.not_not] at h1
    obtain ⟨⟨hu, hc⟩, hst⟩ := h1
    obtain ⟨g, hg, hgm, -⟩ := famU_find hu
    have hk : columnK s f q = ((colF ((findF s f).getD Family.zero) q).getD Column.zero).kind := by
      unfold columnK
      dsimp only
      rw [if_pos ⟨hu, hst⟩]
    rw [hk]
    refine ⟨hu, ?_, ?_⟩
    · rw [hg] at hc ⊢
      obtain ⟨c, hcc⟩ := Option.isSome_iff_exists.1 hc
      rw [hcc]
      have hm : c ∈ g.cols := List.mem_of_find?_eq_some hcc
      have := col_kind ((fam_parts ((sch_parts hs).2 g hgm)).2 c hm)
      show c.kind ≠ 0
      omega
    · intro hx
      split at h
      · simp at h
      · rename_i h2
        simp only [Bool.and_eq_true, bne_iff_ne, ne_eq, not_and, Decidable.not_not] at h2
        exact h2 hx
theorem valR_kind {v : Value} (h : valR v = true) : v.kind ≠ 0 := by
  intro e
  simp [valR, e] at h
theorem firstE_zero {α : Type} {g : α → Int} : ∀ {l : List α}, firstE g l = 0 → ∀ x ∈ l, g x = 0
  | [], _, x, hx => by simp at hx
  | y :: l, h, x, hx => by
    unfold firstE at h
    split at h
    · rename_i hy
      rcases List.mem_cons.1 hx with rfl | hx
      · exact hy
      · exact firstE_zero h x hx
    · rename_i hy; exact absurd h hy
theorem Made.row {s : Schema} (hs : schP s = true) {r : Str} {t : Int} : ∀ (fs : List Family) (l : List Cell), (∀ f ∈ fs, f ∈ s.fams) → Made s r t l → Made s r t (rowF s r t l fs)
  | [], l, _, h => h
  | f :: fs, l, hf, h => by
    rw [rowF]
    refine Made.row hs fs _ (fun g hg => hf g (by simp [hg])) ?_
    split
    · rename_i hu
      exact h.add ⟨rfl, sch_fam hs (hf f (by simp)), by simp, .inr (.inr ⟨rfl, rfl, rfl, rfl, hu⟩)⟩
    · exact h
theorem colN_parts {f q : Str} (h : colN f q = true) : nameR f = true ∧ q.length ≤ 12 := by
  simp only [colN, Bool.and_eq_true, decide_eq_true_eq] at h
  exact ⟨h.1, by omega⟩
theorem Made.mut {s : Schema} (hs : schP s = true) {r : Str} {t : Int} {l : List Cell} (h : Made s r t l) {m : Mut} (hm : mutF m = true) (he : mutE s m = 0) : Made s r t (doF s r t l m) := by
  unfold doF
  unfold mutF at hm
  unfold mutE at he
  by_cases h1 : m.kind = 1
  · simp only [true_or, if_true, h1, Bool.and_eq_true] at hm he ⊢
    obtain ⟨hn, hq⟩ := colN_parts hm.1
    obtain ⟨hu, hk, hkk⟩ := valE_zero hs he
    exact h.add ⟨rfl, hn, hq, .inl ⟨rfl, rfl, hm.2, hkk (valR_kind hm.2), hk, hu⟩⟩
  · simp only [if_neg h1] at hm ⊢
    by_cases h2 : m.kind = 2
    · simp only [if_pos h2, Bool.and_eq_true] at hm ⊢
      rw [if_pos (.inr h2)] at he
      obtain ⟨hn, hq⟩ := colN_parts hm.1
      obtain ⟨hu, hk, -⟩ := valE_zero hs he
      exact h.add ⟨rfl, hn, hq, .inr (.inl ⟨rfl, rfl, rfl, hk, hu⟩)⟩
    · simp only [if_neg h2] at hm ⊢
      rw [if_neg (by omega)] at he
      by_cases h3 : m.kind = 3
      · simp only [if_pos h3, Bool.and_eq_true] at hm he ⊢
        have hu : famU s m.fam = true := by
          unfold namE at he
          split at he
          · assumption
          · simp at he
        exact h.add ⟨rfl, hm.1.1, by simp, .inr (.inr ⟨rfl, rfl, rfl, rfl, hu⟩)⟩
      · simp only [if_neg h3] at hm ⊢
        by_cases h4 : m.kind = 4
        · simp only [if_pos h4]
          exact Made.row hs s.fams l (fun _ h => h) h
        · simp only [if_neg h4]
          exact h
theorem Made.fold {s : Schema} (hs : schP s = true) {r : Str} {t : Int} : ∀ (ms : List Mut) (l : List Cell), Made s r t l → (∀ m ∈ ms, mutF m = true ∧ mutE s m = 0) → Made s r t (ms.foldl (doF s r t) l)
  | [], l, h, _ => h
  | m :: ms, l, h, hm => Made.fold hs ms _ (h.mut hs (hm m (by simp)).1 (hm m (by simp)).2) fun x hx => hm x (by simp [hx])

theorem write_parts {q : Request} (h : writeQ q = true) : 1 ≤ q.row.length ∧ q.row.length ≤ 16 ∧ 1 ≤ q.muts.length ∧ q.muts.length ≤ 8 ∧ ∀ m ∈ q.muts, mutF m = true := by
  simp only [writeQ, Bool.and_eq_true, Bool.not_eq_true', decide_eq_true_eq, beq_eq_false_iff_ne, List.any_eq_false, Bool.not_eq_false] at h
  obtain ⟨⟨⟨⟨⟨⟨h1, h2⟩, -⟩, -⟩, h3⟩, h4⟩, h5⟩ := h
  have := List.length_pos_iff.2 h1
  exact ⟨by omega, by omega, by omega, by omega, fun m hm => by simpa using h5 m hm⟩
theorem form_write {q : Request} (h : formQ q = true) (h3 : q.kind ≠ 3) : writeQ q = true := by
  unfold formQ at h
  rw [if_neg h3] at h
  split at h
  · simp only [Bool.and_eq_true] at h; exact h.1.1.1
  · split at h
    · simp only [Bool.and_eq_true] at h; exact h.1.1
    · simp at h
theorem chk_muts {s : Schema} {q : Request} (h : chkE s q = 0) (h3 : q.kind ≠ 3) : ∀ m ∈ q.muts, mutF m = true ∧ mutE s m = 0 := by
  obtain ⟨hs, hf⟩ := chk_sch h
  have hw := (write_parts (form_write hf h3)).2.2.2.2
  unfold chkE at h
  rw [hs, hf] at h
  simp only [Bool.not_true, Bool.or_self, Bool.false_eq_true, if_false, if_neg h3] at h
  split at h
  · rename_i h2; exact absurd h h2.2
  · exact fun m hm => ⟨hw m hm, firstE_zero h m hm⟩

theorem cells_parts {s : Schema} {q : Request} {t : Int} (h : (cellsF s q t).2 = 0) : chkE s q = 0 ∧ q.kind ≠ 3 ∧ 1 ≤ t ∧ t ≤ 1099511627776 ∧ (cellsF s q t).1 = q.muts.foldl (doF s q.row t) [] := by
  unfold cellsF at h ⊢
  split at h
  · rename_i h1; exact absurd h h1
  · rename_i h1
    split at h
    · simp at h
    · rename_i h2
      split at h
      · simp at h
      · rename_i h3
        rw [if_neg h1, if_neg h2, if_neg h3]
        exact ⟨by omega, h2, by omega, by omega, rfl⟩
theorem cells_err {s : Schema} {q : Request} {t : Int} (h : (cellsF s q t).2 ≠ 0) : (cellsF s q t).1 = [] := by
  unfold cellsF at h ⊢
  split
  · rfl
  · split
    · rfl
    · split
      · rfl
      · rename_i h1 h2 h3
        rw [if_neg h1, if_neg h2, if_neg h3] at h
        simp at h
theorem nameR_len {s : Str} (h : nameR s = true) : s.length ≤ 8 := by
  simp only [nameR, Bool.and_eq_true, decide_eq_true_eq] at h
  omega
theorem valR_len {v : Value} (h : valR v = true) : v.s.length ≤ 32 := by
  have e : ∀ s : Str, (s == ([] : Str)) = true → s.length ≤ 32 := fun s hs => by
    have : s = [] := by simpa using hs
    simp [this]
  unfold valR at h
  split at h
  · exact e _ h
  · split at h
    · simp only [Bool.and_eq_true] at h; exact e _ h.1
    · split at h
      · simp only [Bool.and_eq_true] at h; exact e _ h.1
      · split at h
        · simp only [Bool.and_eq_true, decide_eq_true_eq] at h; omega
        · simp at h
theorem fold_len (s : Schema) (r : Str) (t : Int) : ∀ (ms : List Mut) (l : List Cell), (ms.foldl (doF s r t) l).length ≤ l.length + ms.length * (s.fams.length + 1)
  | [], l => by simp
  | m :: ms, l => by
    rw [List.foldl_cons]
    have h1 := fold_len s r t ms (doF s r t l m)
    have h2 := doF_len s r t l m
    rw [List.length_cons, Nat.add_mul]
    omega
theorem cells_len {s : Schema} {q : Request} {t : Int} (h : (cellsF s q t).2 = 0) : (cellsF s q t).1.length ≤ 56 := by
  obtain ⟨hc, h3, -, -, e⟩ := cells_parts h
  obtain ⟨h1, h2⟩ := chk_bounds hc h3
  rw [e]
  refine Nat.le_trans (fold_len s q.row t q.muts []) ?_
  have := Nat.mul_le_mul h2 (show s.fams.length + 1 ≤ 7 by omega)
  simp only [List.length_nil]
  omega

end Go.Ab.S2

/- The two ways to tell that a schema is right are one: a plain law. -/
namespace Go.Ab.S2
open Go.Ab
set_option maxRecDepth 100000

def accR {α : Type} (ok : α → Bool) (g : α → Str) : List α → List α → Bool
  | _, [] => true
  | p, x :: r => ok x && !(p.any fun d => g d == g x) && accR ok g (p ++ [x]) r
theorem accR_iff {α : Type} (ok : α → Bool) (g : α → Str) : ∀ (p r : List α), accR ok g p r = true ↔ (∀ x ∈ r, ok x = true) ∧ (∀ x ∈ r, ∀ y ∈ p, g y ≠ g x) ∧ (r.map g).Nodup
  | p, [] => by simp [accR]
  | p, x :: r => by
    rw [accR, Bool.and_eq_true, Bool.and_eq_true, accR_iff ok g (p ++ [x]) r]
    simp only [Bool.not_eq_true', List.any_eq_false, beq_iff_eq, List.mem_cons, forall_eq_or_imp, List.mem_append, List.not_mem_nil, or_false, List.map_cons, List.nodup_cons, List.mem_map, not_exists, not_and]
    constructor
    · rintro ⟨⟨h1, h2⟩, h3, h4, h5⟩
      exact ⟨⟨h1, h3⟩, ⟨h2, fun a ha y hy => h4 a ha y (.inl hy)⟩, fun a ha e => h4 a ha x (.inr rfl) e.symm, h5⟩
    · rintro ⟨⟨h1, h3⟩, ⟨h2, h4⟩, h6, h5⟩
      refine ⟨⟨h1, h2⟩, h3, fun a ha y hy => ?_, h5⟩
      rcases hy with hy | rfl
      · exact h4 a ha y hy
      · exact fun e => h6 a ha e.symm
theorem cols_acc : ∀ p r, colsOk p r = accR (fun c => !colBad c) Column.qual p r
  | p, [] => rfl
  | p, c :: r => by rw [colsOk, accR, cols_acc (p ++ [c]) r]
theorem fams_acc : ∀ p r, famsOk p r = accR famR Family.name p r
  | p, [] => rfl
  | p, c :: r => by rw [famsOk, accR, fams_acc (p ++ [c]) r]
theorem cols_iff (l : List Column) (h : l.length ≤ 8) : colsOk [] l = colsP l := by
  have e : decide ((l.length : Int) ≤ 8) = true := by rw [decide_eq_true_eq]; omega
  rw [Bool.eq_iff_iff, cols_acc, accR_iff, colsP, e]
  simp [List.any_eq_false]
theorem lays_iff (l : List Layout) (h1 : 1 ≤ l.length) (h2 : l.length ≤ 2) : (layOk ((l[0]?.map Layout.group).getD 0) 0 l && decide (l.countP (fun l => l.state == 3) < 2)) = laysP l := by
  match l, h1, h2 with
  | [a], _, _ =>
    rw [Bool.eq_iff_iff]
    simp [layOk, layBad, laysP, layGood, List.countP_cons]
    by_cases h3 : a.state = 3 <;> simp [h3] <;> try omega
  | [a, b], _, _ =>
    rw [Bool.eq_iff_iff]
    simp [layOk, layBad, laysP, layGood, List.countP_cons]
    have e : (b.group = a.group) ↔ (a.group = b.group) := ⟨Eq.symm, Eq.symm⟩
    rw [e]
    by_cases h3 : a.state = 3 <;> by_cases h4 : b.state = 3 <;> by_cases h5 : a.group = b.group <;> simp [h3, h4, h5] <;> omega
theorem famR_eq (f : Family) : famR f = famP f := by
  have e0 : fam0 f = false ↔ nameR f.name = true ∧ 1 ≤ f.versions ∧ f.versions ≤ 8 ∧ 0 ≤ f.life ∧ f.life ≤ 1099511627776 ∧ 1 ≤ f.layouts.length ∧ f.layouts.length ≤ 2 ∧ f.cols.length ≤ 8 := by
    unfold fam0
    simp only [Bool.or_eq_false_iff, Bool.not_eq_false', decide_eq_false_iff_not]
    constructor
    · rintro ⟨⟨⟨⟨⟨⟨⟨h, _⟩, _⟩, _⟩, _⟩, _⟩, _⟩, _⟩
      exact ⟨h, by omega, by omega, by omega, by omega, by omega, by omega, by omega⟩
    · rintro ⟨h, _, _, _, _, _, _, _⟩
      exact ⟨⟨⟨⟨⟨⟨⟨h, by omega⟩, by omega⟩, by omega⟩, by omega⟩, by omega⟩, by omega⟩, by omega⟩
  unfold famR famP
  cases hf : fam0 f with
  | false =>
    obtain ⟨a1, a2, a3, a4, a5, a6, a7, a8⟩ := e0.1 hf
    rw [← lays_iff f.layouts a6 a7, ← cols_iff f.cols a8]
    have b2 : decide (1 ≤ f.versions) = true := by simpa using a2
    have b3 : decide (f.versions ≤ 8) = true := by simpa using a3
    have b4 : decide (0 ≤ f.life) = true := by simpa using a4
    have b5 : decide (f.life ≤ 1099511627776) = true := by simpa using a5
    simp only [a1, b2, b3, b4, b5, Bool.not_false, Bool.true_and]
    cases colsOk [] f.cols <;> cases layOk ((f.layouts[0]?.map Layout.group).getD 0) 0 f.layouts <;> simp
  | true =>
    simp only [Bool.not_true, Bool.false_and]
    symm
    rw [Bool.eq_false_iff]
    intro h
    have : fam0 f = false := by
      rw [e0]
      simp only [Bool.and_eq_true, decide_eq_true_eq, laysP, colsP] at h
      obtain ⟨⟨⟨⟨h1, h2⟩, h3⟩, h4⟩, h5⟩ := h
      exact ⟨h1, h2.1, h2.2, h3.1, h3.2, by omega, by omega, by omega⟩
    rw [hf] at this
    cases this
theorem schR_eq (s : Schema) : schR s = schP s := by
  have e1 : famsOk [] s.fams = ((!(s.fams.any fun f => !famP f)) && decide (s.fams.map Family.name).Nodup) := by
    rw [Bool.eq_iff_iff, fams_acc, accR_iff]
    simp only [famR_eq]
    simp [List.any_eq_false]
  have e2 : (!sch0 s) = ((decide (1 ≤ s.version) && decide (s.version ≤ 1099511627776)) && !(decide (6 < (s.fams.length : Int)))) := by
    unfold sch0
    rw [Bool.eq_iff_iff]
    simp
    try omega
  unfold schR schP
  rw [e1, e2]
  simp only [Bool.and_assoc]
end Go.Ab.S2

/- Contracts: may a request be done; the cells that a write makes (joistref16). -/
namespace Go.Ab.S2
open Go.Ab
set_option maxRecDepth 100000

def colE (s : Schema) (fam qual : Str) (v : Value) : Int := if columnK s fam qual = 0 then 12 else if v.kind ≠ 0 ∧ v.kind ≠ columnK s fam qual then 14 else 0
theorem columnE_spec (s : Schema) (fam qual : Str) (v : Value) (hs : s.wf) : Ans N.joistref16_column [.agg s.e, .str fam, .str qual, .agg v.e] (.int .i64 (colE s fam qual v)) := by
  intro h
  refine spec_of ck_joistref16_column ?_
  rw [wp_start]
  simp (maxSteps := 1000000) (disch := omega) only [go_sem, ↓reduceIte, Nat.reduceAdd, Nat.reduceEqDiff, reduceCtorEq, F.joistref16_column]
  intro t t2
  refine callS_exact (column16_spec s fam qual hs _) ?_
  simp (maxSteps := 1000000) (disch := omega) only [go_sem, ↓reduceIte, Nat.reduceEqDiff]
  rw [condS_some]; refine ⟨fun hx => ?_, fun hx => ?_⟩
  · have hk : columnK s fam qual = 0 := by simpa using hx
    simp (maxSteps := 1000000) (disch := omega) only [go_sem, ↓reduceIte]
    refine finS_l ?_
    simp (maxSteps := 1000000) (disch := omega) only [go_sem]
    all_goals simp [colE, hk]
  · have hk : ¬ columnK s fam qual = 0 := by simpa using hx
    simp (maxSteps := 1000000) (disch := omega) only [go_sem, ↓reduceIte, Nat.reduceEqDiff]
    rw [condS_some]; refine ⟨fun hx => ?_, fun hx => ?_⟩
    · simp (maxSteps := 1000000) (disch := omega) only [go_sem, ↓reduceIte]
      refine finS_l ?_
      simp (maxSteps := 1000000) (disch := omega) only [go_sem]
      rw [colE, if_neg hk, if_pos (by simpa using hx)]
    · simp (maxSteps := 1000000) (disch := omega) only [go_sem, ↓reduceIte]
      refine finS_l ?_
      simp (maxSteps := 1000000) (disch := omega) only [go_sem]
      rw [colE, if_neg hk, if_neg (by simpa using hx)]
theorem colE_val {s : Schema} (hs : schP s = true) (fam qual : Str) (v : Value) : colE s fam qual v = valE s fam qual v := by
  unfold colE valE columnK
  dsimp only
  by_cases hu : famU s fam = true
  · obtain ⟨g, hg, hgm, -⟩ := famU_find hu
    rw [hg]
    simp only [Option.getD_some]
    obtain hc | ⟨c, hc⟩ : colF g qual = none ∨ ∃ c, colF g qual = some c := by
      cases colF g qual with
      | none => exact .inl rfl
      | some c => exact .inr ⟨c, rfl⟩
    · simp [hc, Column.zero]
    · have hm : c ∈ g.cols := List.mem_of_find?_eq_some hc
      have hk := col_kind ((fam_parts ((sch_parts hs).2 g hgm)).2 c hm)
      have hk' : ¬ c.kind = 0 := by omega
      by_cases h3 : c.state = 3
      · simp [hc, hu, h3, hk']
      · simp [hc, hu, h3]
  · have hu' : famU s fam = false := by simpa using hu
    simp [hu']

theorem read_muts {q : Request} (h : formQ q = true) (h3 : q.kind = 3) : q.muts = [] := by
  simp only [formQ, h3, if_true, readQ, Bool.and_eq_true, beq_iff_eq] at h
  exact List.eq_nil_of_length_eq_zero h.1.1.1.1.2
theorem write_fams {q : Request} (h : formQ q = true) (h3 : q.kind ≠ 3) : q.filter.fams = [] := by
  have hw := form_write h h3
  simp only [writeQ, Bool.and_eq_true, empF, beq_iff_eq] at hw
  exact List.eq_nil_of_length_eq_zero hw.1.1.1.2.1.1.1.1.1.1
def restE (s : Schema) (q : Request) : Int := if q.kind = 2 ∧ valE s q.fam q.qual q.val ≠ 0 then valE s q.fam q.qual q.val else firstE (mutE s) q.muts
theorem chk_rest {s : Schema} {q : Request} (h1 : schP s = true) (h2 : formQ q = true) : chkE s q = if firstE (namE s) q.filter.fams = 0 then restE s q else firstE (namE s) q.filter.fams := by
  unfold chkE restE
  simp only [h1, h2, Bool.not_true, Bool.or_self, Bool.false_eq_true, if_false]
  by_cases h3 : q.kind = 3
  · have h2' : ¬ (q.kind = 2 ∧ valE s q.fam q.qual q.val ≠ 0) := fun e => by rw [h3] at e; exact absurd e.1 (by decide)
    rw [if_pos h3, read_muts h2 h3, if_neg h2']
    split
    · rename_i h; exact h
    · rfl
  · rw [if_neg h3, write_fams h2 h3]
    rfl

theorem check16_spec (s : Schema) (q : Request) (hs : s.wf) (hq : q.wf) : Ans N.joistref16_Check [.agg s.e, .agg q.e] (.int .i64 (chkE s q)) := by
  intro h
  refine spec_of ck_joistref16_Check ?_
  rw [wp_start]
  simp (maxSteps := 1000000) (disch := omega) only [go_sem, ↓reduceIte, Nat.reduceAdd, Nat.reduceEqDiff, reduceCtorEq, F.joistref16_Check]
  intro t t2
  refine callS_exact (right14_spec s hs _) ?_
  rw [schR_eq]
  cases hS : schP s with
  | false =>
    simp (maxSteps := 1000000) (disch := omega) only [go_sem, ↓reduceIte, Nat.reduceEqDiff]
    refine finS_l ?_
    simp (maxSteps := 1000000) (disch := omega) only [go_sem]
    all_goals simp [chkE, hS]
  | true =>
    simp (maxSteps := 1000000) (disch := omega) only [go_sem, ↓reduceIte, Nat.reduceEqDiff]
    refine callS_exact (formed16_spec q hq _) ?_
    cases hF : formQ q with
    | false =>
      simp (maxSteps := 1000000) (disch := omega) only [go_sem, ↓reduceIte, Nat.reduceEqDiff]
      refine finS_l ?_
      simp (maxSteps := 1000000) (disch := omega) only [go_sem]
      all_goals simp [chkE, hF]
    | true =>
      simp (maxSteps := 1000000) (disch := omega) only [go_sem, ↓reduceIte, Nat.reduceEqDiff]
      have hc := chk_rest hS hF
      have hfw := hq.filter.fams
      have hmw := hq.muts
      refine loopS_list q.filter.fams (fun pre (_ : Unit) => ⟨[(2, .ptr h.length t 0 0), (3, .ptr (h.length + 1) t2 0 0), (5, .int .i64 pre.length)], h ++ [.arr t 0 10 [s.e], .arr t2 0 16 [q.e]]⟩) (fun pre post _ => firstE (namE s) q.filter.fams = firstE (namE s) post) () rfl rfl ?_
      rintro pre post ⟨⟩ hpp hJ
      cases post with
      | cons x post =>
        have hn := nl hpp
        simp (maxSteps := 1000000) (disch := omega) only [go_sem, ↓reduceIte, Nat.reduceEqDiff, gstrs hpp, hn]
        refine callS_exact (family16_spec s x hs _) ?_
        simp (maxSteps := 1000000) (disch := omega) only [go_sem, ↓reduceIte, Nat.reduceEqDiff]
        rw [condS_some]; refine ⟨fun hx => ?_, fun hx => ?_⟩
        · have hu : famU s x = false := by simpa using hx
          have hne : namE s x = 12 := by simp [namE, hu]
          have h12 : chkE s q = 12 := by
            rw [hc, hJ]
            simp [firstE, hne]
          simp (maxSteps := 1000000) (disch := omega) only [go_sem, ↓reduceIte]
          refine finS_l ?_
          simp (maxSteps := 1000000) (disch := omega) only [go_sem]
          all_goals simp [h12]
        · have hu : famU s x = true := by simpa using hx
          simp (maxSteps := 1000000) (disch := omega) only [go_sem, ↓reduceIte, Nat.reduceEqDiff]
          refine lp_next (h.length + 2) () hpp ?_ ?_ ?_
          · rw [hJ]; simp [firstE, namE, hu]
          · simp (maxSteps := 1000000) (disch := omega) only [go_sem, ↓reduceIte, Nat.reduceEqDiff, wrap64, Int.natCast_add, Int.cast_ofNat_Int]
          · simp (maxSteps := 1000000) (disch := omega) only [go_sem]
      | nil =>
        have hn := nl0 hpp
        have hfz : firstE (namE s) q.filter.fams = 0 := hJ
        rw [hfz, if_pos rfl] at hc
        simp (maxSteps := 1000000) (disch := omega) only [go_sem, ↓reduceIte, Nat.reduceEqDiff, hn]
        rw [hc]
        have colv : ∀ a b v, colE s a b v = valE s a b v := colE_val hS
        cases hk : (q.kind == 2)
        · have he : restE s q = if (0 : Int) ≠ 0 then (0 : Int) else firstE (mutE s) q.muts := by
            have hk2 : (q.kind = 2) = (false = true) := by
              simpa using hk
            unfold restE
            simp only [hk2]
            by_cases hz : valE s q.fam q.qual q.val = 0 <;> simp [hz]
          simp (maxSteps := 1000000) (disch := omega) only [go_sem, ↓reduceIte, Nat.reduceEqDiff]
          try (refine callS_exact (columnE_spec s q.fam q.qual q.val hs _) ?_; simp (maxSteps := 1000000) (disch := omega) only [go_sem, opS_s, opS_sg, opS_b, opS_bg, ↓reduceIte, Nat.reduceAdd, Nat.reduceMul, Nat.reduceSub, Nat.reduceEqDiff, Nat.reduceLeDiff, Nat.reduceLT, Nat.reduceBEq, Int.reduceBEq, Int.reduceBNe, Int.reduceEq, Int.reduceNeg, Int.reduceAdd, Int.reduceSub, Int.reduceMul, List.cons_beq_cons, BEq.rfl, Int.reduceToNat, Int.reduceLE, Int.reduceLT, reduceCtorEq, hk, colv])
          refine loopS_list q.muts (fun pre (e : Int) => ⟨[(2, .ptr h.length t 0 0), (3, .ptr (h.length + 1) t2 0 0), (6, .int .i64 e), (7, .int .i64 pre.length)], h ++ [.arr t 0 10 [s.e], .arr t2 0 16 [q.e]]⟩) (fun pre post e => restE s q = if e ≠ 0 then e else firstE (mutE s) post) (0 : Int) rfl he ?_
          rintro pre2 post2 e hpp2 hJ2
          cases post2 with
          | nil =>
            have hn2 := nl0 hpp2
            have hv : restE s q = e := by
              rw [hJ2]
              by_cases hz : e = 0 <;> simp [hz, firstE]
            simp (maxSteps := 1000000) (disch := omega) only [go_sem, ↓reduceIte, Nat.reduceEqDiff, hn2]
            refine finS_l ?_
            simp (maxSteps := 1000000) (disch := omega) only [go_sem]
            all_goals simp [hv]
          | cons m post2 =>
            have hn2 := nl hpp2
            by_cases hz : e = 0
            · subst hz
              have z0 : ((0 : Int) == 0) = true := rfl
              have hJ3 : restE s q = firstE (mutE s) (m :: post2) := by simpa using hJ2
              have hnext : ∀ v, mutE s m = v → restE s q = if v ≠ 0 then v else firstE (mutE s) post2 := by
                rintro v rfl
                rw [hJ3, firstE]
                by_cases hm0 : mutE s m = 0 <;> simp [hm0]
              simp (maxSteps := 1000000) (disch := omega) only [go_sem, ↓reduceIte, Nat.reduceAdd, Nat.reduceEqDiff, BEq.rfl, gml Mut.e hpp2, hn2]
              intro t3
              rw [condS_some]; refine ⟨fun hx => ?_, fun hx => ?_⟩
              · have hk12 : m.kind = 1 ∨ m.kind = 2 := by simpa using hx
                have hk3 : (m.kind == 3) = false := by rw [beq_eq_false_iff_ne]; omega
                simp (maxSteps := 1000000) (disch := omega) only [go_sem, ↓reduceIte, Nat.reduceEqDiff]
                refine callS_exact (columnE_spec s m.fam m.qual m.val hs _) ?_
                simp (maxSteps := 1000000) (disch := omega) only [go_sem, ↓reduceIte, Nat.reduceEqDiff, hk3, colv]
                refine lp_next (h.length + 2) (valE s m.fam m.qual m.val) hpp2 (hnext _ (by simp [mutE, hk12])) ?_ ?_
                · simp (maxSteps := 1000000) (disch := omega) only [go_sem, ↓reduceIte, Nat.reduceEqDiff, wrap64, Int.natCast_add, Int.cast_ofNat_Int]
                · simp (maxSteps := 1000000) (disch := omega) only [go_sem]
              · have hk12 : ¬ (m.kind = 1 ∨ m.kind = 2) := by simpa using hx
                simp (maxSteps := 1000000) (disch := omega) only [go_sem, ↓reduceIte, Nat.reduceEqDiff]
                cases hk3 : (m.kind == 3) with
                | true =>
                  have hk3' : m.kind = 3 := by simpa using hk3
                  simp (maxSteps := 1000000) (disch := omega) only [go_sem, ↓reduceIte, Nat.reduceEqDiff]
                  refine callS_exact (family16_spec s m.fam hs _) ?_
                  simp (maxSteps := 1000000) (disch := omega) only [go_sem, ↓reduceIte, Nat.reduceEqDiff]
                  rw [condS_some]; refine ⟨fun hx => ?_, fun hx => ?_⟩
                  · have hu : famU s m.fam = false := by simpa using hx
                    simp (maxSteps := 1000000) (disch := omega) only [go_sem, ↓reduceIte, Nat.reduceEqDiff]
                    refine lp_next (h.length + 2) 12 hpp2 (hnext _ (by simp [mutE, hk3', namE, hu])) ?_ ?_
                    · simp (maxSteps := 1000000) (disch := omega) only [go_sem, ↓reduceIte, Nat.reduceEqDiff, wrap64, Int.natCast_add, Int.cast_ofNat_Int]
                    · simp (maxSteps := 1000000) (disch := omega) only [go_sem]
                  · have hu : famU s m.fam = true := by simpa using hx
                    simp (maxSteps := 1000000) (disch := omega) only [go_sem, ↓reduceIte, Nat.reduceEqDiff]
                    refine lp_next (h.length + 2) 0 hpp2 (hnext _ (by simp [mutE, hk3', namE, hu])) ?_ ?_
                    · simp (maxSteps := 1000000) (disch := omega) only [go_sem, ↓reduceIte, Nat.reduceEqDiff, wrap64, Int.natCast_add, Int.cast_ofNat_Int]
                    · simp (maxSteps := 1000000) (disch := omega) only [go_sem]
                | false =>
                  have hk3' : ¬ m.kind = 3 := by simpa using hk3
                  simp (maxSteps := 1000000) (disch := omega) only [go_sem, ↓reduceIte, Nat.reduceEqDiff]
                  refine lp_next (h.length + 2) 0 hpp2 (hnext _ (by simp [mutE, hk12, hk3'])) ?_ ?_
                  · simp (maxSteps := 1000000) (disch := omega) only [go_sem, ↓reduceIte, Nat.reduceEqDiff, wrap64, Int.natCast_add, Int.cast_ofNat_Int]
                  · simp (maxSteps := 1000000) (disch := omega) only [go_sem]
            · have hz' : (e == 0) = false := by simpa using hz
              have hv : restE s q = e := by rw [hJ2, if_pos hz]
              simp (maxSteps := 1000000) (disch := omega) only [go_sem, ↓reduceIte, Nat.reduceEqDiff, hn2, hz']
              refine finS_l ?_
              simp (maxSteps := 1000000) (disch := omega) only [go_sem]
              all_goals simp [hv]
        · have he : restE s q = if (valE s q.fam q.qual q.val) ≠ 0 then (valE s q.fam q.qual q.val) else firstE (mutE s) q.muts := by
            have hk2 : (q.kind = 2) = (true = true) := by
              simpa using hk
            unfold restE
            simp only [hk2]
            by_cases hz : valE s q.fam q.qual q.val = 0 <;> simp [hz]
          simp (maxSteps := 1000000) (disch := omega) only [go_sem, ↓reduceIte, Nat.reduceEqDiff]
          try (refine callS_exact (columnE_spec s q.fam q.qual q.val hs _) ?_; simp (maxSteps := 1000000) (disch := omega) only [go_sem, ↓reduceIte, Nat.reduceEqDiff, colv])
          refine loopS_list q.muts (fun pre (e : Int) => ⟨[(2, .ptr h.length t 0 0), (3, .ptr (h.length + 1) t2 0 0), (6, .int .i64 e), (7, .int .i64 pre.length)], h ++ [.arr t 0 10 [s.e], .arr t2 0 16 [q.e]]⟩) (fun pre post e => restE s q = if e ≠ 0 then e else firstE (mutE s) post) (valE s q.fam q.qual q.val) rfl he ?_
          rintro pre2 post2 e hpp2 hJ2
          cases post2 with
          | nil =>
            have hn2 := nl0 hpp2
            have hv : restE s q = e := by
              rw [hJ2]
              by_cases hz : e = 0 <;> simp [hz, firstE]
            simp (maxSteps := 1000000) (disch := omega) only [go_sem, ↓reduceIte, Nat.reduceEqDiff, hn2]
            refine finS_l ?_
            simp (maxSteps := 1000000) (disch := omega) only [go_sem]
            all_goals simp [hv]
          | cons m post2 =>
            have hn2 := nl hpp2
            by_cases hz : e = 0
            · subst hz
              have z0 : ((0 : Int) == 0) = true := rfl
              have hJ3 : restE s q = firstE (mutE s) (m :: post2) := by simpa using hJ2
              have hnext : ∀ v, mutE s m = v → restE s q = if v ≠ 0 then v else firstE (mutE s) post2 := by
                rintro v rfl
                rw [hJ3, firstE]
                by_cases hm0 : mutE s m = 0 <;> simp [hm0]
              simp (maxSteps := 1000000) (disch := omega) only [go_sem, ↓reduceIte, Nat.reduceAdd, Nat.reduceEqDiff, BEq.rfl, gml Mut.e hpp2, hn2]
              intro t3
              rw [condS_some]; refine ⟨fun hx => ?_, fun hx => ?_⟩
              · have hk12 : m.kind = 1 ∨ m.kind = 2 := by simpa using hx
                have hk3 : (m.kind == 3) = false := by rw [beq_eq_false_iff_ne]; omega
                simp (maxSteps := 1000000) (disch := omega) only [go_sem, ↓reduceIte, Nat.reduceEqDiff]
                refine callS_exact (columnE_spec s m.fam m.qual m.val hs _) ?_
                simp (maxSteps := 1000000) (disch := omega) only [go_sem, ↓reduceIte, Nat.reduceEqDiff, hk3, colv]
                refine lp_next (h.length + 2) (valE s m.fam m.qual m.val) hpp2 (hnext _ (by simp [mutE, hk12])) ?_ ?_
                · simp (maxSteps := 1000000) (disch := omega) only [go_sem, ↓reduceIte, Nat.reduceEqDiff, wrap64, Int.natCast_add, Int.cast_ofNat_Int]
                · simp (maxSteps := 1000000) (disch := omega) only [go_sem]
              · have hk12 : ¬ (m.kind = 1 ∨ m.kind = 2) := by simpa using hx
                simp (maxSteps := 1000000) (disch := omega) only [go_sem, ↓reduceIte, Nat.reduceEqDiff]
                cases hk3 : (m.kind == 3) with
                | true =>
                  have hk3' : m.kind = 3 := by simpa using hk3
                  simp (maxSteps := 1000000) (disch := omega) only [go_sem, ↓reduceIte, Nat.reduceEqDiff]
                  refine callS_exact (family16_spec s m.fam hs _) ?_
                  simp (maxSteps := 1000000) (disch := omega) only [go_sem, ↓reduceIte, Nat.reduceEqDiff]
                  rw [condS_some]; refine ⟨fun hx => ?_, fun hx => ?_⟩
                  · have hu : famU s m.fam = false := by simpa using hx
                    simp (maxSteps := 1000000) (disch := omega) only [go_sem, ↓reduceIte, Nat.reduceEqDiff]
                    refine lp_next (h.length + 2) 12 hpp2 (hnext _ (by simp [mutE, hk3', namE, hu])) ?_ ?_
                    · simp (maxSteps := 1000000) (disch := omega) only [go_sem, ↓reduceIte, Nat.reduceEqDiff, wrap64, Int.natCast_add, Int.cast_ofNat_Int]
                    · simp (maxSteps := 1000000) (disch := omega) only [go_sem]
                  · have hu : famU s m.fam = true := by simpa using hx
                    simp (maxSteps := 1000000) (disch := omega) only [go_sem, ↓reduceIte, Nat.reduceEqDiff]
                    refine lp_next (h.length + 2) 0 hpp2 (hnext _ (by simp [mutE, hk3', namE, hu])) ?_ ?_
                    · simp (maxSteps := 1000000) (disch := omega) only [go_sem, ↓reduceIte, Nat.reduceEqDiff, wrap64, Int.natCast_add, Int.cast_ofNat_Int]
                    · simp (maxSteps := 1000000) (disch := omega) only [go_sem]
                | false =>
                  have hk3' : ¬ m.kind = 3 := by simpa using hk3
                  simp (maxSteps := 1000000) (disch := omega) only [go_sem, ↓reduceIte, Nat.reduceEqDiff]
                  refine lp_next (h.length + 2) 0 hpp2 (hnext _ (by simp [mutE, hk12, hk3'])) ?_ ?_
                  · simp (maxSteps := 1000000) (disch := omega) only [go_sem, ↓reduceIte, Nat.reduceEqDiff, wrap64, Int.natCast_add, Int.cast_ofNat_Int]
                  · simp (maxSteps := 1000000) (disch := omega) only [go_sem]
            · have hz' : (e == 0) = false := by simpa using hz
              have hv : restE s q = e := by rw [hJ2, if_pos hz]
              simp (maxSteps := 1000000) (disch := omega) only [go_sem, ↓reduceIte, Nat.reduceEqDiff, hn2, hz']
              refine finS_l ?_
              simp (maxSteps := 1000000) (disch := omega) only [go_sem]
              all_goals simp [hv]
end Go.Ab.S2

/- PlanSeen: plain laws about single parts of a write. -/
namespace Go.Ab.S2
open Go.Ab
set_option maxRecDepth 100000

theorem made_sm {s : Schema} {r : Str} {t : Int} {c : Cell} (h : MadeC s r t c) (hr : r.length ≤ 16) : c.row.length < 1099511627776 ∧ c.fam.length < 1099511627776 ∧ c.qual.length < 1099511627776 ∧ c.val.s.length < 1099511627776 := by
  obtain ⟨e1, e2, e3, e4⟩ := h
  have := nameR_len e2
  refine ⟨by rw [e1]; omega, by omega, by omega, ?_⟩
  rcases e4 with ⟨-, -, hv, -⟩ | ⟨-, -, hv, -⟩ | ⟨-, -, hv, -⟩
  · have := valR_len hv; omega
  · rw [hv]; simp [Value.zero]
  · rw [hv]; simp [Value.zero]

end Go.Ab.S2

/- Contracts: the cells that a write makes (joistref16). -/
namespace Go.Ab.S2
open Go.Ab
set_option maxRecDepth 100000

theorem needless_b (x c : Cell) : needless x c = (order x c == 0 || x.fam == c.fam && (c.kind == 4 || (c.kind == 3 && x.kind == 1) && x.qual == c.qual)) := by
  unfold needless
  by_cases h : order x c = 0
  · simp [h]
  · by_cases h2 : x.fam = c.fam <;> simp [h, h2]
def keepC (c x : Cell) : Bool := !needless x c
theorem add16_spec (l : List Cell) (c : Cell) (hl : l.length < 1000000000) (hw : ∀ x ∈ l, CellSm x) (hc : CellSm c) : Ans N.joistref16_add [.psl (l.map Cell.e), .agg c.e] (.psl ((addF l c).map Cell.e)) := by
  intro h
  refine spec_of ck_joistref16_add ?_
  rw [wp_start]
  simp (maxSteps := 1000000) (disch := omega) only [go_sem, ↓reduceIte, Nat.reduceAdd, Nat.reduceMul, Nat.reduceEqDiff, reduceCtorEq, F.joistref16_add]
  intro t s0
  refine loopS_list l (fun pre (e : Nat × List (List AV)) => ⟨[(0, .psl (l.map Cell.e)), (3, .ptr h.length t 0 0), (5, .sl (h.length + 1) e.1 0 (pre.filter (keepC c)).length), (6, .int .i64 pre.length)], h ++ [.arr t 0 8 [c.e], .arr e.1 0 8 ((pre.filter (keepC c)).map Cell.e ++ e.2)]⟩) (fun _ _ _ => True) (s0, []) rfl trivial ?_
  rintro pre post ⟨s, G⟩ hpp hJ
  simp only
  have hfl := List.length_filter_le (keepC c) pre
  have htk : List.take (pre.filter (keepC c)).length ((pre.filter (keepC c)).map Cell.e ++ G) = (pre.filter (keepC c)).map Cell.e := by
    rw [List.take_append_of_le_length (by simp)]
    exact List.take_of_length_le (by simp)
  cases post with
  | nil =>
    have hn := nl0 hpp
    simp only [List.append_nil] at hpp
    simp (maxSteps := 1000000) (disch := omega) only [go_sem, ↓reduceIte, Nat.reduceAdd, Nat.reduceMul, Nat.reduceEqDiff, reduceCtorEq, hn, htk]
    intro s2
    have hle : (List.filter (keepC c) pre).length ≤ (List.filter (keepC c) pre).length + G.length := by omega
    refine ⟨⟨by omega, by omega⟩, fun s3 => ?_⟩
    refine finS_l ?_
    simp (maxSteps := 1000000) (disch := omega) only [go_sem, ↓reduceIte]
    subst hpp
    simp [addF]
    rw [List.take_of_length_le (by simp)]
    rfl
  | cons x post =>
    have hn := nl hpp
    simp (maxSteps := 1000000) (disch := omega) only [go_sem, ↓reduceIte, Nat.reduceAdd, Nat.reduceMul, Nat.reduceEqDiff, reduceCtorEq, gml Cell.e hpp, hn, htk]
    intro t2 s2
    refine ⟨⟨by omega, by omega⟩, fun s3 => ?_⟩
    refine callS_exact (order03_spec x c (hw x (by simp [hpp])) hc _) ?_
    have hnb := needless_b x c
    have hw1 : IntKind.i64.wrap (((List.filter (keepC c) pre).length : Int) + 1 - 1) = ((List.filter (keepC c) pre).length : Int) := by rw [wrap64 (by omega) (by omega)]; omega
    have hw2 : IntKind.i64.wrap ((((List.filter (keepC c) pre).length + 1 : Nat) : Int) - 1) = ((List.filter (keepC c) pre).length : Int) := by rw [wrap64 (by omega) (by omega)]; omega
    simp (maxSteps := 1000000) (disch := omega) only [go_sem, ↓reduceIte, Nat.reduceEqDiff, reduceCtorEq]
    rw [condS_some]; refine ⟨fun hx => ?_, fun hx => ?_⟩
    · have hk : ¬ keepC c x = true := by
        rw [← hnb] at hx
        simp [keepC, hx]
      have hif : ((List.filter (keepC c) pre).length ≤ (List.filter (keepC c) pre).length + 1) = True := eq_true (by omega)
      simp (maxSteps := 1000000) (disch := omega) only [go_sem, ↓reduceIte, Nat.reduceEqDiff, reduceCtorEq, hw2, hif]
      refine lp_next (h.length + 2) (s3, [x.e]) hpp trivial ?_ ?_
      · simp (maxSteps := 1000000) (disch := omega) only [go_sem, ↓reduceIte, Nat.reduceEqDiff, reduceCtorEq, wrap64, Int.natCast_add, Int.cast_ofNat_Int, List.filter_append, List.filter_cons_of_neg hk, List.filter_nil, List.append_nil]
      · simp (maxSteps := 1000000) (disch := omega) only [go_sem, List.filter_append, List.filter_cons_of_neg hk, List.filter_nil, List.append_nil]
    · have hk : keepC c x = true := by
        rw [← hnb] at hx
        simp [keepC, hx]
      simp (maxSteps := 1000000) (disch := omega) only [go_sem, ↓reduceIte, Nat.reduceEqDiff, reduceCtorEq]
      refine lp_next (h.length + 2) (s3, []) hpp trivial ?_ ?_
      · simp (maxSteps := 1000000) (disch := omega) only [go_sem, ↓reduceIte, Nat.reduceEqDiff, reduceCtorEq, wrap64, Int.natCast_add, Int.cast_ofNat_Int, List.filter_append, List.filter_cons_of_pos hk, List.filter_nil]
      · simp (maxSteps := 1000000) (disch := omega) only [go_sem, List.filter_append, List.filter_cons_of_pos hk, List.filter_nil, List.append_nil, List.map_append]

/-- A value that becomes cells when it is handed on. -/
structure Fz (h : Heap) (a b : AObj) (v : AV) (o : AObj) (out : List Cell) : Prop where
  u : ∀ g, AV.under g v = some v
  f : ∃ o', ∀ n0, n0 ≤ h.length → ∀ r, frz1 n0 (h ++ (a :: b :: o :: r)) v = (.psl (out.map Cell.e), h ++ (a :: b :: o' :: r))
theorem Fz.psl (h : Heap) (a b o : AObj) (out : List Cell) : Fz h a b (.psl (out.map Cell.e)) o out := ⟨fun _ => rfl, o, fun _ _ _ => rfl⟩
theorem Fz.new (h : Heap) (a b : AObj) (s : Nat) : Fz h a b (.sl (h.length + 2) s 0 0) (.arr s 0 8 []) [] := by
  refine ⟨fun _ => rfl, .arr s (max 0 0) 8 [], fun n0 hn r => ?_⟩
  have h1 : n0 ≤ h.length + 2 := by omega
  simp (maxSteps := 1000000) (disch := omega) only [go_sem, ↓reduceIte, h1]

theorem cells16_spec (s : Schema) (q : Request) (time : Int) (hs : s.wf) (hq : q.wf) (ht1 : -9223372036854775808 ≤ time) (ht2 : time < 9223372036854775808) : Ans N.joistref16_Cells [.agg s.e, .agg q.e, .int .i64 time] (.tup [.psl ((cellsF s q time).1.map Cell.e), .int .i64 (cellsF s q time).2]) := by
  intro h
  refine spec_of ck_joistref16_Cells ?_
  rw [wp_start]
  simp (maxSteps := 1000000) (disch := omega) only [go_sem, ↓reduceIte, Nat.reduceAdd, Nat.reduceEqDiff, reduceCtorEq, F.joistref16_Cells]
  intro t1 t2
  refine callS_exact (check16_spec s q hs hq _) ?_
  by_cases h1 : chkE s q = 0
  · have z0 : ((0 : Int) == 0) = true := rfl
    have z1 : ((0 : Int) != 0) = false := rfl
    have y1 : ((10 : Int) == 0) = false := rfl
    have y2 : ((10 : Int) != 0) = true := rfl
    have x2 : ((18 : Int) != 0) = true := rfl
    rw [h1]
    cases hk3 : (q.kind == 3) with
    | true =>
      have k3 : q.kind = 3 := by simpa using hk3
      simp (maxSteps := 1000000) (disch := omega) only [go_sem, ↓reduceIte, Nat.reduceEqDiff, BEq.rfl, hk3, y1, y2]
      refine finS_l ?_
      simp (maxSteps := 1000000) (disch := omega) only [go_sem]
      all_goals simp [cellsF, h1, k3]
    | false =>
      have k3 : ¬ q.kind = 3 := by simpa using hk3
      cases htm : (decide (time < 1) || decide (1099511627776 < time)) with
      | true =>
        have h4 : time < 1 ∨ 1099511627776 < time := by simpa using htm
        simp (maxSteps := 1000000) (disch := omega) only [go_sem, ↓reduceIte, Nat.reduceEqDiff, BEq.rfl, hk3, htm, x2]
        refine finS_l ?_
        simp (maxSteps := 1000000) (disch := omega) only [go_sem]
        all_goals simp [cellsF, h1, k3, h4]
      | false =>
        have h4 : ¬ (time < 1 ∨ 1099511627776 < time) := by simpa using htm
        simp (maxSteps := 1000000) (disch := omega) only [go_sem, ↓reduceIte, Nat.reduceAdd, Nat.reduceMul, Nat.reduceEqDiff, BEq.rfl, z1, hk3, htm]
        intro so
        obtain ⟨hsch, -⟩ := chk_sch h1
        obtain ⟨hfs, hms⟩ := chk_bounds h1 k3
        have hcm := chk_muts h1 k3
        have hrow := (write_parts (form_write (chk_sch h1).2 k3))
        have hwt : IntKind.i64.wrap (time - 1) = time - 1 := by rw [wrap64 (by omega) (by omega)]
        refine loopS_list q.muts (fun pre (e : AV × AObj × List Cell) => ⟨[(2, .int .i64 time), (3, .ptr h.length t1 0 0), (4, .ptr (h.length + 1) t2 0 0), (9, e.1), (10, .int .i64 pre.length)], h ++ [.arr t1 0 10 [s.e], .arr t2 0 16 [q.e], e.2.1]⟩)
          (fun pre post e => Fz h (.arr t1 0 10 [s.e]) (.arr t2 0 16 [q.e]) e.1 e.2.1 e.2.2 ∧ q.muts.foldl (doF s q.row time) [] = post.foldl (doF s q.row time) e.2.2 ∧ Made s q.row time e.2.2 ∧ e.2.2.length + post.length * 7 ≤ 56) (.sl (h.length + 2) so 0 0, .arr so 0 8 [], []) rfl ⟨Fz.new _ _ _ _, rfl, Made.nil _ _ _, by simp; omega⟩ ?_
        rintro pre post ⟨v, o, out⟩ hpp ⟨⟨hu, o', hf⟩, hJ, hM, hlen⟩
        simp only at hu hf hJ hM hlen ⊢
        have hf0 := hf 0 (Nat.zero_le _)
        have hfh := hf h.length (Nat.le_refl _)
        have hsm : ∀ c ∈ out, CellSm c := fun c hc => by
          obtain ⟨a1, a2, a3, a4⟩ := made_sm (hM.c c hc) hrow.2.1
          exact ⟨a1, a2, a3, a4⟩
        cases post with
        | nil =>
          have hn := nl0 hpp
          simp (maxSteps := 1000000) (disch := omega) only [go_sem, ↓reduceIte, Nat.reduceEqDiff, hn, hu]
          refine finS_l ?_
          simp (maxSteps := 1000000) (disch := omega) only [go_sem, hfh]
          simp [cellsF, h1, k3, h4, hJ]
        | cons m post =>
          have hn := nl hpp
          obtain ⟨hm1, hm2⟩ := hcm m (by simp [hpp])
          have hMn := hM.mut hsch hm1 hm2
          have hdl := doF_len s q.row time out m
          simp only [List.length_cons] at hlen
          simp (maxSteps := 1000000) (disch := omega) only [go_sem, ↓reduceIte, Nat.reduceAdd, Nat.reduceEqDiff, Nat.reduceLeDiff, gml Mut.e hpp, hn]
          intro t3
          simp (maxSteps := 1000000) (disch := omega) only [go_sem, hwt]
          intro t4
          have hnew : ∀ c ∈ doF s q.row time out m, CellSm c := fun c hc => by
            obtain ⟨a1, a2, a3, a4⟩ := made_sm (hMn.c c hc) hrow.2.1
            exact ⟨a1, a2, a3, a4⟩
          rw [condS_some]; refine ⟨fun hx => ?_, fun hx => ?_⟩
          · have k1 : m.kind = 1 := by simpa using hx
            have hd : doF s q.row time out m = addF out ⟨q.row, m.fam, m.qual, time, 1, m.val⟩ := by simp [doF, k1]
            rw [hd] at hMn hdl hnew
            simp (maxSteps := 1000000) (disch := omega) only [go_sem, ↓reduceIte, Nat.reduceAdd, Nat.reduceEqDiff, hu, hf0, Value.e]
            refine callS_exact (add16_spec out ⟨q.row, m.fam, m.qual, time, 1, m.val⟩ (by omega) hsm (hnew _ (addF_mem.2 (.inr rfl))) _) ?_
            simp (maxSteps := 1000000) (disch := omega) only [go_sem, ↓reduceIte, Nat.reduceEqDiff]
            refine lp_next (h.length + 3) (.psl ((addF out ⟨q.row, m.fam, m.qual, time, 1, m.val⟩).map Cell.e), o', addF out ⟨q.row, m.fam, m.qual, time, 1, m.val⟩) hpp ⟨Fz.psl _ _ _ _ _, by rw [hJ, List.foldl_cons, hd], hMn, by simp only; omega⟩ ?_ ?_
            · simp (maxSteps := 1000000) (disch := omega) only [go_sem, ↓reduceIte, Nat.reduceEqDiff, wrap64, Int.natCast_add, Int.cast_ofNat_Int]
            · simp (maxSteps := 1000000) (disch := omega) only [go_sem]
          · have k1 : ¬ m.kind = 1 := by simpa using hx
            simp (maxSteps := 1000000) (disch := omega) only [go_sem, ↓reduceIte, Nat.reduceEqDiff]
            rw [condS_some]; refine ⟨fun hx => ?_, fun hx => ?_⟩
            · have k2 : m.kind = 2 := by simpa using hx
              have hz : m.val = Value.zero := by
                simp only [mutF, k2, show ¬ ((2 : Int) = 1) by decide, if_false, if_true, Bool.and_eq_true, decide_eq_true_eq] at hm1
                exact hm1.2
              have hd : doF s q.row time out m = addF out ⟨q.row, m.fam, m.qual, time - 1, 3, Value.zero⟩ := by simp [doF, k2]
              rw [hd] at hMn hdl hnew
              simp (maxSteps := 1000000) (disch := omega) only [go_sem, ↓reduceIte, Nat.reduceAdd, Nat.reduceEqDiff, hu, hf0]
              refine callS_exact (add16_spec out ⟨q.row, m.fam, m.qual, time - 1, 3, Value.zero⟩ (by omega) hsm (hnew _ (addF_mem.2 (.inr rfl))) _) ?_
              simp (maxSteps := 1000000) (disch := omega) only [go_sem, ↓reduceIte, Nat.reduceEqDiff]
              refine lp_next (h.length + 3) (.psl ((addF out ⟨q.row, m.fam, m.qual, time - 1, 3, Value.zero⟩).map Cell.e), o', addF out ⟨q.row, m.fam, m.qual, time - 1, 3, Value.zero⟩) hpp ⟨Fz.psl _ _ _ _ _, by rw [hJ, List.foldl_cons, hd], hMn, by simp only; omega⟩ ?_ ?_
              · simp (maxSteps := 1000000) (disch := omega) only [go_sem, ↓reduceIte, Nat.reduceEqDiff, wrap64, Int.natCast_add, Int.cast_ofNat_Int]
              · simp (maxSteps := 1000000) (disch := omega) only [go_sem]
            · have k2 : ¬ m.kind = 2 := by simpa using hx
              simp (maxSteps := 1000000) (disch := omega) only [go_sem, ↓reduceIte, Nat.reduceEqDiff]
              rw [condS_some]; refine ⟨fun hx => ?_, fun hx => ?_⟩
              · have k3' : m.kind = 3 := by simpa using hx
                have hz : m.qual = [] := by
                  simp only [mutF, k3', show ¬ ((3 : Int) = 1) by decide, show ¬ ((3 : Int) = 2) by decide, if_false, if_true, Bool.and_eq_true, beq_iff_eq] at hm1
                  exact hm1.1.2
                have hd : doF s q.row time out m = addF out ⟨q.row, m.fam, [], time - 1, 4, Value.zero⟩ := by simp [doF, k3']
                rw [hd] at hMn hdl hnew
                simp (maxSteps := 1000000) (disch := omega) only [go_sem, ↓reduceIte, Nat.reduceAdd, Nat.reduceEqDiff, hu, hf0, hz]
                refine callS_exact (add16_spec out ⟨q.row, m.fam, [], time - 1, 4, Value.zero⟩ (by omega) hsm (hnew _ (addF_mem.2 (.inr rfl))) _) ?_
                simp (maxSteps := 1000000) (disch := omega) only [go_sem, ↓reduceIte, Nat.reduceEqDiff]
                refine lp_next (h.length + 3) (.psl ((addF out ⟨q.row, m.fam, [], time - 1, 4, Value.zero⟩).map Cell.e), o', addF out ⟨q.row, m.fam, [], time - 1, 4, Value.zero⟩) hpp ⟨Fz.psl _ _ _ _ _, by rw [hJ, List.foldl_cons, hd], hMn, by simp only; omega⟩ ?_ ?_
                · simp (maxSteps := 1000000) (disch := omega) only [go_sem, ↓reduceIte, Nat.reduceEqDiff, wrap64, Int.natCast_add, Int.cast_ofNat_Int]
                · simp (maxSteps := 1000000) (disch := omega) only [go_sem]
              · have k3' : ¬ m.kind = 3 := by simpa using hx
                simp (maxSteps := 1000000) (disch := omega) only [go_sem, ↓reduceIte, Nat.reduceEqDiff]
                rw [condS_some]; refine ⟨fun hx => ?_, fun hx => ?_⟩
                · have k4 : m.kind = 4 := by simpa using hx
                  have hz : m.qual = [] := by
                    simp only [mutF, k4, show ¬ ((4 : Int) = 1) by decide, show ¬ ((4 : Int) = 2) by decide, show ¬ ((4 : Int) = 3) by decide, if_false, if_true, decide_eq_true_eq] at hm1
                    rw [hm1]
                  have hd : doF s q.row time out m = rowF s q.row time out s.fams := by simp [doF, k4]
                  rw [hd] at hMn hdl hnew
                  simp (maxSteps := 1000000) (disch := omega) only [go_sem, ↓reduceIte, Nat.reduceEqDiff, hz]
                  have hMf : ∀ f ∈ s.fams, famU s f.name = true → MadeC s q.row time ⟨q.row, f.name, [], time - 1, 4, Value.zero⟩ := fun f hf hu => ⟨rfl, sch_fam hsch hf, by simp, .inr (.inr ⟨rfl, rfl, rfl, rfl, hu⟩)⟩
                  refine loopS_list s.fams (fun pre2 (e : AV × AObj × List Cell × Str × Int) => ⟨[(2, .int .i64 time), (3, .ptr h.length t1 0 0), (4, .ptr (h.length + 1) t2 0 0), (9, e.1), (10, .int .i64 pre.length), (12, .ptr (h.length + 4) t4 0 0), (13, .int .i64 pre2.length)], h ++ [.arr t1 0 10 [s.e], .arr t2 0 16 [q.e], e.2.1, .arr t3 0 6 [m.e], .arr t4 0 8 [[.str q.row, .str e.2.2.2.1, .str [], .int .i64 (time - 1), .int .i64 e.2.2.2.2, .int .i64 0, .int .i64 0, .str []]]]⟩)
                    (fun pre2 post2 e => Fz h (.arr t1 0 10 [s.e]) (.arr t2 0 16 [q.e]) e.1 e.2.1 e.2.2.1 ∧ rowF s q.row time out s.fams = rowF s q.row time e.2.2.1 post2 ∧ Made s q.row time e.2.2.1 ∧ e.2.2.1.length + post2.length ≤ out.length + s.fams.length) (v, o, out, m.fam, 0) rfl ⟨⟨hu, o', hf⟩, rfl, hM, Nat.le_refl _⟩ ?_
                  rintro pre2 post2 ⟨v2, o2, out2, f0, k0⟩ hpp2 ⟨⟨hu2, o2', hf2⟩, hJ2, hM2, hlen2⟩
                  simp only at hu2 hf2 hJ2 hM2 hlen2 ⊢
                  have hf20 := hf2 0 (Nat.zero_le _)
                  have hsm2 : ∀ c ∈ out2, CellSm c := fun c hc => by
                    obtain ⟨a1, a2, a3, a4⟩ := made_sm (hM2.c c hc) hrow.2.1
                    exact ⟨a1, a2, a3, a4⟩
                  cases post2 with
                  | nil =>
                    have hn2 := nl0 hpp2
                    simp only [rowF] at hJ2
                    simp (maxSteps := 1000000) (disch := omega) only [go_sem, ↓reduceIte, Nat.reduceEqDiff, hn2]
                    refine lp_next (h.length + 3) (v2, o2, out2) hpp ⟨⟨hu2, o2', hf2⟩, by rw [hJ, List.foldl_cons, hd, hJ2], hM2, ?_⟩ ?_ ?_
                    · simp only
                      rw [List.length_nil] at hlen2
                      omega
                    · simp (maxSteps := 1000000) (disch := omega) only [go_sem, ↓reduceIte, Nat.reduceEqDiff, wrap64, Int.natCast_add, Int.cast_ofNat_Int]
                    · simp (maxSteps := 1000000) (disch := omega) only [go_sem]
                  | cons f post2 =>
                    have hn2 := nl hpp2
                    have hfm : f ∈ s.fams := by simp [hpp2]
                    simp only [List.length_cons] at hlen2
                    simp (maxSteps := 1000000) (disch := omega) only [go_sem, ↓reduceIte, Nat.reduceEqDiff, gml Family.e hpp2, hn2]
                    refine callS_exact (family16_spec s f.name hs _) ?_
                    simp (maxSteps := 1000000) (disch := omega) only [go_sem, ↓reduceIte, Nat.reduceEqDiff]
                    rw [condS_some]; refine ⟨fun hx => ?_, fun hx => ?_⟩
                    · have hM3 := hM2.add (hMf f hfm hx)
                      have hnew3 : CellSm ⟨q.row, f.name, [], time - 1, 4, Value.zero⟩ := by
                        obtain ⟨a1, a2, a3, a4⟩ := made_sm (hMf f hfm hx) hrow.2.1
                        exact ⟨a1, a2, a3, a4⟩
                      have hal := addF_len out2 ⟨q.row, f.name, [], time - 1, 4, Value.zero⟩
                      simp (maxSteps := 1000000) (disch := omega) only [go_sem, ↓reduceIte, Nat.reduceAdd, Nat.reduceEqDiff, gml Family.e hpp2, hu2, hf20]
                      refine callS_exact (add16_spec out2 ⟨q.row, f.name, [], time - 1, 4, Value.zero⟩ (by omega) hsm2 hnew3 _) ?_
                      simp (maxSteps := 1000000) (disch := omega) only [go_sem, ↓reduceIte, Nat.reduceEqDiff]
                      refine lp_next (h.length + 5) (.psl ((addF out2 ⟨q.row, f.name, [], time - 1, 4, Value.zero⟩).map Cell.e), o2', addF out2 ⟨q.row, f.name, [], time - 1, 4, Value.zero⟩, f.name, 4) hpp2 ⟨Fz.psl _ _ _ _ _, by rw [hJ2, rowF, if_pos hx], hM3, by simp only; omega⟩ ?_ ?_
                      · simp (maxSteps := 1000000) (disch := omega) only [go_sem, ↓reduceIte, Nat.reduceEqDiff, wrap64, Int.natCast_add, Int.cast_ofNat_Int]
                      · simp (maxSteps := 1000000) (disch := omega) only [go_sem]
                    · have hx' : ¬ famU s f.name = true := by simpa using hx
                      simp (maxSteps := 1000000) (disch := omega) only [go_sem, ↓reduceIte, Nat.reduceEqDiff]
                      refine lp_next (h.length + 5) (v2, o2, out2, f0, k0) hpp2 ⟨⟨hu2, o2', hf2⟩, by rw [hJ2, rowF, if_neg hx'], hM2, by simp only; omega⟩ ?_ ?_
                      · simp (maxSteps := 1000000) (disch := omega) only [go_sem, ↓reduceIte, Nat.reduceEqDiff, wrap64, Int.natCast_add, Int.cast_ofNat_Int]
                      · simp (maxSteps := 1000000) (disch := omega) only [go_sem]
                · have k4 : ¬ m.kind = 4 := by simpa using hx
                  exfalso
                  simp only [mutF, k1, k2, k3', k4, if_false] at hm1
                  cases hm1
  · have x0 : (chkE s q == 0) = false := by simpa using h1
    have x1 : (chkE s q != 0) = true := by simpa using h1
    simp (maxSteps := 1000000) (disch := omega) only [go_sem, ↓reduceIte, Nat.reduceEqDiff, x0, x1]
    refine finS_l ?_
    simp (maxSteps := 1000000) (disch := omega) only [go_sem]
    all_goals simp [cellsF, h1]
end Go.Ab.S2

/- Contracts: what a read may see (joistref16). -/
namespace Go.Ab.S2
open Go.Ab
set_option maxRecDepth 100000

theorem insGo_split : ∀ (b a B : List Str) (x : Str), (∀ y ∈ b, x < y) → (∀ z ∈ a.getLast?, ¬ x < z) → insGo (a ++ b).reverse x B = a ++ x :: (b ++ B) := by
  intro b
  induction b using snoc_ind with
  | h0 =>
    intro a B x _ ha
    rw [List.append_nil]
    rcases List.eq_nil_or_concat a with rfl | ⟨a', z, rfl⟩
    · simp [insGo]
    · rw [List.concat_eq_append] at ha ⊢
      have hz : ¬ x < z := ha z (by simp)
      have hb : ¬ Op.bytesLess x z = true := fun e => hz ((bl_lt _ _).1 e)
      rw [List.reverse_append]
      simp [insGo, hb]
  | h1 b y ih =>
    intro a B x hb ha
    have hy : Op.bytesLess x y = true := (bl_lt _ _).2 (hb y (by simp))
    have hr : (a ++ (b ++ [y])).reverse = y :: (a ++ b).reverse := by simp
    rw [hr, insGo, if_pos hy, ih a (y :: B) x (fun z hz => hb z (by simp [hz])) ha]
    simp
theorem insR_split (l : List Str) (k : Nat) (x : Str) (h1 : ∀ y ∈ l.drop k, x < y) (h2 : ∀ z ∈ (l.take k).getLast?, ¬ x < z) : insR l x = l.take k ++ x :: l.drop k := by
  have := insGo_split (l.drop k) (l.take k) [] x h1 h2
  rw [List.take_append_drop, List.append_nil] at this
  exact this

def quP (cs : List Column) : List Str := (cs.filter pubC).map Column.qual |>.foldl insR []
set_option maxHeartbeats 2000000 in
theorem visible16_spec (s : Schema) (q : Request) (hs : s.wf) (hq : q.wf) : Ans N.joistref16_Visible [.agg s.e, .agg q.e] (.tup [.agg (visF s q).1.e, .psl ((visF s q).2.map Place.e)]) := by
  intro h
  refine spec_of ck_joistref16_Visible ?_
  rw [wp_start]
  simp (maxSteps := 1000000) (disch := omega) only [go_sem, ↓reduceIte, Nat.reduceAdd, Nat.reduceEqDiff, reduceCtorEq, F.joistref16_Visible]
  intro t1 t2 t3
  cases hk3 : (q.kind == 3) with
  | false =>
    have k3 : ¬ q.kind = 3 := by simpa using hk3
    have n3 : (q.kind != 3) = true := by simpa using k3
    simp (maxSteps := 1000000) (disch := omega) only [go_sem, ↓reduceIte, Nat.reduceAdd, Nat.reduceEqDiff, n3]
    refine finS_l ?_
    simp (maxSteps := 1000000) (disch := omega) only [go_sem]
    all_goals simp [visF, k3]
    rfl
  | true =>
    have k3 : q.kind = 3 := by simpa using hk3
    have n3 : (q.kind != 3) = false := by simpa using k3
    simp (maxSteps := 1000000) (disch := omega) only [go_sem, ↓reduceIte, n3]
    refine callS_exact (check16_spec s q hs hq _) ?_
    simp (maxSteps := 1000000) (disch := omega) only [go_sem, ↓reduceIte, Nat.reduceEqDiff]
    rw [condS_some]; refine ⟨fun hx => ?_, fun hx => ?_⟩
    · have h1 : ¬ chkE s q = 0 := by simpa using hx
      simp (maxSteps := 1000000) (disch := omega) only [go_sem, ↓reduceIte, Nat.reduceAdd, Nat.reduceEqDiff]
      refine finS_l ?_
      simp (maxSteps := 1000000) (disch := omega) only [go_sem]
      all_goals simp [visF, k3, h1]
      rfl
    · have h1 : chkE s q = 0 := by simpa using hx
      simp (maxSteps := 1000000) (disch := omega) only [go_sem, ↓reduceIte, Nat.reduceAdd, Nat.reduceMul, Nat.reduceEqDiff]
      intro t4
      have hcols := chk_cols h1
      have hfl := hs.fams
      have hff := hq.filter.fams
      refine loopS_list s.fams (fun pre t4 => ⟨[(2, .ptr h.length t1 0 0), (3, .ptr (h.length + 1) t2 0 0), (4, .ptr (h.length + 2) t3 0 0), (6, .sl (h.length + 3) t4 0 (pre.filter (seenF q)).length), (7, .int .i64 pre.length)], h ++ [.arr t1 0 10 [s.e], .arr t2 0 16 [q.e], .arr t3 0 7 [[.psl [], .str [], .str [], .int .i64 0, .int .i64 0, .int .i64 0, .int .i64 0]], .arr t4 0 5 (((pre.filter (seenF q)).map placeF).map Place.e)]⟩) (fun pre post _ => True) t4 rfl trivial ?_
      rintro pre post t4 hpp hJ
      have hk2 : (pre.filter (seenF q)).length ≤ pre.length := List.length_filter_le _ _
      cases post with
      | nil =>
        have hn := nl0 hpp
        simp only [List.append_nil] at hpp
        simp (maxSteps := 1000000) (disch := omega) only [go_sem, ↓reduceIte, Nat.reduceEqDiff, hn]
        refine finS_l ?_
        simp (maxSteps := 1000000) (disch := omega) only [go_sem, ↓reduceIte]
        subst hpp
        simp [visF, k3, h1]
      | cons x post =>
        have hn := nl hpp
        have hxf := hs.fam x (by simp [hpp])
        have hx8 := hcols x (by simp [hpp])
        simp (maxSteps := 1000000) (disch := omega) only [go_sem, ↓reduceIte, Nat.reduceAdd, Nat.reduceEqDiff, gml Family.e hpp, hn]
        intro t5
        refine loopS_list q.filter.fams (fun pre2 (b : Bool) => ⟨[(2, .ptr h.length t1 0 0), (3, .ptr (h.length + 1) t2 0 0), (4, .ptr (h.length + 2) t3 0 0), (6, .sl (h.length + 3) t4 0 (pre.filter (seenF q)).length), (7, .int .i64 pre.length), (8, .ptr (h.length + 4) t5 0 0), (9, .bool b), (10, .int .i64 pre2.length)], h ++ [.arr t1 0 10 [s.e], .arr t2 0 16 [q.e], .arr t3 0 7 [[.psl [], .str [], .str [], .int .i64 0, .int .i64 0, .int .i64 0, .int .i64 0]], .arr t4 0 5 (((pre.filter (seenF q)).map placeF).map Place.e), .arr t5 0 5 [x.e]]⟩)
          (fun pre2 _ b => b = (((q.filter.fams.length : Int) == 0) || pre2.any fun y => x.name == y)) ((q.filter.fams.length : Int) == 0) rfl (by simp) ?_
        rintro pre2 post2 b hpp2 hb
        cases post2 with
        | cons y post2 =>
          have hn2 := nl hpp2
          have hyx : (y == x.name) = (x.name == y) := Bool.beq_comm
          have hlt2 : ((pre2.length : Int) < (q.filter.fams.length : Int)) = True := eq_true (by omega)
          simp (maxSteps := 1000000) (disch := omega) only [go_sem, ↓reduceIte, Nat.reduceEqDiff, gstrs hpp2, hlt2, hyx]
          refine lp_next (h.length + 5) (b || x.name == y) hpp2 ?_ ?_ ?_
          · rw [hb]; simp [Bool.or_assoc]
          · simp (maxSteps := 1000000) (disch := omega) only [go_sem, ↓reduceIte, Nat.reduceEqDiff, wrap64, Int.natCast_add, Int.cast_ofNat_Int]
            try cases b <;> rfl
          · simp (maxSteps := 1000000) (disch := omega) only [go_sem]
        | nil =>
          have hn2 := nl0 hpp2
          simp only [List.append_nil] at hpp2
          rw [← hpp2] at hb
          have hsn : seenF q x = ((readF x).isSome && b) := by rw [hb]; rfl
          simp (maxSteps := 1000000) (disch := omega) only [go_sem, ↓reduceIte, Nat.reduceEqDiff, hn2]
          refine callS_exact (read_spec x hxf.lays _) ?_
          simp (maxSteps := 1000000) (disch := omega) only [go_sem, ↓reduceIte, Nat.reduceEqDiff]
          rw [condS_some]; refine ⟨fun hx => ?_, fun hx => ?_⟩
          · have hs5 : ¬ seenF q x = true := by
              rw [hsn]
              rw [Bool.or_eq_true, Bool.not_eq_true', Bool.not_eq_true'] at hx
              rcases hx with h2 | h2 <;> simp [h2]
            simp (maxSteps := 1000000) (disch := omega) only [go_sem, ↓reduceIte, Nat.reduceEqDiff]
            refine lp_next (h.length + 4) t4 hpp trivial ?_ ?_
            · simp (maxSteps := 1000000) (disch := omega) only [go_sem, ↓reduceIte, Nat.reduceEqDiff, wrap64, Int.natCast_add, Int.cast_ofNat_Int, List.filter_append, List.filter_cons_of_neg hs5, List.filter_nil, List.append_nil]
            · simp (maxSteps := 1000000) (disch := omega) only [go_sem, List.filter_append, List.filter_cons_of_neg hs5, List.filter_nil, List.append_nil]
          · have hs5 : seenF q x = true := by
              rw [hsn]
              rw [Bool.or_eq_false_iff, Bool.not_eq_false', Bool.not_eq_false'] at hx
              rw [hx.1, hx.2]; rfl
            have hpl : (placeF x).e = [.str x.name, .int .i64 ((Option.map Layout.group (readF x)).getD 0), .int .i64 x.versions, .int .i64 x.life, .psl (strs (qualsF x))] := rfl
            generalize hO4 : AObj.arr t4 0 5 (((pre.filter (seenF q)).map placeF).map Place.e) = O4
            generalize hO3 : AObj.arr t3 0 7 [[.psl [], .str [], .str [], .int .i64 0, .int .i64 0, .int .i64 0, .int .i64 0]] = O3
            simp (maxSteps := 1000000) (disch := omega) only [go_sem, ↓reduceIte, Nat.reduceAdd, Nat.reduceEqDiff, Nat.reduceLeDiff]
            intro t6
            generalize (Option.map Layout.group (readF x)).getD 0 = gI at hpl ⊢
            refine loopS_list x.cols (fun pre3 (e : AV × List Str × Heap) => ⟨[(2, .ptr h.length t1 0 0), (3, .ptr (h.length + 1) t2 0 0), (4, .ptr (h.length + 2) t3 0 0), (6, .sl (h.length + 3) t4 0 (pre.filter (seenF q)).length), (7, .int .i64 pre.length), (8, .ptr (h.length + 4) t5 0 0), (13, .ptr (h.length + 5) t6 0 0), (14, .int .i64 pre3.length)], h ++ (.arr t1 0 10 [s.e] :: .arr t2 0 16 [q.e] :: O3 :: O4 :: .arr t5 0 5 [x.e] :: .arr t6 0 5 [[.str x.name, .int .i64 gI, .int .i64 x.versions, .int .i64 x.life, e.1]] :: e.2.2)⟩)
              (fun pre3 _ e => quP pre3 = e.2.1 ∧ e.2.1.length ≤ pre3.length ∧ ((e.1 = .psl [] ∧ e.2.1 = [] ∧ e.2.2 = []) ∨ ∃ t7 G, e.1 = .sl (h.length + (G.length + 6)) t7 0 e.2.1.length ∧ e.2.2 = G ++ [.arr t7 0 1 (strs e.2.1)])) (.psl [], [], []) rfl ⟨rfl, Nat.zero_le _, .inl ⟨rfl, rfl, rfl⟩⟩ ?_
            rintro pre3 post3 ⟨V, Qs, GG⟩ hpp3 ⟨hJ3, hQl, hV⟩
            simp only at hJ3 hQl hV ⊢
            have hQ8 : Qs.length ≤ 8 := by have := congrArg List.length hpp3; rw [List.length_append] at this; omega
            cases post3 with
            | nil =>
              have hn3 := nl0 hpp3
              simp only [List.append_nil] at hpp3
              have hqq : Qs = qualsF x := by rw [← hJ3, ← hpp3]; rfl
              rcases hV with ⟨rfl, hQ0, rfl⟩ | ⟨t7, G, rfl, rfl⟩
              · have hqx : qualsF x = [] := by rw [← hqq, hQ0]
                subst hO4
                simp (maxSteps := 1000000) (disch := omega) only [go_sem, ↓reduceIte, Nat.reduceAdd, Nat.reduceMul, Nat.reduceEqDiff, hn3]
                intro t8
                refine ⟨by omega, fun t9 => ?_⟩
                subst hO3
                refine lp_next (h.length + 4) t9 hpp trivial ?_ ?_
                · simp (maxSteps := 1000000) (disch := omega) only [go_sem, ↓reduceIte, Nat.reduceEqDiff, wrap64, Int.natCast_add, Int.cast_ofNat_Int, List.filter_append, List.filter_cons_of_pos hs5, List.filter_nil]
                · rw [hqx] at hpl
                  simp (maxSteps := 1000000) (disch := omega) only [go_sem, List.filter_append, List.filter_cons_of_pos hs5, List.filter_nil, List.map_append, hpl]
                  rfl
              · subst hO4
                simp (maxSteps := 1000000) (disch := omega) only [go_sem, ↓reduceIte, Nat.reduceAdd, Nat.reduceMul, Nat.reduceEqDiff, hn3]
                intro t8
                refine ⟨by omega, fun t9 => ?_⟩
                refine lp_next (h.length + 4) t9 hpp trivial ?_ ?_
                · simp (maxSteps := 1000000) (disch := omega) only [go_sem, ↓reduceIte, Nat.reduceEqDiff, wrap64, Int.natCast_add, Int.cast_ofNat_Int, List.filter_append, List.filter_cons_of_pos hs5, List.filter_nil]
                · simp (maxSteps := 1000000) (disch := omega) only [go_sem, List.filter_append, List.filter_cons_of_pos hs5, List.filter_nil, List.map_append, hpl, hqq]
            | cons c post3 =>
              have hn3 := nl hpp3
              have hgc := gml Column.e hpp3
              by_cases hpub : c.state = 3
              · have hp1 : (c.state != 3) = false := by simpa using hpub
                have hp2 : pubC c = true := by simpa [pubC] using hpub
                rcases hV with ⟨rfl, rfl, rfl⟩ | ⟨t7, G, rfl, rfl⟩
                · simp (maxSteps := 1000000) (disch := omega) only [go_sem, ↓reduceIte, Nat.reduceEqDiff, hgc, hn3, hp1]
                  refine loopS_meas (fun k : Nat => ⟨[(2, .ptr h.length t1 0 0), (3, .ptr (h.length + 1) t2 0 0), (4, .ptr (h.length + 2) t3 0 0), (6, .sl (h.length + 3) t4 0 (pre.filter (seenF q)).length), (7, .int .i64 pre.length), (8, .ptr (h.length + 4) t5 0 0), (13, .ptr (h.length + 5) t6 0 0), (14, .int .i64 pre3.length), (15, .int .i64 k)], h ++ (.arr t1 0 10 [s.e] :: .arr t2 0 16 [q.e] :: O3 :: O4 :: .arr t5 0 5 [x.e] :: .arr t6 0 5 [[.str x.name, .int .i64 gI, .int .i64 x.versions, .int .i64 x.life, .psl []]] :: [])⟩) (fun k => k) (fun k => k = 0) 0 rfl rfl ?_
                  rintro k rfl
                  have d0 : decide ((0 : Int) < ((0 : Nat) : Int)) = false := rfl
                  have dw : IntKind.i64.wrap (((0 : Nat) : Int) - 1) = -1 := rfl
                  simp (maxSteps := 1000000) (disch := omega) only [go_sem, ↓reduceIte, Nat.reduceAdd, Nat.reduceMul, Nat.reduceEqDiff, Nat.reduceLeDiff, Nat.reduceLT, Int.reduceNeg, Int.reduceLE, hgc, d0, dw]
                  intro u1
                  refine ⟨by simp, fun u2 u3 u4 => ⟨by simp, fun u5 => ?_⟩⟩
                  refine lp_next (h.length + 7) (.sl (h.length + 6) u5 0 1, [c.qual], [.arr u5 0 1 (strs [c.qual])]) hpp3 ⟨?_, ?_, .inr ⟨u5, [], rfl, rfl⟩⟩ ?_ ?_
                  · show quP (pre3 ++ [c]) = [c.qual]
                    have h2 : quP (pre3 ++ [c]) = insR (quP pre3) c.qual := by simp [quP, List.filter_append, hp2]
                    rw [h2, hJ3]
                    rfl
                  · simp
                  · simp (maxSteps := 1000000) (disch := omega) only [go_sem, ↓reduceIte, Nat.reduceEqDiff, wrap64, Int.natCast_add, Int.cast_ofNat_Int]
                  · simp (maxSteps := 1000000) (disch := omega) only [go_sem]
                    try rfl
                · simp (maxSteps := 1000000) (disch := omega) only [go_sem, ↓reduceIte, Nat.reduceEqDiff, hgc, hn3, hp1]
                  refine loopS_meas (fun k : Nat => ⟨[(2, .ptr h.length t1 0 0), (3, .ptr (h.length + 1) t2 0 0), (4, .ptr (h.length + 2) t3 0 0), (6, .sl (h.length + 3) t4 0 (pre.filter (seenF q)).length), (7, .int .i64 pre.length), (8, .ptr (h.length + 4) t5 0 0), (13, .ptr (h.length + 5) t6 0 0), (14, .int .i64 pre3.length), (15, .int .i64 k)], h ++ (.arr t1 0 10 [s.e] :: .arr t2 0 16 [q.e] :: O3 :: O4 :: .arr t5 0 5 [x.e] :: .arr t6 0 5 [[.str x.name, .int .i64 gI, .int .i64 x.versions, .int .i64 x.life, .sl (h.length + (G.length + 6)) t7 0 Qs.length]] :: (G ++ [.arr t7 0 1 (strs Qs)]))⟩) (fun k => k) (fun k => k ≤ Qs.length ∧ ∀ y ∈ Qs.drop k, c.qual < y) Qs.length rfl ⟨Nat.le_refl _, by simp⟩ ?_
                  rintro k ⟨hkl, hkd⟩
                  have go : ∀ K : Prop, ((∀ z ∈ (Qs.take k).getLast?, ¬ c.qual < z) → K) → (∀ z, 0 < k → Qs[k - 1]? = some z → c.qual < z → K) → K := by
                    intro K k1 k2
                    cases k with
                    | zero => exact k1 (by simp)
                    | succ k =>
                      obtain ⟨z, hz⟩ := getlt (l := Qs) (k := k) (by omega)
                      by_cases hlt : c.qual < z
                      · exact k2 z (by omega) (by simpa using hz) hlt
                      · refine k1 fun w hw => ?_
                        rw [List.getLast?_take] at hw
                        simp [hz] at hw
                        rw [← hw]; exact hlt
                  cases k with
                  | zero =>
                    have d0 : decide ((0 : Int) < ((0 : Nat) : Int)) = false := rfl
                    have dw : IntKind.i64.wrap (((0 : Nat) : Int) - 1) = -1 := rfl
                    have hsp : insR Qs c.qual = c.qual :: Qs := by
                      have := insR_split Qs 0 c.qual hkd (by simp)
                      simpa using this
                    simp (maxSteps := 1000000) (disch := omega) only [go_sem, ↓reduceIte, Nat.reduceAdd, Nat.reduceMul, Nat.reduceEqDiff, Nat.reduceLeDiff, Nat.reduceLT, Int.reduceNeg, Int.reduceLE, hgc, d0, dw, false_and]
                    intro u1
                    refine ⟨by simp, fun u2 u3 u4 => ⟨by omega, fun u5 => ?_⟩⟩
                    refine lp_next (h.length + (G.length + 8)) (.sl (h.length + (G.length + 7)) u5 0 (1 + Qs.length), insR Qs c.qual, G ++ [.arr t7 0 1 (strs Qs), .arr u5 0 1 (strs (insR Qs c.qual))]) hpp3 ⟨?_, ?_, .inr ⟨u5, G ++ [.arr t7 0 1 (strs Qs)], ?_, ?_⟩⟩ ?_ ?_
                    · show quP (pre3 ++ [c]) = insR Qs c.qual
                      have h2 : quP (pre3 ++ [c]) = insR (quP pre3) c.qual := by simp [quP, List.filter_append, hp2]
                      rw [h2, hJ3]
                    · simp [insR_len]; omega
                    · simp [insR_len]; omega
                    · simp
                    · simp (maxSteps := 1000000) (disch := omega) only [go_sem, ↓reduceIte, Nat.reduceEqDiff, wrap64, Int.natCast_add, Int.cast_ofNat_Int]
                    · simp (maxSteps := 1000000) (disch := omega) only [go_sem, hsp]
                      simp [strs]
                  | succ k =>
                    obtain ⟨z, hz⟩ := getlt (l := Qs) (k := k) (by omega)
                    have hgz : (strs Qs)[k]? = some [.str z] := by simp [strs, hz]
                    have d0 : decide ((0 : Int) < ((k + 1 : Nat) : Int)) = true := by rw [decide_eq_true_eq]; omega
                    have dw : IntKind.i64.wrap (((k + 1 : Nat) : Int) - 1) = (k : Int) := by rw [wrap64 (by omega) (by omega)]; omega
                    have dlt : ((k : Int) < (Qs.length : Int)) = True := eq_true (by omega)
                    have hcq : c.qual.length < 1099511627776 := (hxf.col c (by simp [hpp3])).qual
                    have hzm : z ∈ Qs := List.mem_of_getElem? hz
                    have hzl : z.length < 1099511627776 := by
                      rw [← hJ3] at hzm
                      have hz2 : z ∈ isort ((pre3.filter pubC).map Column.qual) := hzm
                      rw [isort_mem, List.mem_map] at hz2
                      obtain ⟨d, hd, rfl⟩ := hz2
                      exact (hxf.col d (by rw [hpp3]; exact List.mem_append_left _ (List.mem_filter.1 hd).1)).qual
                    simp (maxSteps := 1000000) (disch := omega) only [go_sem, ↓reduceIte, Nat.reduceEqDiff, hgc, d0, dw, dlt, hgz]
                    refine callS_exact (texts_spec c.qual z hcq hzl _) ?_
                    simp (maxSteps := 1000000) (disch := omega) only [go_sem, ↓reduceIte, Nat.reduceEqDiff]
                    rw [condS_some]; refine ⟨fun hx => ?_, fun hx => ?_⟩
                    · have hlt : c.qual < z := by
                        rw [decide_eq_true_eq, cmpS_lt] at hx
                        exact hx
                      simp (maxSteps := 1000000) (disch := omega) only [go_sem, ↓reduceIte, Nat.reduceEqDiff, dw]
                      refine lpm_next (h.length + (G.length + 7)) k (Nat.lt_succ_self k) ⟨by omega, ?_⟩ ?_ ?_
                      · rw [dropc hz]
                        intro y hy
                        rcases List.mem_cons.1 hy with rfl | hy
                        · exact hlt
                        · exact hkd y hy
                      · simp (maxSteps := 1000000) (disch := omega) only [go_sem, ↓reduceIte, Nat.reduceEqDiff]
                      · simp (maxSteps := 1000000) (disch := omega) only [go_sem]
                    · have hlt : ¬ c.qual < z := by
                        rw [decide_eq_false_iff_not, cmpS_lt] at hx
                        exact hx
                      have hsp : insR Qs c.qual = Qs.take (k + 1) ++ c.qual :: Qs.drop (k + 1) := by
                        refine insR_split Qs (k + 1) c.qual hkd fun w hw => ?_
                        rw [List.getLast?_take] at hw
                        simp [hz] at hw
                        rw [← hw]; exact hlt
                      have hif : (k + 1 ≤ Qs.length) = True := eq_true (by omega)
                      have htk : List.take (k + 1) (strs Qs) = strs (Qs.take (k + 1)) := by simp [strs, List.map_take]
                      have hdk : List.drop (k + 1) (strs Qs) = strs (Qs.drop (k + 1)) := by simp [strs, List.map_drop]
                      have hmin : (Qs.take (k + 1)).length = k + 1 := by rw [List.length_take]; omega
                      have hPl : (Qs.take (k + 1)).length ≤ 8 := by omega
                      have hjn : quP (pre3 ++ [c]) = insR Qs c.qual := by
                        have h2 : quP (pre3 ++ [c]) = insR (quP pre3) c.qual := by simp [quP, List.filter_append, hp2]
                        rw [h2, hJ3]
                      have htk3 : List.take (k + 2) (strs (Qs.take (k + 1) ++ [c.qual])) = strs (Qs.take (k + 1) ++ [c.qual]) := List.take_of_length_le (by simp [strs]; omega)
                      have htk4 : List.take (k + 2) (List.take (k + 1) (strs (Qs.take (k + 1))) ++ [[AV.str c.qual]]) = strs (Qs.take (k + 1) ++ [c.qual]) := by
                        rw [List.take_of_length_le (l := strs (Qs.take (k + 1))) (by simp [strs]; omega), List.take_of_length_le (by simp [strs]; omega)]
                        simp [strs]
                      have hje : strs (Qs.take (k + 1) ++ [c.qual]) ++ strs (Qs.drop (k + 1)) = strs (Qs.take (k + 1) ++ c.qual :: Qs.drop (k + 1)) := by simp [strs]
                      have hif2 : (k + (1 + (Qs.length - (k + 1))) ≤ Qs.length) = True := eq_true (by omega)
                      have htk2 : List.take (Qs.length - (k + 1)) (strs (Qs.drop (k + 1))) = strs (Qs.drop (k + 1)) := List.take_of_length_le (by simp [strs])
                      simp (maxSteps := 1000000) (disch := omega) only [go_sem, ↓reduceIte, Nat.reduceAdd, Nat.reduceMul, Nat.reduceEqDiff, reduceCtorEq]
                      intro u1
                      by_cases hkn : k + 1 < Qs.length
                      · have hkn' : (k + 1 < Qs.length) = True := eq_true hkn
                        have hDl : (Qs.drop (k + 1)).length = Qs.length - (k + 1) := List.length_drop
                        have hle3 : k + (2 + (Qs.drop (k + 1)).length) = Qs.length + 1 := by omega
                        simp (maxSteps := 1000000) (disch := omega) only [go_sem, ↓reduceIte, Nat.reduceAdd, Nat.reduceMul, Nat.reduceEqDiff, reduceCtorEq, hif, htk, hgc, hmin]
                        refine ⟨by omega, fun u2 u3 => ⟨by omega, fun u4 => ?_⟩⟩
                        simp (maxSteps := 1000000) (disch := omega) only [go_sem, ↓reduceIte, Nat.reduceAdd, Nat.reduceEqDiff, Nat.reduceLeDiff, Nat.reduceLT, hkn', hdk, false_or, hif2, htk2]
                        refine ⟨?_, fun u5 => ?_⟩
                        · have hl5 : (List.take (k + 1) (strs (Qs.take (k + 1)))).length = k + 1 := by simp [strs]; omega
                          rw [hl5]
                          first
                          | omega
                          | exact ⟨Nat.le_refl _, by omega, fun _ hf => hf.elim⟩
                        refine lp_next (h.length + (G.length + 8)) (.sl (h.length + (G.length + 7)) u5 0 (Qs.length + 1), insR Qs c.qual, G ++ [.arr t7 0 1 (strs Qs), .arr u5 0 1 (strs (insR Qs c.qual))]) hpp3 ⟨hjn, ?_, .inr ⟨u5, G ++ [.arr t7 0 1 (strs Qs)], ?_, ?_⟩⟩ ?_ ?_
                        · simp [insR_len]; omega
                        · simp [insR_len]
                        · simp
                        · simp (maxSteps := 1000000) (disch := omega) only [go_sem, ↓reduceIte, Nat.reduceEqDiff, wrap64, Int.natCast_add, Int.cast_ofNat_Int]
                        · simp (maxSteps := 1000000) (disch := omega) only [go_sem, hsp, hle3, htk4, hje]
                      · have hkn' : (k + 1 < Qs.length) = False := eq_false hkn
                        have hke : (k + 1 = Qs.length) = True := eq_true (by omega)
                        have hle3 : Qs.length = k + 1 := by omega
                        have hD : Qs.drop (k + 1) = [] := List.drop_eq_nil_of_le (by omega)
                        simp (maxSteps := 1000000) (disch := omega) only [go_sem, ↓reduceIte, Nat.reduceAdd, Nat.reduceMul, Nat.reduceEqDiff, reduceCtorEq, hif, htk, hgc, hmin]
                        refine ⟨by omega, fun u2 u3 => ⟨by omega, fun u4 => ?_⟩⟩
                        simp (maxSteps := 1000000) (disch := omega) only [go_sem, ↓reduceIte, Nat.reduceAdd, Nat.reduceEqDiff, Nat.reduceLeDiff, Nat.reduceLT, hkn', hke, false_or]
                        refine ⟨?_, fun u5 => ?_⟩
                        · have hl5 : (List.take (k + 1) (strs (Qs.take (k + 1)))).length = k + 1 := by simp [strs]; omega
                          rw [hl5]
                          first
                          | omega
                          | exact ⟨Nat.le_refl _, by omega, fun _ hf => hf.elim⟩
                        refine lp_next (h.length + (G.length + 8)) (.sl (h.length + (G.length + 7)) u5 0 (Qs.length + 1), insR Qs c.qual, G ++ [.arr t7 0 1 (strs Qs), .arr u5 0 1 (strs (insR Qs c.qual))]) hpp3 ⟨hjn, ?_, .inr ⟨u5, G ++ [.arr t7 0 1 (strs Qs)], ?_, ?_⟩⟩ ?_ ?_
                        · simp [insR_len]; omega
                        · simp [insR_len]
                        · simp
                        · simp (maxSteps := 1000000) (disch := omega) only [go_sem, ↓reduceIte, Nat.reduceEqDiff, wrap64, Int.natCast_add, Int.cast_ofNat_Int]
                        · rw [hD] at hsp
                          simp (maxSteps := 1000000) (disch := omega) only [go_sem, Nat.reduceAdd, hsp, hle3, htk4, List.append_nil]
              · have hp1 : (c.state != 3) = true := by simpa using hpub
                have hp2 : ¬ pubC c = true := by simpa [pubC] using hpub
                simp (maxSteps := 1000000) (disch := omega) only [go_sem, ↓reduceIte, Nat.reduceEqDiff, hgc, hn3, hp1]
                refine lp_next (h.length + (GG.length + 6)) (V, Qs, GG) hpp3 ⟨?_, ?_, hV⟩ ?_ ?_
                · rw [← hJ3]; simp [quP, hp2]
                · simp; omega
                · simp (maxSteps := 1000000) (disch := omega) only [go_sem, ↓reduceIte, Nat.reduceEqDiff, wrap64, Int.natCast_add, Int.cast_ofNat_Int]
                · simp (maxSteps := 1000000) (disch := omega) only [go_sem]
end Go.Ab.S2

/- PlanChecks answers true. -/
namespace Go.Ab.S2
open Go.Ab
set_option maxRecDepth 100000

theorem copied_spec (q : Request) (hq : q.wf) : Ans N.joistlaw16_copied [.agg q.e] (.agg q.e) := by
  intro h
  refine spec_of ck_joistlaw16_copied ?_
  rw [wp_start]
  simp (maxSteps := 1000000) (disch := omega) only [go_sem, ↓reduceIte, Nat.reduceAdd, Nat.reduceMul, Nat.reduceEqDiff, F.joistlaw16_copied]
  intro t1 t2 t3
  have hm := hq.muts
  have hf := hq.filter.fams
  refine fun s4 => ⟨by omega, fun s5 s6 => ⟨by omega, fun s7 => ?_⟩⟩
  refine finS_l ?_
  simp (maxSteps := 1000000) (disch := omega) only [go_sem, ↓reduceIte]
  rfl

theorem same_spec (a b : Request) (ha : a.muts.length < 1099511627776) (hb : a.filter.fams.length < 1099511627776) (hab : a = b) : Ans N.joistlaw16_same [.agg a.e, .agg b.e] (.bool true) := by
  subst hab
  intro h
  refine spec_of ck_joistlaw16_same ?_
  rw [wp_start]
  simp (maxSteps := 1000000) (disch := omega) only [go_sem, ↓reduceIte, Nat.reduceAdd, Nat.reduceEqDiff, BEq.rfl, reduceCtorEq, F.joistlaw16_same]
  intro t1 t2
  have n1 : (a.kind != a.kind) = false := by simp
  have n2 : (!(a.row == a.row)) = false := by simp
  have n3 : (!(a.to == a.to)) = false := by simp
  have n4 : (!(a.fam == a.fam)) = false := by simp
  have n5 : (!(a.qual == a.qual)) = false := by simp
  have n6 : ((a.muts.length : Int) != (a.muts.length : Int)) = false := by simp
  have y1 : (a.filter.from_ == a.filter.from_) = true := by simp
  have y2 : (a.filter.to == a.filter.to) = true := by simp
  have y3 : (a.filter.since == a.filter.since) = true := by simp
  have y4 : (a.filter.until_ == a.filter.until_) = true := by simp
  have y5 : (a.filter.versions == a.filter.versions) = true := by simp
  have y6 : (a.filter.rows == a.filter.rows) = true := by simp
  simp (maxSteps := 1000000) (disch := omega) only [go_sem, ↓reduceIte, Nat.reduceEqDiff, n1, n6]
  refine callS_exact (samestrs_spec a.filter.fams a.filter.fams hb _) ?_
  have hd : decide (a.filter.fams = a.filter.fams) = true := by simp
  simp (maxSteps := 1000000) (disch := omega) only [go_sem, ↓reduceIte, Nat.reduceEqDiff]
  refine loopS_list a.muts (fun pre (_ : Unit) => ⟨[(2, .ptr h.length t1 0 0), (3, .ptr (h.length + 1) t2 0 0), (5, .int .i64 pre.length)], h ++ [.arr t1 0 16 [a.e], .arr t2 0 16 [a.e]]⟩) (fun _ _ _ => True) () rfl trivial ?_
  rintro pre post ⟨⟩ hpp hJ
  cases post with
  | nil =>
    have hn := nl0 hpp
    simp (maxSteps := 1000000) (disch := omega) only [go_sem, ↓reduceIte, Nat.reduceAdd, Nat.reduceEqDiff, BEq.rfl, hn]
    intro t3 t4
    refine finS_l ?_
    simp (maxSteps := 1000000) (disch := omega) only [go_sem]
    all_goals simp []
  | cons m post =>
    have hn := nl hpp
    have hm : decide (m = m) = true := by simp
    simp (maxSteps := 1000000) (disch := omega) only [go_sem, ↓reduceIte, Nat.reduceEqDiff, gml Mut.e hpp, hn]
    refine lp_next (h.length + 2) () hpp trivial ?_ ?_
    · simp (maxSteps := 1000000) (disch := omega) only [go_sem, ↓reduceIte, Nat.reduceEqDiff, wrap64, Int.natCast_add, Int.cast_ofNat_Int]
    · simp (maxSteps := 1000000) (disch := omega) only [go_sem]

theorem cells_len' (s : Schema) (q : Request) (t : Int) : (cellsF s q t).1.length ≤ 56 := by
  by_cases h : (cellsF s q t).2 = 0
  · exact cells_len h
  · rw [cells_err h]; simp

theorem planchecks_spec (s : Schema) (q : Request) (time : Int) (hs : s.wf) (hq : q.wf) (ht1 : -9223372036854775808 ≤ time) (ht2 : time < 9223372036854775808) : Ans N.joistlaw16_PlanChecks [.agg s.e, .agg q.e, .int .i64 time] (.bool true) := by
  intro h
  refine spec_of ck_joistlaw16_PlanChecks ?_
  rw [wp_start]
  simp (maxSteps := 1000000) (disch := omega) only [go_sem, ↓reduceIte, Nat.reduceAdd, Nat.reduceEqDiff, reduceCtorEq, F.joistlaw16_PlanChecks]
  intro s1 s2
  refine callS_exact (alive_spec _) ?_
  simp (maxSteps := 1000000) (disch := omega) only [go_sem, ↓reduceIte, Nat.reduceEqDiff]
  refine callS_exact (long_spec s q _) ?_
  simp (maxSteps := 1000000) (disch := omega) only [go_sem, ↓reduceIte, Nat.reduceEqDiff]
  cases hL : longB s q with
  | true =>
    simp (maxSteps := 1000000) (disch := omega) only [go_sem, ↓reduceIte]
    refine finS_l ?_
    simp (maxSteps := 1000000) (disch := omega) only [go_sem]
    all_goals simp []
  | false =>
    simp (maxSteps := 1000000) (disch := omega) only [go_sem, ↓reduceIte, Nat.reduceEqDiff]
    refine callS_exact (copied_spec q hq _) ?_
    simp (maxSteps := 1000000) (disch := omega) only [go_sem, ↓reduceIte, Nat.reduceAdd, Nat.reduceEqDiff]
    intro s3
    refine callS_exact (copySchema_spec s hs.fams (fun f hf => ⟨(hs.fam f hf).lays, (hs.fam f hf).cols⟩) _) ?_
    simp (maxSteps := 1000000) (disch := omega) only [go_sem, ↓reduceIte, Nat.reduceAdd, Nat.reduceEqDiff]
    intro s4
    refine callS_exact (cells_spec s q time hs hq _) ?_
    simp (maxSteps := 1000000) (disch := omega) only [go_sem, ↓reduceIte, Nat.reduceEqDiff]
    refine callS_exact (cells16_spec s q time hs hq ht1 ht2 _) ?_
    simp (maxSteps := 1000000) (disch := omega) only [go_sem, ↓reduceIte, Nat.reduceEqDiff]
    refine callS_exact (visible_spec s q hs hq _) ?_
    simp (maxSteps := 1000000) (disch := omega) only [go_sem, ↓reduceIte, Nat.reduceAdd, Nat.reduceEqDiff]
    intro s5
    refine callS_exact (visible16_spec s q hs hq _) ?_
    simp (maxSteps := 1000000) (disch := omega) only [go_sem, ↓reduceIte, Nat.reduceAdd, Nat.reduceEqDiff]
    intro s6
    refine callS_exact (formed_spec q hq _) ?_
    simp (maxSteps := 1000000) (disch := omega) only [go_sem, opS_s, ↓reduceIte, Nat.reduceEqDiff]
    refine callS_exact (formed16_spec q hq _) ?_
    have fb : (formQ q == formQ q) = true := by simp
    have fc : (chkE s q != chkE s q) = false := by simp
    have fl : decide ((cellsF s q time).1 = (cellsF s q time).1) = true := by simp
    have fe : ((cellsF s q time).2 != (cellsF s q time).2) = false := by simp
    have fv : (((visF s q).2.length : Int) != ((visF s q).2.length : Int)) = false := by simp
    have hcl := cells_len' s q time
    simp (maxSteps := 1000000) (disch := omega) only [go_sem, ↓reduceIte, Nat.reduceEqDiff, BEq.rfl]
    refine callS_exact (check_spec s q hs hq _) ?_
    simp (maxSteps := 1000000) (disch := omega) only [go_sem, opS_sg, ↓reduceIte, Nat.reduceEqDiff]
    refine callS_exact (check16_spec s q hs hq _) ?_
    simp (maxSteps := 1000000) (disch := omega) only [go_sem, ↓reduceIte, Nat.reduceEqDiff, fc]
    refine callS_exact (sameCells_spec _ _ (by omega) _) ?_
    simp (maxSteps := 1000000) (disch := omega) only [go_sem, ↓reduceIte, Nat.reduceEqDiff, fe, fv]
    have hvq : (visF s q).1 = q.filter ∨ (visF s q).1 = Filter.zero := by
      unfold visF
      split
      · exact .inl rfl
      · exact .inr rfl
    have hvl : (visF s q).2.length < 1099511627776 ∧ ∀ p ∈ (visF s q).2, p.quals.length < 1099511627776 := by
      unfold visF
      split
      · rename_i hk
        have hfl := hs.fams
        have hfl2 := List.length_filter_le (seenF q) s.fams
        refine ⟨by simp only [List.length_map]; omega, fun p hp => ?_⟩
        simp only [List.mem_map, List.mem_filter] at hp
        obtain ⟨f, ⟨hf, -⟩, rfl⟩ := hp
        have := chk_cols hk.2 f hf
        have h2 : (qualsF f).length ≤ f.cols.length := by
          rw [qualsF, isort_len, List.length_map]
          exact List.length_filter_le _ _
        show (qualsF f).length < _
        omega
      · simp
    obtain ⟨hv1, hv2⟩ := hvl
    have hvf : (visF s q).1.fams.length < 1099511627776 := by
      rcases hvq with e | e <;> rw [e]
      · exact hq.filter.fams
      · simp [Filter.zero]
    generalize (visF s q).1 = V1 at hvf ⊢
    generalize (visF s q).2 = V at hv1 hv2 ⊢
    refine loopS_list V (fun pre (_ : Unit) => ⟨[(3, .ptr h.length s1 0 0), (4, .ptr (h.length + 1) s2 0 0), (7, .ptr (h.length + 2) s3 0 0), (8, .ptr (h.length + 3) s4 0 0), (13, .ptr (h.length + 4) s5 0 0), (14, .psl (V.map Place.e)), (15, .ptr (h.length + 5) s6 0 0), (16, .psl (V.map Place.e)), (17, .int .i64 pre.length)], h ++ [.arr s1 0 10 [s.e], .arr s2 0 16 [q.e], .arr s3 0 16 [q.e], .arr s4 0 10 [s.e], .arr s5 0 7 [V1.e], .arr s6 0 7 [V1.e]]⟩) (fun _ _ _ => True) () rfl trivial ?_
    rintro pre post ⟨⟩ hpp hJ
    cases post with
    | cons p post =>
      have hn := nl hpp
      have b1 : (p.fam == p.fam) = true := by simp
      have b2 : (p.group != p.group) = false := by simp
      have b3 : (p.versions != p.versions) = false := by simp
      have b4 : (p.life != p.life) = false := by simp
      have b5 : decide (p.quals = p.quals) = true := by simp
      simp (maxSteps := 1000000) (disch := omega) only [go_sem, ↓reduceIte, Nat.reduceEqDiff, BEq.rfl, gml Place.e hpp, hn, b2, b3, b4]
      refine callS_exact (samestrs_spec p.quals p.quals (hv2 p (by simp [hpp])) _) ?_
      simp (maxSteps := 1000000) (disch := omega) only [go_sem, ↓reduceIte, Nat.reduceEqDiff]
      refine lp_next (h.length + 6) () hpp trivial ?_ ?_
      · simp (maxSteps := 1000000) (disch := omega) only [go_sem, ↓reduceIte, Nat.reduceEqDiff, wrap64, Int.natCast_add, Int.cast_ofNat_Int]
      · simp (maxSteps := 1000000) (disch := omega) only [go_sem]
    | nil =>
      have hn := nl0 hpp
      simp (maxSteps := 1000000) (disch := omega) only [go_sem, ↓reduceIte, Nat.reduceAdd, Nat.reduceEqDiff, hn, List.append_nil]
      refine callS_exact (same_spec ⟨0, [], [], [], [], [], Value.zero, V1⟩ ⟨0, [], [], [], [], [], Value.zero, V1⟩ (by simp) hvf rfl _) ?_
      simp (maxSteps := 1000000) (disch := omega) only [go_sem, ↓reduceIte, Nat.reduceEqDiff]
      refine callS_exact (same_spec q q hq.muts hq.filter.fams rfl _) ?_
      simp (maxSteps := 1000000) (disch := omega) only [go_sem, ↓reduceIte, Nat.reduceEqDiff]
      refine callS_exact (pclone_spec q hq _) ?_
      simp (maxSteps := 1000000) (disch := omega) only [go_sem, opS_sg, ↓reduceIte, Nat.reduceEqDiff]
      refine callS_exact (same_spec q q hq.muts hq.filter.fams rfl _) ?_
      simp (maxSteps := 1000000) (disch := omega) only [go_sem, ↓reduceIte, Nat.reduceEqDiff]
      refine callS_exact (sameSchema_spec s s hs.fams (fun f hf => ⟨(hs.fam f hf).lays, (hs.fam f hf).cols⟩) _) ?_
      have hd : decide (s = s) = true := by simp
      simp (maxSteps := 1000000) (disch := omega) only [go_sem, ↓reduceIte, Nat.reduceEqDiff]
      refine finS_l ?_
      simp (maxSteps := 1000000) (disch := omega) only [go_sem]
      all_goals simp []
end Go.Ab.S2
