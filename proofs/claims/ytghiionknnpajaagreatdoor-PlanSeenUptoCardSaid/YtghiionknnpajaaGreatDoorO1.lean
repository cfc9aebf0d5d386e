/- Texts in order: plain laws. -/
import Derived.Test.YtghiionknnpajaaGreatDoorC10
import Derived.Lib.ValidLaws
set_option linter.unusedVariables false
set_option linter.unusedSimpArgs false
namespace Go.Ab.S2
open Go.Ab
set_option maxRecDepth 100000

theorem cmpS_lt : ∀ a b : Str, cmpS a b < 0 ↔ a < b
  | [], [] => by simp [cmpS]
  | [], y :: b => by simp [cmpS]
  | x :: a, [] => by simp [cmpS]
  | x :: a, y :: b => by
    rw [List.cons_lt_cons_iff]
    unfold cmpS
    by_cases h : x = y
    · subst h
      simp [cmpS_lt a b]
    · rw [if_neg h]
      by_cases h2 : x < y
      · simp [h2]
      · simp [h, h2]
theorem cmpS_eq : ∀ a b : Str, cmpS a b = 0 ↔ a = b
  | [], [] => by simp [cmpS]
  | [], y :: b => by simp [cmpS]
  | x :: a, [] => by simp [cmpS]
  | x :: a, y :: b => by
    unfold cmpS
    by_cases h : x = y
    · subst h
      simp [cmpS_eq a b]
    · rw [if_neg h]
      by_cases h2 : x < y
      · simp [h2, h]
      · simp [h, h2]
theorem slt_trans {a b c : Str} (h : a < b) (k : b < c) : a < c := List.lt_trans h k
theorem slt_irrefl (a : Str) : ¬ a < a := List.lt_irrefl a
theorem slt_tri (a b : Str) : a < b ∨ a = b ∨ b < a := by
  rcases Int.lt_trichotomy (cmpS a b) 0 with h | h | h
  · exact .inl ((cmpS_lt a b).1 h)
  · exact .inr (.inl ((cmpS_eq a b).1 h))
  · by_cases h2 : b < a
    · exact .inr (.inr h2)
    · exfalso
      have h3 : ¬ a < b := fun e => by have := (cmpS_lt a b).2 e; omega
      have h4 : ¬ a = b := fun e => by have := (cmpS_eq a b).2 e; omega
      exact h4 (List.le_antisymm (List.not_lt.1 h2) (List.not_lt.1 h3))
/-- Not above. -/
def sle (a b : Str) : Prop := ¬ b < a
end Go.Ab.S2

/- What the references of cells and plans compute: definitions. -/
namespace Go.Ab.S2
open Go.Ab
set_option maxRecDepth 100000

def right02 (v : Value) : Bool :=
  if v.kind = 1 then v.s == ([] : Str) else if v.kind = 2 then v.n == 0 && decide ((v.s.length : Int) ≤ 32)
  else if v.kind = 3 then (v.n == 0 && decide ((v.s.length : Int) ≤ 32)) && Lib.validD v.s
  else if v.kind = 4 then v.s == ([] : Str) && (v.n == 0 || v.n == 1)
  else if v.kind = 5 then v.s == ([] : Str) && fR v.n else false
def right03 (c : Cell) : Bool :=
  if (decide ((c.row.length : Int) < 1) || decide (16 < (c.row.length : Int)) || !nameR c.fam || decide (12 < (c.qual.length : Int)) || decide (c.time < 0) || decide (1099511627776 < c.time)) = true then false
  else if c.kind = 1 then valR c.val else if c.kind = 2 ∨ c.kind = 3 then decide (c.val = Value.zero) else if c.kind = 4 then decide (c.val = Value.zero) && c.qual == ([] : Str) else false

/-- A cell into sorted ones. -/
def insC (x : Cell) : Bool → List Cell → List Cell
  | d, [] => if d then [] else [x]
  | d, y :: r => (if (!d && decide (order x y ≤ 0)) = true then [x] else []) ++ ((if order x y = 0 then [] else [y]) ++ insC x (d || decide (order x y ≤ 0)) r)
def sortS (out : List Cell) (x : Cell) : List Cell := if right03 x then insC x false out else out
def sort06 (l : List Cell) : List Cell := l.foldl sortS []
def killB (c d : Cell) : Bool := (d.row == c.row && d.fam == c.fam) && ((d.kind == 4 && decide (c.time ≤ d.time)) || d.qual == c.qual && ((d.kind == 3 && decide (c.time ≤ d.time)) || (d.kind == 2 && d.time == c.time)))
def lives06 (l : List Cell) (c : Cell) (life now : Int) : Bool := (c.kind == 1 && !(decide (0 < life) && decide (life ≤ IntKind.i64.wrap (now - c.time)))) && !(l.any (killB c))
def laterB (s : List Cell) (x : Cell) (life now : Int) (y : Cell) : Bool := ((((y.row == x.row && y.fam == x.fam) && y.qual == x.qual) && decide (x.time < y.time)) && lives06 s y life now)
def seenB (s : List Cell) (versions life now : Int) (x : Cell) : Bool := lives06 s x life now && decide (((s.countP (laterB s x life now) : Nat) : Int) < versions)
def seen06 (l : List Cell) (versions life now : Int) : List Cell :=
  if versions < 1 ∨ 8 < versions ∨ life < 0 then [] else (sort06 l).filter (seenB (sort06 l) versions life now)

def columnK (s : Schema) (fam qual : Str) : Int :=
  let c := (colF ((findF s fam).getD Family.zero) qual).getD Column.zero
  if famU s fam = true ∧ c.state = 3 then c.kind else 0

def longT (s : Str) : Bool := decide (100 < (s.length : Int))
def longM (m : Mut) : Bool := decide (100 < (m.fam.length : Int)) || decide (100 < (m.qual.length : Int)) || decide (100 < (m.val.s.length : Int))
def longQ0 (q : Request) : Bool := decide (100 < (q.row.length : Int)) || decide (100 < (q.to.length : Int)) || decide (100 < (q.fam.length : Int)) || decide (100 < (q.qual.length : Int)) || decide (100 < (q.val.s.length : Int)) || decide (20 < (q.muts.length : Int)) || decide (20 < (q.filter.fams.length : Int)) || decide (100 < (q.filter.from_.length : Int)) || decide (100 < (q.filter.to.length : Int))
def longRequest (q : Request) : Bool := longQ0 q || q.filter.fams.any longT || q.muts.any longM
end Go.Ab.S2

/- What is to be seen behind a write: the plain law. -/
namespace Go.Ab.S2
open Go.Ab
set_option maxRecDepth 100000

/-! the order of cells -/
structure Tot {α : Type} (f : α → α → Int) : Prop where
  lt : ∀ {a b c}, f a b < 0 → f b c < 0 → f a c < 0
  zl : ∀ {a b c}, f a b = 0 → f b c < 0 → f a c < 0
  lz : ∀ {a b c}, f a b < 0 → f b c = 0 → f a c < 0
  zz : ∀ {a b c}, f a b = 0 → f b c = 0 → f a c = 0
  flip : ∀ {a b}, 0 < f a b → f b a < 0
  sym : ∀ {a b}, f a b = 0 → f b a = 0

def lex {α : Type} (f g : α → α → Int) (a b : α) : Int := if f a b = 0 then g a b else f a b
theorem Tot.lex {α : Type} {f g : α → α → Int} (hf : Tot f) (hg : Tot g) : Tot (lex f g) where
  lt {a b c} h k := by
    unfold S2.lex at *
    split at h
    · rename_i e
      split at k
      · rename_i e2; rw [if_pos (hf.zz e e2)]; exact hg.lt h k
      · rename_i e2; have := hf.zl e k; rw [if_neg (by omega)]; exact this
    · rename_i e
      split at k
      · rename_i e2; have := hf.lz h e2; rw [if_neg (by omega)]; exact this
      · rename_i e2; have := hf.lt h k; rw [if_neg (by omega)]; exact this
  zl {a b c} h k := by
    unfold S2.lex at *
    split at h
    · rename_i e
      split at k
      · rename_i e2; rw [if_pos (hf.zz e e2)]; exact hg.zl h k
      · rename_i e2; have := hf.zl e k; rw [if_neg (by omega)]; exact this
    · omega
  lz {a b c} h k := by
    unfold S2.lex at *
    split at k
    · rename_i e2
      split at h
      · rename_i e; rw [if_pos (hf.zz e e2)]; exact hg.lz h k
      · rename_i e; have := hf.lz h e2; rw [if_neg (by omega)]; exact this
    · omega
  zz {a b c} h k := by
    unfold S2.lex at *
    split at h
    · rename_i e
      split at k
      · rename_i e2; rw [if_pos (hf.zz e e2)]; exact hg.zz h k
      · omega
    · omega
  flip {a b} h := by
    unfold S2.lex at *
    split at h
    · rename_i e; rw [if_pos (hf.sym e)]; exact hg.flip h
    · rename_i e; have := hf.flip h; rw [if_neg (by omega)]; exact this
  sym {a b} h := by
    unfold S2.lex at *
    split at h
    · rename_i e; rw [if_pos (hf.sym e)]; exact hg.sym h
    · omega
theorem totS {α : Type} (g : α → Str) : Tot fun a b => cmpS (g a) (g b) where
  lt h k := by rw [cmpS_lt] at *; exact slt_trans h k
  zl h k := by rw [cmpS_eq] at h; rw [h]; exact k
  lz h k := by rw [cmpS_eq] at k; rw [← k]; exact h
  zz h k := by rw [cmpS_eq] at *; rw [h, k]
  flip {a b} h := by
    rw [cmpS_lt]
    rcases slt_tri (g a) (g b) with h1 | h1 | h1
    · rw [← cmpS_lt] at h1; omega
    · rw [← cmpS_eq] at h1; omega
    · exact h1
  sym h := by rw [cmpS_eq] at *; exact h.symm
theorem cmpI_lt {a b : Int} : cmpI a b < 0 ↔ a < b := by unfold cmpI; split <;> (try split) <;> omega
theorem cmpI_gt {a b : Int} : 0 < cmpI a b ↔ b < a := by unfold cmpI; split <;> (try split) <;> omega
theorem cmpI_eq {a b : Int} : cmpI a b = 0 ↔ a = b := by unfold cmpI; split <;> (try split) <;> omega
theorem totI {α : Type} (g : α → Int) : Tot fun a b => cmpI (g a) (g b) where
  lt h k := by rw [cmpI_lt] at *; omega
  zl h k := by rw [cmpI_eq] at h; rw [cmpI_lt] at *; omega
  lz h k := by rw [cmpI_eq] at k; rw [cmpI_lt] at *; omega
  zz h k := by rw [cmpI_eq] at *; omega
  flip h := by rw [cmpI_gt] at h; rw [cmpI_lt]; omega
  sym h := by rw [cmpI_eq] at *; omega
theorem Tot.rev {α : Type} {f : α → α → Int} (h : Tot f) : Tot fun a b => f b a where
  lt a b := h.lt b a
  zl a b := h.lz b a
  lz a b := h.zl b a
  zz a b := h.zz b a
  flip a := h.flip a
  sym a := h.sym a
theorem order_lex : order = lex (fun a b : Cell => cmpS a.row b.row) (lex (fun a b => cmpS a.fam b.fam) (lex (fun a b => cmpI (whole a) (whole b)) (lex (fun a b => cmpS a.qual b.qual) (lex (fun a b => cmpI b.time a.time) (fun a b => cmpI b.kind a.kind))))) := by
  funext a b
  simp only [order, lex, orI]
  repeat' split
  all_goals (first | rfl | omega | simp_all)
theorem totO : Tot order := by
  rw [order_lex]
  exact (totS Cell.row).lex ((totS Cell.fam).lex ((totI whole).lex ((totS Cell.qual).lex ((totI Cell.time).rev.lex (totI Cell.kind).rev))))
theorem order_zero {a b : Cell} : order a b = 0 ↔ a.row = b.row ∧ a.fam = b.fam ∧ a.qual = b.qual ∧ a.time = b.time ∧ a.kind = b.kind := by
  rw [order_lex]
  constructor
  · intro h
    simp only [lex] at h
    repeat' split at h
    all_goals (first | omega | skip)
    simp only [cmpS_eq, cmpI_eq] at *
    simp_all
  · rintro ⟨h1, h2, h3, h4, h5⟩
    have z : ∀ s, cmpS s s = 0 := fun s => (cmpS_eq s s).2 rfl
    have y : ∀ s, cmpI s s = 0 := fun s => cmpI_eq.2 rfl
    simp [lex, h1, h2, h3, h4, h5, whole, z, y]

/-! sorted cells -/
theorem insC_true (x : Cell) : ∀ r : List Cell, insC x true r = r.filter fun y => !decide (order x y = 0)
  | [] => rfl
  | y :: r => by
    rw [insC, Bool.true_or, insC_true x r, List.filter_cons]
    by_cases h : order x y = 0 <;> simp [h]
theorem insC_mem {x : Cell} : ∀ (d : Bool) (r : List Cell) (c : Cell), c ∈ insC x d r ↔ c = x ∧ d = false ∨ c ∈ r ∧ order x c ≠ 0
  | d, [], c => by cases d <;> simp [insC]
  | d, y :: r, c => by
    have ih := insC_mem (x := x) (d || decide (order x y ≤ 0)) r c
    rw [insC, List.mem_append, List.mem_append, ih, List.mem_cons]
    have hxx : order x x = 0 := order_zero.2 ⟨rfl, rfl, rfl, rfl, rfl⟩
    by_cases h0 : order x y = 0
    · have h1 : order x y ≤ 0 := by omega
      cases d <;> simp [h0]
      constructor
      · rintro (h | h)
        · exact .inl h
        · exact .inr ⟨.inr h.1, h.2⟩
      · rintro (h | ⟨rfl | h, h2⟩)
        · exact .inl h
        · exact absurd h0 h2
        · exact .inr ⟨h, h2⟩
      rintro h2 rfl
      exact absurd h0 h2
    · by_cases h1 : order x y ≤ 0
      · cases d <;> simp [h0, h1] <;> constructor
        · rintro (h | rfl | h)
          · exact .inl h
          · exact .inr ⟨.inl rfl, h0⟩
          · exact .inr ⟨.inr h.1, h.2⟩
        · rintro (h | ⟨rfl | h, h2⟩)
          · exact .inl h
          · exact .inr (.inl rfl)
          · exact .inr (.inr ⟨h, h2⟩)
        · rintro (rfl | h)
          · exact ⟨.inl rfl, h0⟩
          · exact ⟨.inr h.1, h.2⟩
        · rintro ⟨rfl | h, h2⟩
          · exact .inl rfl
          · exact .inr ⟨h, h2⟩
      · cases d <;> simp [h0, h1] <;> constructor
        · rintro (rfl | h | h)
          · exact .inr ⟨.inl rfl, h0⟩
          · exact .inl h
          · exact .inr ⟨.inr h.1, h.2⟩
        · rintro (h | ⟨rfl | h, h2⟩)
          · exact .inr (.inl h)
          · exact .inl rfl
          · exact .inr (.inr ⟨h, h2⟩)
        · rintro (rfl | h)
          · exact ⟨.inl rfl, h0⟩
          · exact ⟨.inr h.1, h.2⟩
        · rintro ⟨rfl | h, h2⟩
          · exact .inl rfl
          · exact .inr ⟨h, h2⟩
def oLt (a b : Cell) : Prop := order a b < 0
theorem insC_sorted {x : Cell} : ∀ {r : List Cell}, r.Pairwise oLt → (insC x false r).Pairwise oLt
  | [], _ => by simp [insC]
  | y :: r, h => by
    rw [List.pairwise_cons] at h
    rw [insC]
    rcases Int.lt_trichotomy (order x y) 0 with h0 | h0 | h0
    · have h1 : order x y ≤ 0 := by omega
      have h2 : ¬ order x y = 0 := by omega
      simp only [Bool.not_false, Bool.true_and, h1, decide_true, if_true, h2, if_false, Bool.false_or, insC_true, List.cons_append, List.nil_append]
      refine List.pairwise_cons.2 ⟨fun z hz => ?_, List.pairwise_cons.2 ⟨fun z hz => h.1 z (List.mem_filter.1 hz).1, h.2.filter _⟩⟩
      rcases List.mem_cons.1 hz with rfl | hz
      · exact h0
      · exact totO.lt h0 (h.1 z (List.mem_filter.1 hz).1)
    · have h1 : order x y ≤ 0 := by omega
      simp only [Bool.not_false, Bool.true_and, h0, Int.le_refl, decide_true, if_true, Bool.false_or, insC_true, List.cons_append, List.nil_append]
      exact List.pairwise_cons.2 ⟨fun z hz => totO.zl h0 (h.1 z (List.mem_filter.1 hz).1), h.2.filter _⟩
    · have h1 : ¬ order x y ≤ 0 := by omega
      have h2 : ¬ order x y = 0 := by omega
      simp only [Bool.not_false, Bool.true_and, h1, decide_false, Bool.false_eq_true, if_false, h2, Bool.false_or, List.cons_append, List.nil_append]
      refine List.pairwise_cons.2 ⟨fun z hz => ?_, insC_sorted h.2⟩
      rcases (insC_mem _ _ _).1 hz with ⟨rfl, -⟩ | ⟨hz, -⟩
      · exact totO.flip h0
      · exact h.1 z hz
theorem sort_snoc (l : List Cell) (x : Cell) : sort06 (l ++ [x]) = sortS (sort06 l) x := by simp [sort06]
theorem sort_sorted (l : List Cell) : (sort06 l).Pairwise oLt := by
  suffices h : ∀ (l a : List Cell), a.Pairwise oLt → (l.foldl sortS a).Pairwise oLt from h l [] List.Pairwise.nil
  intro l
  induction l with
  | nil => intro a h; exact h
  | cons x l ih =>
    intro a h
    refine ih _ ?_
    unfold sortS
    split
    · exact insC_sorted h
    · exact h
theorem sort_mem_snoc (l : List Cell) (x c : Cell) : c ∈ sort06 (l ++ [x]) ↔ (right03 x = true ∧ c = x) ∨ c ∈ sort06 l ∧ (right03 x = true → order x c ≠ 0) := by
  rw [sort_snoc, sortS]
  cases h : right03 x with
  | true => simp [insC_mem]
  | false => simp
theorem snoc_ind {α : Type} {P : List α → Prop} (h0 : P []) (h1 : ∀ l x, P l → P (l ++ [x])) (l : List α) : P l := by
  have : ∀ l : List α, P l.reverse := by
    intro l
    induction l with
    | nil => exact h0
    | cons x l ih => rw [List.reverse_cons]; exact h1 _ _ ih
  have h := this l.reverse
  rwa [List.reverse_reverse] at h
theorem sort_sub (l : List Cell) : ∀ c ∈ sort06 l, c ∈ l := by
  induction l using snoc_ind with
  | h0 => intro c h; exact h
  | h1 l x ih =>
    intro c h
    rcases (sort_mem_snoc l x c).1 h with ⟨-, rfl⟩ | ⟨h, -⟩
    · simp
    · have := ih c h; simp [this]

/-! what is seen, of cells of one row -/
def Kills (d c : Cell) : Prop := d.fam = c.fam ∧ (d.kind = 4 ∧ c.time ≤ d.time ∨ d.qual = c.qual ∧ (d.kind = 3 ∧ c.time ≤ d.time ∨ d.kind = 2 ∧ d.time = c.time))
structure SeenIn (M : Cell → Prop) (c : Cell) : Prop where
  mem : M c
  put : c.kind = 1
  live : ∀ d, M d → ¬ Kills d c
  new : ∀ d, M d → d.kind = 1 → d.fam = c.fam → d.qual = c.qual → (∀ e, M e → ¬ Kills e d) → d.time ≤ c.time
abbrev Sees := Str → Str → Value → Prop
def SS (M : Cell → Prop) : Sees := fun f q v => ∃ c, SeenIn M c ∧ c.fam = f ∧ c.qual = q ∧ c.val = v
def Put (l : List Cell) : Sees := fun f q v => ∃ c ∈ l, c.kind = 1 ∧ c.fam = f ∧ c.qual = q ∧ c.val = v
def Del (l : List Cell) (f q : Str) : Prop := ∃ c ∈ l, c.fam = f ∧ (c.kind = 4 ∨ c.kind = 3 ∧ c.qual = q)
def App (l : List Cell) (X : Sees) : Sees := fun f q v => Put l f q v ∨ (¬ ∃ w, Put l f q w) ∧ ¬ Del l f q ∧ X f q v
def UniC (r : Str) (t : Int) (c : Cell) : Prop := c.row = r ∧ (c.kind = 1 ∧ c.time = t ∨ c.kind = 3 ∧ c.time = t - 1 ∨ c.kind = 4 ∧ c.time = t - 1)
structure Uni (r : Str) (t : Int) (l : List Cell) : Prop where
  c : ∀ c ∈ l, UniC r t c
  one : ∀ c ∈ l, ∀ d ∈ l, order c d = 0 → c = d

theorem static {M0 : Cell → Prop} {l : List Cell} {r : Str} {t : Int} (h0 : ∀ c, M0 c → c.time < t - 1) (hl : Uni r t l) : SS (fun c => M0 c ∨ c ∈ l) = App l (SS M0) := by
  have lk : ∀ c ∈ l, c.kind = 1 → c.time = t := fun c hc hk => by have := (hl.c c hc).2; omega
  have ld : ∀ c ∈ l, c.kind ≠ 1 → c.time = t - 1 := fun c hc hk => by have := (hl.c c hc).2; omega
  have l2 : ∀ c ∈ l, c.kind ≠ 2 := fun c hc hk => by have := (hl.c c hc).2; omega
  have lv : ∀ p ∈ l, p.kind = 1 → ∀ e, (M0 e ∨ e ∈ l) → ¬ Kills e p := by
    rintro p hp pk e (he | he) ⟨-, hk⟩
    · have := h0 e he
      have := lk p hp pk
      omega
    · have h1 := lk p hp pk
      have h2 := l2 e he
      have h3 := ld e he
      omega
  funext f q v
  apply propext
  constructor
  · rintro ⟨c, hc, rfl, rfl, rfl⟩
    by_cases hp : ∃ w, Put l c.fam c.qual w
    · left
      obtain ⟨w, p, hpl, pk, pf, pq, -⟩ := hp
      have h1 := hc.new p (.inr hpl) pk pf pq (lv p hpl pk)
      have h2 := lk p hpl pk
      rcases hc.mem with h3 | h3
      · have := h0 c h3; omega
      · exact ⟨c, h3, hc.put, rfl, rfl, rfl⟩
    · right
      have hm : M0 c := by
        rcases hc.mem with h | h
        · exact h
        · exact absurd ⟨_, c, h, hc.put, rfl, rfl, rfl⟩ hp
      have hd : ¬ Del l c.fam c.qual := by
        rintro ⟨d, hd, df, dk⟩
        have h1 := h0 c hm
        have h2 := ld d hd (by omega)
        refine hc.live d (.inr hd) ⟨df, ?_⟩
        rcases dk with dk | ⟨dk, dq⟩
        · exact .inl ⟨dk, by omega⟩
        · exact .inr ⟨dq, .inl ⟨dk, by omega⟩⟩
      refine ⟨hp, hd, c, ⟨hm, hc.put, fun d h => hc.live d (.inl h), fun d h k f q lv0 => hc.new d (.inl h) k f q ?_⟩, rfl, rfl, rfl⟩
      rintro e (he | he) ⟨ef, ek⟩
      · exact lv0 e he ⟨ef, ek⟩
      · refine hd ⟨e, he, ef.trans f, ?_⟩
        have := l2 e he
        rcases ek with ek | ⟨eq, ek | ek⟩
        · exact .inl ek.1
        · exact .inr ⟨ek.1, eq.trans q⟩
        · exact absurd ek.1 this
  · rintro (⟨p, hp, pk, rfl, rfl, rfl⟩ | ⟨hp, hd, c, hc, rfl, rfl, rfl⟩)
    · refine ⟨p, ⟨.inr hp, pk, lv p hp pk, fun d h k _ _ _ => ?_⟩, rfl, rfl, rfl⟩
      have := lk p hp pk
      rcases h with h | h
      · have := h0 d h; omega
      · have := lk d h k; omega
    · refine ⟨c, ⟨.inl hc.mem, hc.put, ?_, ?_⟩, rfl, rfl, rfl⟩
      · rintro e (he | he) hk
        · exact hc.live e he hk
        · obtain ⟨ef, ek⟩ := hk
          have := l2 e he
          refine hd ⟨e, he, ef, ?_⟩
          rcases ek with ek | ⟨eq, ek | ek⟩
          · exact .inl ek.1
          · exact .inr ⟨ek.1, eq⟩
          · exact absurd ek.1 this
      · rintro d (h | h) k f q lv0
        · exact hc.new d h k f q fun e he => lv0 e (.inl he)
        · exact absurd ⟨_, d, h, k, f, q, rfl⟩ hp

/-! what a cell, and what a part of a write does to what is seen -/
def updC (c : Cell) (X : Sees) : Sees := fun f q v =>
  if c.kind = 1 then (if f = c.fam ∧ q = c.qual then v = c.val else X f q v)
  else if c.kind = 3 then X f q v ∧ ¬ (f = c.fam ∧ q = c.qual)
  else X f q v ∧ ¬ f = c.fam
theorem App.nil (X : Sees) : App [] X = X := by
  funext f q v
  simp [App, Put, Del]
theorem needless_true {x c : Cell} : needless x c = true ↔ order x c = 0 ∨ x.fam = c.fam ∧ (c.kind = 4 ∨ c.kind = 3 ∧ x.kind = 1 ∧ x.qual = c.qual) := by
  unfold needless
  by_cases h : order x c = 0
  · simp [h]
  · by_cases h2 : x.fam = c.fam
    · simp [h, h2, and_assoc]
    · simp [h, h2]
theorem addF_mem {l : List Cell} {c x : Cell} : x ∈ addF l c ↔ (x ∈ l ∧ ¬ needless x c = true) ∨ x = c := by
  simp [addF]
theorem Uni.add {r : Str} {t : Int} {l : List Cell} {c : Cell} (h : Uni r t l) (hc : UniC r t c) : Uni r t (addF l c) := by
  refine ⟨fun x hx => ?_, fun x hx y hy e => ?_⟩
  · rcases addF_mem.1 hx with ⟨hx, -⟩ | rfl
    · exact h.c x hx
    · exact hc
  · rcases addF_mem.1 hx with ⟨hx, nx⟩ | rfl
    · rcases addF_mem.1 hy with ⟨hy, -⟩ | rfl
      · exact h.one x hx y hy e
      · exact absurd (needless_true.2 (.inl e)) nx
    · rcases addF_mem.1 hy with ⟨hy, ny⟩ | rfl
      · exact absurd (needless_true.2 (.inl (totO.sym e))) ny
      · rfl
theorem App.add {r : Str} {t : Int} {l : List Cell} {c : Cell} (h : Uni r t l) (hc : UniC r t c) (X : Sees) : App (addF l c) X = updC c (App l X) := by
  have lk : ∀ x ∈ l, x.kind = 1 → x.time = t := fun x hx hk => by have := (h.c x hx).2; omega
  have lr : ∀ x ∈ l, x.row = r := fun x hx => (h.c x hx).1
  have l2 : ∀ x ∈ l, x.kind ≠ 2 := fun c hc hk => by have := (h.c c hc).2; omega
  funext f q v
  apply propext
  rcases hc.2 with ⟨k, tm⟩ | ⟨k, tm⟩ | ⟨k, tm⟩
  · -- a put
    have hp : ∀ f q v, Put (addF l c) f q v ↔ if f = c.fam ∧ q = c.qual then v = c.val else Put l f q v := by
      intro f q v
      split
      · rename_i e
        obtain ⟨rfl, rfl⟩ := e
        constructor
        · rintro ⟨x, hx, xk, xf, xq, rfl⟩
          rcases addF_mem.1 hx with ⟨hx, nx⟩ | rfl
          · exact absurd (needless_true.2 (.inl (order_zero.2 ⟨by rw [lr x hx, hc.1], xf, xq, by rw [lk x hx xk, tm], by rw [xk, k]⟩))) nx
          · rfl
        · rintro rfl
          exact ⟨c, addF_mem.2 (.inr rfl), k, rfl, rfl, rfl⟩
      · rename_i e
        constructor
        · rintro ⟨x, hx, xk, xf, xq, rfl⟩
          rcases addF_mem.1 hx with ⟨hx, nx⟩ | rfl
          · exact ⟨x, hx, xk, xf, xq, rfl⟩
          · exact absurd ⟨xf.symm, xq.symm⟩ e
        · rintro ⟨x, hx, xk, xf, xq, rfl⟩
          refine ⟨x, addF_mem.2 (.inl ⟨hx, fun hn => ?_⟩), xk, xf, xq, rfl⟩
          rcases needless_true.1 hn with h1 | ⟨h1, h2⟩
          · have := order_zero.1 h1
            exact e ⟨by rw [← xf, this.2.1], by rw [← xq, this.2.2.1]⟩
          · omega
    have hd : ∀ f q, Del (addF l c) f q ↔ Del l f q := by
      intro f q
      constructor
      · rintro ⟨x, hx, xf, xk⟩
        rcases addF_mem.1 hx with ⟨hx, -⟩ | rfl
        · exact ⟨x, hx, xf, xk⟩
        · omega
      · rintro ⟨x, hx, xf, xk⟩
        refine ⟨x, addF_mem.2 (.inl ⟨hx, fun hn => ?_⟩), xf, xk⟩
        rcases needless_true.1 hn with h1 | ⟨h1, h2⟩
        · have := order_zero.1 h1; omega
        · omega
    unfold App updC
    rw [if_pos k]
    simp only [hp, hd]
    by_cases e : f = c.fam ∧ q = c.qual
    · simp only [if_pos e]
      constructor
      · rintro (h | ⟨h, -⟩)
        · exact h
        · exact absurd ⟨_, rfl⟩ h
      · intro h; exact .inl h
    · simp only [if_neg e]
  · -- a column
    have hp : ∀ f q v, Put (addF l c) f q v ↔ Put l f q v ∧ ¬ (f = c.fam ∧ q = c.qual) := by
      intro f q v
      constructor
      · rintro ⟨x, hx, xk, rfl, rfl, rfl⟩
        rcases addF_mem.1 hx with ⟨hx, nx⟩ | rfl
        · exact ⟨⟨x, hx, xk, rfl, rfl, rfl⟩, fun e => nx (needless_true.2 (.inr ⟨e.1, .inr ⟨k, xk, e.2⟩⟩))⟩
        · omega
      · rintro ⟨⟨x, hx, xk, rfl, rfl, rfl⟩, e⟩
        refine ⟨x, addF_mem.2 (.inl ⟨hx, fun hn => ?_⟩), xk, rfl, rfl, rfl⟩
        rcases needless_true.1 hn with h1 | ⟨h1, h2⟩
        · have := order_zero.1 h1; omega
        · rcases h2 with h2 | h2
          · omega
          · exact e ⟨h1, h2.2.2⟩
    have hd : ∀ f q, Del (addF l c) f q ↔ Del l f q ∨ f = c.fam ∧ q = c.qual := by
      intro f q
      constructor
      · rintro ⟨x, hx, rfl, xk⟩
        rcases addF_mem.1 hx with ⟨hx, -⟩ | rfl
        · exact .inl ⟨x, hx, rfl, xk⟩
        · rcases xk with xk | xk
          · omega
          · exact .inr ⟨rfl, xk.2.symm⟩
      · rintro (⟨x, hx, rfl, xk⟩ | ⟨rfl, rfl⟩)
        · by_cases hn : needless x c = true
          · refine ⟨c, addF_mem.2 (.inr rfl), ?_⟩
            rcases needless_true.1 hn with h1 | ⟨h1, h2⟩
            · have := order_zero.1 h1
              refine ⟨this.2.1.symm, .inr ⟨k, ?_⟩⟩
              rcases xk with xk | xk
              · omega
              · rw [← this.2.2.1, xk.2]
            · omega
          · exact ⟨x, addF_mem.2 (.inl ⟨hx, hn⟩), rfl, xk⟩
        · exact ⟨c, addF_mem.2 (.inr rfl), rfl, .inr ⟨k, rfl⟩⟩
    unfold App updC
    rw [if_neg (by omega), if_pos k]
    simp only [hp, hd]
    by_cases e : f = c.fam ∧ q = c.qual
    · simp [e]
    · simp [e]
  · -- a family
    have hp : ∀ f q v, Put (addF l c) f q v ↔ Put l f q v ∧ ¬ f = c.fam := by
      intro f q v
      constructor
      · rintro ⟨x, hx, xk, rfl, rfl, rfl⟩
        rcases addF_mem.1 hx with ⟨hx, nx⟩ | rfl
        · exact ⟨⟨x, hx, xk, rfl, rfl, rfl⟩, fun e => nx (needless_true.2 (.inr ⟨e, .inl k⟩))⟩
        · omega
      · rintro ⟨⟨x, hx, xk, rfl, rfl, rfl⟩, e⟩
        refine ⟨x, addF_mem.2 (.inl ⟨hx, fun hn => ?_⟩), xk, rfl, rfl, rfl⟩
        rcases needless_true.1 hn with h1 | ⟨h1, h2⟩
        · have := order_zero.1 h1; omega
        · exact e h1
    have hd : ∀ f q, Del (addF l c) f q ↔ Del l f q ∨ f = c.fam := by
      intro f q
      constructor
      · rintro ⟨x, hx, rfl, xk⟩
        rcases addF_mem.1 hx with ⟨hx, -⟩ | rfl
        · exact .inl ⟨x, hx, rfl, xk⟩
        · exact .inr rfl
      · rintro (⟨x, hx, rfl, xk⟩ | rfl)
        · by_cases hn : x.fam = c.fam
          · exact ⟨c, addF_mem.2 (.inr rfl), hn.symm, .inl k⟩
          · refine ⟨x, addF_mem.2 (.inl ⟨hx, fun h2 => ?_⟩), rfl, xk⟩
            rcases needless_true.1 h2 with h1 | ⟨h1, h2⟩
            · exact hn (order_zero.1 h1).2.1
            · exact hn h1
        · exact ⟨c, addF_mem.2 (.inr rfl), rfl, .inl k⟩
    unfold App updC
    rw [if_neg (by omega), if_neg (by omega)]
    simp only [hp, hd]
    by_cases e : f = c.fam
    · simp [e]
    · simp [e]

def updM (s : Schema) (X : Sees) (m : Mut) : Sees := fun f q v =>
  if m.kind = 1 then (if f = m.fam ∧ q = m.qual then v = m.val else X f q v)
  else if m.kind = 2 then X f q v ∧ ¬ (f = m.fam ∧ q = m.qual)
  else if m.kind = 3 then X f q v ∧ ¬ f = m.fam
  else if m.kind = 4 then X f q v ∧ ¬ ∃ g ∈ s.fams, famU s g.name = true ∧ f = g.name
  else X f q v
theorem App.rowF (s : Schema) {r : Str} {t : Int} (X : Sees) : ∀ (fs : List Family) (l : List Cell), Uni r t l → Uni r t (rowF s r t l fs) ∧ App (rowF s r t l fs) X = fun f q v => App l X f q v ∧ ¬ ∃ g ∈ fs, famU s g.name = true ∧ f = g.name
  | [], l, h => by simp [S2.rowF, h]
  | g :: fs, l, h => by
    rw [S2.rowF]
    have hc : UniC r t ⟨r, g.name, [], t - 1, 4, Value.zero⟩ := ⟨rfl, .inr (.inr ⟨rfl, rfl⟩)⟩
    by_cases hu : famU s g.name = true
    · rw [if_pos hu]
      have ih := App.rowF s X fs _ (h.add hc)
      refine ⟨ih.1, ?_⟩
      rw [ih.2, App.add h hc]
      funext f q v
      apply propext
      simp only [updC, List.mem_cons, exists_eq_or_imp, hu, true_and]
      simp only [show ¬ ((4 : Int) = 1) by decide, show ¬ ((4 : Int) = 3) by decide, if_false, not_or, and_assoc]
    · rw [if_neg hu]
      have ih := App.rowF s X fs _ h
      refine ⟨ih.1, ?_⟩
      rw [ih.2]
      funext f q v
      apply propext
      have hu' : famU s g.name = false := by simpa using hu
      simp only [List.mem_cons, exists_eq_or_imp, hu', Bool.false_eq_true, false_and, false_or]
theorem App.doF (s : Schema) {r : Str} {t : Int} (X : Sees) (m : Mut) (l : List Cell) (h : Uni r t l) : Uni r t (doF s r t l m) ∧ App (doF s r t l m) X = updM s (App l X) m := by
  unfold S2.doF updM
  by_cases h1 : m.kind = 1
  · simp only [if_pos h1]
    have hc : UniC r t ⟨r, m.fam, m.qual, t, 1, m.val⟩ := ⟨rfl, .inl ⟨rfl, rfl⟩⟩
    refine ⟨h.add hc, ?_⟩
    rw [App.add h hc]
    rfl
  · simp only [if_neg h1]
    by_cases h2 : m.kind = 2
    · simp only [if_pos h2]
      have hc : UniC r t ⟨r, m.fam, m.qual, t - 1, 3, Value.zero⟩ := ⟨rfl, .inr (.inl ⟨rfl, rfl⟩)⟩
      refine ⟨h.add hc, ?_⟩
      rw [App.add h hc]
      rfl
    · simp only [if_neg h2]
      by_cases h3 : m.kind = 3
      · simp only [if_pos h3]
        have hc : UniC r t ⟨r, m.fam, [], t - 1, 4, Value.zero⟩ := ⟨rfl, .inr (.inr ⟨rfl, rfl⟩)⟩
        refine ⟨h.add hc, ?_⟩
        rw [App.add h hc]
        rfl
      · simp only [if_neg h3]
        by_cases h4 : m.kind = 4
        · simp only [if_pos h4]
          exact App.rowF s X s.fams l h
        · simp only [if_neg h4]
          exact ⟨h, trivial⟩
theorem App.fold (s : Schema) {r : Str} {t : Int} (X : Sees) : ∀ (ms : List Mut) (l : List Cell), Uni r t l → Uni r t (ms.foldl (S2.doF s r t) l) ∧ App (ms.foldl (S2.doF s r t) l) X = ms.foldl (updM s) (App l X)
  | [], l, h => ⟨h, rfl⟩
  | m :: ms, l, h => by
    have h1 := App.doF s X m l h
    have ih := App.fold s X ms _ h1.1
    exact ⟨ih.1, by rw [List.foldl_cons, ih.2, h1.2, List.foldl_cons]⟩
theorem Uni.nil (r : Str) (t : Int) : Uni r t [] := ⟨by simp, by simp⟩

/-! lists of cells -/
def Mem (l : List Cell) : Cell → Prop := fun c => c ∈ sort06 l
theorem mem_app {r : Str} {t : Int} {X : List Cell} (hX : ∀ c ∈ X, c.time < t - 1) : ∀ (l : List Cell), Uni r t l → (∀ c ∈ l, right03 c = true) → Mem (X ++ l) = fun c => Mem X c ∨ c ∈ l := by
  intro l
  induction l using snoc_ind with
  | h0 => intro _ _; simp
  | h1 l d ih =>
    intro hu hr
    have ih := ih ⟨fun c hc => hu.c c (by simp [hc]), fun c hc x hx => hu.one c (by simp [hc]) x (by simp [hx])⟩ fun c hc => hr c (by simp [hc])
    funext c
    apply propext
    have h1 : c ∈ sort06 (X ++ l) ↔ c ∈ sort06 X ∨ c ∈ l := by
      have := congrFun ih c
      simp only [Mem] at this
      rw [this]
    have hd : right03 d = true := hr d (by simp)
    have hdt := (hu.c d (by simp)).2
    unfold Mem
    rw [← List.append_assoc, sort_mem_snoc, h1, List.mem_append, List.mem_singleton]
    simp only [hd, true_and, forall_const]
    constructor
    · rintro (rfl | ⟨h | h, -⟩)
      · exact .inr (.inr rfl)
      · exact .inl h
      · exact .inr (.inl h)
    · rintro (h | h | rfl)
      · refine .inr ⟨.inl h, fun e => ?_⟩
        have h2 := (order_zero.1 e).2.2.2.1
        have h3 := hX c (sort_sub X c h)
        omega
      · by_cases e : order d c = 0
        · exact .inl (hu.one d (by simp) c (by simp [h]) e).symm
        · exact .inr ⟨.inr h, e⟩
      · exact .inl rfl
theorem app_sees {r : Str} {t : Int} {X l : List Cell} (hX : ∀ c ∈ X, c.time < t - 1) (hu : Uni r t l) (hr : ∀ c ∈ l, right03 c = true) : SS (Mem (X ++ l)) = App l (SS (Mem X)) := by
  rw [mem_app hX l hu hr]
  exact static (fun c hc => hX c (sort_sub X c hc)) hu

/-! what Seen answers -/
theorem kill_iff {c d : Cell} (h : d.row = c.row) : killB c d = true ↔ Kills d c := by
  simp only [killB, Kills, h, beq_self_eq_true, Bool.true_and, Bool.and_eq_true, Bool.or_eq_true, beq_iff_eq, decide_eq_true_eq]
theorem lives_iff {s : List Cell} {r : Str} (hs : ∀ c ∈ s, c.row = r) {c : Cell} (hc : c ∈ s) : lives06 s c 0 0 = true ↔ c.kind = 1 ∧ ∀ d ∈ s, ¬ Kills d c := by
  simp only [lives06, show decide ((0 : Int) < 0) = false from rfl, Bool.false_and, Bool.not_false, Bool.and_true, Bool.and_eq_true, beq_iff_eq, Bool.not_eq_true', List.any_eq_false]
  constructor
  · rintro ⟨h1, h2⟩
    exact ⟨h1, fun d hd hk => h2 d hd ((kill_iff (by rw [hs d hd, hs c hc])).2 hk)⟩
  · rintro ⟨h1, h2⟩
    exact ⟨h1, fun d hd hk => h2 d hd ((kill_iff (by rw [hs d hd, hs c hc])).1 hk)⟩
theorem seen_iff {l : List Cell} {r : Str} (hl : ∀ c ∈ l, c.row = r) (c : Cell) : c ∈ seen06 l 1 0 0 ↔ SeenIn (Mem l) c := by
  have hs : ∀ c ∈ sort06 l, c.row = r := fun c hc => hl c (sort_sub l c hc)
  unfold seen06
  rw [if_neg (by omega), List.mem_filter]
  constructor
  · rintro ⟨hc, hb⟩
    simp only [seenB, Bool.and_eq_true, decide_eq_true_eq] at hb
    obtain ⟨h1, h2⟩ := (lives_iff hs hc).1 hb.1
    refine ⟨hc, h1, h2, fun d hd dk df dq dl => ?_⟩
    have h3 : (sort06 l).countP (laterB (sort06 l) c 0 0) = 0 := by omega
    rw [List.countP_eq_zero] at h3
    have h4 := h3 d hd
    apply Int.not_lt.1
    intro hlt
    apply h4
    simp only [laterB, Bool.and_eq_true, beq_iff_eq, decide_eq_true_eq]
    exact ⟨⟨⟨⟨by rw [hs d hd, hs c hc], df⟩, dq⟩, hlt⟩, (lives_iff hs hd).2 ⟨dk, dl⟩⟩
  · intro h
    refine ⟨h.mem, ?_⟩
    simp only [seenB, Bool.and_eq_true, decide_eq_true_eq]
    refine ⟨(lives_iff hs h.mem).2 ⟨h.put, h.live⟩, ?_⟩
    have : (sort06 l).countP (laterB (sort06 l) c 0 0) = 0 := by
      rw [List.countP_eq_zero]
      intro d hd hb
      simp only [laterB, Bool.and_eq_true, beq_iff_eq, decide_eq_true_eq] at hb
      obtain ⟨⟨⟨⟨-, df⟩, dq⟩, hlt⟩, hv⟩ := hb
      obtain ⟨dk, dl⟩ := (lives_iff hs hd).1 hv
      have := h.new d hd dk df dq dl
      omega
    omega
def tr (c : Cell) : Str × Str × Value := (c.fam, c.qual, c.val)
def trLt (a b : Str × Str × Value) : Prop := a.1 < b.1 ∨ a.1 = b.1 ∧ a.2.1 < b.2.1
theorem sorted_ext {α : Type} {R : α → α → Prop} (irr : ∀ a, ¬ R a a) (tra : ∀ {a b c}, R a b → R b c → R a c) : ∀ {l m : List α}, l.Pairwise R → m.Pairwise R → (∀ x, x ∈ l ↔ x ∈ m) → l = m
  | [], [], _, _, _ => rfl
  | [], y :: m, _, _, h => by have := (h y).2 (by simp); simp at this
  | x :: l, [], _, _, h => by have := (h x).1 (by simp); simp at this
  | x :: l, y :: m, hl, hm, h => by
    rw [List.pairwise_cons] at hl hm
    have hxy : x = y := by
      rcases List.mem_cons.1 ((h x).1 (by simp)) with e | hx
      · exact e
      · rcases List.mem_cons.1 ((h y).2 (by simp)) with e | hy
        · exact e.symm
        · exact absurd (tra (hl.1 y hy) (hm.1 x hx)) (irr x)
    subst hxy
    congr 1
    refine sorted_ext irr tra hl.2 hm.2 fun z => ?_
    have hz := h z
    rw [List.mem_cons, List.mem_cons] at hz
    constructor
    · intro hzl
      rcases hz.1 (.inr hzl) with rfl | h2
      · exact absurd (hl.1 z hzl) (irr z)
      · exact h2
    · intro hzm
      rcases hz.2 (.inr hzm) with rfl | h2
      · exact absurd (hm.1 z hzm) (irr z)
      · exact h2
theorem seen_sorted {l : List Cell} {r : Str} (hl : ∀ c ∈ l, c.row = r) : ((seen06 l 1 0 0).map tr).Pairwise trLt := by
  rw [List.pairwise_map]
  have h1 : (seen06 l 1 0 0).Pairwise oLt := by
    unfold seen06
    rw [if_neg (by omega)]
    exact (sort_sorted l).filter _
  refine List.Pairwise.imp_of_mem (fun {a b} ha hb h => ?_) h1
  have sa := (seen_iff hl a).1 ha
  have sb := (seen_iff hl b).1 hb
  have ra := hl a (sort_sub l a sa.mem)
  have rb := hl b (sort_sub l b sb.mem)
  rcases slt_tri a.fam b.fam with h2 | h2 | h2
  · exact .inl h2
  · refine .inr ⟨h2, ?_⟩
    show a.qual < b.qual
    rcases slt_tri a.qual b.qual with h3 | h3 | h3
    · exact h3
    · have t1 := sa.new b sb.mem sb.put h2.symm h3.symm sb.live
      have t2 := sb.new a sa.mem sa.put h2 h3 sa.live
      have : order a b = 0 := order_zero.2 ⟨by rw [ra, rb], h2, h3, by omega, by rw [sa.put, sb.put]⟩
      unfold oLt at h
      omega
    · exfalso
      unfold oLt at h
      rw [order_lex] at h
      have e1 : cmpS a.row b.row = 0 := (cmpS_eq _ _).2 (by rw [ra, rb])
      have e2 : cmpS a.fam b.fam = 0 := (cmpS_eq _ _).2 h2
      have e3 : cmpI (whole a) (whole b) = 0 := cmpI_eq.2 (by simp [whole, sa.put, sb.put])
      have e4 : ¬ cmpS a.qual b.qual = 0 := fun e => by rw [cmpS_eq] at e; rw [e] at h3; exact slt_irrefl _ h3
      simp only [lex, e1, e2, e3, e4, if_true, if_false] at h
      rw [cmpS_lt] at h
      exact slt_irrefl _ (slt_trans h h3)
  · exfalso
    unfold oLt at h
    rw [order_lex] at h
    have e1 : cmpS a.row b.row = 0 := (cmpS_eq _ _).2 (by rw [ra, rb])
    have e4 : ¬ cmpS a.fam b.fam = 0 := fun e => by rw [cmpS_eq] at e; rw [e] at h2; exact slt_irrefl _ h2
    simp only [lex, e1, e4, if_true, if_false] at h
    rw [cmpS_lt] at h
    exact slt_irrefl _ (slt_trans h h2)
theorem seen_same {a b : List Cell} {r : Str} (ha : ∀ c ∈ a, c.row = r) (hb : ∀ c ∈ b, c.row = r) (h : SS (Mem a) = SS (Mem b)) : (seen06 a 1 0 0).map tr = (seen06 b 1 0 0).map tr := by
  refine sorted_ext (R := trLt) ?_ ?_ (seen_sorted ha) (seen_sorted hb) fun x => ?_
  · rintro x (h | ⟨-, h⟩) <;> exact slt_irrefl _ h
  · rintro x y z (h | ⟨h, h'⟩) (k | ⟨k, k'⟩)
    · exact .inl (slt_trans h k)
    · exact .inl (by rw [← k]; exact h)
    · exact .inl (by rw [h]; exact k)
    · exact .inr ⟨h.trans k, slt_trans h' k'⟩
  · have hx := congrFun (congrFun (congrFun h x.1) x.2.1) x.2.2
    have e : ∀ {l : List Cell}, (∀ c ∈ l, c.row = r) → (x ∈ (seen06 l 1 0 0).map tr ↔ SS (Mem l) x.1 x.2.1 x.2.2) := by
      intro l hl
      rw [List.mem_map]
      constructor
      · rintro ⟨c, hc, rfl⟩
        exact ⟨c, (seen_iff hl c).1 hc, rfl, rfl, rfl⟩
      · rintro ⟨c, hc, h1, h2, h3⟩
        exact ⟨c, (seen_iff hl c).2 hc, by simp [tr, h1, h2, h3]⟩
    rw [e ha, e hb, hx]
end Go.Ab.S2

/- Contracts: what a request's sizes are; families and columns that can be used (joistref16). -/
namespace Go.Ab.S2
open Go.Ab
set_option maxRecDepth 100000

theorem longRequest_spec (q : Request) : Ans N.joistref00_LongRequest [.agg q.e] (.bool (longRequest q)) := by
  intro h
  refine spec_of ck_joistref00_LongRequest ?_
  rw [wp_start]
  simp (maxSteps := 1000000) (disch := omega) only [go_sem, ↓reduceIte, Nat.reduceAdd, Nat.reduceEqDiff, F.joistref00_LongRequest]
  intro t
  rw [condS_some]; refine ⟨fun hx => ?_, fun hx => ?_⟩
  · simp (maxSteps := 1000000) (disch := omega) only [go_sem, ↓reduceIte]
    have hx0 : longQ0 q = true := hx
    refine finS_l ?_
    simp (maxSteps := 1000000) (disch := omega) only [go_sem]
    all_goals simp [longRequest, hx0]
  · simp (maxSteps := 1000000) (disch := omega) only [go_sem, ↓reduceIte, Nat.reduceEqDiff]
    have hx0 : longQ0 q = false := hx
    have hb : q.filter.fams.length ≤ 20 ∧ q.muts.length ≤ 20 := by
      simp only [longQ0, Bool.or_eq_false_iff, decide_eq_false_iff_not] at hx0
      omega
    refine loopS_list q.filter.fams (fun pre (_ : Unit) => ⟨[(1, .ptr h.length t 0 0), (3, .int .i64 pre.length)], h ++ [.arr t 0 16 [q.e]]⟩) (fun pre post _ => q.filter.fams.any longT = post.any longT) () rfl rfl ?_
    rintro pre post ⟨⟩ hpp hJ
    cases post with
    | nil =>
      have hn := nl0 hpp
      simp (maxSteps := 1000000) (disch := omega) only [go_sem, ↓reduceIte, Nat.reduceEqDiff, hn]
      refine loopS_list q.muts (fun pre (_ : Unit) => ⟨[(1, .ptr h.length t 0 0), (4, .int .i64 pre.length)], h ++ [.arr t 0 16 [q.e]]⟩) (fun pre post _ => q.muts.any longM = post.any longM) () rfl rfl ?_
      rintro pre2 post2 ⟨⟩ hpp2 hJ2
      cases post2 with
      | nil =>
        have hn2 := nl0 hpp2
        simp (maxSteps := 1000000) (disch := omega) only [go_sem, ↓reduceIte, Nat.reduceEqDiff, hn2]
        refine finS_l ?_
        simp (maxSteps := 1000000) (disch := omega) only [go_sem]
        all_goals simp [longRequest, hx0, hJ, hJ2]
      | cons y post2 =>
        have hn2 := nl hpp2
        simp (maxSteps := 1000000) (disch := omega) only [go_sem, ↓reduceIte, Nat.reduceAdd, Nat.reduceEqDiff, gml Mut.e hpp2, hn2]
        rw [condS_some]; refine ⟨fun hx => ?_, fun hx => ?_⟩
        · simp (maxSteps := 1000000) (disch := omega) only [go_sem, ↓reduceIte]
          have hx1 : longM y = true := hx
          refine finS_l ?_
          simp (maxSteps := 1000000) (disch := omega) only [go_sem]
          all_goals simp [longRequest, hJ2, hx1]
        · simp (maxSteps := 1000000) (disch := omega) only [go_sem, ↓reduceIte, Nat.reduceEqDiff]
          have hx1 : longM y = false := hx
          refine lp_next (h.length + 1) () hpp2 ?_ ?_ ?_
          · simp [hJ2, hx1]
          · simp (maxSteps := 1000000) (disch := omega) only [go_sem, ↓reduceIte, Nat.reduceEqDiff, wrap64, Int.natCast_add, Int.cast_ofNat_Int]
          · simp (maxSteps := 1000000) (disch := omega) only [go_sem]
    | cons x post =>
      have hn := nl hpp
      simp (maxSteps := 1000000) (disch := omega) only [go_sem, ↓reduceIte, Nat.reduceEqDiff, gstrs hpp, hn]
      rw [condS_some]; refine ⟨fun hx => ?_, fun hx => ?_⟩
      · simp (maxSteps := 1000000) (disch := omega) only [go_sem, ↓reduceIte]
        have hx1 : longT x = true := hx
        refine finS_l ?_
        simp (maxSteps := 1000000) (disch := omega) only [go_sem]
        all_goals simp [longRequest, hJ, hx1]
      · simp (maxSteps := 1000000) (disch := omega) only [go_sem, ↓reduceIte, Nat.reduceEqDiff]
        have hx1 : longT x = false := hx
        refine lp_next (h.length + 1) () hpp ?_ ?_ ?_
        · simp [hJ, hx1]
        · simp (maxSteps := 1000000) (disch := omega) only [go_sem, ↓reduceIte, Nat.reduceEqDiff, wrap64, Int.natCast_add, Int.cast_ofNat_Int]
        · simp (maxSteps := 1000000) (disch := omega) only [go_sem]

def longB (s : Schema) (q : Request) : Bool := longSchema s || longRequest q
theorem long_spec (s : Schema) (q : Request) : Ans N.joistlaw16_long [.agg s.e, .agg q.e] (.bool (longB s q)) := by
  intro h
  refine spec_of ck_joistlaw16_long ?_
  rw [wp_start]
  simp (maxSteps := 1000000) (disch := omega) only [go_sem, ↓reduceIte, Nat.reduceAdd, Nat.reduceEqDiff, reduceCtorEq, F.joistlaw16_long]
  intro t t2
  refine callS_exact (longSchema_spec s _) ?_
  simp (maxSteps := 1000000) (disch := omega) only [go_sem, ↓reduceIte, Nat.reduceEqDiff]
  rw [opEg_some]; refine ⟨fun hg => ?_, fun hg => ?_⟩ <;> try simp only [Bool.not_eq_true', Bool.not_eq_false'] at hg
  · have g1 := hg
    simp (maxSteps := 1000000) (disch := omega) only [go_sem, ↓reduceIte, g1]
    refine callS_exact (longRequest_spec q _) ?_
    simp (maxSteps := 1000000) (disch := omega) only [go_sem, ↓reduceIte, Nat.reduceEqDiff]
    refine finS_l ?_
    simp (maxSteps := 1000000) (disch := omega) only [go_sem, longB, g1]
    all_goals (try simp [longB, g1])
  · have g1 := hg
    simp (maxSteps := 1000000) (disch := omega) only [go_sem, ↓reduceIte, Nat.reduceEqDiff, g1]
    refine finS_l ?_
    simp (maxSteps := 1000000) (disch := omega) only [go_sem, longB, g1]
    all_goals (try simp [longB, g1])

end Go.Ab.S2

/- PlanSees answers true. -/
namespace Go.Ab.S2
open Go.Ab
set_option maxRecDepth 100000

theorem chk_sch {s : Schema} {q : Request} (h : chkE s q = 0) : schP s = true ∧ formQ q = true := by
  unfold chkE at h
  split at h
  · simp at h
  · rename_i hx
    simpa only [Bool.or_eq_true, Bool.not_eq_true', not_or, Bool.not_eq_false] using hx
theorem sch_parts {s : Schema} (h : schP s = true) : (s.fams.map Family.name).Nodup ∧ ∀ f ∈ s.fams, famP f = true := by
  simp only [schP, Bool.and_eq_true, Bool.not_eq_true', List.any_eq_false, Bool.not_eq_false, decide_eq_true_eq] at h
  exact ⟨h.1.2, fun f hf => by simpa using h.1.1.2 f hf⟩
theorem fam_parts {f : Family} (h : famP f = true) : (f.cols.map Column.qual).Nodup ∧ ∀ c ∈ f.cols, colBad c = false := by
  simp only [famP, colsP, Bool.and_eq_true, Bool.not_eq_true', List.any_eq_false, decide_eq_true_eq] at h
  exact ⟨h.2.2, fun c hc => by simpa using h.2.1.2 c hc⟩
theorem col_kind {c : Column} (h : colBad c = false) : 1 ≤ c.kind ∧ c.kind ≤ 5 := by
  simp only [colBad, Bool.or_eq_false_iff, decide_eq_false_iff_not] at h
  omega
end Go.Ab.S2

/- The cells that a write makes: plain laws. -/
namespace Go.Ab.S2
open Go.Ab
set_option maxRecDepth 100000

def MadeC (s : Schema) (r : Str) (t : Int) (c : Cell) : Prop :=
  c.row = r ∧ nameR c.fam = true ∧ c.qual.length ≤ 12 ∧
  (c.kind = 1 ∧ c.time = t ∧ valR c.val = true ∧ c.val.kind = columnK s c.fam c.qual ∧ columnK s c.fam c.qual ≠ 0 ∧ famU s c.fam = true ∨
   c.kind = 3 ∧ c.time = t - 1 ∧ c.val = Value.zero ∧ columnK s c.fam c.qual ≠ 0 ∧ famU s c.fam = true ∨
   c.kind = 4 ∧ c.time = t - 1 ∧ c.val = Value.zero ∧ c.qual = [] ∧ famU s c.fam = true)
structure Made (s : Schema) (r : Str) (t : Int) (l : List Cell) : Prop where
  c : ∀ c ∈ l, MadeC s r t c
  one : l.Pairwise fun x y => order x y ≠ 0

theorem Made.nil (s : Schema) (r : Str) (t : Int) : Made s r t [] := ⟨by simp, List.Pairwise.nil⟩
theorem Made.add {s : Schema} {r : Str} {t : Int} {l : List Cell} {c : Cell} (h : Made s r t l) (hc : MadeC s r t c) : Made s r t (addF l c) := by
  refine ⟨fun x hx => ?_, ?_⟩
  · rcases addF_mem.1 hx with ⟨hx, -⟩ | rfl
    · exact h.c x hx
    · exact hc
  · unfold addF
    rw [List.pairwise_append]
    refine ⟨h.one.filter _, by simp, fun x hx y hy => ?_⟩
    rw [List.mem_singleton] at hy
    subst hy
    intro e
    rw [List.mem_filter] at hx
    have := needless_true.2 (.inl e)
    rw [this] at hx
    simp at hx
theorem famU_find {s : Schema} {n : Str} (h : famU s n = true) : ∃ f, findF s n = some f ∧ f ∈ s.fams ∧ f.name = n := by
  cases hf : findF s n with
  | none => rw [famU, hf] at h; simp [Family.zero, readF] at h
  | some f => exact ⟨f, rfl, findF_mem hf⟩
theorem sch_fam {s : Schema} (h : schP s = true) {f : Family} (hf : f ∈ s.fams) : nameR f.name = true := by
  have := (sch_parts h).2 f hf
  simp only [famP, Bool.and_eq_true] at this
  exact this.1.1.1.1
theorem valE_zero {s : Schema} (hs : schP s = true) {f q : Str} {x : Value} (h : valE s f q x = 0) : famU s f = true ∧ columnK s f q ≠ 0 ∧ (x.kind ≠ 0 → x.kind = columnK s f q) := by
  unfold valE at h
  split at h
  · simp at h
  · rename_i h1
    simp only [Bool.or_eq_true, Bool.not_eq_true', not_or, Bool.not_eq_false, bne_iff_ne, ne_eq, Decidable.not_not] at h1
    obtain ⟨⟨hu, hc⟩, hst⟩ := h1
    obtain ⟨g, hg, hgm, -⟩ := famU_find hu
    have hk : columnK s f q = ((colF ((findF s f).getD Family.zero) q).getD Column.zero).kind := by
      unfold columnK
      dsimp only
      rw [if_pos ⟨hu, hst⟩]
    rw [hk]
    refine ⟨hu, ?_, ?_⟩
    · rw [hg] at hc ⊢
      obtain ⟨c, hcc⟩ := Option.isSome_iff_exists.1 hc
      rw [hcc]
      have hm : c ∈ g.cols := List.mem_of_find?_eq_some hcc
      have := col_kind ((fam_parts ((sch_parts hs).2 g hgm)).2 c hm)
      show c.kind ≠ 0
      omega
    · intro hx
      split at h
      · simp at h
      · rename_i h2
        simp only [Bool.and_eq_true, bne_iff_ne, ne_eq, not_and, Decidable.not_not] at h2
        exact h2 hx
theorem valR_kind {v : Value} (h : valR v = true) : v.kind ≠ 0 := by
  intro e
  simp [valR, e] at h
theorem firstE_zero {α : Type} {g : α → Int} : ∀ {l : List α}, firstE g l = 0 → ∀ x ∈ l, g x = 0
  | [], _, x, hx => by simp at hx
  | y :: l, h, x, hx => by
    unfold firstE at h
    split at h
    · rename_i hy
      rcases List.mem_cons.1 hx with rfl | hx
      · exact hy
      · exact firstE_zero h x hx
    · rename_i hy; exact absurd h hy
theorem firstE_all {α : Type} {g : α → Int} : ∀ {l : List α}, (∀ x ∈ l, g x = 0) → firstE g l = 0
  | [], _ => rfl
  | y :: l, h => by
    unfold firstE
    rw [if_pos (h y (by simp))]
    exact firstE_all fun x hx => h x (by simp [hx])

theorem Made.row {s : Schema} (hs : schP s = true) {r : Str} {t : Int} : ∀ (fs : List Family) (l : List Cell), (∀ f ∈ fs, f ∈ s.fams) → Made s r t l → Made s r t (rowF s r t l fs)
  | [], l, _, h => h
  | f :: fs, l, hf, h => by
    rw [rowF]
    refine Made.row hs fs _ (fun g hg => hf g (by simp [hg])) ?_
    split
    · rename_i hu
      exact h.add ⟨rfl, sch_fam hs (hf f (by simp)), by simp, .inr (.inr ⟨rfl, rfl, rfl, rfl, hu⟩)⟩
    · exact h
theorem colN_parts {f q : Str} (h : colN f q = true) : nameR f = true ∧ q.length ≤ 12 := by
  simp only [colN, Bool.and_eq_true, decide_eq_true_eq] at h
  exact ⟨h.1, by omega⟩
theorem Made.mut {s : Schema} (hs : schP s = true) {r : Str} {t : Int} {l : List Cell} (h : Made s r t l) {m : Mut} (hm : mutF m = true) (he : mutE s m = 0) : Made s r t (doF s r t l m) := by
  unfold doF
  unfold mutF at hm
  unfold mutE at he
  by_cases h1 : m.kind = 1
  · simp only [true_or, if_true, h1, Bool.and_eq_true] at hm he ⊢
    obtain ⟨hn, hq⟩ := colN_parts hm.1
    obtain ⟨hu, hk, hkk⟩ := valE_zero hs he
    exact h.add ⟨rfl, hn, hq, .inl ⟨rfl, rfl, hm.2, hkk (valR_kind hm.2), hk, hu⟩⟩
  · simp only [if_neg h1] at hm ⊢
    by_cases h2 : m.kind = 2
    · simp only [if_pos h2, Bool.and_eq_true] at hm ⊢
      rw [if_pos (.inr h2)] at he
      obtain ⟨hn, hq⟩ := colN_parts hm.1
      obtain ⟨hu, hk, -⟩ := valE_zero hs he
      exact h.add ⟨rfl, hn, hq, .inr (.inl ⟨rfl, rfl, rfl, hk, hu⟩)⟩
    · simp only [if_neg h2] at hm ⊢
      rw [if_neg (by omega)] at he
      by_cases h3 : m.kind = 3
      · simp only [if_pos h3, Bool.and_eq_true] at hm he ⊢
        have hu : famU s m.fam = true := by
          unfold namE at he
          split at he
          · assumption
          · simp at he
        exact h.add ⟨rfl, hm.1.1, by simp, .inr (.inr ⟨rfl, rfl, rfl, rfl, hu⟩)⟩
      · simp only [if_neg h3] at hm ⊢
        by_cases h4 : m.kind = 4
        · simp only [if_pos h4]
          exact Made.row hs s.fams l (fun _ h => h) h
        · simp only [if_neg h4]
          exact h
theorem Made.fold {s : Schema} (hs : schP s = true) {r : Str} {t : Int} : ∀ (ms : List Mut) (l : List Cell), Made s r t l → (∀ m ∈ ms, mutF m = true ∧ mutE s m = 0) → Made s r t (ms.foldl (doF s r t) l)
  | [], l, h, _ => h
  | m :: ms, l, h, hm => Made.fold hs ms _ (h.mut hs (hm m (by simp)).1 (hm m (by simp)).2) fun x hx => hm x (by simp [hx])

theorem write_parts {q : Request} (h : writeQ q = true) : 1 ≤ q.row.length ∧ q.row.length ≤ 16 ∧ 1 ≤ q.muts.length ∧ q.muts.length ≤ 8 ∧ ∀ m ∈ q.muts, mutF m = true := by
  simp only [writeQ, Bool.and_eq_true, Bool.not_eq_true', decide_eq_true_eq, beq_eq_false_iff_ne, List.any_eq_false, Bool.not_eq_false] at h
  obtain ⟨⟨⟨⟨⟨⟨h1, h2⟩, -⟩, -⟩, h3⟩, h4⟩, h5⟩ := h
  have := List.length_pos_iff.2 h1
  exact ⟨by omega, by omega, by omega, by omega, fun m hm => by simpa using h5 m hm⟩
theorem form_write {q : Request} (h : formQ q = true) (h3 : q.kind ≠ 3) : writeQ q = true := by
  unfold formQ at h
  rw [if_neg h3] at h
  split at h
  · simp only [Bool.and_eq_true] at h; exact h.1.1.1
  · split at h
    · simp only [Bool.and_eq_true] at h; exact h.1.1
    · simp at h
theorem chk_muts {s : Schema} {q : Request} (h : chkE s q = 0) (h3 : q.kind ≠ 3) : ∀ m ∈ q.muts, mutF m = true ∧ mutE s m = 0 := by
  obtain ⟨hs, hf⟩ := chk_sch h
  have hw := (write_parts (form_write hf h3)).2.2.2.2
  unfold chkE at h
  rw [hs, hf] at h
  simp only [Bool.not_true, Bool.or_self, Bool.false_eq_true, if_false, if_neg h3] at h
  split at h
  · rename_i h2; exact absurd h h2.2
  · exact fun m hm => ⟨hw m hm, firstE_zero h m hm⟩

theorem cells_parts {s : Schema} {q : Request} {t : Int} (h : (cellsF s q t).2 = 0) : chkE s q = 0 ∧ q.kind ≠ 3 ∧ 1 ≤ t ∧ t ≤ 1099511627776 ∧ (cellsF s q t).1 = q.muts.foldl (doF s q.row t) [] := by
  unfold cellsF at h ⊢
  split at h
  · rename_i h1; exact absurd h h1
  · rename_i h1
    split at h
    · simp at h
    · rename_i h2
      split at h
      · simp at h
      · rename_i h3
        rw [if_neg h1, if_neg h2, if_neg h3]
        exact ⟨by omega, h2, by omega, by omega, rfl⟩
theorem cells_made {s : Schema} {q : Request} {t : Int} (h : (cellsF s q t).2 = 0) : Made s q.row t (cellsF s q t).1 := by
  obtain ⟨hc, h3, -, -, e⟩ := cells_parts h
  rw [e]
  exact Made.fold (chk_sch hc).1 q.muts [] (Made.nil _ _ _) (chk_muts hc h3)
theorem made_right {s : Schema} {r : Str} {t : Int} {c : Cell} (h : MadeC s r t c) (h1 : 1 ≤ r.length) (h2 : r.length ≤ 16) (h3 : 1 ≤ t) (h4 : t ≤ 1099511627776) : right03 c = true := by
  obtain ⟨rfl, hn, hq, hk⟩ := h
  have hb : ¬ (decide ((c.row.length : Int) < 1) || decide (16 < (c.row.length : Int)) || !nameR c.fam || decide (12 < (c.qual.length : Int)) || decide (c.time < 0) || decide (1099511627776 < c.time)) = true := by
    rw [hn]
    simp only [Bool.not_true, Bool.or_false, Bool.or_eq_true, decide_eq_true_eq, not_or]
    omega
  unfold right03
  rw [if_neg hb]
  rcases hk with ⟨k, -, hv, -⟩ | ⟨k, -, hv, -⟩ | ⟨k, -, hv, hq, -⟩
  · rw [if_pos k]; exact hv
  · rw [if_neg (by omega), if_pos (.inr k)]; simp [hv]
  · rw [if_neg (by omega), if_neg (by omega), if_pos k]; simp [hv, hq]
theorem cells_right {s : Schema} {q : Request} {t : Int} (h : (cellsF s q t).2 = 0) : ∀ c ∈ (cellsF s q t).1, right03 c = true := by
  obtain ⟨hc, h3, h1, h2, -⟩ := cells_parts h
  have hw := write_parts (form_write (chk_sch hc).2 h3)
  exact fun c hm => made_right ((cells_made h).c c hm) hw.1 hw.2.1 h1 h2
theorem nameR_len {s : Str} (h : nameR s = true) : s.length ≤ 8 := by
  simp only [nameR, Bool.and_eq_true, decide_eq_true_eq] at h
  omega
theorem valR_len {v : Value} (h : valR v = true) : v.s.length ≤ 32 := by
  have e : ∀ s : Str, (s == ([] : Str)) = true → s.length ≤ 32 := fun s hs => by
    have : s = [] := by simpa using hs
    simp [this]
  unfold valR at h
  split at h
  · exact e _ h
  · split at h
    · simp only [Bool.and_eq_true] at h; exact e _ h.1
    · split at h
      · simp only [Bool.and_eq_true] at h; exact e _ h.1
      · split at h
        · simp only [Bool.and_eq_true, decide_eq_true_eq] at h; omega
        · simp at h
theorem fold_len (s : Schema) (r : Str) (t : Int) : ∀ (ms : List Mut) (l : List Cell), (ms.foldl (doF s r t) l).length ≤ l.length + ms.length * (s.fams.length + 1)
  | [], l => by simp
  | m :: ms, l => by
    rw [List.foldl_cons]
    have h1 := fold_len s r t ms (doF s r t l m)
    have h2 := doF_len s r t l m
    rw [List.length_cons, Nat.add_mul]
    omega
theorem cells_len {s : Schema} {q : Request} {t : Int} (h : (cellsF s q t).2 = 0) : (cellsF s q t).1.length ≤ 56 := by
  obtain ⟨hc, h3, -, -, e⟩ := cells_parts h
  obtain ⟨h1, h2⟩ := chk_bounds hc h3
  rw [e]
  refine Nat.le_trans (fold_len s q.row t q.muts []) ?_
  have := Nat.mul_le_mul h2 (show s.fams.length + 1 ≤ 7 by omega)
  simp only [List.length_nil]
  omega

end Go.Ab.S2

/- PlanSeen: plain laws about single parts of a write. -/
namespace Go.Ab.S2
open Go.Ab
set_option maxRecDepth 100000

theorem made_sm {s : Schema} {r : Str} {t : Int} {c : Cell} (h : MadeC s r t c) (hr : r.length ≤ 16) : c.row.length < 1099511627776 ∧ c.fam.length < 1099511627776 ∧ c.qual.length < 1099511627776 ∧ c.val.s.length < 1099511627776 := by
  obtain ⟨e1, e2, e3, e4⟩ := h
  have := nameR_len e2
  refine ⟨by rw [e1]; omega, by omega, by omega, ?_⟩
  rcases e4 with ⟨-, -, hv, -⟩ | ⟨-, -, hv, -⟩ | ⟨-, -, hv, -⟩
  · have := valR_len hv; omega
  · rw [hv]; simp [Value.zero]
  · rw [hv]; simp [Value.zero]

theorem write_single {q : Request} (h : writeQ q = true) {m : Mut} (hm : m ∈ q.muts) : writeQ { q with muts := [m] } = true := by
  have hw := (write_parts h).2.2.2.2 m hm
  simp only [writeQ, Bool.and_eq_true] at h ⊢
  obtain ⟨⟨⟨h1, -⟩, -⟩, -⟩ := h
  refine ⟨⟨⟨h1, by simp⟩, by simp⟩, by simp [hw]⟩
theorem chk_single {s : Schema} {q : Request} (h : chkE s q = 0) (h3 : q.kind ≠ 3) {m : Mut} (hm : m ∈ q.muts) : chkE s { q with muts := [m] } = 0 := by
  obtain ⟨hs, hf⟩ := chk_sch h
  have hmm := (chk_muts h h3 m hm).2
  have hf' : formQ { q with muts := [m] } = true := by
    have hw := write_single (form_write hf h3) hm
    unfold formQ at hf ⊢
    simp only [if_neg h3] at hf ⊢
    split at hf
    · rename_i h1
      simp only [if_pos h1, Bool.and_eq_true] at hf ⊢
      exact ⟨⟨⟨hw, hf.1.1.2⟩, hf.1.2⟩, hf.2⟩
    · rename_i h1
      split at hf
      · rename_i h2
        simp only [if_neg h1, if_pos h2, Bool.and_eq_true] at hf ⊢
        exact ⟨⟨hw, hf.1.2⟩, hf.2⟩
      · simp at hf
  unfold chkE at h ⊢
  simp only [hs, hf, Bool.not_true, Bool.or_self, Bool.false_eq_true, if_false, if_neg h3] at h
  simp only [hs, hf', Bool.not_true, Bool.or_self, Bool.false_eq_true, if_false, if_neg h3]
  split at h
  · rename_i h2; exact absurd h h2.2
  · rename_i h2
    rw [if_neg h2]
    exact firstE_all fun x hx => by simp at hx; rw [hx]; exact hmm
theorem cells_single {s : Schema} {q : Request} (h : chkE s q = 0) (h3 : q.kind ≠ 3) {m : Mut} (hm : m ∈ q.muts) {t : Int} (h1 : 1 ≤ t) (h2 : t ≤ 1099511627776) : cellsF s { q with muts := [m] } t = (doF s q.row t [] m, 0) := by
  unfold cellsF
  rw [if_neg (by simp [chk_single h h3 hm]), if_neg (by exact h3), if_neg (by omega)]
  rfl
theorem uni_time {r : Str} {t : Int} {l : List Cell} (h : Uni r t l) : ∀ c ∈ l, c.row = r ∧ c.time ≤ t := fun c hc => by
  have := h.c c hc
  unfold UniC at this
  exact ⟨this.1, by omega⟩

/-- One part of a write behind what there is. -/
theorem single_step {s : Schema} {q : Request} {O : List Cell} {t b : Int} {m : Mut} {X : Sees} (hO : ∀ c ∈ O, c.row = q.row ∧ c.time < b) (hb : b ≤ t - 1) (hX : SS (Mem O) = X) (hr : ∀ c ∈ doF s q.row t [] m, right03 c = true) :
    SS (Mem (O ++ doF s q.row t [] m)) = updM s X m ∧ ∀ c ∈ O ++ doF s q.row t [] m, c.row = q.row ∧ c.time < t + 1 := by
  obtain ⟨hu, ha⟩ := App.doF s (SS (Mem O)) m [] (Uni.nil q.row t)
  constructor
  · rw [app_sees (fun c hc => by have := (hO c hc).2; omega) hu hr, ha, App.nil, hX]
  · intro c hc
    rcases List.mem_append.1 hc with hc | hc
    · have := hO c hc
      exact ⟨this.1, by omega⟩
    · have := uni_time hu c hc
      exact ⟨this.1, by omega⟩
theorem batch_sees {s : Schema} {r : Str} {A : List Cell} {t : Int} {ms : List Mut} (hA : ∀ c ∈ A, c.time < t - 1) (hr : ∀ c ∈ ms.foldl (doF s r t) [], right03 c = true) :
    SS (Mem (A ++ ms.foldl (doF s r t) [])) = ms.foldl (updM s) (SS (Mem A)) := by
  obtain ⟨hu, ha⟩ := App.fold s (SS (Mem A)) ms [] (Uni.nil r t)
  rw [app_sees hA hu hr, ha, App.nil]
end Go.Ab.S2

/- UTF-8, character by character: plain laws. -/
namespace Go.Ab.S2
open Go.Ab
set_option maxRecDepth 100000

def accU (l : Str) (c : Int) : Nat → Int
  | 0 => c
  | j + 1 => accU l c j * 64 + ((l.getD (j + 1) 0).toNat : Int) - 128
def Lead (b n : Nat) (base least : Int) : Prop := (194 ≤ b ∧ b ≤ 223 ∧ n = 1 ∧ base = 192 ∧ least = 128) ∨ (224 ≤ b ∧ b ≤ 239 ∧ n = 2 ∧ base = 224 ∧ least = 2048) ∨ (240 ≤ b ∧ b ≤ 244 ∧ n = 3 ∧ base = 240 ∧ least = 65536)
def endU (c least : Int) : Bool := decide (c < least) || decide (1114111 < c) || (decide (55296 ≤ c) && decide (c ≤ 57343))

theorem u_step {l : Str} (hne : l ≠ []) {c : Nat} {k : Nat} (h : Lib.decodeN l.length (l.getD 0 0).toNat (l.getD 1 0).toNat (l.getD 2 0).toNat (l.getD 3 0).toNat = (c, k)) : Lib.validD l = if c = 65533 ∧ k = 1 then false else Lib.validD (l.drop k) := by
  rw [Lib.validD_step l hne, Lib.decodeL_N, h]
theorem u_bad {l : Str} (hne : l ≠ []) (h : Lib.decodeN l.length (l.getD 0 0).toNat (l.getD 1 0).toNat (l.getD 2 0).toNat (l.getD 3 0).toNat = (65533, 1)) : Lib.validD l = false := by
  rw [u_step hne h, if_pos ⟨rfl, rfl⟩]

theorem u_other {l : Str} (hne : l ≠ []) (h1 : 128 ≤ (l.getD 0 0).toNat) (h2 : ¬ (194 ≤ (l.getD 0 0).toNat ∧ (l.getD 0 0).toNat ≤ 244)) : Lib.validD l = false := by
  have hb := (l.getD 0 0).toNat_lt
  exact u_bad hne (Lib.decodeN_bad _ _ _ _ _ (by omega))
theorem u_short {l : Str} (hne : l ≠ []) {n : Nat} {base least : Int} (h : Lead (l.getD 0 0).toNat n base least) (hl : l.length ≤ n) : Lib.validD l = false := by
  refine u_bad hne ?_
  generalize (l.getD 0 0).toNat = b0 at h ⊢
  unfold Lib.decodeN
  rcases h with ⟨h1, h2, rfl, -, -⟩ | ⟨h1, h2, rfl, -, -⟩ | ⟨h1, h2, rfl, -, -⟩
  all_goals (repeat' split) <;> first | rfl | (exfalso; omega)
theorem u_cont {l : Str} (hne : l ≠ []) {n : Nat} {base least : Int} (h : Lead (l.getD 0 0).toNat n base least) {j : Nat} (hj : j < n) (hb : (l.getD (j + 1) 0).toNat < 128 ∨ 191 < (l.getD (j + 1) 0).toNat) : Lib.validD l = false := by
  refine u_bad hne ?_
  have c1 := (l.getD 1 0).toNat_lt
  have c2 := (l.getD 2 0).toNat_lt
  have c3 := (l.getD 3 0).toNat_lt
  have hj3 : j = 0 ∨ j = 1 ∨ j = 2 := by unfold Lead at h; omega
  generalize (l.getD 0 0).toNat = b0 at h ⊢
  unfold Lib.decodeN
  rcases hj3 with rfl | rfl | rfl <;> simp only [Nat.zero_add, Nat.reduceAdd] at hb
  all_goals (rcases h with ⟨h1, h2, rfl, -, -⟩ | ⟨h1, h2, rfl, -, -⟩ | ⟨h1, h2, rfl, -, -⟩)
  all_goals (repeat' split) <;> first | rfl | (exfalso; omega)
theorem u_end {l : Str} (hne : l ≠ []) {n : Nat} {base least : Int} (h : Lead (l.getD 0 0).toNat n base least) (hl : n < l.length) (hg : ∀ j, j < n → 128 ≤ (l.getD (j + 1) 0).toNat ∧ (l.getD (j + 1) 0).toNat ≤ 191) :
    (endU (accU l ((l.getD 0 0).toNat - base) n) least = true → Lib.validD l = false) ∧ (endU (accU l ((l.getD 0 0).toNat - base) n) least = false → Lib.validD l = Lib.validD (l.drop (n + 1))) := by
  have g0 := hg 0
  have g1 := hg 1
  have g2 := hg 2
  simp only [Nat.zero_add, Nat.reduceAdd] at g0 g1 g2
  have key : ∀ b0 b1 b2 b3, (l.getD 0 0).toNat = b0 → (l.getD 1 0).toNat = b1 → (l.getD 2 0).toNat = b2 → (l.getD 3 0).toNat = b3 →
      (endU (accU l (b0 - base) n) least = true → Lib.decodeN l.length b0 b1 b2 b3 = (65533, 1)) ∧ (endU (accU l (b0 - base) n) least = false → ∃ c, (Lib.decodeN l.length b0 b1 b2 b3) = (c, n + 1)) := by
    intro b0 b1 b2 b3 e0 e1 e2 e3
    rw [e1] at g0
    rw [e2] at g1
    rw [e3] at g2
    rw [e0] at h
    unfold Lib.decodeN
    rcases h with ⟨h1, h2, rfl, rfl, rfl⟩ | ⟨h1, h2, rfl, rfl, rfl⟩ | ⟨h1, h2, rfl, rfl, rfl⟩
    · have := g0 (by omega)
      simp only [accU, endU, Nat.zero_add, e1, Bool.or_eq_true, Bool.and_eq_true, decide_eq_true_eq, Bool.or_eq_false_iff, Bool.and_eq_false_iff, decide_eq_false_iff_not]
      constructor
      · intro he
        (repeat' split) <;> first | rfl | (exfalso; omega)
      · intro he
        (repeat' split) <;> first | exact ⟨_, rfl⟩ | (exfalso; omega)
    · have := g0 (by omega)
      have := g1 (by omega)
      simp only [accU, endU, Nat.zero_add, Nat.reduceAdd, e1, e2, Bool.or_eq_true, Bool.and_eq_true, decide_eq_true_eq, Bool.or_eq_false_iff, Bool.and_eq_false_iff, decide_eq_false_iff_not]
      constructor
      · intro he
        (repeat' split) <;> first | rfl | (exfalso; omega)
      · intro he
        (repeat' split) <;> first | exact ⟨_, rfl⟩ | (exfalso; omega)
    · have := g0 (by omega)
      have := g1 (by omega)
      have := g2 (by omega)
      simp only [accU, endU, Nat.zero_add, Nat.reduceAdd, e1, e2, e3, Bool.or_eq_true, Bool.and_eq_true, decide_eq_true_eq, Bool.or_eq_false_iff, Bool.and_eq_false_iff, decide_eq_false_iff_not]
      constructor
      · intro he
        (repeat' split) <;> first | rfl | (exfalso; omega)
      · intro he
        (repeat' split) <;> first | exact ⟨_, rfl⟩ | (exfalso; omega)
  have k := key _ _ _ _ rfl rfl rfl rfl
  refine ⟨fun he => u_bad hne (k.1 he), fun he => ?_⟩
  obtain ⟨c, hc⟩ := k.2 he
  rw [u_step hne hc, if_neg]
  unfold Lead at h
  omega
end Go.Ab.S2

/- Contracts: values and cells, as the references tell them. -/
namespace Go.Ab.S2
open Go.Ab
set_option maxRecDepth 100000

theorem getD_drop {s : Str} {k j : Nat} {b : UInt8} (h : s[k + j]? = some b) : (s.drop k).getD j 0 = b := by
  rw [List.getD_eq_getElem?_getD, List.getElem?_drop, h]; rfl
theorem byteW (b : UInt8) : IntKind.i64.wrap (b.toNat : Int) = (b.toNat : Int) := by
  have := b.toNat_lt
  rw [wrap64 (by omega) (by omega)]
theorem accU_bounds {l : Str} {c : Int} (h0 : 0 ≤ c) (h1 : c < 32) : ∀ {j : Nat}, j ≤ 3 → (∀ i, i < j → 128 ≤ (l.getD (i + 1) 0).toNat ∧ (l.getD (i + 1) 0).toNat ≤ 191) → 0 ≤ accU l c j ∧ accU l c j < 32 * 64 ^ j
  | 0, _, _ => ⟨h0, by simpa [accU] using h1⟩
  | j + 1, hj, h => by
    have ih := accU_bounds h0 h1 (j := j) (by omega) fun i hi => h i (by omega)
    have hb := h j (by omega)
    have hp : j = 0 ∨ j = 1 ∨ j = 2 := by omega
    simp only [accU]
    rcases hp with rfl | rfl | rfl <;> (simp only [Nat.zero_add, Nat.reduceAdd, Int.reducePow, Int.reduceMul] at ih hb ⊢; omega)
theorem accU_b {l : Str} {c : Int} (h0 : 0 ≤ c) (h1 : c < 32) {j : Nat} (hj : j ≤ 3) (h : ∀ i, i < j → 128 ≤ (l.getD (i + 1) 0).toNat ∧ (l.getD (i + 1) 0).toNat ≤ 191) : 0 ≤ accU l c j ∧ accU l c j < 8388608 := by
  have hb := accU_bounds h0 h1 hj h
  have hp : j = 0 ∨ j = 1 ∨ j = 2 ∨ j = 3 := by omega
  rcases hp with rfl | rfl | rfl | rfl <;> simp at hb <;> omega

theorem utf8_spec (s : Str) (hs : s.length < 1099511627776) : Ans N.joistref02_Utf8 [.str s] (.bool (Lib.validD s)) := by
  intro h
  refine spec_of ck_joistref02_Utf8 ?_
  rw [wp_start]
  simp (maxSteps := 1000000) (disch := omega) only [go_sem, ↓reduceIte, reduceCtorEq, F.joistref02_Utf8]
  refine loopS_meas (fun k : Nat => ⟨[(0, .str s), (3, .int .i64 k)], h⟩) (fun k => s.length - k) (fun k => k ≤ s.length ∧ Lib.validD s = Lib.validD (s.drop k)) 0 rfl ⟨Nat.zero_le _, by simp⟩ ?_
  rintro k ⟨k1, hJ⟩
  simp (maxSteps := 1000000) (disch := omega) only [go_sem, ↓reduceIte, Nat.reduceEqDiff, reduceCtorEq]
  rw [condS_some]; refine ⟨fun hx => ?_, fun hx => ?_⟩
  · have hk : k < s.length := by simpa using hx
    obtain ⟨b, hb⟩ := getlt hk
    have hbl := b.toNat_lt
    have hne : s.drop k ≠ [] := by rw [dropc hb]; simp
    have h0 : ((s.drop k).getD 0 0).toNat = b.toNat := by rw [getD_drop (j := 0) hb]
    have hkl : (s.drop k).length = s.length - k := List.length_drop
    simp (maxSteps := 1000000) (disch := omega) only [go_sem, ↓reduceIte, Nat.reduceEqDiff, reduceCtorEq, hb, byteW]
    rw [condS_some]; refine ⟨fun hx => ?_, fun hx => ?_⟩
    · have hlt : b.toNat < 128 := by
        simp at hx
        omega
      simp (maxSteps := 1000000) (disch := omega) only [go_sem, ↓reduceIte, Nat.reduceEqDiff, reduceCtorEq]
      refine lpm_next (h.length + 0) (k + 1) ?_ ?_ ?_ ?_
      rotate_left 2
      · simp (maxSteps := 1000000) (disch := omega) only [go_sem, ↓reduceIte, reduceCtorEq, wrap64, Int.natCast_add, Int.cast_ofNat_Int]
      · simp (maxSteps := 1000000) (disch := omega) only [go_sem]
      · show s.length - (k + 1) < s.length - k
        omega
      · refine ⟨by omega, ?_⟩
        rw [hJ, dropc hb, Lib.validD_cons b _ hlt]
    · have hge : 128 ≤ b.toNat := by
        simp at hx
        omega
      simp (maxSteps := 1000000) (disch := omega) only [go_sem, ↓reduceIte, Nat.reduceEqDiff, reduceCtorEq]
      rw [condS_some]; refine ⟨fun hx => ?_, fun hx => ?_⟩
      · simp only [Bool.and_eq_true, decide_eq_true_eq] at hx
        have hL : Lead b.toNat 1 192 128 := by unfold Lead; omega
        have hL0 : Lead ((s.drop k).getD 0 0).toNat 1 192 128 := by rw [h0]; exact hL
        have hcw : IntKind.i64.wrap ((b.toNat : Int) - 192) = (b.toNat : Int) - 192 := by rw [wrap64 (by omega) (by omega)]
        have hkn : IntKind.i64.wrap ((k : Int) + 1) = ((k + 1 : Nat) : Int) := by rw [wrap64 (by omega) (by omega)]; omega
        simp (maxSteps := 1000000) (disch := omega) only [go_sem, ↓reduceIte, Nat.reduceEqDiff, reduceCtorEq, hcw, hkn]
        rw [condS_some]; refine ⟨fun hx => ?_, fun hx => ?_⟩
        · have hsh : s.length ≤ k + 1 := by
            simp only [decide_eq_true_eq] at hx
            omega
          simp (maxSteps := 1000000) (disch := omega) only [go_sem, ↓reduceIte]
          have hv := u_short hne hL0 (by omega)
          refine finS_l ?_
          simp (maxSteps := 1000000) (disch := omega) only [go_sem]
          all_goals simp [hJ, hv]
        · have hsh : k + 1 < s.length := by
            simp only [decide_eq_false_iff_not] at hx
            omega
          simp (maxSteps := 1000000) (disch := omega) only [go_sem, ↓reduceIte, Nat.reduceEqDiff, reduceCtorEq]
          refine loopS_meas (fun j : Nat => ⟨[(0, .str s), (3, .int .i64 k), (4, .int .i64 (accU (s.drop k) (b.toNat - 192) j)), (5, .int .i64 1), (6, .int .i64 128), (7, .int .i64 ((j + 1 : Nat) : Int))], h⟩) (fun j => 1 - j) (fun j => j ≤ 1 ∧ ∀ i, i < j → 128 ≤ ((s.drop k).getD (i + 1) 0).toNat ∧ ((s.drop k).getD (i + 1) 0).toNat ≤ 191) 0 (by simp (maxSteps := 1000000) (disch := omega) only [go_sem, ↓reduceIte, Nat.reduceEqDiff, reduceCtorEq, accU]; rfl) ⟨by omega, by omega⟩ ?_
          rintro j ⟨hj, hgo⟩
          have hab := accU_b (l := s.drop k) (c := (b.toNat : Int) - 192) (by omega) (by omega) (j := j) (by omega) hgo
          simp (maxSteps := 1000000) (disch := omega) only [go_sem, ↓reduceIte, Nat.reduceEqDiff, reduceCtorEq]
          rw [condS_some]; refine ⟨fun hx => ?_, fun hx => ?_⟩
          · have hjn : j < 1 := by
              simp only [decide_eq_true_eq] at hx
              omega
            obtain ⟨d, hd⟩ := getlt (l := s) (k := k + (j + 1)) (by omega)
            have hdl := d.toNat_lt
            have hdd : (s.drop k).getD (j + 1) 0 = d := getD_drop hd
            have hkj : IntKind.i64.wrap ((k : Int) + ((j + 1 : Nat) : Int)) = ((k + (j + 1) : Nat) : Int) := by rw [wrap64 (by omega) (by omega)]; omega
            simp (maxSteps := 1000000) (disch := omega) only [go_sem, ↓reduceIte, Nat.reduceEqDiff, reduceCtorEq, hkj, hd, byteW]
            rw [condS_some]; refine ⟨fun hx => ?_, fun hx => ?_⟩
            · simp only [Bool.or_eq_true, decide_eq_true_eq] at hx
              simp (maxSteps := 1000000) (disch := omega) only [go_sem, ↓reduceIte]
              have hv := u_cont hne hL0 hjn (by rw [hdd]; omega)
              refine finS_l ?_
              simp (maxSteps := 1000000) (disch := omega) only [go_sem]
              all_goals simp [hJ, hv]
            · simp only [Bool.or_eq_false_iff, decide_eq_false_iff_not] at hx
              simp (maxSteps := 1000000) (disch := omega) only [go_sem, ↓reduceIte, Nat.reduceEqDiff, reduceCtorEq]
              refine lpm_next (h.length + 0) (j + 1) ?_ ?_ ?_ ?_
              rotate_left 2
              · simp (maxSteps := 1000000) (disch := omega) only [go_sem, ↓reduceIte, Nat.reduceAdd, Nat.reduceEqDiff, reduceCtorEq, wrap64, accU, hdd, Int.natCast_add, Int.cast_ofNat_Int]
                rw [show ((j : Int) + 1 + 1) = (j : Int) + 2 by omega]
              · simp (maxSteps := 1000000) (disch := omega) only [go_sem]
              · show 1 - (j + 1) < 1 - j
                omega
              · refine ⟨by omega, fun i hi => ?_⟩
                by_cases hij : i = j
                · subst hij; rw [hdd]; omega
                · exact hgo i (by omega)
          · have hjn : j = 1 := by
              simp only [decide_eq_false_iff_not] at hx
              omega
            subst hjn
            have hE := u_end hne hL0 (by omega) hgo
            rw [h0] at hE
            simp (maxSteps := 1000000) (disch := omega) only [go_sem, ↓reduceIte, Nat.reduceAdd, Nat.reduceSub, Nat.reduceEqDiff, reduceCtorEq]
            rw [condS_some]; refine ⟨fun hx => ?_, fun hx => ?_⟩
            · simp (maxSteps := 1000000) (disch := omega) only [go_sem, ↓reduceIte]
              have hv := hE.1 hx
              refine finS_l ?_
              simp (maxSteps := 1000000) (disch := omega) only [go_sem]
              all_goals simp [hJ, hv]
            · simp (maxSteps := 1000000) (disch := omega) only [go_sem, ↓reduceIte, Nat.reduceEqDiff, Int.reduceAdd, reduceCtorEq]
              have hv := hE.2 hx
              refine lpm_next (h.length + 0) (k + 1 + 1) ?_ ?_ ?_ ?_
              rotate_left 2
              · simp (maxSteps := 1000000) (disch := omega) only [go_sem, ↓reduceIte, Nat.reduceAdd, reduceCtorEq, wrap64, Int.natCast_add, Int.cast_ofNat_Int]
              · simp (maxSteps := 1000000) (disch := omega) only [go_sem]
              · show s.length - (k + 1 + 1) < s.length - k
                omega
              · refine ⟨by omega, ?_⟩
                rw [hJ, hv, List.drop_drop]
      · simp only [Bool.and_eq_false_iff, decide_eq_false_iff_not] at hx
        have hn0 := hx
        simp (maxSteps := 1000000) (disch := omega) only [go_sem, ↓reduceIte, Nat.reduceEqDiff, reduceCtorEq]
        rw [condS_some]; refine ⟨fun hx => ?_, fun hx => ?_⟩
        · simp only [Bool.and_eq_true, decide_eq_true_eq] at hx
          have hL : Lead b.toNat 2 224 2048 := by unfold Lead; omega
          have hL0 : Lead ((s.drop k).getD 0 0).toNat 2 224 2048 := by rw [h0]; exact hL
          have hcw : IntKind.i64.wrap ((b.toNat : Int) - 224) = (b.toNat : Int) - 224 := by rw [wrap64 (by omega) (by omega)]
          have hkn : IntKind.i64.wrap ((k : Int) + 2) = ((k + 2 : Nat) : Int) := by rw [wrap64 (by omega) (by omega)]; omega
          simp (maxSteps := 1000000) (disch := omega) only [go_sem, ↓reduceIte, Nat.reduceEqDiff, reduceCtorEq, hcw, hkn]
          rw [condS_some]; refine ⟨fun hx => ?_, fun hx => ?_⟩
          · have hsh : s.length ≤ k + 2 := by
              simp only [decide_eq_true_eq] at hx
              omega
            simp (maxSteps := 1000000) (disch := omega) only [go_sem, ↓reduceIte]
            have hv := u_short hne hL0 (by omega)
            refine finS_l ?_
            simp (maxSteps := 1000000) (disch := omega) only [go_sem]
            all_goals simp [hJ, hv]
          · have hsh : k + 2 < s.length := by
              simp only [decide_eq_false_iff_not] at hx
              omega
            simp (maxSteps := 1000000) (disch := omega) only [go_sem, ↓reduceIte, Nat.reduceEqDiff, reduceCtorEq]
            refine loopS_meas (fun j : Nat => ⟨[(0, .str s), (3, .int .i64 k), (4, .int .i64 (accU (s.drop k) (b.toNat - 224) j)), (5, .int .i64 2), (6, .int .i64 2048), (7, .int .i64 ((j + 1 : Nat) : Int))], h⟩) (fun j => 2 - j) (fun j => j ≤ 2 ∧ ∀ i, i < j → 128 ≤ ((s.drop k).getD (i + 1) 0).toNat ∧ ((s.drop k).getD (i + 1) 0).toNat ≤ 191) 0 (by simp (maxSteps := 1000000) (disch := omega) only [go_sem, ↓reduceIte, Nat.reduceEqDiff, reduceCtorEq, accU]; rfl) ⟨by omega, by omega⟩ ?_
            rintro j ⟨hj, hgo⟩
            have hab := accU_b (l := s.drop k) (c := (b.toNat : Int) - 224) (by omega) (by omega) (j := j) (by omega) hgo
            simp (maxSteps := 1000000) (disch := omega) only [go_sem, ↓reduceIte, Nat.reduceEqDiff, reduceCtorEq]
            rw [condS_some]; refine ⟨fun hx => ?_, fun hx => ?_⟩
            · have hjn : j < 2 := by
                simp only [decide_eq_true_eq] at hx
                omega
              obtain ⟨d, hd⟩ := getlt (l := s) (k := k + (j + 1)) (by omega)
              have hdl := d.toNat_lt
              have hdd : (s.drop k).getD (j + 1) 0 = d := getD_drop hd
              have hkj : IntKind.i64.wrap ((k : Int) + ((j + 1 : Nat) : Int)) = ((k + (j + 1) : Nat) : Int) := by rw [wrap64 (by omega) (by omega)]; omega
              simp (maxSteps := 1000000) (disch := omega) only [go_sem, ↓reduceIte, Nat.reduceEqDiff, reduceCtorEq, hkj, hd, byteW]
              rw [condS_some]; refine ⟨fun hx => ?_, fun hx => ?_⟩
              · simp only [Bool.or_eq_true, decide_eq_true_eq] at hx
                simp (maxSteps := 1000000) (disch := omega) only [go_sem, ↓reduceIte]
                have hv := u_cont hne hL0 hjn (by rw [hdd]; omega)
                refine finS_l ?_
                simp (maxSteps := 1000000) (disch := omega) only [go_sem]
                all_goals simp [hJ, hv]
              · simp only [Bool.or_eq_false_iff, decide_eq_false_iff_not] at hx
                simp (maxSteps := 1000000) (disch := omega) only [go_sem, ↓reduceIte, Nat.reduceEqDiff, reduceCtorEq]
                refine lpm_next (h.length + 0) (j + 1) ?_ ?_ ?_ ?_
                rotate_left 2
                · simp (maxSteps := 1000000) (disch := omega) only [go_sem, ↓reduceIte, Nat.reduceAdd, Nat.reduceEqDiff, reduceCtorEq, wrap64, accU, hdd, Int.natCast_add, Int.cast_ofNat_Int]
                  rw [show ((j : Int) + 1 + 1) = (j : Int) + 2 by omega]
                · simp (maxSteps := 1000000) (disch := omega) only [go_sem]
                · show 2 - (j + 1) < 2 - j
                  omega
                · refine ⟨by omega, fun i hi => ?_⟩
                  by_cases hij : i = j
                  · subst hij; rw [hdd]; omega
                  · exact hgo i (by omega)
            · have hjn : j = 2 := by
                simp only [decide_eq_false_iff_not] at hx
                omega
              subst hjn
              have hE := u_end hne hL0 (by omega) hgo
              rw [h0] at hE
              simp (maxSteps := 1000000) (disch := omega) only [go_sem, ↓reduceIte, Nat.reduceAdd, Nat.reduceSub, Nat.reduceEqDiff, reduceCtorEq]
              rw [condS_some]; refine ⟨fun hx => ?_, fun hx => ?_⟩
              · simp (maxSteps := 1000000) (disch := omega) only [go_sem, ↓reduceIte]
                have hv := hE.1 hx
                refine finS_l ?_
                simp (maxSteps := 1000000) (disch := omega) only [go_sem]
                all_goals simp [hJ, hv]
              · simp (maxSteps := 1000000) (disch := omega) only [go_sem, ↓reduceIte, Nat.reduceEqDiff, Int.reduceAdd, reduceCtorEq]
                have hv := hE.2 hx
                refine lpm_next (h.length + 0) (k + 2 + 1) ?_ ?_ ?_ ?_
                rotate_left 2
                · simp (maxSteps := 1000000) (disch := omega) only [go_sem, ↓reduceIte, Nat.reduceAdd, reduceCtorEq, wrap64, Int.natCast_add, Int.cast_ofNat_Int]
                · simp (maxSteps := 1000000) (disch := omega) only [go_sem]
                · show s.length - (k + 2 + 1) < s.length - k
                  omega
                · refine ⟨by omega, ?_⟩
                  rw [hJ, hv, List.drop_drop]
        · simp only [Bool.and_eq_false_iff, decide_eq_false_iff_not] at hx
          have hn1 := hx
          simp (maxSteps := 1000000) (disch := omega) only [go_sem, ↓reduceIte, Nat.reduceEqDiff, reduceCtorEq]
          rw [condS_some]; refine ⟨fun hx => ?_, fun hx => ?_⟩
          · simp only [Bool.and_eq_true, decide_eq_true_eq] at hx
            have hL : Lead b.toNat 3 240 65536 := by unfold Lead; omega
            have hL0 : Lead ((s.drop k).getD 0 0).toNat 3 240 65536 := by rw [h0]; exact hL
            have hcw : IntKind.i64.wrap ((b.toNat : Int) - 240) = (b.toNat : Int) - 240 := by rw [wrap64 (by omega) (by omega)]
            have hkn : IntKind.i64.wrap ((k : Int) + 3) = ((k + 3 : Nat) : Int) := by rw [wrap64 (by omega) (by omega)]; omega
            simp (maxSteps := 1000000) (disch := omega) only [go_sem, ↓reduceIte, Nat.reduceEqDiff, reduceCtorEq, hcw, hkn]
            rw [condS_some]; refine ⟨fun hx => ?_, fun hx => ?_⟩
            · have hsh : s.length ≤ k + 3 := by
                simp only [decide_eq_true_eq] at hx
                omega
              simp (maxSteps := 1000000) (disch := omega) only [go_sem, ↓reduceIte]
              have hv := u_short hne hL0 (by omega)
              refine finS_l ?_
              simp (maxSteps := 1000000) (disch := omega) only [go_sem]
              all_goals simp [hJ, hv]
            · have hsh : k + 3 < s.length := by
                simp only [decide_eq_false_iff_not] at hx
                omega
              simp (maxSteps := 1000000) (disch := omega) only [go_sem, ↓reduceIte, Nat.reduceEqDiff, reduceCtorEq]
              refine loopS_meas (fun j : Nat => ⟨[(0, .str s), (3, .int .i64 k), (4, .int .i64 (accU (s.drop k) (b.toNat - 240) j)), (5, .int .i64 3), (6, .int .i64 65536), (7, .int .i64 ((j + 1 : Nat) : Int))], h⟩) (fun j => 3 - j) (fun j => j ≤ 3 ∧ ∀ i, i < j → 128 ≤ ((s.drop k).getD (i + 1) 0).toNat ∧ ((s.drop k).getD (i + 1) 0).toNat ≤ 191) 0 (by simp (maxSteps := 1000000) (disch := omega) only [go_sem, ↓reduceIte, Nat.reduceEqDiff, reduceCtorEq, accU]; rfl) ⟨by omega, by omega⟩ ?_
              rintro j ⟨hj, hgo⟩
              have hab := accU_b (l := s.drop k) (c := (b.toNat : Int) - 240) (by omega) (by omega) (j := j) (by omega) hgo
              simp (maxSteps := 1000000) (disch := omega) only [go_sem, ↓reduceIte, Nat.reduceEqDiff, reduceCtorEq]
              rw [condS_some]; refine ⟨fun hx => ?_, fun hx => ?_⟩
              · have hjn : j < 3 := by
                  simp only [decide_eq_true_eq] at hx
                  omega
                obtain ⟨d, hd⟩ := getlt (l := s) (k := k + (j + 1)) (by omega)
                have hdl := d.toNat_lt
                have hdd : (s.drop k).getD (j + 1) 0 = d := getD_drop hd
                have hkj : IntKind.i64.wrap ((k : Int) + ((j + 1 : Nat) : Int)) = ((k + (j + 1) : Nat) : Int) := by rw [wrap64 (by omega) (by omega)]; omega
                simp (maxSteps := 1000000) (disch := omega) only [go_sem, ↓reduceIte, Nat.reduceEqDiff, reduceCtorEq, hkj, hd, byteW]
                rw [condS_some]; refine ⟨fun hx => ?_, fun hx => ?_⟩
                · simp only [Bool.or_eq_true, decide_eq_true_eq] at hx
                  simp (maxSteps := 1000000) (disch := omega) only [go_sem, ↓reduceIte]
                  have hv := u_cont hne hL0 hjn (by rw [hdd]; omega)
                  refine finS_l ?_
                  simp (maxSteps := 1000000) (disch := omega) only [go_sem]
                  all_goals simp [hJ, hv]
                · simp only [Bool.or_eq_false_iff, decide_eq_false_iff_not] at hx
                  simp (maxSteps := 1000000) (disch := omega) only [go_sem, ↓reduceIte, Nat.reduceEqDiff, reduceCtorEq]
                  refine lpm_next (h.length + 0) (j + 1) ?_ ?_ ?_ ?_
                  rotate_left 2
                  · simp (maxSteps := 1000000) (disch := omega) only [go_sem, ↓reduceIte, Nat.reduceAdd, Nat.reduceEqDiff, reduceCtorEq, wrap64, accU, hdd, Int.natCast_add, Int.cast_ofNat_Int]
                    rw [show ((j : Int) + 1 + 1) = (j : Int) + 2 by omega]
                  · simp (maxSteps := 1000000) (disch := omega) only [go_sem]
                  · show 3 - (j + 1) < 3 - j
                    omega
                  · refine ⟨by omega, fun i hi => ?_⟩
                    by_cases hij : i = j
                    · subst hij; rw [hdd]; omega
                    · exact hgo i (by omega)
              · have hjn : j = 3 := by
                  simp only [decide_eq_false_iff_not] at hx
                  omega
                subst hjn
                have hE := u_end hne hL0 (by omega) hgo
                rw [h0] at hE
                simp (maxSteps := 1000000) (disch := omega) only [go_sem, ↓reduceIte, Nat.reduceAdd, Nat.reduceSub, Nat.reduceEqDiff, reduceCtorEq]
                rw [condS_some]; refine ⟨fun hx => ?_, fun hx => ?_⟩
                · simp (maxSteps := 1000000) (disch := omega) only [go_sem, ↓reduceIte]
                  have hv := hE.1 hx
                  refine finS_l ?_
                  simp (maxSteps := 1000000) (disch := omega) only [go_sem]
                  all_goals simp [hJ, hv]
                · simp (maxSteps := 1000000) (disch := omega) only [go_sem, ↓reduceIte, Nat.reduceEqDiff, Int.reduceAdd, reduceCtorEq]
                  have hv := hE.2 hx
                  refine lpm_next (h.length + 0) (k + 3 + 1) ?_ ?_ ?_ ?_
                  rotate_left 2
                  · simp (maxSteps := 1000000) (disch := omega) only [go_sem, ↓reduceIte, Nat.reduceAdd, reduceCtorEq, wrap64, Int.natCast_add, Int.cast_ofNat_Int]
                  · simp (maxSteps := 1000000) (disch := omega) only [go_sem]
                  · show s.length - (k + 3 + 1) < s.length - k
                    omega
                  · refine ⟨by omega, ?_⟩
                    rw [hJ, hv, List.drop_drop]
          · simp only [Bool.and_eq_false_iff, decide_eq_false_iff_not] at hx
            simp (maxSteps := 1000000) (disch := omega) only [go_sem, ↓reduceIte]
            have hv := u_other hne (by rw [h0]; exact hge) (by rw [h0]; omega)
            refine finS_l ?_
            simp (maxSteps := 1000000) (disch := omega) only [go_sem]
            all_goals simp [hJ, hv]
  · have hk : k = s.length := by
      simp at hx
      omega
    simp (maxSteps := 1000000) (disch := omega) only [go_sem, ↓reduceIte]
    subst hk
    simp only [List.drop_length] at hJ
    refine finS_l ?_
    simp (maxSteps := 1000000) (disch := omega) only [go_sem]
    all_goals simp [hJ, Lib.validD_nil]
end Go.Ab.S2

/- Contracts: right values and cells, their order (joistref02, joistref03). -/
namespace Go.Ab.S2
open Go.Ab
set_option maxRecDepth 100000

/-- The lengths of a cell's texts. -/
structure CellSm (c : Cell) : Prop where
  row : c.row.length < 1099511627776
  fam : c.fam.length < 1099511627776
  qual : c.qual.length < 1099511627776
  val : c.val.s.length < 1099511627776
theorem wf_sm {c : Cell} (h : c.wf) : CellSm c := ⟨h.row, h.fam, h.qual, h.val.s⟩

theorem right02_spec (v : Value) (hv : v.s.length < 1099511627776) : Ans N.joistref02_Right [.agg v.e] (.bool (right02 v)) := by
  intro h
  refine spec_of ck_joistref02_Right ?_
  rw [wp_start]
  simp (maxSteps := 1000000) (disch := omega) only [go_sem, ↓reduceIte, Nat.reduceEqDiff, F.joistref02_Right]
  intro t
  rw [condS_some]; refine ⟨fun hx => ?_, fun hx => ?_⟩
  · have k1 : v.kind = 1 := by simpa using hx
    simp (maxSteps := 1000000) (disch := omega) only [go_sem, ↓reduceIte]
    refine finS_l ?_
    simp (maxSteps := 1000000) (disch := omega) only [go_sem]
    all_goals simp [right02, k1]
  · have k1 : ¬ v.kind = 1 := by simpa using hx
    simp (maxSteps := 1000000) (disch := omega) only [go_sem, ↓reduceIte, Nat.reduceEqDiff]
    rw [condS_some]; refine ⟨fun hx => ?_, fun hx => ?_⟩
    · have k2 : v.kind = 2 := by simpa using hx
      simp (maxSteps := 1000000) (disch := omega) only [go_sem, ↓reduceIte, Nat.reduceEqDiff]
      refine finS_l ?_
      simp (maxSteps := 1000000) (disch := omega) only [go_sem]
      all_goals simp [right02, k2]
    · have k2 : ¬ v.kind = 2 := by simpa using hx
      simp (maxSteps := 1000000) (disch := omega) only [go_sem, ↓reduceIte, Nat.reduceEqDiff]
      rw [condS_some]; refine ⟨fun hx => ?_, fun hx => ?_⟩
      · have k3 : v.kind = 3 := by simpa using hx
        simp (maxSteps := 1000000) (disch := omega) only [go_sem, ↓reduceIte, Nat.reduceEqDiff]
        rw [opEg_some]; refine ⟨fun hg => ?_, fun hg => ?_⟩ <;> try simp only [Bool.and_eq_true] at hg
        · have g1 := hg
          simp (maxSteps := 1000000) (disch := omega) only [go_sem, ↓reduceIte, g1]
          refine callS_exact (utf8_spec v.s hv _) ?_
          simp (maxSteps := 1000000) (disch := omega) only [go_sem, ↓reduceIte, Nat.reduceEqDiff]
          refine finS_l ?_
          simp (maxSteps := 1000000) (disch := omega) only [go_sem, ↓reduceIte, Int.reduceEq, right02, k3, g1]
          all_goals (try simp [right02, k3, g1])
        · have g1 := hg
          simp (maxSteps := 1000000) (disch := omega) only [go_sem, ↓reduceIte, Nat.reduceEqDiff, g1]
          refine finS_l ?_
          simp (maxSteps := 1000000) (disch := omega) only [go_sem, ↓reduceIte, Int.reduceEq, right02, k3, g1]
          all_goals (try simp [right02, k3, g1])
      · have k3 : ¬ v.kind = 3 := by simpa using hx
        simp (maxSteps := 1000000) (disch := omega) only [go_sem, ↓reduceIte, Nat.reduceEqDiff]
        rw [condS_some]; refine ⟨fun hx => ?_, fun hx => ?_⟩
        · have k4 : v.kind = 4 := by simpa using hx
          simp (maxSteps := 1000000) (disch := omega) only [go_sem, ↓reduceIte, Nat.reduceEqDiff]
          refine finS_l ?_
          simp (maxSteps := 1000000) (disch := omega) only [go_sem]
          all_goals simp [right02, k4]
        · have k4 : ¬ v.kind = 4 := by simpa using hx
          simp (maxSteps := 1000000) (disch := omega) only [go_sem, ↓reduceIte, Nat.reduceEqDiff]
          rw [condS_some]; refine ⟨fun hx => ?_, fun hx => ?_⟩
          · have k5 : v.kind = 5 := by simpa using hx
            simp (maxSteps := 1000000) (disch := omega) only [go_sem, ↓reduceIte, Nat.reduceEqDiff]
            rw [opEg_some]; refine ⟨fun hg => ?_, fun hg => ?_⟩ <;> try simp only [Bool.and_eq_true, Bool.or_eq_false_iff, Bool.not_eq_true', Bool.not_eq_false'] at hg
            · have g1 := hg
              simp (maxSteps := 1000000) (disch := omega) only [go_sem, ↓reduceIte, g1]
              refine callS_exact (right01_spec v.n _) ?_
              simp (maxSteps := 1000000) (disch := omega) only [go_sem, ↓reduceIte, Nat.reduceEqDiff]
              refine finS_l ?_
              simp (maxSteps := 1000000) (disch := omega) only [go_sem, ↓reduceIte, Int.reduceEq, right02, k5, g1]
              all_goals (try simp [right02, k5, g1])
            · have g1 := hg
              simp (maxSteps := 1000000) (disch := omega) only [go_sem, ↓reduceIte, Nat.reduceEqDiff, g1]
              refine finS_l ?_
              simp (maxSteps := 1000000) (disch := omega) only [go_sem, ↓reduceIte, Int.reduceEq, right02, k5, g1]
              all_goals (try simp [right02, k5, g1])
          · have k5 : ¬ v.kind = 5 := by simpa using hx
            simp (maxSteps := 1000000) (disch := omega) only [go_sem, ↓reduceIte]
            refine finS_l ?_
            simp (maxSteps := 1000000) (disch := omega) only [go_sem]
            all_goals simp [right02, k1, k2, k3, k4, k5]

theorem right02_val (v : Value) : right02 v = valR v := by
  unfold right02 valR
  by_cases k1 : v.kind = 1
  · simp [k1]
  · by_cases k2 : v.kind = 2
    · simp [k2]
    · by_cases k3 : v.kind = 3
      · simp [k3]
      · by_cases k4 : v.kind = 4
        · simp [k4]
        · simp [k1, k2, k3, k4]

def bad03 (c : Cell) : Bool := decide ((c.row.length : Int) < 1) || decide (16 < (c.row.length : Int)) || !nameR c.fam || decide (12 < (c.qual.length : Int)) || decide (c.time < 0) || decide (1099511627776 < c.time)
theorem right03_eq (c : Cell) : right03 c = if bad03 c = true then false else if c.kind = 1 then valR c.val else if c.kind = 2 ∨ c.kind = 3 then decide (c.val = Value.zero) else if c.kind = 4 then decide (c.val = Value.zero) && c.qual == ([] : Str) else false := rfl

theorem right03_spec (c : Cell) (hc : CellSm c) : Ans N.joistref03_Right [.agg c.e] (.bool (right03 c)) := by
  have hr := right03_eq c
  intro h
  refine spec_of ck_joistref03_Right ?_
  rw [wp_start]
  simp (maxSteps := 1000000) (disch := omega) only [go_sem, ↓reduceIte, Nat.reduceEqDiff, F.joistref03_Right]
  intro t
  rw [opEg_some]; refine ⟨fun hg => ?_, fun hg => ?_⟩ <;> try simp only [Bool.or_eq_false_iff, Bool.not_eq_true', Bool.not_eq_false'] at hg
  · have g1 : (decide ((c.row.length : Int) < 1) || decide (16 < (c.row.length : Int))) = false := by
      rw [hg.1, hg.2]; rfl
    simp (maxSteps := 1000000) (disch := omega) only [go_sem, ↓reduceIte, g1]
    refine callS_exact (name_spec c.fam hc.fam _) ?_
    simp (maxSteps := 1000000) (disch := omega) only [go_sem, ↓reduceIte, Nat.reduceEqDiff]
    rw [condS_some]; refine ⟨fun hx => ?_, fun hx => ?_⟩
    · have hb : bad03 c = true := by simp only [bad03, g1, Bool.false_or]; exact hx
      simp (maxSteps := 1000000) (disch := omega) only [go_sem, ↓reduceIte]
      refine finS_l ?_
      simp (maxSteps := 1000000) (disch := omega) only [go_sem]
      all_goals simp [hr, hb]
    · have hb : bad03 c = false := by simp only [bad03, g1, Bool.false_or]; exact hx
      simp (maxSteps := 1000000) (disch := omega) only [go_sem, ↓reduceIte, Nat.reduceEqDiff]
      rw [condS_some]; refine ⟨fun hx => ?_, fun hx => ?_⟩
      · have k1 : c.kind = 1 := by simpa using hx
        simp (maxSteps := 1000000) (disch := omega) only [go_sem, ↓reduceIte]
        refine callS_exact (right02_spec c.val hc.val _) ?_
        simp (maxSteps := 1000000) (disch := omega) only [go_sem, ↓reduceIte, right02_val c.val]
        refine finS_l ?_
        simp (maxSteps := 1000000) (disch := omega) only [go_sem]
        all_goals simp [hr, hb, k1]
      · have k1 : ¬ c.kind = 1 := by simpa using hx
        simp (maxSteps := 1000000) (disch := omega) only [go_sem, ↓reduceIte, Nat.reduceEqDiff]
        rw [condS_some]; refine ⟨fun hx => ?_, fun hx => ?_⟩
        · have k2 : c.kind = 2 := by simpa using hx
          simp (maxSteps := 1000000) (disch := omega) only [go_sem, ↓reduceIte, Nat.reduceEqDiff, hx]
          refine finS_l ?_
          simp (maxSteps := 1000000) (disch := omega) only [go_sem]
          all_goals simp [hr, hb, k2, Value.zero]
        · have k2 : ¬ c.kind = 2 := by simpa using hx
          simp (maxSteps := 1000000) (disch := omega) only [go_sem, ↓reduceIte, Nat.reduceEqDiff]
          rw [condS_some]; refine ⟨fun hx => ?_, fun hx => ?_⟩
          · have k3 : c.kind = 3 := by simpa using hx
            simp (maxSteps := 1000000) (disch := omega) only [go_sem, ↓reduceIte]
            refine finS_l ?_
            simp (maxSteps := 1000000) (disch := omega) only [go_sem]
            all_goals simp [hr, hb, k3, Value.zero]
          · have k3 : ¬ c.kind = 3 := by simpa using hx
            simp (maxSteps := 1000000) (disch := omega) only [go_sem, ↓reduceIte, Nat.reduceEqDiff]
            rw [condS_some]; refine ⟨fun hx => ?_, fun hx => ?_⟩
            · have k4 : c.kind = 4 := by simpa using hx
              simp (maxSteps := 1000000) (disch := omega) only [go_sem, ↓reduceIte, Nat.reduceEqDiff]
              refine finS_l ?_
              simp (maxSteps := 1000000) (disch := omega) only [go_sem]
              all_goals simp [hr, hb, k4, Value.zero]
            · have k4 : ¬ c.kind = 4 := by simpa using hx
              simp (maxSteps := 1000000) (disch := omega) only [go_sem, ↓reduceIte]
              refine finS_l ?_
              simp (maxSteps := 1000000) (disch := omega) only [go_sem]
              all_goals simp [hr, hb, k1, k2, k3, k4]
  · have g1 : (decide ((c.row.length : Int) < 1) || decide (16 < (c.row.length : Int))) = true := by
      simpa using hg
    have hb : bad03 c = true := by simp only [bad03, g1, Bool.true_or]
    simp (maxSteps := 1000000) (disch := omega) only [go_sem, ↓reduceIte, Nat.reduceEqDiff, g1]
    refine finS_l ?_
    simp (maxSteps := 1000000) (disch := omega) only [go_sem]
    all_goals simp [hr, hb]

set_option maxHeartbeats 1000000 in
theorem order03_spec (a b : Cell) (ha : CellSm a) (hb : CellSm b) : Ans N.joistref03_Order [.agg a.e, .agg b.e] (.int .i64 (order a b)) := by
  intro h
  refine spec_of ck_joistref03_Order ?_
  rw [wp_start]
  simp (maxSteps := 1000000) (disch := omega) only [go_sem, ↓reduceIte, Nat.reduceAdd, Nat.reduceEqDiff, reduceCtorEq, F.joistref03_Order]
  intro t t2
  have kn : ∀ {k : Int}, (k == 4) = false → ¬ k = 4 := fun hk => by simpa using hk
  have fin : ∀ (x y : Int), whole a = x → whole b = y → orI [cmpS a.row b.row, cmpS a.fam b.fam, cmpI x y, cmpS a.qual b.qual, cmpI b.time a.time, cmpI b.kind a.kind] = order a b := by
    rintro _ _ rfl rfl
    rfl
  cases ka : (a.kind == 4) <;> cases kb : (b.kind == 4)
  · have hf := fin 1 1 (by simp [whole, kn ka]) (by simp [whole, kn kb])
    simp (maxSteps := 1000000) (disch := omega) only [go_sem, ↓reduceIte, Nat.reduceEqDiff, kb]
    refine callS_exact (texts_spec a.row b.row ha.row hb.row _) ?_
    simp (maxSteps := 1000000) (disch := omega) only [go_sem, opS_s, ↓reduceIte, Nat.reduceEqDiff]
    refine callS_exact (texts_spec a.fam b.fam ha.fam hb.fam _) ?_
    simp (maxSteps := 1000000) (disch := omega) only [go_sem, opS_s, ↓reduceIte, Nat.reduceEqDiff]
    refine callS_exact (cmp3_spec 1 1 _) ?_
    simp (maxSteps := 1000000) (disch := omega) only [go_sem, opS_s, ↓reduceIte, Nat.reduceEqDiff]
    refine callS_exact (texts_spec a.qual b.qual ha.qual hb.qual _) ?_
    simp (maxSteps := 1000000) (disch := omega) only [go_sem, opS_s, ↓reduceIte, Nat.reduceEqDiff]
    refine callS_exact (cmp3_spec b.time a.time _) ?_
    simp (maxSteps := 1000000) (disch := omega) only [go_sem, opS_s, ↓reduceIte, Nat.reduceEqDiff]
    refine callS_exact (cmp3_spec b.kind a.kind _) ?_
    rw [← hf]
    generalize cmpS a.row b.row = x1
    generalize cmpS a.fam b.fam = x2
    generalize cmpI 1 1 = x3
    generalize cmpS a.qual b.qual = x4
    generalize cmpI b.time a.time = x5
    generalize cmpI b.kind a.kind = x6
    simp (maxSteps := 1000000) (disch := omega) only [go_sem, opS_b, ↓reduceIte, Nat.reduceAdd, Nat.reduceMul, Nat.reduceEqDiff, Nat.reduceLeDiff]
    intro s
    have he : [[AV.int IntKind.i64 x1], [AV.int IntKind.i64 x2], [AV.int IntKind.i64 x3], [AV.int IntKind.i64 x4], [AV.int IntKind.i64 x5], [AV.int IntKind.i64 x6]] = ints [x1, x2, x3, x4, x5, x6] := rfl
    rw [he]
    have hl : [x1, x2, x3, x4, x5, x6].length = 6 := rfl
    clear hf he
    generalize [x1, x2, x3, x4, x5, x6] = L at hl ⊢
    refine loopS_list L (fun pre (_ : Unit) => ⟨[(7, .sl (h.length + 2) s 0 L.length), (8, .int .i64 pre.length)], h ++ [.arr t 0 8 [a.e], .arr t2 0 8 [b.e], .arr s 0 1 (ints L)]⟩) (fun pre post _ => orI L = orI post) () (by rw [hl]; rfl) rfl ?_
    rintro pre post ⟨⟩ hpp hJ
    cases post with
    | nil =>
      have hn := nl0 hpp
      simp (maxSteps := 1000000) (disch := omega) only [go_sem, ↓reduceIte, Nat.reduceEqDiff, hn]
      refine finS_l ?_
      simp (maxSteps := 1000000) (disch := omega) only [go_sem, hJ]
      all_goals simp [orI]
    | cons x post =>
      have hn := nl hpp
      simp (maxSteps := 1000000) (disch := omega) only [go_sem, ↓reduceIte, Nat.reduceEqDiff, gints hpp, hn]
      rw [condS_some]; refine ⟨fun hx => ?_, fun hx => ?_⟩
      · simp (maxSteps := 1000000) (disch := omega) only [go_sem, ↓reduceIte, Nat.reduceEqDiff, gints hpp]
        have hx : ¬ x = 0 := by simpa using hx
        refine finS_l ?_
        simp (maxSteps := 1000000) (disch := omega) only [go_sem, hJ]
        all_goals simp [orI, hx]
      · simp (maxSteps := 1000000) (disch := omega) only [go_sem, ↓reduceIte, Nat.reduceEqDiff]
        have hx : x = 0 := by simpa using hx
        refine lp_next (h.length + 3) () hpp ?_ ?_ ?_
        · rw [hJ]; simp [orI, hx]
        · simp (maxSteps := 1000000) (disch := omega) only [go_sem, ↓reduceIte, Nat.reduceEqDiff, wrap64, Int.natCast_add, Int.cast_ofNat_Int]
        · simp (maxSteps := 1000000) (disch := omega) only [go_sem]
  · have hf := fin 1 0 (by simp [whole, kn ka]) (by simp at kb; simp [whole, kb])
    simp (maxSteps := 1000000) (disch := omega) only [go_sem, ↓reduceIte, Nat.reduceEqDiff, kb]
    refine callS_exact (texts_spec a.row b.row ha.row hb.row _) ?_
    simp (maxSteps := 1000000) (disch := omega) only [go_sem, opS_s, ↓reduceIte, Nat.reduceEqDiff]
    refine callS_exact (texts_spec a.fam b.fam ha.fam hb.fam _) ?_
    simp (maxSteps := 1000000) (disch := omega) only [go_sem, opS_s, ↓reduceIte, Nat.reduceEqDiff]
    refine callS_exact (cmp3_spec 1 0 _) ?_
    simp (maxSteps := 1000000) (disch := omega) only [go_sem, opS_s, ↓reduceIte, Nat.reduceEqDiff]
    refine callS_exact (texts_spec a.qual b.qual ha.qual hb.qual _) ?_
    simp (maxSteps := 1000000) (disch := omega) only [go_sem, opS_s, ↓reduceIte, Nat.reduceEqDiff]
    refine callS_exact (cmp3_spec b.time a.time _) ?_
    simp (maxSteps := 1000000) (disch := omega) only [go_sem, opS_s, ↓reduceIte, Nat.reduceEqDiff]
    refine callS_exact (cmp3_spec b.kind a.kind _) ?_
    rw [← hf]
    generalize cmpS a.row b.row = x1
    generalize cmpS a.fam b.fam = x2
    generalize cmpI 1 0 = x3
    generalize cmpS a.qual b.qual = x4
    generalize cmpI b.time a.time = x5
    generalize cmpI b.kind a.kind = x6
    simp (maxSteps := 1000000) (disch := omega) only [go_sem, opS_b, ↓reduceIte, Nat.reduceAdd, Nat.reduceMul, Nat.reduceEqDiff, Nat.reduceLeDiff]
    intro s
    have he : [[AV.int IntKind.i64 x1], [AV.int IntKind.i64 x2], [AV.int IntKind.i64 x3], [AV.int IntKind.i64 x4], [AV.int IntKind.i64 x5], [AV.int IntKind.i64 x6]] = ints [x1, x2, x3, x4, x5, x6] := rfl
    rw [he]
    have hl : [x1, x2, x3, x4, x5, x6].length = 6 := rfl
    clear hf he
    generalize [x1, x2, x3, x4, x5, x6] = L at hl ⊢
    refine loopS_list L (fun pre (_ : Unit) => ⟨[(7, .sl (h.length + 2) s 0 L.length), (8, .int .i64 pre.length)], h ++ [.arr t 0 8 [a.e], .arr t2 0 8 [b.e], .arr s 0 1 (ints L)]⟩) (fun pre post _ => orI L = orI post) () (by rw [hl]; rfl) rfl ?_
    rintro pre post ⟨⟩ hpp hJ
    cases post with
    | nil =>
      have hn := nl0 hpp
      simp (maxSteps := 1000000) (disch := omega) only [go_sem, ↓reduceIte, Nat.reduceEqDiff, hn]
      refine finS_l ?_
      simp (maxSteps := 1000000) (disch := omega) only [go_sem, hJ]
      all_goals simp [orI]
    | cons x post =>
      have hn := nl hpp
      simp (maxSteps := 1000000) (disch := omega) only [go_sem, ↓reduceIte, Nat.reduceEqDiff, gints hpp, hn]
      rw [condS_some]; refine ⟨fun hx => ?_, fun hx => ?_⟩
      · simp (maxSteps := 1000000) (disch := omega) only [go_sem, ↓reduceIte, Nat.reduceEqDiff, gints hpp]
        have hx : ¬ x = 0 := by simpa using hx
        refine finS_l ?_
        simp (maxSteps := 1000000) (disch := omega) only [go_sem, hJ]
        all_goals simp [orI, hx]
      · simp (maxSteps := 1000000) (disch := omega) only [go_sem, ↓reduceIte, Nat.reduceEqDiff]
        have hx : x = 0 := by simpa using hx
        refine lp_next (h.length + 3) () hpp ?_ ?_ ?_
        · rw [hJ]; simp [orI, hx]
        · simp (maxSteps := 1000000) (disch := omega) only [go_sem, ↓reduceIte, Nat.reduceEqDiff, wrap64, Int.natCast_add, Int.cast_ofNat_Int]
        · simp (maxSteps := 1000000) (disch := omega) only [go_sem]
  · have hf := fin 0 1 (by simp at ka; simp [whole, ka]) (by simp [whole, kn kb])
    simp (maxSteps := 1000000) (disch := omega) only [go_sem, ↓reduceIte, Nat.reduceEqDiff, kb]
    refine callS_exact (texts_spec a.row b.row ha.row hb.row _) ?_
    simp (maxSteps := 1000000) (disch := omega) only [go_sem, opS_s, ↓reduceIte, Nat.reduceEqDiff]
    refine callS_exact (texts_spec a.fam b.fam ha.fam hb.fam _) ?_
    simp (maxSteps := 1000000) (disch := omega) only [go_sem, opS_s, ↓reduceIte, Nat.reduceEqDiff]
    refine callS_exact (cmp3_spec 0 1 _) ?_
    simp (maxSteps := 1000000) (disch := omega) only [go_sem, opS_s, ↓reduceIte, Nat.reduceEqDiff]
    refine callS_exact (texts_spec a.qual b.qual ha.qual hb.qual _) ?_
    simp (maxSteps := 1000000) (disch := omega) only [go_sem, opS_s, ↓reduceIte, Nat.reduceEqDiff]
    refine callS_exact (cmp3_spec b.time a.time _) ?_
    simp (maxSteps := 1000000) (disch := omega) only [go_sem, opS_s, ↓reduceIte, Nat.reduceEqDiff]
    refine callS_exact (cmp3_spec b.kind a.kind _) ?_
    rw [← hf]
    generalize cmpS a.row b.row = x1
    generalize cmpS a.fam b.fam = x2
    generalize cmpI 0 1 = x3
    generalize cmpS a.qual b.qual = x4
    generalize cmpI b.time a.time = x5
    generalize cmpI b.kind a.kind = x6
    simp (maxSteps := 1000000) (disch := omega) only [go_sem, opS_b, ↓reduceIte, Nat.reduceAdd, Nat.reduceMul, Nat.reduceEqDiff, Nat.reduceLeDiff]
    intro s
    have he : [[AV.int IntKind.i64 x1], [AV.int IntKind.i64 x2], [AV.int IntKind.i64 x3], [AV.int IntKind.i64 x4], [AV.int IntKind.i64 x5], [AV.int IntKind.i64 x6]] = ints [x1, x2, x3, x4, x5, x6] := rfl
    rw [he]
    have hl : [x1, x2, x3, x4, x5, x6].length = 6 := rfl
    clear hf he
    generalize [x1, x2, x3, x4, x5, x6] = L at hl ⊢
    refine loopS_list L (fun pre (_ : Unit) => ⟨[(7, .sl (h.length + 2) s 0 L.length), (8, .int .i64 pre.length)], h ++ [.arr t 0 8 [a.e], .arr t2 0 8 [b.e], .arr s 0 1 (ints L)]⟩) (fun pre post _ => orI L = orI post) () (by rw [hl]; rfl) rfl ?_
    rintro pre post ⟨⟩ hpp hJ
    cases post with
    | nil =>
      have hn := nl0 hpp
      simp (maxSteps := 1000000) (disch := omega) only [go_sem, ↓reduceIte, Nat.reduceEqDiff, hn]
      refine finS_l ?_
      simp (maxSteps := 1000000) (disch := omega) only [go_sem, hJ]
      all_goals simp [orI]
    | cons x post =>
      have hn := nl hpp
      simp (maxSteps := 1000000) (disch := omega) only [go_sem, ↓reduceIte, Nat.reduceEqDiff, gints hpp, hn]
      rw [condS_some]; refine ⟨fun hx => ?_, fun hx => ?_⟩
      · simp (maxSteps := 1000000) (disch := omega) only [go_sem, ↓reduceIte, Nat.reduceEqDiff, gints hpp]
        have hx : ¬ x = 0 := by simpa using hx
        refine finS_l ?_
        simp (maxSteps := 1000000) (disch := omega) only [go_sem, hJ]
        all_goals simp [orI, hx]
      · simp (maxSteps := 1000000) (disch := omega) only [go_sem, ↓reduceIte, Nat.reduceEqDiff]
        have hx : x = 0 := by simpa using hx
        refine lp_next (h.length + 3) () hpp ?_ ?_ ?_
        · rw [hJ]; simp [orI, hx]
        · simp (maxSteps := 1000000) (disch := omega) only [go_sem, ↓reduceIte, Nat.reduceEqDiff, wrap64, Int.natCast_add, Int.cast_ofNat_Int]
        · simp (maxSteps := 1000000) (disch := omega) only [go_sem]
  · have hf := fin 0 0 (by simp at ka; simp [whole, ka]) (by simp at kb; simp [whole, kb])
    simp (maxSteps := 1000000) (disch := omega) only [go_sem, ↓reduceIte, Nat.reduceEqDiff, kb]
    refine callS_exact (texts_spec a.row b.row ha.row hb.row _) ?_
    simp (maxSteps := 1000000) (disch := omega) only [go_sem, opS_s, ↓reduceIte, Nat.reduceEqDiff]
    refine callS_exact (texts_spec a.fam b.fam ha.fam hb.fam _) ?_
    simp (maxSteps := 1000000) (disch := omega) only [go_sem, opS_s, ↓reduceIte, Nat.reduceEqDiff]
    refine callS_exact (cmp3_spec 0 0 _) ?_
    simp (maxSteps := 1000000) (disch := omega) only [go_sem, opS_s, ↓reduceIte, Nat.reduceEqDiff]
    refine callS_exact (texts_spec a.qual b.qual ha.qual hb.qual _) ?_
    simp (maxSteps := 1000000) (disch := omega) only [go_sem, opS_s, ↓reduceIte, Nat.reduceEqDiff]
    refine callS_exact (cmp3_spec b.time a.time _) ?_
    simp (maxSteps := 1000000) (disch := omega) only [go_sem, opS_s, ↓reduceIte, Nat.reduceEqDiff]
    refine callS_exact (cmp3_spec b.kind a.kind _) ?_
    rw [← hf]
    generalize cmpS a.row b.row = x1
    generalize cmpS a.fam b.fam = x2
    generalize cmpI 0 0 = x3
    generalize cmpS a.qual b.qual = x4
    generalize cmpI b.time a.time = x5
    generalize cmpI b.kind a.kind = x6
    simp (maxSteps := 1000000) (disch := omega) only [go_sem, opS_b, ↓reduceIte, Nat.reduceAdd, Nat.reduceMul, Nat.reduceEqDiff, Nat.reduceLeDiff]
    intro s
    have he : [[AV.int IntKind.i64 x1], [AV.int IntKind.i64 x2], [AV.int IntKind.i64 x3], [AV.int IntKind.i64 x4], [AV.int IntKind.i64 x5], [AV.int IntKind.i64 x6]] = ints [x1, x2, x3, x4, x5, x6] := rfl
    rw [he]
    have hl : [x1, x2, x3, x4, x5, x6].length = 6 := rfl
    clear hf he
    generalize [x1, x2, x3, x4, x5, x6] = L at hl ⊢
    refine loopS_list L (fun pre (_ : Unit) => ⟨[(7, .sl (h.length + 2) s 0 L.length), (8, .int .i64 pre.length)], h ++ [.arr t 0 8 [a.e], .arr t2 0 8 [b.e], .arr s 0 1 (ints L)]⟩) (fun pre post _ => orI L = orI post) () (by rw [hl]; rfl) rfl ?_
    rintro pre post ⟨⟩ hpp hJ
    cases post with
    | nil =>
      have hn := nl0 hpp
      simp (maxSteps := 1000000) (disch := omega) only [go_sem, ↓reduceIte, Nat.reduceEqDiff, hn]
      refine finS_l ?_
      simp (maxSteps := 1000000) (disch := omega) only [go_sem, hJ]
      all_goals simp [orI]
    | cons x post =>
      have hn := nl hpp
      simp (maxSteps := 1000000) (disch := omega) only [go_sem, ↓reduceIte, Nat.reduceEqDiff, gints hpp, hn]
      rw [condS_some]; refine ⟨fun hx => ?_, fun hx => ?_⟩
      · simp (maxSteps := 1000000) (disch := omega) only [go_sem, ↓reduceIte, Nat.reduceEqDiff, gints hpp]
        have hx : ¬ x = 0 := by simpa using hx
        refine finS_l ?_
        simp (maxSteps := 1000000) (disch := omega) only [go_sem, hJ]
        all_goals simp [orI, hx]
      · simp (maxSteps := 1000000) (disch := omega) only [go_sem, ↓reduceIte, Nat.reduceEqDiff]
        have hx : x = 0 := by simpa using hx
        refine lp_next (h.length + 3) () hpp ?_ ?_ ?_
        · rw [hJ]; simp [orI, hx]
        · simp (maxSteps := 1000000) (disch := omega) only [go_sem, ↓reduceIte, Nat.reduceEqDiff, wrap64, Int.natCast_add, Int.cast_ofNat_Int]
        · simp (maxSteps := 1000000) (disch := omega) only [go_sem]
end Go.Ab.S2

/- Contracts: cells in order, what is to be seen of them (joistref06). -/
namespace Go.Ab.S2
open Go.Ab
set_option maxRecDepth 100000

theorem lives06_spec (l : List Cell) (c : Cell) (life now : Int) (hl : l.length < 1099511627776) : Ans N.joistref06_Lives [.psl (l.map Cell.e), .agg c.e, .int .i64 life, .int .i64 now] (.bool (lives06 l c life now)) := by
  intro h
  refine spec_of ck_joistref06_Lives ?_
  rw [wp_start]
  simp (maxSteps := 1000000) (disch := omega) only [go_sem, ↓reduceIte, Nat.reduceAdd, Nat.reduceEqDiff, reduceCtorEq, F.joistref06_Lives]
  intro t
  rw [condS_some]; refine ⟨fun hx => ?_, fun hx => ?_⟩
  · simp (maxSteps := 1000000) (disch := omega) only [go_sem, ↓reduceIte]
    have hx1 : lives06 l c life now = false := by
      unfold lives06
      have : (c.kind == 1 && !(decide (0 < life) && decide (life ≤ IntKind.i64.wrap (now - c.time)))) = false := by
        rw [Bool.or_eq_true] at hx
        rcases hx with hx | hx
        · simp only [bne_iff_ne, ne_eq] at hx
          simp [hx]
        · rw [hx]; simp
      rw [this]; rfl
    refine finS_l ?_
    simp (maxSteps := 1000000) (disch := omega) only [go_sem]
    all_goals simp [hx1]
  · simp (maxSteps := 1000000) (disch := omega) only [go_sem, ↓reduceIte, Nat.reduceEqDiff, reduceCtorEq]
    have hx1 : (c.kind == 1 && !(decide (0 < life) && decide (life ≤ IntKind.i64.wrap (now - c.time)))) = true := by
      rw [Bool.or_eq_false_iff] at hx
      rw [hx.2]
      simpa using hx.1
    have hlv : lives06 l c life now = !(l.any (killB c)) := by
      unfold lives06; rw [hx1]; rfl
    refine loopS_list l (fun pre (_ : Unit) => ⟨[(0, .psl (l.map Cell.e)), (5, .ptr h.length t 0 0), (9, .int .i64 pre.length)], h ++ [.arr t 0 8 [c.e]]⟩) (fun pre post _ => l.any (killB c) = post.any (killB c)) () rfl rfl ?_
    rintro pre post ⟨⟩ hpp hJ
    cases post with
    | nil =>
      have hn := nl0 hpp
      simp (maxSteps := 1000000) (disch := omega) only [go_sem, ↓reduceIte, Nat.reduceEqDiff, reduceCtorEq, hn]
      refine finS_l ?_
      simp (maxSteps := 1000000) (disch := omega) only [go_sem]
      all_goals simp [hlv, hJ]
    | cons d post =>
      have hn := nl hpp
      simp (maxSteps := 1000000) (disch := omega) only [go_sem, ↓reduceIte, Nat.reduceAdd, Nat.reduceEqDiff, reduceCtorEq, gml Cell.e hpp, hn]
      intro t2
      rw [condS_some]; refine ⟨fun hx => ?_, fun hx => ?_⟩
      · have hk : killB c d = false := by
          unfold killB
          rw [Bool.or_eq_true, Bool.not_eq_true', Bool.not_eq_true'] at hx
          rcases hx with hx | hx <;> simp [hx]
        simp (maxSteps := 1000000) (disch := omega) only [go_sem, ↓reduceIte, Nat.reduceEqDiff, reduceCtorEq]
        refine lp_next (h.length + 1) () hpp ?_ ?_ ?_
        · simp [hJ, hk]
        · simp (maxSteps := 1000000) (disch := omega) only [go_sem, ↓reduceIte, Nat.reduceEqDiff, reduceCtorEq, wrap64, Int.natCast_add, Int.cast_ofNat_Int]
        · simp (maxSteps := 1000000) (disch := omega) only [go_sem]
      · have hrf : (d.row == c.row && d.fam == c.fam) = true := by
          rw [Bool.or_eq_false_iff, Bool.not_eq_false', Bool.not_eq_false'] at hx
          rw [hx.1, hx.2]; rfl
        simp (maxSteps := 1000000) (disch := omega) only [go_sem, ↓reduceIte, Nat.reduceEqDiff, reduceCtorEq]
        rw [condS_some]; refine ⟨fun hx => ?_, fun hx => ?_⟩
        · have hk : killB c d = true := by
            unfold killB
            rw [hrf]; exact hx
          simp (maxSteps := 1000000) (disch := omega) only [go_sem, ↓reduceIte]
          refine finS_l ?_
          simp (maxSteps := 1000000) (disch := omega) only [go_sem]
          all_goals simp [hlv, hJ, hk]
        · have hk : killB c d = false := by
            unfold killB
            rw [hrf]; exact hx
          simp (maxSteps := 1000000) (disch := omega) only [go_sem, ↓reduceIte, Nat.reduceEqDiff, reduceCtorEq]
          refine lp_next (h.length + 1) () hpp ?_ ?_ ?_
          · simp [hJ, hk]
          · simp (maxSteps := 1000000) (disch := omega) only [go_sem, ↓reduceIte, Nat.reduceEqDiff, reduceCtorEq, wrap64, Int.natCast_add, Int.cast_ofNat_Int]
          · simp (maxSteps := 1000000) (disch := omega) only [go_sem]

theorem insC_len (x : Cell) : ∀ (d : Bool) (r : List Cell), (insC x d r).length ≤ r.length + 1
  | d, [] => by cases d <;> simp [insC]
  | d, y :: r => by
    have ih := insC_len x (d || decide (order x y ≤ 0)) r
    rw [insC, List.length_append, List.length_append]
    by_cases h0 : order x y = 0
    · have : ((if (!d && decide (order x y ≤ 0)) = true then [x] else []) : List Cell).length ≤ 1 := by split <;> simp
      rw [if_pos h0]
      simp only [List.length_nil, List.length_cons]
      omega
    · rw [if_neg h0]
      by_cases h1 : (!d && decide (order x y ≤ 0)) = true
      · have hd : (d || decide (order x y ≤ 0)) = true := by
          simp only [Bool.and_eq_true] at h1
          rw [h1.2]; simp
        rw [hd, insC_true] at ih ⊢
        have := List.length_filter_le (fun y => !decide (order x y = 0)) r
        rw [if_pos h1]
        simp only [List.length_cons, List.length_nil]
        omega
      · rw [if_neg h1]
        simp only [List.length_cons, List.length_nil]
        omega
theorem sort_len (l : List Cell) : (sort06 l).length ≤ l.length := by
  induction l using snoc_ind with
  | h0 => simp [sort06]
  | h1 l x ih =>
    rw [sort_snoc, sortS]
    split
    · have := insC_len x false (sort06 l)
      simp; omega
    · simp; omega

theorem sort06_spec (l : List Cell) (hl : l.length < 1000000000) (hw : ∀ c ∈ l, CellSm c) : Ans N.joistref06_Sort [.psl (l.map Cell.e)] (.psl ((sort06 l).map Cell.e)) := by
  intro h
  refine spec_of ck_joistref06_Sort ?_
  rw [wp_start]
  simp (maxSteps := 1000000) (disch := omega) only [go_sem, ↓reduceIte, Nat.reduceMul, Nat.reduceEqDiff, reduceCtorEq, F.joistref06_Sort]
  intro s1
  refine loopS_list l (fun pre (e : Heap × Nat) => ⟨[(0, .psl (l.map Cell.e)), (3, .sl e.1.length e.2 0 (sort06 pre).length), (4, .int .i64 pre.length)], e.1 ++ [.arr e.2 0 8 ((sort06 pre).map Cell.e)]⟩) (fun pre _ e => e.1.take h.length = h ∧ h.length ≤ e.1.length) (h, s1) rfl ⟨by simp, Nat.le_refl _⟩ ?_
  rintro pre post ⟨H, s⟩ hpp ⟨hH, hHl⟩
  simp only at hH hHl ⊢
  have hsl := sort_len pre
  cases post with
  | nil =>
    have hn := nl0 hpp
    simp only [List.append_nil] at hpp
    have hT : ∀ r : Heap, (H ++ r).take h.length = h := fun r => by rw [List.take_append_of_le_length hHl, hH]
    rw [hpp] at hn ⊢
    simp (maxSteps := 1000000) (disch := omega) only [go_sem, ↓reduceIte, Nat.reduceEqDiff, reduceCtorEq]
    refine finS_l ?_
    simp (maxSteps := 1000000) (disch := omega) only [go_sem, ↓reduceIte, hHl, hT]
  | cons x post =>
    have hn := nl hpp
    simp (maxSteps := 1000000) (disch := omega) only [go_sem, ↓reduceIte, Nat.reduceEqDiff, reduceCtorEq, gml Cell.e hpp, hn]
    refine callS_exact (right03_spec x (hw x (by simp [hpp])) _) ?_
    simp (maxSteps := 1000000) (disch := omega) only [go_sem, ↓reduceIte, Nat.reduceEqDiff, reduceCtorEq]
    rw [condS_some]; refine ⟨fun hx => ?_, fun hx => ?_⟩
    · have hr : right03 x = false := by simpa using hx
      simp (maxSteps := 1000000) (disch := omega) only [go_sem, ↓reduceIte, Nat.reduceEqDiff, reduceCtorEq]
      refine lp_next (H.length + 1) (H, s) hpp ⟨hH, hHl⟩ ?_ ?_
      · simp (maxSteps := 1000000) (disch := omega) only [go_sem, ↓reduceIte, Nat.reduceEqDiff, reduceCtorEq, wrap64, Int.natCast_add, Int.cast_ofNat_Int, sort_snoc, sortS, hr]
      · simp (maxSteps := 1000000) (disch := omega) only [go_sem, ↓reduceIte, sort_snoc, sortS, hr]
    · have hr : right03 x = true := by simpa using hx
      have hins : sort06 (pre ++ [x]) = insC x false (sort06 pre) := by rw [sort_snoc, sortS, if_pos hr]
      have hwr : ∀ c ∈ sort06 pre, CellSm c := fun c hc => hw c (by rw [hpp]; exact List.mem_append_left _ (sort_sub pre c hc))
      have hxw := hw x (by simp [hpp])
      simp (maxSteps := 1000000) (disch := omega) only [go_sem, ↓reduceIte, Nat.reduceMul, Nat.reduceEqDiff, reduceCtorEq]
      intro s2
      generalize hR : sort06 pre = R at hsl hins hwr ⊢
      refine loopS_list R (fun pre2 (e : List Cell × Bool × Nat) => ⟨[(0, .psl (l.map Cell.e)), (3, .sl H.length s 0 R.length), (4, .int .i64 pre.length), (5, .sl (H.length + 1) e.2.2 0 e.1.length), (6, .bool e.2.1), (7, .int .i64 pre2.length)], H ++ [.arr s 0 8 (R.map Cell.e), .arr e.2.2 0 8 (e.1.map Cell.e)]⟩) (fun pre2 post2 e => e.1 ++ insC x e.2.1 post2 = insC x false R ∧ e.1.length ≤ 2 * pre2.length) ([], false, s2) rfl ⟨rfl, Nat.zero_le _⟩ ?_
      rintro pre2 post2 ⟨B, d, t⟩ hpp2 ⟨hJ, hB⟩
      simp only at hJ hB ⊢
      cases post2 with
      | nil =>
        have hn2 := nl0 hpp2
        cases d with
        | true =>
          simp only [insC, if_true, List.append_nil] at hJ
          simp (maxSteps := 1000000) (disch := omega) only [go_sem, ↓reduceIte, Nat.reduceEqDiff, reduceCtorEq, hn2]
          refine lp_next (H.length + 2) (H ++ [.arr s 0 8 (R.map Cell.e)], t) hpp ⟨?_, ?_⟩ ?_ ?_
          · rw [List.take_append_of_le_length hHl, hH]
          · simp; omega
          · simp (maxSteps := 1000000) (disch := omega) only [go_sem, ↓reduceIte, Nat.reduceEqDiff, reduceCtorEq, wrap64, Int.natCast_add, Int.cast_ofNat_Int, hins, hJ]
          · simp (maxSteps := 1000000) (disch := omega) only [go_sem, hins, hJ]
        | false =>
          simp only [insC, Bool.false_eq_true, if_false] at hJ
          simp (maxSteps := 1000000) (disch := omega) only [go_sem, ↓reduceIte, Nat.reduceAdd, Nat.reduceMul, Nat.reduceEqDiff, reduceCtorEq, hn2, gml Cell.e hpp]
          intro s3
          refine ⟨by omega, fun s4 => ?_⟩
          refine lp_next (H.length + 2) (H ++ [.arr s 0 8 (R.map Cell.e)], s4) hpp ⟨?_, ?_⟩ ?_ ?_
          · rw [List.take_append_of_le_length hHl, hH]
          · simp; omega
          · simp (maxSteps := 1000000) (disch := omega) only [go_sem, ↓reduceIte, Nat.reduceEqDiff, reduceCtorEq, wrap64, Int.natCast_add, Int.cast_ofNat_Int, hins, ← hJ]
          · simp (maxSteps := 1000000) (disch := omega) only [go_sem, hins, ← hJ, List.map_append]
      | cons y post2 =>
        have hn2 := nl hpp2
        simp (maxSteps := 1000000) (disch := omega) only [go_sem, ↓reduceIte, Nat.reduceEqDiff, reduceCtorEq, gml Cell.e hpp, gml Cell.e hpp2, hn2]
        refine callS_exact (order03_spec x y hxw (hwr y (by simp [hpp2])) _) ?_
        simp (maxSteps := 1000000) (disch := omega) only [go_sem, ↓reduceIte, Nat.reduceEqDiff, reduceCtorEq]
        rw [insC] at hJ
        rw [condS_some]; refine ⟨fun hx => ?_, fun hx => ?_⟩
        · have hd : d = false ∧ order x y ≤ 0 := by simpa using hx
          obtain ⟨rfl, hle⟩ := hd
          have hle' : (!false && decide (order x y ≤ 0)) = true := by simpa using hle
          simp (maxSteps := 1000000) (disch := omega) only [go_sem, ↓reduceIte, Nat.reduceAdd, Nat.reduceMul, Nat.reduceEqDiff, reduceCtorEq, gml Cell.e hpp]
          intro s3
          refine ⟨by omega, fun s4 => ?_⟩
          rw [hle', if_pos rfl, Bool.false_or, decide_eq_true hle] at hJ
          rw [condS_some]; refine ⟨fun hx => ?_, fun hx => ?_⟩
          · have hne : ¬ order x y = 0 := by simpa using hx
            rw [if_neg hne] at hJ
            simp (maxSteps := 1000000) (disch := omega) only [go_sem, ↓reduceIte, Nat.reduceAdd, Nat.reduceMul, Nat.reduceEqDiff, reduceCtorEq, gml Cell.e hpp2]
            intro s5
            refine ⟨by omega, fun s6 => ?_⟩
            have htk : List.take (B.length + 1) (List.map Cell.e B ++ [x.e]) = List.map Cell.e B ++ [x.e] := List.take_of_length_le (by simp)
            refine lp_next (H.length + 2) (B ++ [x, y], true, s6) hpp2 ⟨?_, ?_⟩ ?_ ?_
            · simpa using hJ
            · simp; omega
            · simp (maxSteps := 1000000) (disch := omega) only [go_sem, ↓reduceIte, Nat.reduceAdd, Nat.reduceEqDiff, reduceCtorEq, wrap64, Int.natCast_add, Int.cast_ofNat_Int]
            · simp (maxSteps := 1000000) (disch := omega) only [go_sem, List.map_append, htk]
          · have hne : order x y = 0 := by simpa using hx
            rw [if_pos hne] at hJ
            simp (maxSteps := 1000000) (disch := omega) only [go_sem, ↓reduceIte, Nat.reduceEqDiff, reduceCtorEq]
            refine lp_next (H.length + 2) (B ++ [x], true, s4) hpp2 ⟨?_, ?_⟩ ?_ ?_
            · simpa using hJ
            · simp; omega
            · simp (maxSteps := 1000000) (disch := omega) only [go_sem, ↓reduceIte, Nat.reduceEqDiff, reduceCtorEq, wrap64, Int.natCast_add, Int.cast_ofNat_Int]
            · simp (maxSteps := 1000000) (disch := omega) only [go_sem, List.map_append]
        · have hle' : (!d && decide (order x y ≤ 0)) = false := hx
          rw [hle', if_neg (by decide)] at hJ
          have hd' : (d || decide (order x y ≤ 0)) = d := by cases d <;> simp_all
          rw [hd'] at hJ
          simp (maxSteps := 1000000) (disch := omega) only [go_sem, ↓reduceIte, Nat.reduceEqDiff, reduceCtorEq]
          rw [condS_some]; refine ⟨fun hx => ?_, fun hx => ?_⟩
          · have hne : ¬ order x y = 0 := by simpa using hx
            rw [if_neg hne] at hJ
            simp (maxSteps := 1000000) (disch := omega) only [go_sem, ↓reduceIte, Nat.reduceAdd, Nat.reduceMul, Nat.reduceEqDiff, reduceCtorEq, gml Cell.e hpp2]
            intro s5
            refine ⟨by omega, fun s6 => ?_⟩
            refine lp_next (H.length + 2) (B ++ [y], d, s6) hpp2 ⟨?_, ?_⟩ ?_ ?_
            · simpa using hJ
            · simp; omega
            · simp (maxSteps := 1000000) (disch := omega) only [go_sem, ↓reduceIte, Nat.reduceEqDiff, reduceCtorEq, wrap64, Int.natCast_add, Int.cast_ofNat_Int]
            · simp (maxSteps := 1000000) (disch := omega) only [go_sem, List.map_append]
          · have hne : order x y = 0 := by simpa using hx
            rw [if_pos hne] at hJ
            simp (maxSteps := 1000000) (disch := omega) only [go_sem, ↓reduceIte, Nat.reduceEqDiff, reduceCtorEq]
            refine lp_next (H.length + 2) (B, d, t) hpp2 ⟨?_, ?_⟩ ?_ ?_
            · simpa using hJ
            · simp; omega
            · simp (maxSteps := 1000000) (disch := omega) only [go_sem, ↓reduceIte, Nat.reduceEqDiff, reduceCtorEq, wrap64, Int.natCast_add, Int.cast_ofNat_Int]
            · simp (maxSteps := 1000000) (disch := omega) only [go_sem]

theorem seen06_spec (l : List Cell) (versions life now : Int) (hl : l.length < 1000000000) (hw : ∀ c ∈ l, CellSm c) : Ans N.joistref06_Seen [.psl (l.map Cell.e), .int .i64 versions, .int .i64 life, .int .i64 now] (.psl ((seen06 l versions life now).map Cell.e)) := by
  intro h
  refine spec_of ck_joistref06_Seen ?_
  rw [wp_start]
  simp (maxSteps := 1000000) (disch := omega) only [go_sem, ↓reduceIte, Nat.reduceAdd, Nat.reduceMul, Nat.reduceEqDiff, reduceCtorEq, F.joistref06_Seen]
  intro s1
  rw [condS_some]; refine ⟨fun hx => ?_, fun hx => ?_⟩
  · simp (maxSteps := 1000000) (disch := omega) only [go_sem, ↓reduceIte, Nat.reduceEqDiff, reduceCtorEq]
    have hv : versions < 1 ∨ 8 < versions ∨ life < 0 := by
      simp only [Bool.or_eq_true, decide_eq_true_eq] at hx
      omega
    refine finS_l ?_
    simp (maxSteps := 1000000) (disch := omega) only [go_sem, ↓reduceIte]
    all_goals simp [seen06, hv]
  · have hv : ¬ (versions < 1 ∨ 8 < versions ∨ life < 0) := by
      simp only [Bool.or_eq_false_iff, decide_eq_false_iff_not] at hx
      omega
    have hs6 : seen06 l versions life now = (sort06 l).filter (seenB (sort06 l) versions life now) := by
      unfold seen06; rw [if_neg hv]
    simp (maxSteps := 1000000) (disch := omega) only [go_sem, ↓reduceIte]
    refine callS_exact (sort06_spec l hl hw _) ?_
    have hsl := sort_len l
    rw [hs6]
    generalize sort06 l = S at hsl ⊢
    simp (maxSteps := 1000000) (disch := omega) only [go_sem, ↓reduceIte, Nat.reduceEqDiff, reduceCtorEq]
    refine loopS_list S (fun pre s => ⟨[(1, .int .i64 versions), (2, .int .i64 life), (3, .int .i64 now), (9, .sl h.length s 0 (pre.filter (seenB S versions life now)).length), (10, .psl (S.map Cell.e)), (11, .int .i64 pre.length)], h ++ [.arr s 0 8 ((pre.filter (seenB S versions life now)).map Cell.e)]⟩) (fun _ _ _ => True) s1 rfl trivial ?_
    rintro pre post s hpp hJ
    have hfl := List.length_filter_le (seenB S versions life now) pre
    cases post with
    | nil =>
      have hn := nl0 hpp
      simp only [List.append_nil] at hpp
      rw [hpp] at hn ⊢
      simp (maxSteps := 1000000) (disch := omega) only [go_sem, ↓reduceIte, Nat.reduceEqDiff]
      refine finS_l ?_
      simp (maxSteps := 1000000) (disch := omega) only [go_sem, ↓reduceIte]
    | cons x post =>
      have hn := nl hpp
      simp (maxSteps := 1000000) (disch := omega) only [go_sem, ↓reduceIte, Nat.reduceEqDiff, gml Cell.e hpp, hn]
      refine callS_exact (lives06_spec S x life now (by omega) _) ?_
      simp (maxSteps := 1000000) (disch := omega) only [go_sem, ↓reduceIte, Nat.reduceEqDiff]
      rw [condS_some]; refine ⟨fun hx => ?_, fun hx => ?_⟩
      · have hb : ¬ seenB S versions life now x = true := by
          have : lives06 S x life now = false := by simpa using hx
          simp [seenB, this]
        simp (maxSteps := 1000000) (disch := omega) only [go_sem, ↓reduceIte, Nat.reduceEqDiff]
        refine lp_next (h.length + 1) s hpp trivial ?_ ?_
        · simp (maxSteps := 1000000) (disch := omega) only [go_sem, ↓reduceIte, Nat.reduceEqDiff, wrap64, Int.natCast_add, Int.cast_ofNat_Int, List.filter_append, List.filter_cons_of_neg hb, List.filter_nil, List.append_nil]
        · simp (maxSteps := 1000000) (disch := omega) only [go_sem, List.filter_append, List.filter_cons_of_neg hb, List.filter_nil, List.append_nil]
      · have hlx : lives06 S x life now = true := by simpa using hx
        simp (maxSteps := 1000000) (disch := omega) only [go_sem, ↓reduceIte, Nat.reduceEqDiff]
        refine loopS_list S (fun pre2 (_ : Unit) => ⟨[(1, .int .i64 versions), (2, .int .i64 life), (3, .int .i64 now), (9, .sl h.length s 0 (pre.filter (seenB S versions life now)).length), (10, .psl (S.map Cell.e)), (11, .int .i64 pre.length), (12, .int .i64 (pre2.countP (laterB S x life now))), (13, .int .i64 pre2.length)], h ++ [.arr s 0 8 ((pre.filter (seenB S versions life now)).map Cell.e)]⟩) (fun _ _ _ => True) () rfl trivial ?_
        rintro pre2 post2 ⟨⟩ hpp2 hJ2
        have hcl := List.countP_le_length (p := laterB S x life now) (l := pre2)
        cases post2 with
        | nil =>
          have hn2 := nl0 hpp2
          simp only [List.append_nil] at hpp2
          simp (maxSteps := 1000000) (disch := omega) only [go_sem, ↓reduceIte, Nat.reduceEqDiff, hn2]
          rw [condS_some]; refine ⟨fun hx => ?_, fun hx => ?_⟩
          · have hb : seenB S versions life now x = true := by
              rw [hpp2] at hlx ⊢
              rw [hpp2] at hx
              simp only [seenB, hlx, Bool.true_and]
              exact hx
            simp (maxSteps := 1000000) (disch := omega) only [go_sem, ↓reduceIte, Nat.reduceMul, Nat.reduceEqDiff, gml Cell.e hpp]
            intro s3
            refine ⟨by omega, fun s4 => ?_⟩
            refine lp_next (h.length + 1) s4 hpp trivial ?_ ?_
            · simp (maxSteps := 1000000) (disch := omega) only [go_sem, ↓reduceIte, Nat.reduceEqDiff, wrap64, Int.natCast_add, Int.cast_ofNat_Int, List.filter_append, List.filter_cons_of_pos hb, List.filter_nil]
            · simp (maxSteps := 1000000) (disch := omega) only [go_sem, List.filter_append, List.filter_cons_of_pos hb, List.filter_nil, List.map_append]
          · have hb : ¬ seenB S versions life now x = true := by
              rw [hpp2] at hlx ⊢
              rw [hpp2] at hx
              simp only [seenB, hlx, Bool.true_and]
              simpa using hx
            simp (maxSteps := 1000000) (disch := omega) only [go_sem, ↓reduceIte, Nat.reduceEqDiff]
            refine lp_next (h.length + 1) s hpp trivial ?_ ?_
            · simp (maxSteps := 1000000) (disch := omega) only [go_sem, ↓reduceIte, Nat.reduceEqDiff, wrap64, Int.natCast_add, Int.cast_ofNat_Int, List.filter_append, List.filter_cons_of_neg hb, List.filter_nil, List.append_nil]
            · simp (maxSteps := 1000000) (disch := omega) only [go_sem, List.filter_append, List.filter_cons_of_neg hb, List.filter_nil, List.append_nil]
        | cons y post2 =>
          have hn2 := nl hpp2
          simp (maxSteps := 1000000) (disch := omega) only [go_sem, ↓reduceIte, Nat.reduceEqDiff, gml Cell.e hpp, gml Cell.e hpp2, hn2]
          have hlt : ∀ b : Bool, laterB S x life now y = b → List.countP (laterB S x life now) (pre2 ++ [y]) = List.countP (laterB S x life now) pre2 + (if b = true then 1 else 0) := by
            intro b hb
            rw [List.countP_append, List.countP_cons, List.countP_nil, hb, Nat.zero_add]
          rw [opEg_some]
          refine ⟨fun hg => ?_, fun hg => ?_⟩
          · simp (maxSteps := 1000000) (disch := omega) only [go_sem, ↓reduceIte, Nat.reduceEqDiff, hg]
            refine callS_exact (lives06_spec S y life now (by omega) _) ?_
            have hlb : laterB S x life now y = lives06 S y life now := by
              unfold laterB; rw [hg, Bool.true_and]
            simp (maxSteps := 1000000) (disch := omega) only [go_sem, ↓reduceIte, Nat.reduceEqDiff]
            rw [condS_some]; refine ⟨fun hx => ?_, fun hx => ?_⟩
            · simp (maxSteps := 1000000) (disch := omega) only [go_sem, ↓reduceIte, Nat.reduceEqDiff]
              have hc := hlt true (by rw [hlb]; exact hx)
              refine lp_next (h.length + 1) () hpp2 trivial ?_ ?_
              · simp (maxSteps := 1000000) (disch := omega) only [go_sem, ↓reduceIte, Nat.reduceEqDiff, wrap64, Int.natCast_add, Int.cast_ofNat_Int, hc]
              · simp (maxSteps := 1000000) (disch := omega) only [go_sem]
            · simp (maxSteps := 1000000) (disch := omega) only [go_sem, ↓reduceIte, Nat.reduceEqDiff]
              have hc := hlt false (by rw [hlb]; exact hx)
              refine lp_next (h.length + 1) () hpp2 trivial ?_ ?_
              · simp (maxSteps := 1000000) (disch := omega) only [go_sem, ↓reduceIte, Nat.reduceEqDiff, wrap64, Int.natCast_add, Int.cast_ofNat_Int, hc]
              · simp (maxSteps := 1000000) (disch := omega) only [go_sem]
          · simp (maxSteps := 1000000) (disch := omega) only [go_sem, ↓reduceIte, Nat.reduceEqDiff, hg]
            have hc := hlt false (by unfold laterB; rw [hg]; rfl)
            refine lp_next (h.length + 1) () hpp2 trivial ?_ ?_
            · simp (maxSteps := 1000000) (disch := omega) only [go_sem, ↓reduceIte, Nat.reduceEqDiff, wrap64, Int.natCast_add, Int.cast_ofNat_Int, hc]
            · simp (maxSteps := 1000000) (disch := omega) only [go_sem]
end Go.Ab.S2

/- PlanSeen answers true. -/
namespace Go.Ab.S2
open Go.Ab
set_option maxRecDepth 100000

theorem cut1 {pre post : List Mut} {m : Mut} {l : List Mut} (h : l = pre ++ m :: post) : List.drop pre.length (List.take (pre.length + 1) (l.map Mut.e)) = [m].map Mut.e := by
  subst h
  rw [← List.map_take, ← List.map_drop]
  congr 1
  rw [List.take_append, List.drop_append]
  simp

theorem seen_len (l : List Cell) (v f n : Int) : (seen06 l v f n).length ≤ l.length := by
  unfold seen06
  split
  · simp
  · exact Nat.le_trans (List.length_filter_le _ _) (sort_len l)

theorem planseen_spec (s : Schema) (q : Request) (old : List Cell) (hs : s.wf) (hq : q.wf) (ho : ∀ c ∈ old, Cell.wf c) (hl : old.length < 1000000000) : Ans N.joistlaw16_PlanSeen [.agg s.e, .agg q.e, .psl (old.map Cell.e)] (.bool true) := by
  intro h
  refine spec_of ck_joistlaw16_PlanSeen ?_
  rw [wp_start]
  simp (maxSteps := 1000000) (disch := omega) only [go_sem, ↓reduceIte, Nat.reduceAdd, Nat.reduceEqDiff, reduceCtorEq, F.joistlaw16_PlanSeen]
  intro s1 s2
  refine callS_exact (alive_spec _) ?_
  simp (maxSteps := 1000000) (disch := omega) only [go_sem, ↓reduceIte, Nat.reduceEqDiff]
  refine callS_exact (long_spec s q _) ?_
  simp (maxSteps := 1000000) (disch := omega) only [go_sem, ↓reduceIte, Nat.reduceEqDiff]
  cases hL : longB s q with
  | true =>
    simp (maxSteps := 1000000) (disch := omega) only [go_sem, ↓reduceIte, Nat.reduceEqDiff]
    refine finS_l ?_
    simp (maxSteps := 1000000) (disch := omega) only [go_sem]
    all_goals simp []
  | false =>
    simp (maxSteps := 1000000) (disch := omega) only [go_sem, ↓reduceIte]
    refine callS_exact (longCells_spec old 40 (by omega) _) ?_
    cases hC : longCells old 40 with
    | true =>
      simp (maxSteps := 1000000) (disch := omega) only [go_sem, ↓reduceIte, Nat.reduceEqDiff]
      refine finS_l ?_
      simp (maxSteps := 1000000) (disch := omega) only [go_sem]
      all_goals simp []
    | false =>
      simp (maxSteps := 1000000) (disch := omega) only [go_sem, ↓reduceIte, Nat.reduceEqDiff]
      refine callS_exact (cells_spec s q 1073741824 hs hq _) ?_
      simp (maxSteps := 1000000) (disch := omega) only [go_sem, ↓reduceIte, Nat.reduceEqDiff]
      rw [condS_some]; refine ⟨fun hx => ?_, fun hx => ?_⟩
      · simp (maxSteps := 1000000) (disch := omega) only [go_sem, ↓reduceIte]
        refine finS_l ?_
        simp (maxSteps := 1000000) (disch := omega) only [go_sem]
        all_goals simp []
      · have he : (cellsF s q 1073741824).2 = 0 := by simpa using hx
        have hrt := cells_right he
        have hmd := (cells_made he).c
        have hln := cells_len he
        obtain ⟨hck, h3, -, -, hce⟩ := cells_parts he
        have hw := write_parts (form_write (chk_sch hck).2 h3)
        have hbs := chk_bounds hck h3
        generalize (cellsF s q 1073741824).1 = L at hrt hmd hln hce ⊢
        simp (maxSteps := 1000000) (disch := omega) only [go_sem, ↓reduceIte, Nat.reduceAdd, Nat.reduceMul, Nat.reduceEqDiff]
        intro s3
        have hol : old.length ≤ 40 := by
          simp only [longCells, Bool.or_eq_false_iff, decide_eq_false_iff_not] at hC
          omega
        refine loopS_list old (fun pre s3 => ⟨[(2, .psl (old.map Cell.e)), (3, .ptr h.length s1 0 0), (4, .ptr (h.length + 1) s2 0 0), (7, .psl (L.map Cell.e)), (9, .sl (h.length + 2) s3 0 (pre.filter fun c => c.row == q.row).length), (10, .int .i64 pre.length)], h ++ [.arr s1 0 10 [s.e], .arr s2 0 16 [q.e], .arr s3 0 8 ((pre.filter fun c => c.row == q.row).map Cell.e)]⟩) (fun pre _ _ => ∀ c ∈ pre, c.time < 536870912) s3 rfl (by simp) ?_
        rintro pre post s3 hpp hJ
        have hfl := List.length_filter_le (fun c : Cell => c.row == q.row) pre
        cases post with
        | cons x post =>
          have hn := nl hpp
          simp (maxSteps := 1000000) (disch := omega) only [go_sem, ↓reduceIte, Nat.reduceEqDiff, gml Cell.e hpp, hn]
          rw [condS_some]; refine ⟨fun hx => ?_, fun hx => ?_⟩
          · simp (maxSteps := 1000000) (disch := omega) only [go_sem, ↓reduceIte]
            refine finS_l ?_
            simp (maxSteps := 1000000) (disch := omega) only [go_sem]
            all_goals simp []
          · have htm : x.time < 536870912 := by
              simp only [decide_eq_false_iff_not] at hx
              omega
            have hJ' : ∀ c ∈ pre ++ [x], c.time < 536870912 := by
              intro c hc
              rcases List.mem_append.1 hc with hc | hc
              · exact hJ c hc
              · simp at hc; rw [hc]; exact htm
            simp (maxSteps := 1000000) (disch := omega) only [go_sem, ↓reduceIte, Nat.reduceEqDiff, gml Cell.e hpp]
            rw [condS_some]; refine ⟨fun hx => ?_, fun hx => ?_⟩
            · simp (maxSteps := 1000000) (disch := omega) only [go_sem, ↓reduceIte, Nat.reduceAdd, Nat.reduceMul, Nat.reduceEqDiff, gml Cell.e hpp]
              intro s4
              refine ⟨by omega, fun s5 => ?_⟩
              refine lp_next (h.length + 3) s5 hpp hJ' ?_ ?_
              · simp (maxSteps := 1000000) (disch := omega) only [go_sem, ↓reduceIte, Nat.reduceEqDiff, wrap64, Int.natCast_add, Int.cast_ofNat_Int, List.filter_append, List.filter_cons, List.filter_nil, hx]
              · simp (maxSteps := 1000000) (disch := omega) only [go_sem, ↓reduceIte, List.filter_append, List.filter_cons, List.filter_nil, hx, List.map_append]
            · simp (maxSteps := 1000000) (disch := omega) only [go_sem, ↓reduceIte, Nat.reduceEqDiff]
              refine lp_next (h.length + 3) s3 hpp hJ' ?_ ?_
              · simp (maxSteps := 1000000) (disch := omega) only [go_sem, ↓reduceIte, Nat.reduceEqDiff, wrap64, Int.natCast_add, Int.cast_ofNat_Int, List.filter_append, List.filter_cons, List.filter_nil, List.append_nil, hx]
              · simp (maxSteps := 1000000) (disch := omega) only [go_sem, ↓reduceIte, List.filter_append, List.filter_cons, List.filter_nil, List.append_nil, hx]
        | nil =>
          have hn := nl0 hpp
          simp only [List.append_nil] at hpp
          subst hpp
          have hA1 : ∀ c ∈ old.filter (fun c : Cell => c.row == q.row), c.row = q.row ∧ c.time < 536870912 := by
            intro c hc
            rw [List.mem_filter] at hc
            exact ⟨by simpa using hc.2, hJ c hc.1⟩
          have hA2 : ∀ c ∈ old.filter (fun c : Cell => c.row == q.row), CellSm c := fun c hc => wf_sm (ho c (List.mem_filter.1 hc).1)
          generalize old.filter (fun c : Cell => c.row == q.row) = A at hfl hA1 hA2 ⊢
          simp (maxSteps := 1000000) (disch := omega) only [go_sem, ↓reduceIte, Nat.reduceEqDiff]
          refine callS_any (copyCells_own A (by omega) _) ?_
          rintro _ _ ⟨s4, rfl, rfl⟩
          simp (maxSteps := 1000000) (disch := omega) only [go_sem, ↓reduceIte, Nat.reduceAdd, Nat.reduceEqDiff, onRet_ret]
          refine loopS_list q.muts (fun pre (e : List Cell × Nat) => ⟨[(3, .ptr h.length s1 0 0), (4, .ptr (h.length + 1) s2 0 0), (7, .psl (L.map Cell.e)), (9, .sl (h.length + 2) s3 0 A.length), (11, .sl (h.length + 3) e.2 0 e.1.length), (12, .int .i64 pre.length)], h ++ [.arr s1 0 10 [s.e], .arr s2 0 16 [q.e], .arr s3 (max 0 A.length) 8 (A.map Cell.e), .arr e.2 0 8 (e.1.map Cell.e)]⟩)
            (fun pre _ e => SS (Mem e.1) = pre.foldl (updM s) (SS (Mem A)) ∧ (∀ c ∈ e.1, c.row = q.row ∧ c.time < 536870912 + 10 * pre.length + 1) ∧ (∀ c ∈ e.1, CellSm c) ∧ e.1.length ≤ 40 + 7 * pre.length) (A, s4) rfl ⟨rfl, fun c hc => ⟨(hA1 c hc).1, by have := (hA1 c hc).2; simp; omega⟩, hA2, by simp; omega⟩ ?_
          rintro pre post ⟨O, t⟩ hpp ⟨hJ1, hJ2, hJ3, hJ4⟩
          simp only at hJ1 hJ2 hJ3 hJ4 ⊢
          cases post with
          | cons m post =>
            have hn := nl hpp
            have hmm : m ∈ q.muts := by simp [hpp]
            have hcut := cut1 hpp
            have hwm := hq.mutw m hmm
            have hq2 : Request.wf { q with muts := [m] } := ⟨hq.row, hq.to, by simp, by simpa using hwm, hq.fam, hq.qual, hq.val, hq.filter⟩
            have hT1 : IntKind.i64.wrap ((pre.length : Int) + 1) = ((pre.length + 1 : Nat) : Int) := by rw [wrap64 (by omega) (by omega)]; omega
            have hT2 : IntKind.i64.wrap (536870912 + IntKind.i64.wrap (10 * ((pre.length + 1 : Nat) : Int))) = 536870912 + 10 * ((pre.length + 1 : Nat) : Int) := by rw [wrap64 (n := 10 * _) (by omega) (by omega), wrap64 (by omega) (by omega)]
            have hall : ((q.muts.map Mut.e).all fun e => decide (e.length = 6)) = true := by
              rw [List.all_eq_true]
              intro e he
              obtain ⟨y, -, rfl⟩ := List.mem_map.1 he
              rfl
            have hif : (pre.length ≤ pre.length + 1 ∧ pre.length + 1 ≤ pre.length + (post.length + 1) ∧ ((q.muts.map Mut.e).all fun e => decide (e.length = 6)) = true) = True := eq_true ⟨by omega, by omega, hall⟩
            have hset : setL 3 (.psl [m.e]) q.e = some (Request.e { q with muts := [m] }) := Request.set3 q [m]
            have hcs := cells_single hck h3 hmm (t := 536870912 + 10 * ((pre.length + 1 : Nat) : Int)) (by omega) (by omega)
            have hrd : ∀ c ∈ doF s q.row (536870912 + 10 * ((pre.length + 1 : Nat) : Int)) [] m, right03 c = true := by
              have h1 : (cellsF s { q with muts := [m] } (536870912 + 10 * ((pre.length + 1 : Nat) : Int))).2 = 0 := by rw [hcs]
              have h2 := cells_right h1
              rw [hcs] at h2
              exact h2
            have hsd : ∀ c ∈ doF s q.row (536870912 + 10 * ((pre.length + 1 : Nat) : Int)) [] m, CellSm c := by
              have h1 : (cellsF s { q with muts := [m] } (536870912 + 10 * ((pre.length + 1 : Nat) : Int))).2 = 0 := by rw [hcs]
              have h2 := (cells_made h1).c
              rw [hcs] at h2
              intro c hc
              obtain ⟨a1, a2, a3, a4⟩ := made_sm (h2 c hc) hw.2.1
              exact ⟨a1, a2, a3, a4⟩
            have hst := single_step (s := s) (q := q) (O := O) (t := 536870912 + 10 * ((pre.length + 1 : Nat) : Int)) (b := 536870912 + 10 * pre.length + 1) (m := m) hJ2 (by omega) hJ1 hrd
            have hdl := doF_len s q.row (536870912 + 10 * ((pre.length + 1 : Nat) : Int)) [] m
            rw [List.length_nil] at hdl
            simp (maxSteps := 1000000) (disch := omega) only [go_sem, ↓reduceIte, Nat.reduceAdd, Nat.reduceEqDiff, hn, hT1, hcut]
            intro s5
            simp (maxSteps := 1000000) (disch := omega) only [go_sem, ↓reduceIte, Nat.reduceEqDiff, hif, hset, hT1, hT2]
            refine callS_exact (cells_spec s { q with muts := [m] } (536870912 + 10 * ((pre.length + 1 : Nat) : Int)) hs hq2 _) ?_
            generalize doF s q.row (536870912 + 10 * ((pre.length + 1 : Nat) : Int)) [] m = D at hcs hrd hsd hst hdl ⊢
            simp (maxSteps := 1000000) (disch := omega) only [go_sem, ↓reduceIte, Nat.reduceEqDiff, Int.reduceBNe, hcs]
            refine ⟨by omega, fun s6 => ?_⟩
            refine lp_next (h.length + 4) (O ++ D, s6) hpp ⟨?_, ?_, ?_, ?_⟩ ?_ ?_
            · rw [List.foldl_append]; exact hst.1
            · intro c hc
              have := hst.2 c hc
              refine ⟨this.1, ?_⟩
              simp only [List.length_append, List.length_singleton]
              omega
            · intro c hc
              rcases List.mem_append.1 hc with hc | hc
              · exact hJ3 c hc
              · exact hsd c hc
            · simp; omega
            · simp (maxSteps := 1000000) (disch := omega) only [go_sem, ↓reduceIte, Nat.reduceEqDiff, wrap64, Int.natCast_add, Int.cast_ofNat_Int]
            · simp (maxSteps := 1000000) (disch := omega) only [go_sem, List.map_append]
          | nil =>
            have hn := nl0 hpp
            simp only [List.append_nil] at hpp
            simp (maxSteps := 1000000) (disch := omega) only [go_sem, ↓reduceIte, Nat.reduceEqDiff, hn]
            refine ⟨⟨by omega, by omega⟩, fun s5 => ?_⟩
            have hmA : List.map Cell.e A ++ List.map Cell.e L = (A ++ L).map Cell.e := by simp
            have htk : List.take (A.length + L.length) ((A ++ L).map Cell.e) = (A ++ L).map Cell.e := List.take_of_length_le (by simp)
            rw [hmA, htk]
            have hLsm : ∀ c ∈ L, CellSm c := fun c hc => by
              obtain ⟨a1, a2, a3, a4⟩ := made_sm (hmd c hc) hw.2.1
              exact ⟨a1, a2, a3, a4⟩
            have hsame : (seen06 (A ++ L) 1 0 0).map tr = (seen06 O 1 0 0).map tr := by
              refine seen_same (r := q.row) ?_ (fun c hc => (hJ2 c hc).1) ?_
              · intro c hc
                rcases List.mem_append.1 hc with hc | hc
                · exact (hA1 c hc).1
                · exact (hmd c hc).1
              · rw [hJ1, hce]
                rw [hce] at hrt
                rw [batch_sees (fun c hc => by have := (hA1 c hc).2; omega) hrt, hpp]
            refine callS_exact (seen06_spec (A ++ L) 1 0 0 (by simp; omega) (fun c hc => (List.mem_append.1 hc).elim (hA2 c) (hLsm c)) _) ?_
            simp (maxSteps := 1000000) (disch := omega) only [go_sem, ↓reduceIte, Nat.reduceEqDiff]
            refine callS_exact (seen06_spec O 1 0 0 (by omega) hJ3 _) ?_
            have hal := seen_len (A ++ L) 1 0 0
            rw [List.length_append] at hal
            generalize seen06 (A ++ L) 1 0 0 = a at hsame hal ⊢
            generalize seen06 O 1 0 0 = b at hsame ⊢
            have hlab : a.length = b.length := by simpa using congrArg List.length hsame
            have hne : ((a.length : Int) != (b.length : Int)) = false := by rw [hlab]; simp
            simp (maxSteps := 1000000) (disch := omega) only [go_sem, ↓reduceIte, Nat.reduceEqDiff, hne]
            refine loopS_list (a.zip b) (fun pre (_ : Unit) => ⟨[(16, .psl (a.map Cell.e)), (17, .psl (b.map Cell.e)), (18, .int .i64 pre.length)], h ++ [.arr s1 0 10 [s.e], .arr s2 0 16 [q.e], .arr s5 (max (max 0 A.length) (A.length + L.length)) 8 ((A ++ L).map Cell.e), .arr t (max 0 O.length) 8 (O.map Cell.e)]⟩) (fun _ _ _ => True) () rfl trivial ?_
            rintro pr po ⟨⟩ hz -
            cases po with
            | nil =>
              have hn1 := (zn hlab hz).1
              simp (maxSteps := 1000000) (disch := omega) only [go_sem, ↓reduceIte, Nat.reduceEqDiff, hn1]
              refine finS_l ?_
              simp (maxSteps := 1000000) (disch := omega) only [go_sem]
              all_goals simp []
            | cons x po =>
              obtain ⟨z1, z2, z3, z4⟩ := zl hlab hz
              have htx : tr x.1 = tr x.2 := by
                have h1 : (a.map tr)[pr.length]? = some (tr x.1) := gmap tr z1
                rw [hsame, gmap tr z2] at h1
                exact (Option.some.inj h1).symm
              simp only [tr, Prod.mk.injEq] at htx
              obtain ⟨t1, t2, t3⟩ := htx
              have g1 := gmap Cell.e z1
              have g2 := gmap Cell.e z2
              have b1 : (x.1.fam == x.2.fam) = true := by simp [t1]
              have b2 : (x.1.qual == x.2.qual) = true := by simp [t2]
              have b3 : decide (x.1.val = x.2.val) = true := by simp [t3]
              simp (maxSteps := 1000000) (disch := omega) only [go_sem, ↓reduceIte, Nat.reduceEqDiff, g1, g2, z3, b1, b2, b3]
              refine lp_next (h.length + 4) () hz trivial ?_ ?_
              · simp (maxSteps := 1000000) (disch := omega) only [go_sem, ↓reduceIte, Nat.reduceEqDiff, wrap64, Int.natCast_add, Int.cast_ofNat_Int]
              · simp (maxSteps := 1000000) (disch := omega) only [go_sem]
end Go.Ab.S2
