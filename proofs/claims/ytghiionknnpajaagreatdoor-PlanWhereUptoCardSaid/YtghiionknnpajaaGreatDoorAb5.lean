/- The layer Ab, part 5: the operations that change memory do what part 2 says. -/
import Derived.Test.YtghiionknnpajaaGreatDoorAb4
set_option linter.unusedVariables false
set_option linter.unusedSimpArgs false
namespace Go.Ab

section
variable {C C' : Ctx} {w w' : World} {P : Program}

/-- An object whose block stands as it did. -/
theorem orel.keepM {l : Nat} {o : AObj} (st : Mono C w C' w') (hm : C'.μ l = C.μ l) (hb : ∀ b s z, C.μ l = some (some b, s, z) → w'.heap[b]? = w.heap[b]?) (hok : ∀ b s z, C.μ l = some (some b, s, z) → ∀ j, C'.ok b j → C.ok b j)
    (h : orel C w l o) : orel C' w' l o := by
  cases o with
  | gone => simp only [orel] at *; rw [hm]; exact h
  | arr s imm z es =>
    simp only [orel] at *
    obtain ⟨h1, ob, h2, h3⟩ := h
    refine ⟨Nat.lt_of_lt_of_le h1 st.clk, ob, by rw [hm]; exact h2, ?_⟩
    cases ob with
    | none => exact h3
    | some b =>
      obtain ⟨arr, t, e1, e2, e3, e4⟩ := h3
      refine ⟨arr, t, by rw [hb b s z h2]; exact e1, e2, fun j hj hk => e3 j hj (hok b s z h2 j hk), fun i e hi => ⟨(e4 i e hi).1, fun j v hj => ?_⟩⟩
      obtain ⟨y, f1, f2, f3⟩ := (e4 i e hi).2 j v hj
      exact ⟨y, f1, f2, f3.monoM st⟩
  | mp s es =>
    simp only [orel] at *
    obtain ⟨h1, b, h2, xs, cl, h3, h4, h5⟩ := h
    exact ⟨Nat.lt_of_lt_of_le h1 st.clk, b, by rw [hm]; exact h2, xs, cl, by rw [hb b s 0 h2]; exact h3, h4, fun i e x hi hx => ⟨(h5 i e x hi hx).1.monoM st, (h5 i e x hi hx).2.monoM st⟩⟩
  | sit s str pos =>
    simp only [orel] at *
    obtain ⟨h1, b, h2, h3⟩ := h
    exact ⟨Nat.lt_of_lt_of_le h1 st.clk, b, by rw [hm]; exact h2, by rw [hb b s 0 h2]; exact h3⟩
  | mit s left => exact h

theorem orel.keep {l : Nat} {o : AObj} (st : Step C w C' w') (hm : C'.μ l = C.μ l) (hb : ∀ b s z, C.μ l = some (some b, s, z) → w'.heap[b]? = w.heap[b]?) (hok : ∀ b s z, C.μ l = some (some b, s, z) → ∀ j, C'.ok b j → C.ok b j)
    (h : orel C w l o) : orel C' w' l o := h.keepM st.toM hm hb hok

/-- The context behind a new object (in a block of its own, or in none yet). -/
def Ctx.new (C : Ctx) (l : Nat) (ob : Option Nat) (z : Nat) : Ctx := { ok := C.ok, μ := fun k => if k = l then some (ob, C.clk, z) else C.μ k, clk := C.clk + 1 }

theorem step_new {h : Heap} (H : HRel C w h) (obj : Obj) (z : Nat) : Step C w (C.new h.length (some w.heap.size) z) (w.alloc obj) where
  os := rfl
  tape := rfl
  output := rfl
  size := by simp
  clk := by simp [Ctx.new]
  ok _ _ hb := hb
  cell b j hb := World.cell?_alloc_lt w obj _ (H.okb b j hb)
  old l ob s z' hl hs := by
    simp only [Ctx.new] at hl
    split at hl
    · simp at hl; omega
    · exact hl
  kind b arr t fz hb := ⟨arr, t, fz, by rw [heap_alloc_old w obj (Array.getElem?_eq_some_iff.1 hb).1]; exact hb, rfl⟩
  out b hb _ := heap_alloc_old w obj hb
  own l b s z' hl hb := by
    simp only [Ctx.new] at hl
    split at hl
    · simp at hl; omega
    · exact ⟨l, s, z', hl⟩
  okn _ _ h _ := .inl h

theorem step_virtual {h : Heap} (z : Nat) : Step C w (C.new h.length none z) w where
  os := rfl
  tape := rfl
  output := rfl
  size := Nat.le_refl _
  clk := by simp [Ctx.new]
  ok _ _ hb := hb
  cell _ _ _ := rfl
  old l ob s z' hl hs := by
    simp only [Ctx.new] at hl
    split at hl
    · simp at hl; omega
    · exact hl
  kind b arr t fz hb := ⟨arr, t, fz, hb, rfl⟩
  out _ _ _ := rfl
  own l b s z' hl hb := by
    simp only [Ctx.new] at hl
    split at hl
    · simp at hl
    · exact ⟨l, s, z', hl⟩
  okn _ _ h _ := .inl h

theorem hrel_new {h : Heap} (H : HRel C w h) (obj : Obj) (z : Nat) {o : AObj} (ho : orel (C.new h.length (some w.heap.size) z) (w.alloc obj) h.length o) : HRel (C.new h.length (some w.heap.size) z) (w.alloc obj) (h ++ [o]) where
  obj l o' hl := by
    rcases Nat.lt_trichotomy l h.length with hlt | rfl | hgt
    · rw [List.getElem?_append_left hlt] at hl
      refine (H.obj l o' hl).keep (step_new H obj z) (by simp [Ctx.new]; omega) (fun b s z' hm => ?_) (fun b s z' hm j hk => hk)
      exact heap_alloc_old w obj (H.blk l b s z' hm)
    · simp at hl; subst hl; exact ho
    · rw [List.getElem?_eq_none (by simp; omega)] at hl; cases hl
  inj l l' b s z1 s' z1' h1 h2 := by
    simp only [Ctx.new] at h1 h2
    split at h1
    · rename_i e1
      split at h2
      · rename_i e2; rw [e1, e2]
      · simp at h1; have := H.blk l' b s' z1' h2; omega
    · split at h2
      · simp at h2; have := H.blk l b s z1 h1; omega
      · exact H.inj l l' b s z1 s' z1' h1 h2
  none l hl := by
    simp at hl
    simp only [Ctx.new]
    rw [if_neg (by omega)]
    exact H.none l (by omega)
  okb b j hb := by simp; exact Nat.lt_succ_of_lt (H.okb b j hb)
  blk l b s z1 h1 := by
    simp only [Ctx.new] at h1
    simp
    split at h1
    · simp at h1; omega
    · exact Nat.lt_succ_of_lt (H.blk l b s z1 h1)
  tb := H.tbS (step_new H obj z)

theorem hrel_virtual {h : Heap} (H : HRel C w h) (z : Nat) {o : AObj} (ho : orel (C.new h.length none z) w h.length o) : HRel (C.new h.length none z) w (h ++ [o]) where
  obj l o' hl := by
    rcases Nat.lt_trichotomy l h.length with hlt | rfl | hgt
    · rw [List.getElem?_append_left hlt] at hl
      exact (H.obj l o' hl).keep (step_virtual z) (by simp [Ctx.new]; omega) (fun _ _ _ _ => rfl) (fun _ _ _ _ _ hk => hk)
    · simp at hl; subst hl; exact ho
    · rw [List.getElem?_eq_none (by simp; omega)] at hl; cases hl
  inj l l' b s z1 s' z1' h1 h2 := by
    simp only [Ctx.new] at h1 h2
    split at h1
    · simp at h1
    · split at h2
      · simp at h2
      · exact H.inj l l' b s z1 s' z1' h1 h2
  none l hl := by
    simp at hl
    simp only [Ctx.new]
    rw [if_neg (by omega)]
    exact H.none l (by omega)
  okb := H.okb
  blk l b s z1 h1 := by
    simp only [Ctx.new] at h1
    split at h1
    · simp at h1
    · exact H.blk l b s z1 h1
  tb := H.tb

theorem ok_new {h : Heap} (H : HRel C w h) (j : Nat) : ¬ C.ok w.heap.size j := fun hk => Nat.lt_irrefl _ (H.okb _ _ hk)

/-- A new block with rows of cells. -/
theorem new_rows {h : Heap} (H : HRel C w h) {arr : Array Value} {t : TypeId} {z : Nat} {es : List (List AV)} (hl : es.length * z ≤ arr.size)
    (he : ∀ (i : Nat) (e : List AV), es[i]? = some e → e.length = z ∧ ∀ (j : Nat) (v : AV), e[j]? = some v → ∃ y : Value, arr[i * z + j]? = some y ∧ y.oneCell' = true ∧ vrel C w v y) :
    HRel (C.new h.length (some w.heap.size) z) (w.alloc (.cells arr t)) (h ++ [.arr C.clk 0 z es]) := by
  refine hrel_new H _ z ?_
  simp only [orel]
  refine ⟨by simp [Ctx.new], some w.heap.size, by simp [Ctx.new], arr, t, heap_alloc_new w _, hl, fun j _ => ok_new H j, fun i e hi => ⟨(he i e hi).1, fun j v hj => ?_⟩⟩
  obtain ⟨y, f1, f2, f3⟩ := (he i e hi).2 j v hj
  exact ⟨y, f1, f2, f3.mono (step_new H _ z)⟩

/-- A new block with one row: what the value of a type holds. -/
theorem new_one {h : Heap} (H : HRel C w h) {arr : Array Value} {t : TypeId} {cs : List AV} (hv : vrels C w cs arr.toList) (h1 : cs.all AV.one = true) :
    HRel (C.new h.length (some w.heap.size) cs.length) (w.alloc (.cells arr t)) (h ++ [.arr C.clk 0 cs.length [cs]]) := by
  have l := hv.length
  simp at l
  refine new_rows H (by simp; omega) fun i e hi => ?_
  cases i with
  | zero =>
    simp at hi; subst hi
    refine ⟨rfl, fun j v hj => ?_⟩
    obtain ⟨y, e1, e2⟩ := hv.get hj
    have hone : v.one = true := List.all_eq_true.1 h1 v (List.mem_of_getElem? hj)
    exact ⟨y, by simpa using e1, oneCell_of e2 hone, e2⟩
  | succ i => simp at hi

theorem ptr_new {h : Heap} {z : Nat} {i off : Nat} : vrel (C.new h.length (some w.heap.size) z) w' (.ptr h.length C.clk i off) (.pointer (some ⟨w.heap.size, i * z + off, none⟩)) := by
  simp only [vrel]
  refine ⟨by simp [Ctx.new], ⟨_, rfl⟩, fun b z' hm => ?_⟩
  simp [Ctx.new] at hm
  obtain ⟨rfl, rfl⟩ := hm
  rfl

/-! ### Stores -/

/-- A row of an object of one's own is written over. -/
theorem set_rel {h : Heap} (H : HRel C w h) {l s imm z i b : Nat} {es : List (List AV)} {arr arr' : Array Value} {t : TypeId} {r r' : List AV} (ho : h[l]? = some (.arr s imm z es)) (hm : C.μ l = some (some b, s, z)) (hb : w.heap[b]? = some (.cells arr t))
    (himm : imm ≤ i) (hr : es[i]? = some r) (hlen : r'.length = r.length) (hsz : arr'.size = arr.size)
    (hsame : ∀ k, k < i * z ∨ (i + 1) * z ≤ k → arr'[k]? = arr[k]?)
    (hrow : ∀ (j : Nat) (v : AV), r'[j]? = some v → ∃ y : Value, arr'[i * z + j]? = some y ∧ y.oneCell' = true ∧ vrel C w v y) :
    Step C w C (w.setRow b arr') ∧ HRel C (w.setRow b arr') (h.set l (.arr s imm z (es.set i r'))) := by
  have hobj := H.obj l _ ho
  simp only [orel] at hobj
  obtain ⟨hlt, ob, hm', hob⟩ := hobj
  rw [hm] at hm'
  simp at hm'
  subst hm'
  obtain ⟨arr0, t0, e1, e2, e3, e4⟩ := hob
  rw [hb] at e1
  simp at e1
  obtain ⟨rfl, rfl⟩ := e1
  have hhb : (w.setRow b arr').heap[b]? = some (.cells arr' t) := setRow_heap w b arr arr' t (0, 0) hb
  have hother : ∀ k, k ≠ b → (w.setRow b arr').heap[k]? = w.heap[k]? := fun k hk => setRow_other w b k arr' hk
  have hcell : ∀ k j, C.ok k j → (w.setRow b arr').cell? ⟨k, j, none⟩ = w.cell? ⟨k, j, none⟩ := by
    intro k j hk
    by_cases hkb : k = b
    · subst hkb
      rw [cell_of_row _ k j arr' t (0, 0) hhb, cell_of_row w k j arr t (0, 0) hb]
      refine hsame j (.inl ?_)
      rcases Nat.lt_or_ge j (imm * z) with hj | hj
      · exact Nat.lt_of_lt_of_le hj (Nat.mul_le_mul_right _ himm)
      · exact absurd hk (e3 j hj)
    · exact World.cell?_of_block (w := w) (hother k hkb)
  have st : Step C w C (w.setRow b arr') := by
    refine ⟨rfl, rfl, rfl, by simp [World.setRow], Nat.le_refl _, fun _ _ h => h, hcell, fun _ _ _ _ h _ => h, ?_, ?_, fun l b s z h _ => ⟨l, s, z, h⟩, fun _ _ h _ => .inl h⟩
    · intro k a t' fz hk
      by_cases hkb : k = b
      · subst hkb
        rw [hb] at hk
        simp at hk
        obtain ⟨rfl, rfl, rfl⟩ := hk
        exact ⟨arr', _, _, hhb, hsz⟩
      · exact ⟨a, t', fz, by rw [hother k hkb]; exact hk, rfl⟩
    · intro k hk hn
      exact hother k (fun e => by subst e; exact hn l s z hm)
  refine ⟨st, ?_⟩
  refine ⟨?_, H.inj, ?_, ?_, ?_, H.tbS st⟩
  · intro k o hk
    by_cases hkl : k = l
    · subst hkl
      have hklt : k < h.length := (List.getElem?_eq_some_iff.1 ho).1
      rw [List.getElem?_set_self hklt] at hk
      simp at hk; subst hk
      simp only [orel]
      refine ⟨hlt, some b, hm, arr', t, hhb, by simpa [hsz] using e2, e3, fun i' e hi' => ?_⟩
      by_cases hii : i' = i
      · subst hii
        have hilt : i' < es.length := (List.getElem?_eq_some_iff.1 hr).1
        rw [List.getElem?_set_self hilt] at hi'
        simp at hi'; subst hi'
        refine ⟨hlen.trans (e4 i' r hr).1, fun j v hj => ?_⟩
        obtain ⟨y, f1, f2, f3⟩ := hrow j v hj
        exact ⟨y, f1, f2, f3.mono st⟩
      · rw [List.getElem?_set_ne (fun e => hii e.symm)] at hi'
        refine ⟨(e4 i' e hi').1, fun j v hj => ?_⟩
        obtain ⟨y, f1, f2, f3⟩ := (e4 i' e hi').2 j v hj
        have hjz : j < z := by rw [← (e4 i' e hi').1]; exact (List.getElem?_eq_some_iff.1 hj).1
        refine ⟨y, ?_, f2, f3.mono st⟩
        rw [hsame _ ?_]; exact f1
        rcases Nat.lt_or_gt_of_ne hii with hlt' | hgt'
        · left
          have : (i' + 1) * z ≤ i * z := Nat.mul_le_mul_right _ hlt'
          rw [Nat.add_mul] at this
          omega
        · right
          have : (i + 1) * z ≤ i' * z := Nat.mul_le_mul_right _ hgt'
          omega
    · rw [List.getElem?_set_ne (fun e => hkl e.symm)] at hk
      refine (H.obj k o hk).keep st rfl (fun b' s' z' hm' => hother b' (fun e => ?_)) (fun _ _ _ _ _ hk => hk)
      subst e
      exact hkl (H.inj k l b' s' z' s z hm' hm)
  · intro k hk; exact H.none k (by simpa using hk)
  · intro b' j hk; have := H.okb b' j hk; simpa [World.setRow] using this
  · intro k b' s' z' hm'; have := H.blk k b' s' z' hm'; simpa [World.setRow] using this

/-- Cells behind the rows of an object of one's own are written over. -/
theorem write_rel {h : Heap} (H : HRel C w h) {l s imm z i b : Nat} {es : List (List AV)} {arr arr' : Array Value} {t : TypeId} (ho : h[l]? = some (.arr s imm z es)) (hm : C.μ l = some (some b, s, z)) (hb : w.heap[b]? = some (.cells arr t))
    (himm : imm ≤ i) (hes : es.length ≤ i) (hsz : arr'.size = arr.size) (hsame : ∀ k, k < i * z → arr'[k]? = arr[k]?) :
    Step C w C (w.setRow b arr') ∧ HRel C (w.setRow b arr') h := by
  have hobj := H.obj l _ ho
  simp only [orel] at hobj
  obtain ⟨hlt, ob, hm', hob⟩ := hobj
  rw [hm] at hm'
  simp at hm'
  subst hm'
  obtain ⟨arr0, t0, e1, e2, e3, e4⟩ := hob
  rw [hb] at e1
  simp at e1
  obtain ⟨rfl, rfl⟩ := e1
  have hhb : (w.setRow b arr').heap[b]? = some (.cells arr' t) := setRow_heap w b arr arr' t (0, 0) hb
  have hother : ∀ k, k ≠ b → (w.setRow b arr').heap[k]? = w.heap[k]? := fun k hk => setRow_other w b k arr' hk
  have hcell : ∀ k j, C.ok k j → (w.setRow b arr').cell? ⟨k, j, none⟩ = w.cell? ⟨k, j, none⟩ := by
    intro k j hk
    by_cases hkb : k = b
    · subst hkb
      rw [cell_of_row _ k j arr' t (0, 0) hhb, cell_of_row w k j arr t (0, 0) hb]
      refine hsame j ?_
      rcases Nat.lt_or_ge j (imm * z) with hj | hj
      · exact Nat.lt_of_lt_of_le hj (Nat.mul_le_mul_right _ himm)
      · exact absurd hk (e3 j hj)
    · exact World.cell?_of_block (w := w) (hother k hkb)
  have st : Step C w C (w.setRow b arr') := by
    refine ⟨rfl, rfl, rfl, by simp [World.setRow], Nat.le_refl _, fun _ _ h => h, hcell, fun _ _ _ _ h _ => h, ?_, ?_, fun l b s z h _ => ⟨l, s, z, h⟩, fun _ _ h _ => .inl h⟩
    · intro k a t' fz hk
      by_cases hkb : k = b
      · subst hkb
        rw [hb] at hk
        simp at hk
        obtain ⟨rfl, rfl, rfl⟩ := hk
        exact ⟨arr', _, _, hhb, hsz⟩
      · exact ⟨a, t', fz, by rw [hother k hkb]; exact hk, rfl⟩
    · intro k hk hn
      exact hother k (fun e => by subst e; exact hn l s z hm)
  refine ⟨st, ?_⟩
  refine ⟨?_, H.inj, H.none, ?_, ?_, H.tbS st⟩
  · intro k o hk
    by_cases hkl : k = l
    · subst hkl
      rw [ho] at hk
      obtain rfl := Option.some.inj hk
      simp only [orel]
      refine ⟨hlt, some b, hm, arr', t, hhb, by simpa [hsz] using e2, e3, fun i' e hi' => ?_⟩
      refine ⟨(e4 i' e hi').1, fun j v hj => ?_⟩
      obtain ⟨y, f1, f2, f3⟩ := (e4 i' e hi').2 j v hj
      have hjz : j < z := by rw [← (e4 i' e hi').1]; exact (List.getElem?_eq_some_iff.1 hj).1
      have hil := (List.getElem?_eq_some_iff.1 hi').1
      refine ⟨y, ?_, f2, f3.mono st⟩
      rw [hsame _ ?_]; exact f1
      have : (i' + 1) * z ≤ i * z := Nat.mul_le_mul_right _ (by omega)
      rw [Nat.add_mul] at this
      omega
    · refine (H.obj k o hk).keep st rfl (fun b' s' z' hm' => hother b' (fun e => ?_)) (fun _ _ _ _ _ hk => hk)
      subst e
      exact hkl (H.inj k l b' s' z' s z hm' hm)
  · intro b' j hk; have := H.okb b' j hk; simpa [World.setRow] using this
  · intro k b' s' z' hm'; have := H.blk k b' s' z' hm'; simpa [World.setRow] using this

/-! ### append -/

def Ctx.move (C : Ctx) (l : Nat) (ob : Option Nat) (z : Nat) : Ctx := { ok := C.ok, μ := fun k => if k = l then some (ob, C.clk, z) else C.μ k, clk := C.clk + 1 }

/-- An object gets another block, or its own anew: what else there is stands as it did. -/
theorem move_rel {h : Heap} (H : HRel C w h) {l s z : Nat} {ob ob' : Option Nat} {z' : Nat} {o o' : AObj} (ho : h[l]? = some o) (hm : C.μ l = some (ob, s, z)) (hos : w'.os = w.os) (htape : w'.tape = w.tape) (hout : w'.output = w.output)
    (hsize : w.heap.size ≤ w'.heap.size) (hcell : ∀ b j, C.ok b j → w'.cell? ⟨b, j, none⟩ = w.cell? ⟨b, j, none⟩)
    (hkind : ∀ (b : Nat) (arr : Array Value) (t : TypeId) (fz : Nat × Nat), w.heap[b]? = some (Obj.cells arr t fz) → ∃ (arr' : Array Value) (t' : TypeId) (fz' : Nat × Nat), w'.heap[b]? = some (Obj.cells arr' t' fz') ∧ arr'.size = arr.size)
    (hother : ∀ k, k < w.heap.size → ob ≠ some k → w'.heap[k]? = w.heap[k]?) (hob : ∀ b, ob' = some b → (ob = some b ∨ w.heap.size ≤ b) ∧ b < w'.heap.size)
    (ho' : Step C w (C.move l ob' z') w' → orel (C.move l ob' z') w' l o') : Step C w (C.move l ob' z') w' ∧ HRel (C.move l ob' z') w' (h.set l o') := by
  have st : Step C w (C.move l ob' z') w' := by
    refine ⟨hos, htape, hout, hsize, by simp [Ctx.move], fun _ _ h => h, hcell, ?_, hkind, ?_, ?_, fun _ _ h _ => .inl h⟩
    · intro k ob s' z'' hk hs
      simp only [Ctx.move] at hk
      split at hk
      · simp at hk; omega
      · exact hk
    · intro k hk hn
      exact hother k hk (fun e => by subst e; exact hn l s z hm)
    · intro k b s' z'' hk hb
      simp only [Ctx.move] at hk
      split at hk
      · simp at hk
        obtain ⟨rfl, _⟩ := hk
        rcases (hob b rfl).1 with e | e
        · subst e; exact ⟨l, s, z, hm⟩
        · omega
      · exact ⟨k, s', z'', hk⟩
  refine ⟨st, ?_, ?_, ?_, ?_, ?_, H.tbS st⟩
  · intro k o1 hk
    by_cases hkl : k = l
    · subst hkl
      have hklt : k < h.length := (List.getElem?_eq_some_iff.1 ho).1
      rw [List.getElem?_set_self hklt] at hk
      simp at hk; subst hk
      exact ho' st
    · rw [List.getElem?_set_ne (fun e => hkl e.symm)] at hk
      refine (H.obj k o1 hk).keep st (by simp [Ctx.move, hkl]) (fun b' s' z1 hm' => hother b' (H.blk k b' s' z1 hm') (fun e => ?_)) (fun _ _ _ _ _ hk => hk)
      subst e
      exact hkl (H.inj k l b' s' z1 s z hm' hm)
  · intro k k' b s1 z1 s2 z2 h1 h2
    simp only [Ctx.move] at h1 h2
    split at h1
    · rename_i e1
      split at h2
      · rename_i e2; rw [e1, e2]
      · simp at h1
        obtain ⟨rfl, _⟩ := h1
        rcases (hob b rfl).1 with e | e
        · subst e; rw [e1]; exact (H.inj k' l b s2 z2 s z h2 hm).symm
        · have := H.blk k' b s2 z2 h2; omega
    · split at h2
      · rename_i e2
        simp at h2
        obtain ⟨rfl, _⟩ := h2
        rcases (hob b rfl).1 with e | e
        · subst e; rw [e2]; exact H.inj k l b s1 z1 s z h1 hm
        · have := H.blk k b s1 z1 h1; omega
      · exact H.inj k k' b s1 z1 s2 z2 h1 h2
  · intro k hk
    simp at hk
    have hllt : l < h.length := (List.getElem?_eq_some_iff.1 ho).1
    simp only [Ctx.move]
    rw [if_neg (by omega)]
    exact H.none k hk
  · intro b j hb; exact Nat.lt_of_lt_of_le (H.okb b j hb) hsize
  · intro k b s1 z1 h1
    simp only [Ctx.move] at h1
    split at h1
    · simp at h1
      obtain ⟨rfl, _⟩ := h1
      exact (hob b rfl).2
    · exact Nat.lt_of_lt_of_le (H.blk k b s1 z1 h1) hsize

/-- What rows of memory hold, one behind the other. -/
theorem ves_flat {z : Nat} : ∀ {es : List (List AV)} {b o : Nat}, ves C w z es b o → ∃ ys : List Value, ys.length = es.length * z ∧ vrels C w es.flatten ys ∧ ∀ (j : Nat) (y : Value), ys[j]? = some y → w.cell? ⟨b, o + j, none⟩ = some y
  | [], b, o, _ => ⟨[], by simp, by simp [vrels], by simp⟩
  | e :: es, b, o, h => by
    simp only [ves] at h
    obtain ⟨h1, h2, h3⟩ := h
    obtain ⟨y1, e1, e2, e3⟩ := cells_list (b := b) (o := o) (r := e) fun j v hj => (h2.get hj).2
    obtain ⟨y2, f1, f2, f3⟩ := ves_flat h3
    refine ⟨y1 ++ y2, by simp [e1, f1, h1, Nat.add_mul, Nat.add_comm], ?_, fun j y hj => ?_⟩
    · simp only [List.flatten_cons]
      refine vrels.of_get (by simp [e1, f2.length]) fun i v y hv hy => ?_
      rcases Nat.lt_or_ge i e.length with hi | hi
      · rw [List.getElem?_append_left hi] at hv
        rw [List.getElem?_append_left (by omega)] at hy
        obtain ⟨y', g1, g2⟩ := e2.get hv
        rw [hy] at g1; simp at g1; subst g1; exact g2
      · rw [List.getElem?_append_right hi] at hv
        rw [List.getElem?_append_right (by omega), e1] at hy
        obtain ⟨y', g1, g2⟩ := f2.get hv
        rw [hy] at g1; simp at g1; subst g1; exact g2
    · rcases Nat.lt_or_ge j e.length with hi | hi
      · rw [List.getElem?_append_left (by omega)] at hj
        exact e3 j y hj
      · rw [List.getElem?_append_right (by omega), e1] at hj
        have := f3 _ y hj
        rwa [show o + z + (j - e.length) = o + j by omega] at this

theorem rows_flat {z : Nat} {arr : Array Value} : ∀ {es : List (List AV)} {i0 : Nat}, (∀ (i : Nat) (e : List AV), es[i]? = some e → e.length = z ∧ ∀ (j : Nat) (v : AV), e[j]? = some v → ∃ y : Value, arr[(i0 + i) * z + j]? = some y ∧ y.oneCell' = true ∧ vrel C w v y) →
    ∃ ys : List Value, ys.length = es.length * z ∧ vrels C w es.flatten ys ∧ (∀ (j : Nat) (y : Value), ys[j]? = some y → arr[i0 * z + j]? = some y) ∧ ∀ y ∈ ys, y.oneCell' = true
  | [], i0, _ => ⟨[], by simp, by simp [vrels], by simp, by simp⟩
  | e :: es, i0, h => by
    obtain ⟨h1, h2⟩ := h 0 e rfl
    simp only [Nat.add_zero] at h2
    have row : ∀ (r : List AV) (k : Nat), (∀ (j : Nat) (v : AV), r[j]? = some v → ∃ y : Value, arr[i0 * z + k + j]? = some y ∧ y.oneCell' = true ∧ vrel C w v y) → ∃ ys : List Value, ys.length = r.length ∧ vrels C w r ys ∧ (∀ (j : Nat) (y : Value), ys[j]? = some y → arr[i0 * z + k + j]? = some y) ∧ ∀ y ∈ ys, y.oneCell' = true := by
      intro r
      induction r with
      | nil => exact fun _ _ => ⟨[], rfl, by simp [vrels], by simp, by simp⟩
      | cons v r ih =>
        intro k hk
        obtain ⟨y, g1, g2, g3⟩ := hk 0 v rfl
        obtain ⟨ys, q1, q2, q3, q4⟩ := ih (k + 1) fun j v hj => by
          have := hk (j + 1) v (by simpa using hj)
          rwa [show i0 * z + k + (j + 1) = i0 * z + (k + 1) + j by omega] at this
        refine ⟨y :: ys, by simp [q1], by simp only [vrels]; exact ⟨y, ys, rfl, g3, q2⟩, fun j y' hj => ?_, by simp [g2]; exact q4⟩
        cases j with
        | zero => simp at hj; subst hj; exact g1
        | succ j =>
          have := q3 j y' (by simpa using hj)
          rwa [show i0 * z + k + (j + 1) = i0 * z + (k + 1) + j by omega]
    obtain ⟨y1, e1, e2, e3, e4⟩ := row e 0 (by simpa using h2)
    obtain ⟨y2, f1, f2, f3, f4⟩ := rows_flat (es := es) (i0 := i0 + 1) fun i e hi => by
      have := h (i + 1) e (by simpa using hi)
      rwa [show i0 + (i + 1) = i0 + 1 + i by omega] at this
    refine ⟨y1 ++ y2, by simp [e1, f1, h1, Nat.add_mul, Nat.add_comm], ?_, fun j y hj => ?_, ?_⟩
    · simp only [List.flatten_cons]
      refine vrels.of_get (by simp [e1, f2.length]) fun i v y hv hy => ?_
      rcases Nat.lt_or_ge i e.length with hi | hi
      · rw [List.getElem?_append_left hi] at hv
        rw [List.getElem?_append_left (by omega)] at hy
        obtain ⟨y', g1, g2⟩ := e2.get hv
        rw [hy] at g1; simp at g1; subst g1; exact g2
      · rw [List.getElem?_append_right hi] at hv
        rw [List.getElem?_append_right (by omega), e1] at hy
        obtain ⟨y', g1, g2⟩ := f2.get hv
        rw [hy] at g1; simp at g1; subst g1; exact g2
    · rcases Nat.lt_or_ge j e.length with hi | hi
      · rw [List.getElem?_append_left (by omega)] at hj
        have := e3 j y hj
        simpa using this
      · rw [List.getElem?_append_right (by omega), e1] at hj
        have := f3 _ y hj
        rwa [show (i0 + 1) * z + (j - e.length) = i0 * z + j by rw [Nat.add_mul]; omega] at this
    · intro y hy
      rcases List.mem_append.1 hy with hy | hy
      · exact e4 y hy
      · exact f4 y hy

theorem flatten_get {z : Nat} : ∀ {xs : List (List AV)} {i j : Nat} {e : List AV} {v : AV}, (∀ e ∈ xs, e.length = z) → xs[i]? = some e → e[j]? = some v → xs.flatten[i * z + j]? = some v
  | [], i, j, e, v, _, h, _ => by simp at h
  | x :: xs, 0, j, e, v, hz, h, hj => by
    simp at h; subst h
    simp only [List.flatten_cons, Nat.zero_mul, Nat.zero_add]
    rw [List.getElem?_append_left (List.getElem?_eq_some_iff.1 hj).1]; exact hj
  | x :: xs, i + 1, j, e, v, hz, h, hj => by
    have hx := hz x (by simp)
    simp only [List.flatten_cons]
    rw [List.getElem?_append_right (by rw [Nat.add_mul]; omega)]
    rw [show (i + 1) * z + j - x.length = i * z + j by rw [Nat.add_mul]; omega]
    exact flatten_get (fun e he => hz e (by simp [he])) (by simpa using h) hj

theorem oneCells {cs : List AV} {ys : List Value} (h : vrels C w cs ys) (h1 : cs.all AV.one = true) : ∀ y ∈ ys, y.oneCell' = true := by
  intro y hy
  obtain ⟨i, hi⟩ := List.getElem?_of_mem hy
  have hlt : i < cs.length := by rw [← h.length]; exact (List.getElem?_eq_some_iff.1 hi).1
  obtain ⟨y', e1, e2⟩ := h.get (List.getElem?_eq_getElem hlt)
  rw [hi] at e1; simp at e1; subst e1
  exact oneCell_of e2 (List.all_eq_true.1 h1 _ (List.getElem_mem hlt))

theorem flatten_single {α β : Type} (f : α → β) : ∀ l : List α, (l.map fun b => [f b]).flatten = l.map f
  | [] => rfl
  | a :: l => by simp [flatten_single f l]

/-- What is appended: its length, and its cells, wherever they are asked for. -/
theorem src_sound {h : Heap} (H : HRel C w h) {x : AV} {y : Value} {xs : List (List AV)} {z : Nat} (hx : vrel C w x y) (hs : srcV h x = some xs) (hz : ∀ e ∈ xs, e.length = z ∧ e.all AV.one = true) (hzp : 0 < z) :
    ∃ news : List Value, news.length = xs.length * z ∧ vrels C w xs.flatten news ∧ (∀ w' : World, (Builtin.lenOf y).run P w' = .ok xs.length w') ∧
      ∀ w' : World, (∀ a v, w.cell? a = some v → w'.cell? a = some v) → (Builtin.firstCells z xs.length y).run P w' = .ok news.toArray w' := by
  cases x <;> simp only [srcV] at hs
  case psl es =>
    simp at hs; subst hs
    simp only [vrel] at hx
    obtain ⟨a, cap, rfl, hcap, hes⟩ := hx
    rcases hes with rfl | ⟨b, o, z', rfl, hv⟩
    · refine ⟨[], by simp, by simp [vrels], fun w' => by simp [Builtin.lenOf], fun w' _ => ?_⟩
      cases a with
      | none => simp [Builtin.firstCells]
      | some ad => simp [Builtin.firstCells, loadCells, loadCellsFrom]
    · obtain ⟨ys, e1, e2, e3⟩ := ves_flat hv
      have hzz : ys.length = es.length * z := by
        rw [e1]
        cases es with
        | nil => simp
        | cons e es => simp only [ves] at hv; rw [← hv.1, (hz e (by simp)).1]
      refine ⟨ys, hzz, e2, fun w' => by simp [Builtin.lenOf], fun w' hw => ?_⟩
      exact run_firstCells_some w' z es.length ⟨b, o, none⟩ _ _ ys hzz fun j v hj => by rw [addr_add]; exact hw _ _ (e3 j v hj)
  case vn =>
    simp at hs; subst hs
    simp only [vrel] at hx
    subst hx
    refine ⟨[], by simp, by simp [vrels], fun w' => by simp [Builtin.lenOf], fun w' _ => ?_⟩
    simp [Builtin.firstCells]
  case sl l s i n =>
    obtain ⟨es, h1, h2⟩ := ob_eq_some hs
    split at h2
    · rename_i hin
      simp at h2; subst h2
      obtain ⟨z', ⟨imm, hobj⟩, hcase⟩ := rows_sound H hx h1
      have hxl : ((es.drop i).take n).length = n := by simp; omega
      rcases hcase with ⟨_, rfl, rfl, rfl, rfl⟩ | ⟨b, cap, arr, t', _, rfl, hcap, hb, _, _, hrows⟩
      · refine ⟨[], by simp, by simp [vrels], fun w' => by simp [Builtin.lenOf], fun w' _ => ?_⟩
        simp [Builtin.firstCells]
      · obtain ⟨ys, e1, e2, e3, e4⟩ := rows_flat (C := C) (w := w) (z := z') (arr := arr) (es := (es.drop i).take n) (i0 := i) fun k e hk => by
          rw [List.getElem?_take] at hk
          split at hk
          · rw [List.getElem?_drop] at hk
            exact hrows _ e hk
          · cases hk
        have hzz : ys.length = n * z := by
          rw [e1, hxl]
          rcases Nat.eq_zero_or_pos n with rfl | hn
          · simp
          · have : ((es.drop i).take n)[0]? = some (es[i]'(by omega)) := by
              rw [List.getElem?_take, if_pos hn, List.getElem?_drop]; simp
            have hm := List.mem_of_getElem? this
            have hz1 := (hz _ hm).1
            have hz2 := (hrows i (es[i]'(by omega)) (List.getElem?_eq_getElem _)).1
            rw [← hz1, ← hz2]
        refine ⟨ys, by rw [hxl]; exact hzz, e2, fun w' => by simp [Builtin.lenOf, hxl], fun w' hw => ?_⟩
        rw [hxl]
        exact run_firstCells_some w' z n ⟨b, i * z', none⟩ _ _ ys hzz fun j v hj => by
          rw [addr_add]
          refine hw _ _ ?_
          rw [cell_of_row w b _ arr t' (0, 0) hb]
          exact e3 j v hj
    · cases h2
  case str s =>
    simp at hs; subst hs
    simp only [vrel] at hx; subst hx
    rcases List.eq_nil_or_concat s with hnil | ⟨s0, c0, hs0⟩
    · subst hnil
      refine ⟨[], by simp, by simp [vrels], fun w' => by simp [Builtin.lenOf, ByteArray.size], fun w' _ => ?_⟩
      have he : (⟨#[]⟩ : ByteArray).extract 0 0 = ⟨#[]⟩ := by have := extract_mk [] 0 0; simpa using this
      simp [Builtin.firstCells, he]
    have hz1 : z = 1 := by
      have := (hz [.int .u8 c0.toNat] (by rw [hs0]; simp)).1
      simp at this; exact this.symm
    subst hz1
    refine ⟨s.map fun b => .int .u8 b.toNat, by simp, ?_, fun w' => by simp [Builtin.lenOf, ByteArray.size], fun w' _ => ?_⟩
    · have hf := flatten_single (fun b : UInt8 => AV.int IntKind.u8 b.toNat) s
      rw [hf]
      refine vrels.of_get (by simp) fun i v y hv hy => ?_
      simp only [List.getElem?_map, Option.map_eq_some_iff] at hv hy
      obtain ⟨b1, q1, rfl⟩ := hv
      obtain ⟨b2, q2, rfl⟩ := hy
      rw [q1] at q2; simp at q2; subst q2
      simp [vrel]
    · have hsz : (⟨s.toArray⟩ : ByteArray).size = s.length := by simp [ByteArray.size]
      have he : (⟨s.toArray⟩ : ByteArray).extract 0 s.length = ⟨s.toArray⟩ := by rw [extract_mk]; simp
      simp [Builtin.firstCells, he]
  all_goals cases hs

theorem zeroCells_size (z : Array Value) (n : Nat) : (Builtin.zeroCells z n).size = n * z.size := by simp [Builtin.zeroCells]

/-- append onto what is one's own. -/
theorem app_sound {h : Heap} (H : HRel C w h) {t t2 ty e : TypeId} {info : TypeInfo} {zv : Value} {d2 : TypeDesc} (ht : P.underlying t = some (.slice e)) (ht2 : P.underlying t2 = some d2) (hd2 : (∃ e', d2 = .slice e') ∨ d2 = .string) (hi : P.info? e = some info)
    (hzv : info.zero = some zv) {z by_ : Nat} (hz : info.size = z) (hby : info.bytes = by_) (hzs : zv.cells.size = z) (hzp : 0 < z) (hbp : 0 < by_)
    {l s imm n : Nat} {es xs : List (List AV)} {sv x : AV} {vy xy : Value} (hsv : sv = .sl l s 0 n) (hs : vrel C w sv vy) (hx : vrel C w x xy) (ho : h[l]? = some (.arr s imm z es)) (hn : n = es.length) (himm : imm ≤ es.length) (hsrc : srcV h x = some xs)
    (hb : (n + xs.length) * by_ ≤ 140737488355328) (hxs : ∀ e ∈ xs, e.length = z ∧ e.all AV.one = true) :
    ∃ C' y w', (Builtin.append_ #[t, t2] ty #[vy, xy]).run P w = .ok y w' ∧ Step C w C' w' ∧ HRel C' w' (h.set l (.arr C.clk imm z (es ++ xs))) ∧ vrel C' w' (.sl l C.clk 0 (n + xs.length)) y := by
  subst hsv
  obtain ⟨news, n1, n2, n3, n4⟩ := src_sound (P := P) H hx hsrc hxs hzp
  have hrows : h.rows l s = some es := by simp [Heap.rows, ho, ob_some, AObj.rows]
  obtain ⟨z', ⟨imm', hobj⟩, hcase⟩ := rows_sound H hs hrows
  rw [ho] at hobj
  simp at hobj
  obtain ⟨_, rfl⟩ := hobj
  have hm63 : ((n + xs.length : Nat) : Int) ≤ 9223372036854775807 := by
    have : n + xs.length ≤ (n + xs.length) * by_ := Nat.le_mul_of_pos_right _ hbp
    omega
  have hone := oneCells n2 (by
    rw [List.all_flatten]
    exact List.all_eq_true.2 fun e he => (hxs e he).2)
  have hallz : ∀ e ∈ xs, e.length = z := fun e he => (hxs e he).1
  have rowsNew : ∀ {arr : Array Value} {k : Nat} (f : List Value) (hf : ∀ j y, f[j]? = some y → arr[k * z + j]? = some y) (hv : f = news), ∀ (i : Nat) (r : List AV), xs[i]? = some r → r.length = z ∧ ∀ (j : Nat) (v : AV), r[j]? = some v → ∃ y : Value, arr[(k + i) * z + j]? = some y ∧ y.oneCell' = true ∧ vrel C w v y := by
    intro arr k f hf hv i r hr
    subst hv
    refine ⟨hallz r (List.mem_of_getElem? hr), fun j v hj => ?_⟩
    obtain ⟨y, e1, e2⟩ := n2.get (flatten_get hallz hr hj)
    exact ⟨y, by have := hf _ y e1; rwa [show k * z + (i * z + j) = (k + i) * z + j by rw [Nat.add_mul]; omega] at this, hone y (List.mem_of_getElem? e1), e2⟩
  -- a new array
  have grow : ∀ (ob : Option Nat) (s' : Nat) (cap : Nat) (base : Option Addr) (olds : List Value), C.μ l = some (ob, s', z) → vy = .slice base n cap → cap < n + xs.length → olds.length = n * z →
      (Builtin.firstCells z n vy).run P w.drew = .ok olds.toArray w.drew → vrels C w es.flatten olds → (∀ y ∈ olds, y.oneCell' = true) → (∀ (i : Nat) (r : List AV), es[i]? = some r → r.length = z) →
      ∃ C' y w', (Builtin.append_ #[t, t2] ty #[vy, xy]).run P w = .ok y w' ∧ Step C w C' w' ∧ HRel C' w' (h.set l (.arr C.clk imm z (es ++ xs))) ∧ vrel C' w' (.sl l C.clk 0 (n + xs.length)) y := by
    intro ob s' cap base olds hmu hvy hcap hol hfo hov hoo hesz
    have hnew := n4 w.drew (fun a v hv => by simpa using hv)
    have hfit := growslice_fits hcap hb
    have hge := grownCap_ge w (n + xs.length) cap e
    have hnn : ¬ (n + xs.length ≤ cap) := by omega
    have h63' : ¬ (9223372036854775807 < ((n : Int) + (xs.length : Int))) := by omega
    have h48' : ¬ (281474976710656 < Builtin.nextslicecap (n + xs.length) cap * info.bytes) := by rw [hby]; omega
    have hrun : (Builtin.append_ #[t, t2] ty #[vy, xy]).run P w = .ok (.slice (some ⟨w.heap.size, 0, none⟩) (n + xs.length) (grownCap w (n + xs.length) cap e))
        (w.drew.alloc (.cells (olds.toArray ++ news.toArray ++ Builtin.zeroCells zv.cells (grownCap w (n + xs.length) cap e - (n + xs.length))) e)) := by
      subst hvy
      rcases hd2 with ⟨e', rfl⟩ | rfl
      · simp [Builtin.append_, run_underlying ht, run_underlying ht2, sizeOf, typeInfo, zeroValue, hi, hzv, hz, n3, hnn, h63', h48', Question.forced, hfo, hnew, newRow, grownCap]
        congr 2
        apply Array.ext'
        simp [List.append_assoc]
      · simp [Builtin.append_, run_underlying ht, run_underlying ht2, sizeOf, typeInfo, zeroValue, hi, hzv, hz, n3, hnn, h63', h48', Question.forced, hfo, hnew, newRow, grownCap]
        congr 2
        apply Array.ext'
        simp [List.append_assoc]
    have hmove := move_rel (w' := w.drew.alloc (.cells (olds.toArray ++ news.toArray ++ Builtin.zeroCells zv.cells (grownCap w (n + xs.length) cap e - (n + xs.length))) e)) H (z' := z) (ob' := some w.heap.size) (o' := .arr C.clk imm z (es ++ xs)) ho hmu rfl rfl rfl (by simp)
      (fun b j hk => World.cell?_alloc_lt w.drew _ _ (H.okb b j hk))
      (fun b arr t fz hb => ⟨arr, t, fz, by rw [heap_alloc_old w.drew _ (Array.getElem?_eq_some_iff.1 hb).1]; exact hb, rfl⟩)
      (fun k hk _ => heap_alloc_old w.drew _ hk) (fun b hb => by simp at hb; subst hb; exact ⟨.inr (Nat.le_refl _), by simp⟩)
      (fun st => by
        simp only [orel]
        refine ⟨by simp [Ctx.move], some w.heap.size, by simp [Ctx.move], _, _, heap_alloc_new w.drew _, ?_, fun j _ => ok_new H j, fun i r hr => ?_⟩
        · have : n + xs.length ≤ grownCap w (n + xs.length) cap e := hge
          simp only [Array.size_append, List.size_toArray, zeroCells_size, hzs, hol, n1, List.length_append, hn]
          rw [← Nat.add_mul, ← Nat.add_mul]
          exact Nat.mul_le_mul_right _ (by omega)
        · have hlook : ∀ (k : Nat) (y : Value), (olds ++ news)[k]? = some y → (olds.toArray ++ news.toArray ++ Builtin.zeroCells zv.cells (grownCap w (n + xs.length) cap e - (n + xs.length)))[k]? = some y := by
            intro k y hk
            have hlt := (List.getElem?_eq_some_iff.1 hk).1
            rw [Array.getElem?_append_left (by simpa using hlt)]
            simpa using hk
          rcases Nat.lt_or_ge i es.length with hlt | hge'
          · rw [List.getElem?_append_left hlt] at hr
            refine ⟨hesz i r hr, fun j v hj => ?_⟩
            have hall : ∀ e ∈ es, e.length = z := fun e he => by obtain ⟨i, hi⟩ := List.getElem?_of_mem he; exact hesz i e hi
            obtain ⟨y, e1, e2⟩ := hov.get (flatten_get hall hr hj)
            refine ⟨y, hlook _ y ?_, hoo y (List.mem_of_getElem? e1), e2.mono st⟩
            rw [List.getElem?_append_left (List.getElem?_eq_some_iff.1 e1).1]; exact e1
          · rw [List.getElem?_append_right hge'] at hr
            refine ⟨hallz r (List.mem_of_getElem? hr), fun j v hj => ?_⟩
            obtain ⟨y, e1, e2⟩ := n2.get (flatten_get hallz hr hj)
            refine ⟨y, hlook _ y ?_, hone y (List.mem_of_getElem? e1), e2.mono st⟩
            have hle : es.length * z ≤ i * z := Nat.mul_le_mul_right _ hge'
            rw [List.getElem?_append_right (by rw [hol, hn]; omega), hol, hn]
            rwa [show i * z + j - es.length * z = (i - es.length) * z + j by rw [Nat.sub_mul]; omega])
    refine ⟨_, _, _, hrun, hmove.1, hmove.2, ?_⟩
    simp only [vrel]
    refine ⟨by simp [Ctx.move], ⟨_, _, _, rfl⟩, fun ob' z'' hm' => ?_⟩
    simp [Ctx.move] at hm'
    obtain ⟨rfl, rfl⟩ := hm'
    refine ⟨grownCap w (n + xs.length) cap e, by simp, hge, _, _, _, heap_alloc_new w.drew _, ?_⟩
    simp only [Array.size_append, List.size_toArray, zeroCells_size, hzs, hol, n1, Nat.zero_add]
    rw [← Nat.add_mul, ← Nat.add_mul]
    exact Nat.mul_le_mul_right _ (by omega)
  rcases hcase with ⟨hmu, rfl, hi0, rfl, rfl⟩ | ⟨b, cap, arr, t', hmu, rfl, hcap, hbk, hsz, hsz2, hr⟩
  · rcases Nat.eq_zero_or_pos xs.length with hx0 | hxp
    · have hxnil : xs = [] := List.eq_nil_of_length_eq_zero hx0
      subst hxnil
      have hmove := move_rel (w' := w) H (z' := z) (ob' := none) (o' := .arr C.clk imm z ([] ++ [])) ho hmu rfl rfl rfl (Nat.le_refl _) (fun _ _ _ => rfl) (fun b arr t fz hb => ⟨arr, t, fz, hb, rfl⟩) (fun _ _ _ => rfl) (fun b hb => by cases hb)
        (fun st => by simp only [orel]; exact ⟨by simp [Ctx.move], none, by simp [Ctx.move], rfl⟩)
      have hnn : news = [] := List.eq_nil_of_length_eq_zero (by simpa using n1)
      subst hnn
      refine ⟨_, .slice none 0 0, _, ?_, hmove.1, hmove.2, ?_⟩
      · have hnew := n4 w (fun a v hv => hv)
        have n3' := n3 w
        simp at n3' hnew
        rcases hd2 with ⟨e', rfl⟩ | rfl <;> simp [Builtin.append_, run_underlying ht, run_underlying ht2, sizeOf, typeInfo, hi, hz, n3', hnew]
      · simp only [vrel]
        refine ⟨by simp [Ctx.move], ⟨_, _, _, rfl⟩, fun ob' z'' hm' => ?_⟩
        simp [Ctx.move] at hm'
        obtain ⟨rfl, rfl⟩ := hm'
        simp
    · exact grow none s 0 none [] hmu rfl (by omega) (by simp) (by simp [Builtin.firstCells]) (by simp [vrels]) (by simp) (by simp)
  · have hrow : ∃ ys : List Value, ys.length = es.length * z ∧ vrels C w es.flatten ys ∧ (∀ (j : Nat) (y : Value), ys[j]? = some y → arr[j]? = some y) ∧ ∀ y ∈ ys, y.oneCell' = true := by
      obtain ⟨ys, e1, e2, e3, e4⟩ := rows_flat (C := C) (w := w) (z := z) (arr := arr) (es := es) (i0 := 0) (fun i e hi => by simpa using hr i e hi)
      exact ⟨ys, e1, e2, by simpa using e3, e4⟩
    obtain ⟨olds, o1, o2, o3, o4⟩ := hrow
    by_cases hroom : n + xs.length ≤ cap
    · have hfit : n * z + news.length ≤ arr.size := by
        rw [n1, ← Nat.add_mul]
        simp only [Nat.zero_add] at hsz
        exact Nat.le_trans (Nat.mul_le_mul_right _ hroom) hsz
      have hst := run_storeCells_at P b (n * z) t' news 0 arr w hbk (by simpa using hfit) hone
      simp only [Nat.add_zero] at hst
      have hnew := n4 w (fun a v hv => hv)
      have hrun : (Builtin.append_ #[t, t2] ty #[.slice (some ⟨b, 0 * z, none⟩) n cap, xy]).run P w = .ok (.slice (some ⟨b, 0 * z, none⟩) (n + xs.length) cap) (w.setRow b (arr.toList.take (n * z) ++ news ++ arr.toList.drop (n * z + news.length)).toArray) := by
        simp only [Nat.zero_mul]
        rcases hd2 with ⟨e', rfl⟩ | rfl <;> simp [Builtin.append_, run_underlying ht, run_underlying ht2, sizeOf, typeInfo, hi, hz, n3, hroom, hnew, addr_add, hst]
      have hhb := setRow_heap w b arr (arr.toList.take (n * z) ++ news ++ arr.toList.drop (n * z + news.length)).toArray t' (0, 0) hbk
      have hother : ∀ k, k ≠ b → (w.setRow b (arr.toList.take (n * z) ++ news ++ arr.toList.drop (n * z + news.length)).toArray).heap[k]? = w.heap[k]? := fun k hk => setRow_other w b k _ hk
      have hsize : (arr.toList.take (n * z) ++ news ++ arr.toList.drop (n * z + news.length)).toArray.size = arr.size := by
        simp only [List.size_toArray, List.length_append, List.length_take, List.length_drop, Array.length_toList]
        omega
      have hlow : ∀ k, k < n * z → (arr.toList.take (n * z) ++ news ++ arr.toList.drop (n * z + news.length)).toArray[k]? = arr[k]? := by
        intro k hk
        rw [List.getElem?_toArray, List.append_assoc, List.getElem?_append_left (by simp; omega), List.getElem?_take, if_pos hk]
        simp
      have hobj := H.obj l _ ho
      simp only [orel] at hobj
      obtain ⟨hlt, ob, hm', hob⟩ := hobj
      rw [hmu] at hm'
      simp at hm'
      subst hm'
      obtain ⟨arr0, t0, q1, q2, q3, q4⟩ := hob
      rw [hbk] at q1
      simp at q1
      obtain ⟨rfl, rfl⟩ := q1
      have hmove := move_rel (w' := w.setRow b (arr.toList.take (n * z) ++ news ++ arr.toList.drop (n * z + news.length)).toArray) H (z' := z) (ob' := some b) (o' := .arr C.clk imm z (es ++ xs)) ho hmu rfl rfl rfl (by simp [World.setRow])
        (fun k j hk => by
          by_cases hkb : k = b
          · subst hkb
            rw [cell_of_row _ k j _ t' (0, 0) hhb, cell_of_row w k j arr t' (0, 0) hbk]
            refine hlow j ?_
            rcases Nat.lt_or_ge j (imm * z) with hj | hj
            · exact Nat.lt_of_lt_of_le hj (by rw [hn]; exact Nat.mul_le_mul_right _ himm)
            · exact absurd hk (q3 j hj)
          · exact World.cell?_of_block (w := w) (hother k hkb))
        (fun k a tt fz hk => by
          by_cases hkb : k = b
          · subst hkb
            rw [hbk] at hk
            simp at hk
            obtain ⟨rfl, rfl, rfl⟩ := hk
            exact ⟨_, _, _, hhb, hsize⟩
          · exact ⟨a, tt, fz, by rw [hother k hkb]; exact hk, rfl⟩)
        (fun k hk hne => hother k (fun e => hne (by rw [e]))) (fun b' hb' => by simp at hb'; subst hb'; exact ⟨.inl rfl, by simp [World.setRow]; exact (Array.getElem?_eq_some_iff.1 hbk).1⟩)
        (fun st => by
          simp only [orel]
          refine ⟨by simp [Ctx.move], some b, by simp [Ctx.move], _, _, hhb, ?_, q3, fun i r hi' => ?_⟩
          · rw [hsize, List.length_append, ← hn]
            simp only [Nat.zero_add] at hsz
            exact Nat.le_trans (Nat.mul_le_mul_right _ hroom) hsz
          · rcases Nat.lt_or_ge i es.length with hilt | hige
            · rw [List.getElem?_append_left hilt] at hi'
              refine ⟨(hr i r hi').1, fun j v hj => ?_⟩
              obtain ⟨y, f1, f2, f3⟩ := (hr i r hi').2 j v hj
              refine ⟨y, ?_, f2, f3.mono st⟩
              rw [hlow]; exact f1
              have hjz : j < z := by rw [← (hr i r hi').1]; exact (List.getElem?_eq_some_iff.1 hj).1
              have : (i + 1) * z ≤ n * z := Nat.mul_le_mul_right _ (by omega)
              rw [Nat.add_mul] at this
              omega
            · rw [List.getElem?_append_right hige] at hi'
              refine ⟨hallz r (List.mem_of_getElem? hi'), fun j v hj => ?_⟩
              obtain ⟨y, e1, e2⟩ := n2.get (flatten_get hallz hi' hj)
              refine ⟨y, ?_, hone y (List.mem_of_getElem? e1), e2.mono st⟩
              have hle : es.length * z ≤ i * z := Nat.mul_le_mul_right _ hige
              have hnz : (arr.toList.take (n * z)).length = n * z := by simp; omega
              rw [List.getElem?_toArray, List.append_assoc, List.getElem?_append_right (by rw [hnz, hn]; omega), hnz, hn]
              rw [show i * z + j - es.length * z = (i - es.length) * z + j by rw [Nat.sub_mul]; omega]
              rw [List.getElem?_append_left (List.getElem?_eq_some_iff.1 e1).1]; exact e1)
      refine ⟨_, _, _, hrun, hmove.1, hmove.2, ?_⟩
      simp only [vrel]
      refine ⟨by simp [Ctx.move], ⟨_, _, _, rfl⟩, fun ob' z'' hm' => ?_⟩
      simp [Ctx.move] at hm'
      obtain ⟨rfl, rfl⟩ := hm'
      exact ⟨cap, rfl, hroom, _, _, _, hhb, by rw [hsize]; exact hsz⟩
    · refine grow (some b) s cap _ olds hmu rfl (by omega) (by rw [o1, hn]) ?_ o2 o4 (fun i r hi' => (hr i r hi').1)
      rw [hn]
      exact run_firstCells_some w.drew z es.length ⟨b, 0 * z, none⟩ _ _ olds o1 fun j v hj => by
        rw [addr_add]
        have := o3 j v hj
        rw [World.cell?_drew, cell_of_row w b _ arr t' (0, 0) hbk]
        simpa using this
end
end Go.Ab
