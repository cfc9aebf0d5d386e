/- The layer Ab, part 1: abstract values and heaps, and how they are related to a world of the model; nothing is claimed of a program here. -/
import Derived.WalkKit
import Derived.Test.YtghiionknnpajaaGreatDoorAb0
set_option linter.unusedVariables false
set_option linter.unusedSimpArgs false
namespace Go.Ab

abbrev Str := List UInt8

inductive AV where
  | dead
  | bool (b : Bool)
  | int (k : IntKind) (n : Int)
  | str (s : Str)
  | nilp
  | ptr (l s i off : Nat)
  | pptr (cs : List AV) (off : Nat)
  | sl (l s i n : Nat)
  | psl (es : List (List AV))
  | vn
  | fn (f : FuncId) (first caps : List AV)
  | nilfn
  | nilif
  | iface (t : TypeId) (v : AV)
  | agg (cs : List AV)
  | tup (vs : List AV)
  | mp (l s : Nat)
  | nilmp
  | it (l s : Nat)
  | cond (c : Bool) (v : AV)

inductive AObj where
  | arr (s imm z : Nat) (es : List (List AV))
  | mp (s : Nat) (es : List (AV × AV))
  | sit (s : Nat) (str : Str) (pos : Nat)
  | mit (s : Nat) (left : List (AV × AV))
  | gone

abbrev Heap := List AObj
abbrev Env := List (Nat × AV)

def eget : Env → Nat → AV
  | [], _ => .dead
  | (k, v) :: r, n => if k = n then v else eget r n

structure St where
  env : Env
  h : Heap

/-- The context of the relation: which cells are never written any more; which block an object lies in (none: in none yet), with its stamp and the size of its elements; the next stamp. -/
structure Ctx where
  ok : Nat → Nat → Prop
  μ : Nat → Option (Option Nat × Nat × Nat)
  clk : Nat

mutual
def vrel (C : Ctx) (w : World) : AV → Value → Prop
  | .dead, _ => True
  | .bool b, v => v = .bool b
  | .int k n, v => v = .int k n
  | .str s, v => v = .string ⟨s.toArray⟩
  | .nilp, v => v = .pointer none
  | .ptr l s i off, v => s < C.clk ∧ (∃ a, v = .pointer (some a)) ∧ ∀ b z, C.μ l = some (some b, s, z) → v = .pointer (some ⟨b, i * z + off, none⟩)
  | .pptr cs off, v => ∃ b o, v = .pointer (some ⟨b, o + off, none⟩) ∧ vmem C w cs b o
  | .sl l s i n, v => s < C.clk ∧ (∃ a m c, v = .slice a m c) ∧ ∀ ob z, C.μ l = some (ob, s, z) → match ob with
      | none => v = .slice none 0 0 ∧ i = 0 ∧ n = 0
      | some b => ∃ cap, v = .slice (some ⟨b, i * z, none⟩) n cap ∧ n ≤ cap ∧ ∃ (arr : Array Value) (t : TypeId) (fz : Nat × Nat), w.heap[b]? = some (Obj.cells arr t fz) ∧ (i + cap) * z ≤ arr.size
  | .psl es, v => ∃ a cap, v = .slice a es.length cap ∧ es.length ≤ cap ∧ (es = [] ∨ ∃ b o z, a = some ⟨b, o, none⟩ ∧ ves C w z es b o)
  | .vn, v => v = .slice none 0 0
  | .fn f first caps, v => ∃ xs ys, v = .func (.func f) xs ys ∧ vrels C w first xs.toList ∧ vrels C w caps ys.toList
  | .nilfn, v => v = .nilFunc
  | .nilif, v => v = .nilIface
  | .iface t x, v => ∃ y, v = .iface t y ∧ vrel C w x y
  | .agg cs, v => ∃ xs, v = .agg xs ∧ vrels C w cs xs.toList
  | .tup cs, v => ∃ xs, v = .tuple xs ∧ vrels C w cs xs.toList
  | .mp l s, v => s < C.clk ∧ (∃ r, v = .map r) ∧ ∀ b z, C.μ l = some (some b, s, z) → v = .map (some b)
  | .nilmp, v => v = .map none
  | .it l s, v => s < C.clk ∧ (∃ a, v = .pointer (some a)) ∧ ∀ b z, C.μ l = some (some b, s, z) → v = .pointer (some ⟨b, 0, none⟩)
  | .cond c x, v => (c = true → vrel C w x v) ∧ (c = false → v = undef)
def vrels (C : Ctx) (w : World) : List AV → List Value → Prop
  | [], vs => vs = []
  | x :: xs, vs => ∃ y ys, vs = y :: ys ∧ vrel C w x y ∧ vrels C w xs ys
def vmem (C : Ctx) (w : World) : List AV → Nat → Nat → Prop
  | [], _, _ => True
  | x :: xs, b, o => C.ok b o ∧ (∃ y, w.cell? ⟨b, o, none⟩ = some y ∧ vrel C w x y) ∧ vmem C w xs b (o + 1)
def ves (C : Ctx) (w : World) (z : Nat) : List (List AV) → Nat → Nat → Prop
  | [], _, _ => True
  | e :: es, b, o => e.length = z ∧ vmem C w e b o ∧ ves C w z es b (o + z)
end

def orel (C : Ctx) (w : World) (l : Nat) : AObj → Prop
  | .gone => C.μ l = none
  | .arr s imm z es => s < C.clk ∧ ∃ ob, C.μ l = some (ob, s, z) ∧ match ob with
      | none => es = []
      | some b => ∃ (arr : Array Value) (t : TypeId), w.heap[b]? = some (Obj.cells arr t) ∧ es.length * z ≤ arr.size ∧ (∀ j, imm * z ≤ j → ¬ C.ok b j) ∧
          ∀ (i : Nat) (e : List AV), es[i]? = some e → e.length = z ∧ ∀ (j : Nat) (v : AV), e[j]? = some v → ∃ y : Value, arr[i * z + j]? = some y ∧ y.oneCell' = true ∧ vrel C w v y
  | .mp s es => s < C.clk ∧ ∃ b, C.μ l = some (some b, s, 0) ∧ ∃ (xs : Array MapEntry) (clock : Nat), w.heap[b]? = some (Obj.map xs clock) ∧ xs.toList.length = es.length ∧
      ∀ (i : Nat) (e : AV × AV) (x : MapEntry), es[i]? = some e → xs[i]? = some x → vrel C w e.1 x.key ∧ vrel C w e.2 x.val
  | .sit s str pos => s < C.clk ∧ ∃ b, C.μ l = some (some b, s, 0) ∧ w.heap[b]? = some (.stringIter ⟨str.toArray⟩ pos)
  | .mit s left => False

structure HRel (C : Ctx) (w : World) (h : Heap) : Prop where
  obj : ∀ l o, h[l]? = some o → orel C w l o
  inj : ∀ l l' b s z s' z', C.μ l = some (some b, s, z) → C.μ l' = some (some b, s', z') → l = l'
  none : ∀ l, h.length ≤ l → C.μ l = Option.none
  okb : ∀ b j, C.ok b j → b < w.heap.size
  blk : ∀ l b s z, C.μ l = some (some b, s, z) → b < w.heap.size
  tb : ∀ x ∈ TB, C.ok x.1 x.2.1 ∧ w.cell? ⟨x.1, x.2.1, Option.none⟩ = some x.2.2

structure Step (C : Ctx) (w : World) (C' : Ctx) (w' : World) : Prop where
  os : w'.os = w.os
  tape : w'.tape = w.tape
  output : w'.output = w.output
  size : w.heap.size ≤ w'.heap.size
  clk : C.clk ≤ C'.clk
  ok : ∀ b j, C.ok b j → C'.ok b j
  cell : ∀ b j, C.ok b j → w'.cell? ⟨b, j, none⟩ = w.cell? ⟨b, j, none⟩
  old : ∀ l ob s z, C'.μ l = some (ob, s, z) → s < C.clk → C.μ l = some (ob, s, z)
  kind : ∀ (b : Nat) (arr : Array Value) (t : TypeId) (fz : Nat × Nat), w.heap[b]? = some (Obj.cells arr t fz) → ∃ (arr' : Array Value) (t' : TypeId) (fz' : Nat × Nat), w'.heap[b]? = some (Obj.cells arr' t' fz') ∧ arr'.size = arr.size
  out : ∀ b, b < w.heap.size → (∀ l s z, C.μ l ≠ some (some b, s, z)) → w'.heap[b]? = w.heap[b]?
  own : ∀ l b s z, C'.μ l = some (some b, s, z) → b < w.heap.size → ∃ l' s' z', C.μ l' = some (some b, s', z')
  okn : ∀ b j, C'.ok b j → b < w.heap.size → C.ok b j ∨ ∃ l s z, C.μ l = some (some b, s, z)

/-- As much of it as a value needs to stay related. -/
structure Mono (C : Ctx) (w : World) (C' : Ctx) (w' : World) : Prop where
  clk : C.clk ≤ C'.clk
  ok : ∀ b j, C.ok b j → C'.ok b j
  cell : ∀ b j, C.ok b j → w'.cell? ⟨b, j, none⟩ = w.cell? ⟨b, j, none⟩
  old : ∀ l ob s z, C'.μ l = some (ob, s, z) → s < C.clk → C.μ l = some (ob, s, z)
  kind : ∀ (b : Nat) (arr : Array Value) (t : TypeId) (fz : Nat × Nat), w.heap[b]? = some (Obj.cells arr t fz) → ∃ (arr' : Array Value) (t' : TypeId) (fz' : Nat × Nat), w'.heap[b]? = some (Obj.cells arr' t' fz') ∧ arr'.size = arr.size

theorem Step.toM {C C' : Ctx} {w w' : World} (st : Step C w C' w') : Mono C w C' w' := ⟨st.clk, st.ok, st.cell, st.old, st.kind⟩

/-- The tables stay as they are. -/
theorem HRel.tbS {C C' : Ctx} {w w' : World} {h : Heap} (H : HRel C w h) (S : Step C w C' w') : ∀ x ∈ TB, C'.ok x.1 x.2.1 ∧ w'.cell? ⟨x.1, x.2.1, Option.none⟩ = some x.2.2 :=
  fun x hx => ⟨S.ok _ _ (H.tb x hx).1, (S.cell _ _ (H.tb x hx).1).trans (H.tb x hx).2⟩

theorem Step.refl (C : Ctx) (w : World) : Step C w C w :=
  ⟨rfl, rfl, rfl, Nat.le_refl _, Nat.le_refl _, fun _ _ h => h, fun _ _ _ => rfl, fun _ _ _ _ h _ => h, fun _ arr t fz h => ⟨arr, t, fz, h, rfl⟩, fun _ _ _ => rfl, fun l b s z h _ => ⟨l, s, z, h⟩, fun _ _ h _ => .inl h⟩

theorem Step.trans {C C1 C2 : Ctx} {w w1 w2 : World} (h : Step C w C1 w1) (k : Step C1 w1 C2 w2) : Step C w C2 w2 where
  os := k.os.trans h.os
  tape := k.tape.trans h.tape
  output := k.output.trans h.output
  size := Nat.le_trans h.size k.size
  clk := Nat.le_trans h.clk k.clk
  ok b j hb := k.ok b j (h.ok b j hb)
  cell b j hb := (k.cell b j (h.ok b j hb)).trans (h.cell b j hb)
  old l ob s z hl hs := h.old l ob s z (k.old l ob s z hl (Nat.lt_of_lt_of_le hs h.clk)) hs
  kind b arr t fz hb := by
    obtain ⟨a1, t1, f1, h1, e1⟩ := h.kind b arr t fz hb
    obtain ⟨a2, t2, f2, h2, e2⟩ := k.kind b a1 t1 f1 h1
    exact ⟨a2, t2, f2, h2, e2.trans e1⟩
  out b hb hn := by
    refine (k.out b (Nat.lt_of_lt_of_le hb h.size) fun l s z hl => ?_).trans (h.out b hb hn)
    obtain ⟨l', s', z', h'⟩ := h.own l b s z hl hb
    exact hn l' s' z' h'
  own l b s z hl hb := by
    obtain ⟨l', s', z', h'⟩ := k.own l b s z hl (Nat.lt_of_lt_of_le hb h.size)
    exact h.own l' b s' z' h' hb
  okn b j hk hb := by
    rcases k.okn b j hk (Nat.lt_of_lt_of_le hb h.size) with h1 | ⟨l, s, z, h1⟩
    · exact h.okn b j h1 hb
    · exact .inr (h.own l b s z h1 hb)

section
variable {C C' : Ctx} {w w' : World}

mutual
theorem vrel.monoM (st : Mono C w C' w') : ∀ (v : AV) (y : Value), vrel C w v y → vrel C' w' v y
  | .dead, _, _ => by simp [vrel]
  | .bool b, _, h => by simpa [vrel] using h
  | .int k n, _, h => by simpa [vrel] using h
  | .str s, _, h => by simpa [vrel] using h
  | .nilp, _, h => by simpa [vrel] using h
  | .ptr l s i off, y, h => by
    simp only [vrel] at h ⊢
    exact ⟨Nat.lt_of_lt_of_le h.1 st.clk, h.2.1, fun b z hm => h.2.2 b z (st.old _ _ _ _ hm h.1)⟩
  | .pptr cs off, y, h => by
    simp only [vrel] at h ⊢
    obtain ⟨b, o, h1, h2⟩ := h
    exact ⟨b, o, h1, vmem.monoM st cs b o h2⟩
  | .sl l s i n, y, h => by
    simp only [vrel] at h ⊢
    refine ⟨Nat.lt_of_lt_of_le h.1 st.clk, h.2.1, fun ob z hm => ?_⟩
    have h2 := h.2.2 ob z (st.old _ _ _ _ hm h.1)
    cases ob with
    | none => exact h2
    | some b =>
      obtain ⟨cap, e1, e2, arr, t, fz, e3, e4⟩ := h2
      obtain ⟨arr', t', fz', e5, e6⟩ := st.kind b arr t fz e3
      exact ⟨cap, e1, e2, arr', t', fz', e5, by omega⟩
  | .psl es, y, h => by
    simp only [vrel] at h ⊢
    obtain ⟨a, cap, e1, e2, e3⟩ := h
    refine ⟨a, cap, e1, e2, e3.imp id ?_⟩
    rintro ⟨b, o, z, e4, e5⟩
    exact ⟨b, o, z, e4, ves.monoM st z es b o e5⟩
  | .fn f first caps, y, h => by
    simp only [vrel] at h ⊢
    obtain ⟨xs, ys, e1, e2, e3⟩ := h
    exact ⟨xs, ys, e1, vrels.monoM st first _ e2, vrels.monoM st caps _ e3⟩
  | .nilfn, _, h => by simpa [vrel] using h
  | .vn, _, h => by simpa [vrel] using h
  | .nilif, _, h => by simpa [vrel] using h
  | .iface t x, y, h => by
    simp only [vrel] at h ⊢
    obtain ⟨z, e1, e2⟩ := h
    exact ⟨z, e1, vrel.monoM st x z e2⟩
  | .agg cs, y, h => by
    simp only [vrel] at h ⊢
    obtain ⟨xs, e1, e2⟩ := h
    exact ⟨xs, e1, vrels.monoM st cs _ e2⟩
  | .tup cs, y, h => by
    simp only [vrel] at h ⊢
    obtain ⟨xs, e1, e2⟩ := h
    exact ⟨xs, e1, vrels.monoM st cs _ e2⟩
  | .mp l s, y, h => by
    simp only [vrel] at h ⊢
    exact ⟨Nat.lt_of_lt_of_le h.1 st.clk, h.2.1, fun b z hm => h.2.2 b z (st.old _ _ _ _ hm h.1)⟩
  | .nilmp, _, h => by simpa [vrel] using h
  | .it l s, y, h => by
    simp only [vrel] at h ⊢
    exact ⟨Nat.lt_of_lt_of_le h.1 st.clk, h.2.1, fun b z hm => h.2.2 b z (st.old _ _ _ _ hm h.1)⟩
  | .cond c x, y, h => by
    simp only [vrel] at h ⊢
    exact ⟨fun hc => vrel.monoM st x y (h.1 hc), h.2⟩
theorem vrels.monoM (st : Mono C w C' w') : ∀ (vs : List AV) (ys : List Value), vrels C w vs ys → vrels C' w' vs ys
  | [], _, h => by simpa [vrels] using h
  | x :: xs, ys, h => by
    simp only [vrels] at h ⊢
    obtain ⟨y, zs, e1, e2, e3⟩ := h
    exact ⟨y, zs, e1, vrel.monoM st x y e2, vrels.monoM st xs zs e3⟩
theorem vmem.monoM (st : Mono C w C' w') : ∀ (vs : List AV) (b o : Nat), vmem C w vs b o → vmem C' w' vs b o
  | [], _, _, _ => by simp [vmem]
  | x :: xs, b, o, h => by
    simp only [vmem] at h ⊢
    obtain ⟨e1, ⟨y, e2, e3⟩, e4⟩ := h
    exact ⟨st.ok b o e1, ⟨y, (st.cell b o e1).trans e2, vrel.monoM st x y e3⟩, vmem.monoM st xs b (o + 1) e4⟩
theorem ves.monoM (st : Mono C w C' w') (z : Nat) : ∀ (es : List (List AV)) (b o : Nat), ves C w z es b o → ves C' w' z es b o
  | [], _, _, _ => by simp [ves]
  | e :: es, b, o, h => by
    simp only [ves] at h ⊢
    exact ⟨h.1, vmem.monoM st e b o h.2.1, ves.monoM st z es b (o + z) h.2.2⟩
end

theorem vrel.mono (st : Step C w C' w') (v : AV) (y : Value) (h : vrel C w v y) : vrel C' w' v y := vrel.monoM st.toM v y h
theorem vrels.mono (st : Step C w C' w') (vs : List AV) (ys : List Value) (h : vrels C w vs ys) : vrels C' w' vs ys := vrels.monoM st.toM vs ys h
theorem vmem.mono (st : Step C w C' w') (vs : List AV) (b o : Nat) (h : vmem C w vs b o) : vmem C' w' vs b o := vmem.monoM st.toM vs b o h
theorem ves.mono (st : Step C w C' w') (z : Nat) (es : List (List AV)) (b o : Nat) (h : ves C w z es b o) : ves C' w' z es b o := ves.monoM st.toM z es b o h

theorem vrels.length : ∀ {vs : List AV} {ys : List Value}, vrels C w vs ys → ys.length = vs.length
  | [], _, h => by simp [vrels] at h; simp [h]
  | x :: xs, ys, h => by
    simp only [vrels] at h
    obtain ⟨y, zs, rfl, _, e3⟩ := h
    simp [e3.length]

theorem vrels.get : ∀ {vs : List AV} {ys : List Value}, vrels C w vs ys → ∀ {i : Nat} {v : AV}, vs[i]? = some v → ∃ y, ys[i]? = some y ∧ vrel C w v y
  | [], _, _, i, v, hi => by simp at hi
  | x :: xs, ys, h, i, v, hi => by
    simp only [vrels] at h
    obtain ⟨y, zs, rfl, e2, e3⟩ := h
    cases i with
    | zero => simp at hi; subst hi; exact ⟨y, rfl, e2⟩
    | succ i => simp at hi ⊢; exact e3.get hi

theorem vrels.of_get : ∀ {vs : List AV} {ys : List Value}, ys.length = vs.length → (∀ (i : Nat) (v : AV) (y : Value), vs[i]? = some v → ys[i]? = some y → vrel C w v y) → vrels C w vs ys
  | [], ys, hl, _ => by simp at hl; simp [vrels, hl]
  | x :: xs, [], hl, _ => by simp at hl
  | x :: xs, y :: ys, hl, h => by
    simp only [vrels]
    refine ⟨y, ys, rfl, h 0 x y rfl rfl, vrels.of_get (by simpa using hl) fun i v y' h1 h2 => h (i + 1) v y' (by simpa using h1) (by simpa using h2)⟩

theorem vmem.get : ∀ {vs : List AV} {b o : Nat}, vmem C w vs b o → ∀ {i : Nat} {v : AV}, vs[i]? = some v → C.ok b (o + i) ∧ ∃ y, w.cell? ⟨b, o + i, none⟩ = some y ∧ vrel C w v y
  | [], _, _, _, i, v, hi => by simp at hi
  | x :: xs, b, o, h, i, v, hi => by
    simp only [vmem] at h
    cases i with
    | zero => simp at hi; subst hi; exact ⟨h.1, h.2.1⟩
    | succ i =>
      simp at hi
      have := h.2.2.get hi
      rwa [show o + 1 + i = o + (i + 1) by omega] at this

theorem vmem.of_get : ∀ {vs : List AV} {b o : Nat}, (∀ (i : Nat) (v : AV), vs[i]? = some v → C.ok b (o + i) ∧ ∃ y, w.cell? ⟨b, o + i, none⟩ = some y ∧ vrel C w v y) → vmem C w vs b o
  | [], _, _, _ => by simp [vmem]
  | x :: xs, b, o, h => by
    simp only [vmem]
    have h0 := h 0 x rfl
    refine ⟨h0.1, h0.2, vmem.of_get fun i v hi => ?_⟩
    have := h (i + 1) v (by simpa using hi)
    rwa [show o + (i + 1) = o + 1 + i by omega] at this

theorem ves.get {z : Nat} : ∀ {es : List (List AV)} {b o : Nat}, ves C w z es b o → ∀ {i : Nat} {e : List AV}, es[i]? = some e → e.length = z ∧ vmem C w e b (o + i * z)
  | [], _, _, _, i, e, hi => by simp at hi
  | x :: xs, b, o, h, i, e, hi => by
    simp only [ves] at h
    cases i with
    | zero => simp at hi; subst hi; simp; exact ⟨h.1, h.2.1⟩
    | succ i =>
      simp at hi
      have := h.2.2.get hi
      rwa [show o + z + i * z = o + (i + 1) * z by rw [Nat.add_mul]; omega] at this

theorem ves.of_get {z : Nat} : ∀ {es : List (List AV)} {b o : Nat}, (∀ (i : Nat) (e : List AV), es[i]? = some e → e.length = z ∧ vmem C w e b (o + i * z)) → ves C w z es b o
  | [], _, _, _ => by simp [ves]
  | x :: xs, b, o, h => by
    simp only [ves]
    have h0 := h 0 x rfl
    simp at h0
    refine ⟨h0.1, h0.2, ves.of_get fun i e hi => ?_⟩
    have := h (i + 1) e (by simpa using hi)
    rwa [show o + (i + 1) * z = o + z + i * z by rw [Nat.add_mul]; omega] at this

end
end Go.Ab
