/- The layer Ab, part 0: the tables (package-level variables that are never written) that a seat's code reads: cells of blocks, with what they hold. -/
import Derived.WalkKit
import Derived.Shelf.Unicode.DecodeSlow
set_option linter.unusedVariables false
set_option linter.unusedSimpArgs false
namespace Go.Ab
/-- unicode/utf8.first (variable 0) and unicode/utf8.acceptRanges (variable 1). -/
def TB : List (Nat × Nat × Value) := (List.range 256).map (fun c => (0, c, .int .u8 (Lib.firstT c))) ++ (List.range 32).map (fun j => (1, j, .int .u8 (if j % 2 = 0 then Lib.accLo (j / 2) else Lib.accHi (j / 2))))
theorem TB_tabs {C : Nat → Nat → Prop} {w : World} (h : ∀ x ∈ TB, C x.1 x.2.1 ∧ w.cell? ⟨x.1, x.2.1, none⟩ = some x.2.2) : Lib.Utf8Tabs 0 1 w := by
  refine ⟨fun c hc => ?_, fun i hi => ⟨?_, ?_⟩⟩
  · exact (h (0, c, .int .u8 (Lib.firstT c)) (List.mem_append_left _ (List.mem_map.2 ⟨c, by simpa using hc, rfl⟩))).2
  · have := (h (1, 2 * i, .int .u8 (if (2 * i) % 2 = 0 then Lib.accLo (2 * i / 2) else Lib.accHi (2 * i / 2))) (List.mem_append_right _ (List.mem_map.2 ⟨2 * i, by simp; omega, rfl⟩))).2
    rw [if_pos (by omega), show 2 * i / 2 = i by omega] at this
    exact this
  · have := (h (1, 2 * i + 1, .int .u8 (if (2 * i + 1) % 2 = 0 then Lib.accLo ((2 * i + 1) / 2) else Lib.accHi ((2 * i + 1) / 2))) (List.mem_append_right _ (List.mem_map.2 ⟨2 * i + 1, by simp; omega, rfl⟩))).2
    rw [if_neg (by omega), show (2 * i + 1) / 2 = i by omega] at this
    exact this
end Go.Ab

/- The layer Ab, part 1: abstract values and heaps, and how they are related to a world of the model; nothing is claimed of a program here. -/
namespace Go.Ab

abbrev Str := List UInt8

inductive AV where
  | dead
  | bool (b : Bool)
  | int (k : IntKind) (n : Int)
  | str (s : Str)
  | nilp
  | ptr (l s i off : Nat)
  | pptr (cs : List AV) (off : Nat)
  | sl (l s i n : Nat)
  | psl (es : List (List AV))
  | vn
  | fn (f : FuncId) (first caps : List AV)
  | nilfn
  | nilif
  | iface (t : TypeId) (v : AV)
  | agg (cs : List AV)
  | tup (vs : List AV)
  | mp (l s : Nat)
  | nilmp
  | it (l s : Nat)
  | cond (c : Bool) (v : AV)

inductive AObj where
  | arr (s imm z : Nat) (es : List (List AV))
  | mp (s : Nat) (es : List (AV × AV))
  | sit (s : Nat) (str : Str) (pos : Nat)
  | mit (s : Nat) (left : List (AV × AV))
  | gone

abbrev Heap := List AObj
abbrev Env := List (Nat × AV)

def eget : Env → Nat → AV
  | [], _ => .dead
  | (k, v) :: r, n => if k = n then v else eget r n

structure St where
  env : Env
  h : Heap

/-- The context of the relation: which cells are never written any more; which block an object lies in (none: in none yet), with its stamp and the size of its elements; the next stamp. -/
structure Ctx where
  ok : Nat → Nat → Prop
  μ : Nat → Option (Option Nat × Nat × Nat)
  clk : Nat

mutual
def vrel (C : Ctx) (w : World) : AV → Value → Prop
  | .dead, _ => True
  | .bool b, v => v = .bool b
  | .int k n, v => v = .int k n
  | .str s, v => v = .string ⟨s.toArray⟩
  | .nilp, v => v = .pointer none
  | .ptr l s i off, v => s < C.clk ∧ (∃ a, v = .pointer (some a)) ∧ ∀ b z, C.μ l = some (some b, s, z) → v = .pointer (some ⟨b, i * z + off, none⟩)
  | .pptr cs off, v => ∃ b o, v = .pointer (some ⟨b, o + off, none⟩) ∧ vmem C w cs b o
  | .sl l s i n, v => s < C.clk ∧ (∃ a m c, v = .slice a m c) ∧ ∀ ob z, C.μ l = some (ob, s, z) → match ob with
      | none => v = .slice none 0 0 ∧ i = 0 ∧ n = 0
      | some b => ∃ cap, v = .slice (some ⟨b, i * z, none⟩) n cap ∧ n ≤ cap ∧ ∃ (arr : Array Value) (t : TypeId) (fz : Nat × Nat), w.heap[b]? = some (Obj.cells arr t fz) ∧ (i + cap) * z ≤ arr.size
  | .psl es, v => ∃ a cap, v = .slice a es.length cap ∧ es.length ≤ cap ∧ (es = [] ∨ ∃ b o z, a = some ⟨b, o, none⟩ ∧ ves C w z es b o)
  | .vn, v => v = .slice none 0 0
  | .fn f first caps, v => ∃ xs ys, v = .func (.func f) xs ys ∧ vrels C w first xs.toList ∧ vrels C w caps ys.toList
  | .nilfn, v => v = .nilFunc
  | .nilif, v => v = .nilIface
  | .iface t x, v => ∃ y, v = .iface t y ∧ vrel C w x y
  | .agg cs, v => ∃ xs, v = .agg xs ∧ vrels C w cs xs.toList
  | .tup cs, v => ∃ xs, v = .tuple xs ∧ vrels C w cs xs.toList
  | .mp l s, v => s < C.clk ∧ (∃ r, v = .map r) ∧ ∀ b z, C.μ l = some (some b, s, z) → v = .map (some b)
  | .nilmp, v => v = .map none
  | .it l s, v => s < C.clk ∧ (∃ a, v = .pointer (some a)) ∧ ∀ b z, C.μ l = some (some b, s, z) → v = .pointer (some ⟨b, 0, none⟩)
  | .cond c x, v => (c = true → vrel C w x v) ∧ (c = false → v = undef)
def vrels (C : Ctx) (w : World) : List AV → List Value → Prop
  | [], vs => vs = []
  | x :: xs, vs => ∃ y ys, vs = y :: ys ∧ vrel C w x y ∧ vrels C w xs ys
def vmem (C : Ctx) (w : World) : List AV → Nat → Nat → Prop
  | [], _, _ => True
  | x :: xs, b, o => C.ok b o ∧ (∃ y, w.cell? ⟨b, o, none⟩ = some y ∧ vrel C w x y) ∧ vmem C w xs b (o + 1)
def ves (C : Ctx) (w : World) (z : Nat) : List (List AV) → Nat → Nat → Prop
  | [], _, _ => True
  | e :: es, b, o => e.length = z ∧ vmem C w e b o ∧ ves C w z es b (o + z)
end

def orel (C : Ctx) (w : World) (l : Nat) : AObj → Prop
  | .gone => C.μ l = none
  | .arr s imm z es => s < C.clk ∧ ∃ ob, C.μ l = some (ob, s, z) ∧ match ob with
      | none => es = []
      | some b => ∃ (arr : Array Value) (t : TypeId), w.heap[b]? = some (Obj.cells arr t) ∧ es.length * z ≤ arr.size ∧ (∀ j, imm * z ≤ j → ¬ C.ok b j) ∧
          ∀ (i : Nat) (e : List AV), es[i]? = some e → e.length = z ∧ ∀ (j : Nat) (v : AV), e[j]? = some v → ∃ y : Value, arr[i * z + j]? = some y ∧ y.oneCell' = true ∧ vrel C w v y
  | .mp s es => s < C.clk ∧ ∃ b, C.μ l = some (some b, s, 0) ∧ ∃ (xs : Array MapEntry) (clock : Nat), w.heap[b]? = some (Obj.map xs clock) ∧ xs.toList.length = es.length ∧
      ∀ (i : Nat) (e : AV × AV) (x : MapEntry), es[i]? = some e → xs[i]? = some x → vrel C w e.1 x.key ∧ vrel C w e.2 x.val
  | .sit s str pos => s < C.clk ∧ ∃ b, C.μ l = some (some b, s, 0) ∧ w.heap[b]? = some (.stringIter ⟨str.toArray⟩ pos)
  | .mit s left => False

structure HRel (C : Ctx) (w : World) (h : Heap) : Prop where
  obj : ∀ l o, h[l]? = some o → orel C w l o
  inj : ∀ l l' b s z s' z', C.μ l = some (some b, s, z) → C.μ l' = some (some b, s', z') → l = l'
  none : ∀ l, h.length ≤ l → C.μ l = Option.none
  okb : ∀ b j, C.ok b j → b < w.heap.size
  blk : ∀ l b s z, C.μ l = some (some b, s, z) → b < w.heap.size
  tb : ∀ x ∈ TB, C.ok x.1 x.2.1 ∧ w.cell? ⟨x.1, x.2.1, Option.none⟩ = some x.2.2

structure Step (C : Ctx) (w : World) (C' : Ctx) (w' : World) : Prop where
  os : w'.os = w.os
  tape : w'.tape = w.tape
  output : w'.output = w.output
  size : w.heap.size ≤ w'.heap.size
  clk : C.clk ≤ C'.clk
  ok : ∀ b j, C.ok b j → C'.ok b j
  cell : ∀ b j, C.ok b j → w'.cell? ⟨b, j, none⟩ = w.cell? ⟨b, j, none⟩
  old : ∀ l ob s z, C'.μ l = some (ob, s, z) → s < C.clk → C.μ l = some (ob, s, z)
  kind : ∀ (b : Nat) (arr : Array Value) (t : TypeId) (fz : Nat × Nat), w.heap[b]? = some (Obj.cells arr t fz) → ∃ (arr' : Array Value) (t' : TypeId) (fz' : Nat × Nat), w'.heap[b]? = some (Obj.cells arr' t' fz') ∧ arr'.size = arr.size
  out : ∀ b, b < w.heap.size → (∀ l s z, C.μ l ≠ some (some b, s, z)) → w'.heap[b]? = w.heap[b]?
  own : ∀ l b s z, C'.μ l = some (some b, s, z) → b < w.heap.size → ∃ l' s' z', C.μ l' = some (some b, s', z')
  okn : ∀ b j, C'.ok b j → b < w.heap.size → C.ok b j ∨ ∃ l s z, C.μ l = some (some b, s, z)

/-- As much of it as a value needs to stay related. -/
structure Mono (C : Ctx) (w : World) (C' : Ctx) (w' : World) : Prop where
  clk : C.clk ≤ C'.clk
  ok : ∀ b j, C.ok b j → C'.ok b j
  cell : ∀ b j, C.ok b j → w'.cell? ⟨b, j, none⟩ = w.cell? ⟨b, j, none⟩
  old : ∀ l ob s z, C'.μ l = some (ob, s, z) → s < C.clk → C.μ l = some (ob, s, z)
  kind : ∀ (b : Nat) (arr : Array Value) (t : TypeId) (fz : Nat × Nat), w.heap[b]? = some (Obj.cells arr t fz) → ∃ (arr' : Array Value) (t' : TypeId) (fz' : Nat × Nat), w'.heap[b]? = some (Obj.cells arr' t' fz') ∧ arr'.size = arr.size

theorem Step.toM {C C' : Ctx} {w w' : World} (st : Step C w C' w') : Mono C w C' w' := ⟨st.clk, st.ok, st.cell, st.old, st.kind⟩

/-- The tables stay as they are. -/
theorem HRel.tbS {C C' : Ctx} {w w' : World} {h : Heap} (H : HRel C w h) (S : Step C w C' w') : ∀ x ∈ TB, C'.ok x.1 x.2.1 ∧ w'.cell? ⟨x.1, x.2.1, Option.none⟩ = some x.2.2 :=
  fun x hx => ⟨S.ok _ _ (H.tb x hx).1, (S.cell _ _ (H.tb x hx).1).trans (H.tb x hx).2⟩

theorem Step.refl (C : Ctx) (w : World) : Step C w C w :=
  ⟨rfl, rfl, rfl, Nat.le_refl _, Nat.le_refl _, fun _ _ h => h, fun _ _ _ => rfl, fun _ _ _ _ h _ => h, fun _ arr t fz h => ⟨arr, t, fz, h, rfl⟩, fun _ _ _ => rfl, fun l b s z h _ => ⟨l, s, z, h⟩, fun _ _ h _ => .inl h⟩

theorem Step.trans {C C1 C2 : Ctx} {w w1 w2 : World} (h : Step C w C1 w1) (k : Step C1 w1 C2 w2) : Step C w C2 w2 where
  os := k.os.trans h.os
  tape := k.tape.trans h.tape
  output := k.output.trans h.output
  size := Nat.le_trans h.size k.size
  clk := Nat.le_trans h.clk k.clk
  ok b j hb := k.ok b j (h.ok b j hb)
  cell b j hb := (k.cell b j (h.ok b j hb)).trans (h.cell b j hb)
  old l ob s z hl hs := h.old l ob s z (k.old l ob s z hl (Nat.lt_of_lt_of_le hs h.clk)) hs
  kind b arr t fz hb := by
    obtain ⟨a1, t1, f1, h1, e1⟩ := h.kind b arr t fz hb
    obtain ⟨a2, t2, f2, h2, e2⟩ := k.kind b a1 t1 f1 h1
    exact ⟨a2, t2, f2, h2, e2.trans e1⟩
  out b hb hn := by
    refine (k.out b (Nat.lt_of_lt_of_le hb h.size) fun l s z hl => ?_).trans (h.out b hb hn)
    obtain ⟨l', s', z', h'⟩ := h.own l b s z hl hb
    exact hn l' s' z' h'
  own l b s z hl hb := by
    obtain ⟨l', s', z', h'⟩ := k.own l b s z hl (Nat.lt_of_lt_of_le hb h.size)
    exact h.own l' b s' z' h' hb
  okn b j hk hb := by
    rcases k.okn b j hk (Nat.lt_of_lt_of_le hb h.size) with h1 | ⟨l, s, z, h1⟩
    · exact h.okn b j h1 hb
    · exact .inr (h.own l b s z h1 hb)

section
variable {C C' : Ctx} {w w' : World}

mutual
theorem vrel.monoM (st : Mono C w C' w') : ∀ (v : AV) (y : Value), vrel C w v y → vrel C' w' v y
  | .dead, _, _ => by simp [vrel]
  | .bool b, _, h => by simpa [vrel] using h
  | .int k n, _, h => by simpa [vrel] using h
  | .str s, _, h => by simpa [vrel] using h
  | .nilp, _, h => by simpa [vrel] using h
  | .ptr l s i off, y, h => by
    simp only [vrel] at h ⊢
    exact ⟨Nat.lt_of_lt_of_le h.1 st.clk, h.2.1, fun b z hm => h.2.2 b z (st.old _ _ _ _ hm h.1)⟩
  | .pptr cs off, y, h => by
    simp only [vrel] at h ⊢
    obtain ⟨b, o, h1, h2⟩ := h
    exact ⟨b, o, h1, vmem.monoM st cs b o h2⟩
  | .sl l s i n, y, h => by
    simp only [vrel] at h ⊢
    refine ⟨Nat.lt_of_lt_of_le h.1 st.clk, h.2.1, fun ob z hm => ?_⟩
    have h2 := h.2.2 ob z (st.old _ _ _ _ hm h.1)
    cases ob with
    | none => exact h2
    | some b =>
      obtain ⟨cap, e1, e2, arr, t, fz, e3, e4⟩ := h2
      obtain ⟨arr', t', fz', e5, e6⟩ := st.kind b arr t fz e3
      exact ⟨cap, e1, e2, arr', t', fz', e5, by omega⟩
  | .psl es, y, h => by
    simp only [vrel] at h ⊢
    obtain ⟨a, cap, e1, e2, e3⟩ := h
    refine ⟨a, cap, e1, e2, e3.imp id ?_⟩
    rintro ⟨b, o, z, e4, e5⟩
    exact ⟨b, o, z, e4, ves.monoM st z es b o e5⟩
  | .fn f first caps, y, h => by
    simp only [vrel] at h ⊢
    obtain ⟨xs, ys, e1, e2, e3⟩ := h
    exact ⟨xs, ys, e1, vrels.monoM st first _ e2, vrels.monoM st caps _ e3⟩
  | .nilfn, _, h => by simpa [vrel] using h
  | .vn, _, h => by simpa [vrel] using h
  | .nilif, _, h => by simpa [vrel] using h
  | .iface t x, y, h => by
    simp only [vrel] at h ⊢
    obtain ⟨z, e1, e2⟩ := h
    exact ⟨z, e1, vrel.monoM st x z e2⟩
  | .agg cs, y, h => by
    simp only [vrel] at h ⊢
    obtain ⟨xs, e1, e2⟩ := h
    exact ⟨xs, e1, vrels.monoM st cs _ e2⟩
  | .tup cs, y, h => by
    simp only [vrel] at h ⊢
    obtain ⟨xs, e1, e2⟩ := h
    exact ⟨xs, e1, vrels.monoM st cs _ e2⟩
  | .mp l s, y, h => by
    simp only [vrel] at h ⊢
    exact ⟨Nat.lt_of_lt_of_le h.1 st.clk, h.2.1, fun b z hm => h.2.2 b z (st.old _ _ _ _ hm h.1)⟩
  | .nilmp, _, h => by simpa [vrel] using h
  | .it l s, y, h => by
    simp only [vrel] at h ⊢
    exact ⟨Nat.lt_of_lt_of_le h.1 st.clk, h.2.1, fun b z hm => h.2.2 b z (st.old _ _ _ _ hm h.1)⟩
  | .cond c x, y, h => by
    simp only [vrel] at h ⊢
    exact ⟨fun hc => vrel.monoM st x y (h.1 hc), h.2⟩
theorem vrels.monoM (st : Mono C w C' w') : ∀ (vs : List AV) (ys : List Value), vrels C w vs ys → vrels C' w' vs ys
  | [], _, h => by simpa [vrels] using h
  | x :: xs, ys, h => by
    simp only [vrels] at h ⊢
    obtain ⟨y, zs, e1, e2, e3⟩ := h
    exact ⟨y, zs, e1, vrel.monoM st x y e2, vrels.monoM st xs zs e3⟩
theorem vmem.monoM (st : Mono C w C' w') : ∀ (vs : List AV) (b o : Nat), vmem C w vs b o → vmem C' w' vs b o
  | [], _, _, _ => by simp [vmem]
  | x :: xs, b, o, h => by
    simp only [vmem] at h ⊢
    obtain ⟨e1, ⟨y, e2, e3⟩, e4⟩ := h
    exact ⟨st.ok b o e1, ⟨y, (st.cell b o e1).trans e2, vrel.monoM st x y e3⟩, vmem.monoM st xs b (o + 1) e4⟩
theorem ves.monoM (st : Mono C w C' w') (z : Nat) : ∀ (es : List (List AV)) (b o : Nat), ves C w z es b o → ves C' w' z es b o
  | [], _, _, _ => by simp [ves]
  | e :: es, b, o, h => by
    simp only [ves] at h ⊢
    exact ⟨h.1, vmem.monoM st e b o h.2.1, ves.monoM st z es b (o + z) h.2.2⟩
end

theorem vrel.mono (st : Step C w C' w') (v : AV) (y : Value) (h : vrel C w v y) : vrel C' w' v y := vrel.monoM st.toM v y h
theorem vrels.mono (st : Step C w C' w') (vs : List AV) (ys : List Value) (h : vrels C w vs ys) : vrels C' w' vs ys := vrels.monoM st.toM vs ys h
theorem vmem.mono (st : Step C w C' w') (vs : List AV) (b o : Nat) (h : vmem C w vs b o) : vmem C' w' vs b o := vmem.monoM st.toM vs b o h
theorem ves.mono (st : Step C w C' w') (z : Nat) (es : List (List AV)) (b o : Nat) (h : ves C w z es b o) : ves C' w' z es b o := ves.monoM st.toM z es b o h

theorem vrels.length : ∀ {vs : List AV} {ys : List Value}, vrels C w vs ys → ys.length = vs.length
  | [], _, h => by simp [vrels] at h; simp [h]
  | x :: xs, ys, h => by
    simp only [vrels] at h
    obtain ⟨y, zs, rfl, _, e3⟩ := h
    simp [e3.length]

theorem vrels.get : ∀ {vs : List AV} {ys : List Value}, vrels C w vs ys → ∀ {i : Nat} {v : AV}, vs[i]? = some v → ∃ y, ys[i]? = some y ∧ vrel C w v y
  | [], _, _, i, v, hi => by simp at hi
  | x :: xs, ys, h, i, v, hi => by
    simp only [vrels] at h
    obtain ⟨y, zs, rfl, e2, e3⟩ := h
    cases i with
    | zero => simp at hi; subst hi; exact ⟨y, rfl, e2⟩
    | succ i => simp at hi ⊢; exact e3.get hi

theorem vrels.of_get : ∀ {vs : List AV} {ys : List Value}, ys.length = vs.length → (∀ (i : Nat) (v : AV) (y : Value), vs[i]? = some v → ys[i]? = some y → vrel C w v y) → vrels C w vs ys
  | [], ys, hl, _ => by simp at hl; simp [vrels, hl]
  | x :: xs, [], hl, _ => by simp at hl
  | x :: xs, y :: ys, hl, h => by
    simp only [vrels]
    refine ⟨y, ys, rfl, h 0 x y rfl rfl, vrels.of_get (by simpa using hl) fun i v y' h1 h2 => h (i + 1) v y' (by simpa using h1) (by simpa using h2)⟩

theorem vmem.get : ∀ {vs : List AV} {b o : Nat}, vmem C w vs b o → ∀ {i : Nat} {v : AV}, vs[i]? = some v → C.ok b (o + i) ∧ ∃ y, w.cell? ⟨b, o + i, none⟩ = some y ∧ vrel C w v y
  | [], _, _, _, i, v, hi => by simp at hi
  | x :: xs, b, o, h, i, v, hi => by
    simp only [vmem] at h
    cases i with
    | zero => simp at hi; subst hi; exact ⟨h.1, h.2.1⟩
    | succ i =>
      simp at hi
      have := h.2.2.get hi
      rwa [show o + 1 + i = o + (i + 1) by omega] at this

theorem vmem.of_get : ∀ {vs : List AV} {b o : Nat}, (∀ (i : Nat) (v : AV), vs[i]? = some v → C.ok b (o + i) ∧ ∃ y, w.cell? ⟨b, o + i, none⟩ = some y ∧ vrel C w v y) → vmem C w vs b o
  | [], _, _, _ => by simp [vmem]
  | x :: xs, b, o, h => by
    simp only [vmem]
    have h0 := h 0 x rfl
    refine ⟨h0.1, h0.2, vmem.of_get fun i v hi => ?_⟩
    have := h (i + 1) v (by simpa using hi)
    rwa [show o + (i + 1) = o + 1 + i by omega] at this

theorem ves.get {z : Nat} : ∀ {es : List (List AV)} {b o : Nat}, ves C w z es b o → ∀ {i : Nat} {e : List AV}, es[i]? = some e → e.length = z ∧ vmem C w e b (o + i * z)
  | [], _, _, _, i, e, hi => by simp at hi
  | x :: xs, b, o, h, i, e, hi => by
    simp only [ves] at h
    cases i with
    | zero => simp at hi; subst hi; simp; exact ⟨h.1, h.2.1⟩
    | succ i =>
      simp at hi
      have := h.2.2.get hi
      rwa [show o + z + i * z = o + (i + 1) * z by rw [Nat.add_mul]; omega] at this

theorem ves.of_get {z : Nat} : ∀ {es : List (List AV)} {b o : Nat}, (∀ (i : Nat) (e : List AV), es[i]? = some e → e.length = z ∧ vmem C w e b (o + i * z)) → ves C w z es b o
  | [], _, _, _ => by simp [ves]
  | x :: xs, b, o, h => by
    simp only [ves]
    have h0 := h 0 x rfl
    simp at h0
    refine ⟨h0.1, h0.2, ves.of_get fun i e hi => ?_⟩
    have := h (i + 1) e (by simpa using hi)
    rwa [show o + (i + 1) * z = o + z + i * z by rw [Nat.add_mul]; omega] at this

end
end Go.Ab

/- The layer Ab, part 2: code with its sizes resolved, its values, and the predicate transformer over abstract states. Definitions alone. -/
namespace Go.Ab

/-- 'bind', into whose continuation simp does not look. -/
def _root_.Option.ob {α β : Type} (x : Option α) (f : α → Option β) : Option β := match x with
  | some a => f a
  | none => none
@[congr] theorem ob_congr {α β : Type} {x y : Option α} {f : α → Option β} (h : x = y) : x.ob f = y.ob f := by subst h; rfl
@[go_sem] theorem ob_some {α β : Type} (a : α) (f : α → Option β) : (some a).ob f = f a := rfl
@[go_sem] theorem ob_none {α β : Type} (f : α → Option β) : (none : Option α).ob f = none := rfl
/-- What is asked of a value that there must be. -/
def _root_.Option.oK {α : Type} (x : Option α) (f : α → Prop) : Prop := match x with
  | some a => f a
  | none => False
@[congr] theorem oK_congr {α : Type} {x y : Option α} {f : α → Prop} (h : x = y) : x.oK f = y.oK f := by subst h; rfl
@[go_sem] theorem oK_some {α : Type} (a : α) (f : α → Prop) : (some a).oK f = f a := rfl
@[go_sem] theorem oK_none {α : Type} (f : α → Prop) : (none : Option α).oK f = False := rfl

inductive Opd where
  | s (t : Nat)
  | c (v : AV)

/-- How two values of a type are held against each other. -/
inductive EqK where
  | bool | ptr | iface | fn | map
  | agg (ks : List Nat)

/-- Operations that leave memory as it is. -/
inductive POp where
  | mv (x : Opd)
  | pick (c a b : Opd)
  | ld (a : Opd)
  | ldn (n : Nat) (a : Opd)
  | nilc (x : Opd)
  | bin (op : BinOp) (x y : Opd)
  | eqk (neg : Bool) (k : EqK) (x y : Opd)
  | un (op : UnOp) (x : Opd)
  | cvt (k : IntKind) (x : Opd)
  | mkif (t : TypeId) (x : Opd)
  | mkfn (f : FuncId) (first caps : List Opd)
  | foff (n : Nat) (x : Opd)
  | fld (off : Nat) (x : Opd)
  | fldn (off n : Nat) (x : Opd)
  | iadr (z : Nat) (x i : Opd)
  | iarr (len z : Nat) (x i : Opd)
  | idxs (x i : Opd)
  | slcs (x : Opd) (lo hi mx : Option Opd)
  | slcl (z : Nat) (x : Opd) (lo hi mx : Option Opd)
  | lens (x : Opd)
  | lenl (x : Opd)
  | lenm (x : Opd)
  | ext (x : Opd) (i : Nat)
  | build (zero : List AV) (parts : List (Nat × Nat × Opd))
  | b2s (x : Opd)
  | mmax (x y : Opd)
  | mmin (x y : Opd)
  | look (kk : Nat) (ok : Bool) (zero : AV) (x i : Opd)

/-- Operations that may change memory. -/
inductive EOp where
  | alloc (z : List AV)
  | box (n : Nat) (x : Opd)
  | bsl (z len : Nat) (zero : List AV) (parts : List (Nat × Nat × Opd))
  | st (a x : Opd)
  | stn (n : Nat) (a x : Opd)
  | call (f : FuncId) (args : List Opd) (frz : Bool)
  | callv (x : Opd) (args : List Opd) (frz : Bool)
  | app (z by_ : Nat) (s x : Opd)
  | vnil (z : Nat)
  | mkmap
  | mapup (kk : Nat) (m k v : Opd)
  | panic (x : Opd)
  | rstr (x : Opd)
  | nstr (x : Opd)
  | isnil (neg : Bool) (x : Opd)
  | clear (z : Nat) (x : Opd)
  | allocv (own : List (Nat × Nat)) (z : List AV)
  | boxv (n : Nat) (own : List (Nat × Nat)) (x : Opd)
  | stnv (n : Nat) (own : List (Nat × Nat)) (a x : Opd)
  | bslz (z len : Nat) (zero : List AV) (parts : List (Nat × Nat × Opd))

/-- An operation; or (s) that one which came ahead would yield what it did once more. -/
inductive COp where
  | p (o : POp)
  | e (o : EOp)
  | s (o : POp)
  | b (z len : Nat) (zero : List AV) (parts : List (Nat × Nat × Opd))

structure COper where
  d : Option Nat
  o : COp
  g : Option (Nat × Bool)

inductive LCode where
  | skip
  | reg (ops : List COper) (keep : List Nat)
  | regD (ops : List COper) (ord : List Nat) (keep : List Nat)
  | seq (a b : LCode)
  | cond (c : Opd) (a b : LCode)
  | block (id : Nat) (c : LCode)
  | loop (c : LCode) (live : List Nat)
  | exit (id : Nat)
  | ret

inductive LRes where
  | t (t : Nat)
  | c (t : Nat)
  | cn (t n : Nat)

structure LFunc where
  n : Nat
  res : List LRes
  code : LCode

/-! ### Values -/

def impB (g c : Bool) : Bool := !g || c

@[go_sem] theorem impB_self (g : Bool) : impB g g = true := by cases g <;> rfl
@[go_sem] theorem impB_true (g : Bool) : impB g true = true := by cases g <;> rfl
@[go_sem] theorem impB_of_true (c : Bool) : impB true c = c := by cases c <;> rfl
@[go_sem] theorem impB_of_false (c : Bool) : impB false c = true := by cases c <;> rfl
@[go_sem] theorem impB_and_left (a b : Bool) : impB (a && b) a = true := by cases a <;> cases b <;> rfl
@[go_sem] theorem impB_and_right (a b : Bool) : impB (a && b) b = true := by cases a <;> cases b <;> rfl

/-- A value, where 'g' holds. -/
def AV.under (g : Bool) : AV → Option AV
  | .cond c v => if impB g c = true then some v else none
  | .dead => none
  | v => some v

def Opd.val (env : Env) : Opd → AV
  | .s t => eget env t
  | .c v => v

def Opd.ev (env : Env) (g : Bool) (x : Opd) : Option AV := (x.val env).under g

def evs (env : Env) (g : Bool) : List Opd → Option (List AV)
  | [] => some []
  | x :: xs => (x.ev env g).ob fun v => (evs env g xs).ob fun vs => some (v :: vs)

def evo (env : Env) (g : Bool) : Option Opd → Option (Option AV)
  | none => some none
  | some x => (x.ev env g).ob fun v => some (some v)

def selV (p : Bool) : AV → AV → Option AV
  | .bool a, .bool b => some (.bool (bif p then a else b))
  | .int k a, .int k' b => if k = k' then some (.int k (bif p then a else b)) else none
  | .str a, .str b => some (.str (bif p then a else b))
  | x, y => bif p then some x else some y

def AObj.row (s i : Nat) : AObj → Option (List AV)
  | .arr s' _ _ es => if s = s' then es[i]? else none
  | _ => none

def Heap.row (h : Heap) (l s i : Nat) : Option (List AV) := (h[l]?).ob fun o => o.row s i

def AObj.rows (s : Nat) : AObj → Option (List (List AV))
  | .arr s' _ _ es => if s = s' then some es else none
  | _ => none

def AObj.z : AObj → Option Nat
  | .arr _ _ z _ => some z
  | _ => none
def Heap.zOf (h : Heap) (l : Nat) : Option Nat := (h[l]?).ob fun o => o.z

def Heap.rows (h : Heap) (l s : Nat) : Option (List (List AV)) := (h[l]?).ob fun o => o.rows s

def asAgg : AV → Option (List AV)
  | .agg cs => some cs
  | _ => none
def asFn : AV → Option (FuncId × List AV × List AV)
  | .fn f a b => some (f, a, b)
  | _ => none
def asSl : AV → Option (Nat × Nat × Nat × Nat)
  | .sl l s i n => some (l, s, i, n)
  | _ => none
def asArr : AObj → Option (Nat × Nat × Nat × List (List AV))
  | .arr s imm z es => some (s, imm, z, es)
  | _ => none
def asMp : AV → Option (Nat × Nat)
  | .mp l s => some (l, s)
  | _ => none
def asMpO : AObj → Option (Nat × List (AV × AV))
  | .mp s es => some (s, es)
  | _ => none
def asIf : AV → Option (TypeId × AV)
  | .iface t v => some (t, v)
  | _ => none
def asStr : AV → Option Str
  | .str s => some s
  | _ => none
def asIt : AV → Option (Nat × Nat)
  | .it l s => some (l, s)
  | _ => none
def asSit : AObj → Option (Nat × Str × Nat)
  | .sit s str pos => some (s, str, pos)
  | _ => none
def asBool : AV → Option Bool
  | .bool b => some b
  | _ => none


def loadV (h : Heap) : AV → Option AV
  | .ptr l s i off => (h.row l s i).ob fun cs => cs[off]?
  | .pptr cs off => cs[off]?
  | _ => none

def cutL {α : Type} (off n : Nat) (cs : List α) : Option (List α) := if off + n ≤ cs.length then some ((cs.drop off).take n) else none

def loadN (n : Nat) (h : Heap) : AV → Option AV
  | .ptr l s i off => (h.row l s i).ob fun cs => (cutL off n cs).ob fun r => some (.agg r)
  | .pptr cs off => (cutL off n cs).ob fun r => some (.agg r)
  | _ => none

def nilcV : AV → Option AV
  | .ptr l s i off => some (.ptr l s i off)
  | .pptr cs off => some (.pptr cs off)
  | .fn f a b => some (.fn f a b)
  | .iface t v => some (.iface t v)
  | _ => none

def binInt (op : BinOp) (k : IntKind) (a b : Int) : Option AV :=
  match op with
  | .add => some (.int k (k.wrap (a + b)))
  | .sub => some (.int k (k.wrap (a - b)))
  | .mul => some (.int k (k.wrap (a * b)))
  | .quo => if b = 0 then none else some (.int k (k.wrap (a.tdiv b)))
  | .rem => if b = 0 then none else some (.int k (a.tmod b))
  | .and => some (.int k (k.wrap (BitVec.ofInt k.bits a &&& BitVec.ofInt k.bits b).toNat))
  | .or => some (.int k (k.wrap (BitVec.ofInt k.bits a ||| BitVec.ofInt k.bits b).toNat))
  | .xor => some (.int k (k.wrap (BitVec.ofInt k.bits a ^^^ BitVec.ofInt k.bits b).toNat))
  | .andNot => some (.int k (k.wrap (BitVec.ofInt k.bits a &&& ~~~BitVec.ofInt k.bits b).toNat))
  | .eql => some (.bool (a == b))
  | .neq => some (.bool (a != b))
  | .lss => some (.bool (decide (a < b)))
  | .leq => some (.bool (decide (a ≤ b)))
  | .gtr => some (.bool (decide (a > b)))
  | .geq => some (.bool (decide (a ≥ b)))
  | _ => none

def binStr (op : BinOp) (a b : Str) : Option AV :=
  match op with
  | .eql => some (.bool (a == b))
  | .neq => some (.bool (!(a == b)))
  | .lss => some (.bool (Op.bytesLess a b))
  | .leq => some (.bool (Op.bytesLess a b || a == b))
  | .gtr => some (.bool (!(Op.bytesLess a b || a == b)))
  | .geq => some (.bool (!(Op.bytesLess a b)))
  | _ => none

def shV (op : BinOp) (k : IntKind) (a b : Int) : Option AV :=
  if b < 0 then none else
  match op with
  | .shl => some (.int k (k.wrap (a * 2 ^ (min b.toNat k.bits))))
  | .shr => some (.int k (a.fdiv (2 ^ (min b.toNat k.bits))))
  | _ => none

def binV (op : BinOp) : AV → AV → Option AV
  | .int k a, .int k' b =>
    match op with
    | .shl | .shr => shV op k a b
    | _ => if k = k' then binInt op k a b else none
  | .str a, .str b => binStr op a b
  | _, _ => none

/-- Cells held against each other; their kinds: 0 an integer, 1 a string, 2 a bool. -/
def eqCells : List Nat → List AV → List AV → Option Bool
  | [], [], [] => some true
  | 0 :: ks, .int k a :: xs, .int k' b :: ys => if k = k' then (eqCells ks xs ys).ob fun r => some ((a == b) && r) else none
  | 1 :: ks, .str a :: xs, .str b :: ys => (eqCells ks xs ys).ob fun r => some ((a == b) && r)
  | 2 :: ks, .bool a :: xs, .bool b :: ys => (eqCells ks xs ys).ob fun r => some ((a == b) && r)
  | _, _, _ => none

def eqkV (k : EqK) (x y : AV) : Option Bool :=
  match k, x, y with
  | .bool, .bool a, .bool b => some (a == b)
  | .agg ks, .agg a, .agg b => eqCells ks a b
  | .ptr, .nilp, .nilp => some true
  | .ptr, .ptr .., .nilp => some false
  | .ptr, .nilp, .ptr .. => some false
  | .iface, .nilif, .iface .. => some false
  | .iface, .iface .., .nilif => some false
  | .fn, .fn .., .nilfn => some false
  | .fn, .nilfn, .nilfn => some true
  | .map, .nilmp, .nilmp => some true
  | _, _, _ => none

def unV (op : UnOp) : AV → Option AV
  | .bool b => match op with | .not => some (.bool (!b)) | _ => none
  | .int k n => match op with
    | .neg => some (.int k (k.wrap (0 - n)))
    | .xor => some (.int k (k.wrap (BitVec.ofInt k.bits (if k.signed then -1 else k.max) ^^^ BitVec.ofInt k.bits n).toNat))
    | _ => none
  | _ => none

def cvtV (k : IntKind) : AV → Option AV
  | .int _ n => some (.int k (k.wrap n))
  | _ => none

def foffV (n : Nat) : AV → Option AV
  | .ptr l s i off => some (.ptr l s i (off + n))
  | .pptr cs off => some (.pptr cs (off + n))
  | _ => none

def fldV (off : Nat) : AV → Option AV
  | .agg cs => cs[off]?
  | _ => none

def fldnV (off n : Nat) : AV → Option AV
  | .agg cs => (cutL off n cs).ob fun r => some (.agg r)
  | _ => none

def iadrV (h : Heap) (z : Nat) : AV → AV → Option AV
  | .psl es, .int _ i => if 0 ≤ i then (es[i.toNat]?).ob fun e => if e.length = z then some (.pptr e 0) else none else none
  | .sl l s j n, .int _ i => if 0 ≤ i ∧ i < n then (h.row l s (j + i.toNat)).ob fun e => if e.length = z then some (.ptr l s (j + i.toNat) 0) else none else none
  | _, _ => none

def iarrV (len z : Nat) : AV → AV → Option AV
  | .ptr l s j off, .int _ i => if 0 ≤ i ∧ i < len then some (.ptr l s j (off + i.toNat * z)) else none
  | .pptr cs off, .int _ i => if 0 ≤ i ∧ i < len then some (.pptr cs (off + i.toNat * z)) else none
  | _, _ => none

def idxsV : AV → AV → Option AV
  | .str s, .int _ i => if 0 ≤ i then (s[i.toNat]?).ob fun b => some (.int .u8 b.toNat) else none
  | _, _ => none

def bnd (d : Nat) : Option AV → Option Nat
  | none => some d
  | some (.int _ i) => if 0 ≤ i then some i.toNat else none
  | _ => none

def slcsV (lo hi mx : Option AV) : AV → Option AV
  | .str s => if mx.isSome then none else (bnd 0 lo).ob fun l => (bnd s.length hi).ob fun h => if l ≤ h ∧ h ≤ s.length then some (.str ((s.take h).drop l)) else none
  | _ => none

def slclV (H : Heap) (z : Nat) (lo hi mx : Option AV) : AV → Option AV
  | .psl es => (bnd 0 lo).ob fun l => (bnd es.length hi).ob fun h => (bnd es.length mx).ob fun m => if l ≤ h ∧ h ≤ m ∧ m ≤ es.length ∧ es.all (fun e => decide (e.length = z)) = true then some (.psl ((es.take h).drop l)) else none
  | .sl l s i n => if mx.isSome then none else (H.rows l s).ob fun _ => (H.zOf l).ob fun z' => (bnd 0 lo).ob fun a => (bnd n hi).ob fun h => if a ≤ h ∧ h ≤ n ∧ (a = 0 ∨ a < h ∧ z' = z) then some (.sl l s (i + a) (h - a)) else if a = h ∧ h ≤ n then some (.psl []) else none
  | _ => none

def lensV : AV → Option AV
  | .str s => some (.int .i64 s.length)
  | _ => none

def lenlV (h : Heap) : AV → Option AV
  | .psl es => some (.int .i64 es.length)
  | .vn => some (.int .i64 0)
  | .sl l s _ n => (h.rows l s).ob fun _ => some (.int .i64 n)
  | _ => none

def lenmV (h : Heap) : AV → Option AV
  | .nilmp => some (.int .i64 0)
  | .mp l s => (h[l]?).ob fun o => (asMpO o).ob fun q => if s = q.1 then some (.int .i64 q.2.length) else none
  | _ => none

def extV (i : Nat) : AV → Option AV
  | .tup vs => vs[i]?
  | _ => none

def AV.cells : AV → List AV
  | .agg cs => cs
  | v => [v]

/-- A value that can lie in one cell. -/
def AV.one : AV → Bool
  | .dead | .agg _ | .tup _ | .cond .. => false
  | _ => true

def putL (off : Nat) (vs cs : List AV) : Option (List AV) := if off + vs.length ≤ cs.length then some (cs.take off ++ vs ++ cs.drop (off + vs.length)) else none

def buildV (zero : List AV) : List (Nat × Nat × AV) → Option (List AV)
  | [] => some zero
  | (off, sz, v) :: r => if v.cells.length = sz ∧ v.cells.all AV.one = true then (putL off v.cells zero).ob fun z => buildV z r else none

def byteOf : List AV → Option UInt8
  | [.int .u8 n] => some (UInt8.ofNat n.toNat)
  | _ => none

def bytesOf : List (List AV) → Option Str
  | [] => some []
  | e :: es => (byteOf e).ob fun b => (bytesOf es).ob fun bs => some (b :: bs)

def b2sV (h : Heap) : AV → Option AV
  | .psl es => (bytesOf es).ob fun s => some (.str s)
  | .sl l s i n => (h.rows l s).ob fun es => if i + n ≤ es.length then (bytesOf ((es.drop i).take n)).ob fun s => some (.str s) else none
  | _ => none

/-- Keys held against each other; their kind: 0 an integer, 1 a string, 2 a bool. -/
def keyEq : Nat → AV → AV → Option Bool
  | 0, .int k a, .int k' b => if k = k' then some (a == b) else none
  | 1, .str a, .str b => some (a == b)
  | 2, .bool a, .bool b => some (a == b)
  | _, _, _ => none

def mfind (kk : Nat) (k : AV) : List (AV × AV) → Option (Option AV)
  | [] => some none
  | e :: es => (keyEq kk k e.1).ob fun b => if b = true then some (some e.2) else mfind kk k es

def mput (kk : Nat) (k v : AV) : List (AV × AV) → Option (List (AV × AV))
  | [] => some [(k, v)]
  | e :: es => (keyEq kk k e.1).ob fun b => if b = true then some ((k, v) :: es) else (mput kk k v es).ob fun r => some (e :: r)

def lookV (h : Heap) (kk : Nat) (ok : Bool) (zero : AV) : AV → AV → Option AV
  | .mp l s, k => (h[l]?).ob fun o => (asMpO o).ob fun q => if s = q.1 then (mfind kk k q.2).ob fun r => some (match r with
        | some v => if ok then .tup [v, .bool true] else v
        | none => if ok then .tup [zero, .bool false] else zero) else none
  | _, _ => none

def mmaxV : AV → AV → Option AV
  | .int k x, .int _ y => some (.int k (if y > x then y else x))
  | _, _ => none

def mminV : AV → AV → Option AV
  | .int k x, .int _ y => some (.int k (if y < x then y else x))
  | _, _ => none

def evParts (env : Env) (g : Bool) : List (Nat × Nat × Opd) → Option (List (Nat × Nat × AV))
  | [] => some []
  | (n, m, x) :: xs => (x.ev env g).ob fun v => (evParts env g xs).ob fun vs => some ((n, m, v) :: vs)

def POp.ev (st : St) (g : Bool) : POp → Option AV
  | .mv x => x.ev st.env g
  | .pick c a b => (c.ev st.env g).ob fun cv => (asBool cv).ob fun p => (a.ev st.env (g && p)).ob fun x => (b.ev st.env (g && !p)).ob fun y => selV p x y
  | .ld a => (a.ev st.env g).ob fun v => loadV st.h v
  | .ldn n a => (a.ev st.env g).ob fun v => loadN n st.h v
  | .nilc x => (x.ev st.env g).ob nilcV
  | .bin op x y => (x.ev st.env g).ob fun a => (y.ev st.env g).ob fun b => binV op a b
  | .eqk neg k x y => (x.ev st.env g).ob fun a => (y.ev st.env g).ob fun b => (eqkV k a b).ob fun r => some (.bool (if neg then !r else r))
  | .un op x => (x.ev st.env g).ob fun a => unV op a
  | .cvt k x => (x.ev st.env g).ob fun a => cvtV k a
  | .mkif t x => (x.ev st.env g).ob fun a => some (.iface t a)
  | .mkfn f a b => (evs st.env g a).ob fun x => (evs st.env g b).ob fun y => some (.fn f x y)
  | .foff n x => (x.ev st.env g).ob fun a => foffV n a
  | .fld off x => (x.ev st.env g).ob fun a => fldV off a
  | .fldn off n x => (x.ev st.env g).ob fun a => fldnV off n a
  | .iadr z x i => (x.ev st.env g).ob fun a => (i.ev st.env g).ob fun b => iadrV st.h z a b
  | .iarr m z x i => (x.ev st.env g).ob fun a => (i.ev st.env g).ob fun b => iarrV m z a b
  | .idxs x i => (x.ev st.env g).ob fun a => (i.ev st.env g).ob fun b => idxsV a b
  | .slcs x lo hi mx => (x.ev st.env g).ob fun a => (evo st.env g lo).ob fun l => (evo st.env g hi).ob fun h => (evo st.env g mx).ob fun m => slcsV l h m a
  | .slcl z x lo hi mx => (x.ev st.env g).ob fun a => (evo st.env g lo).ob fun l => (evo st.env g hi).ob fun h => (evo st.env g mx).ob fun m => slclV st.h z l h m a
  | .lens x => (x.ev st.env g).ob lensV
  | .lenl x => (x.ev st.env g).ob fun a => lenlV st.h a
  | .lenm x => (x.ev st.env g).ob fun a => lenmV st.h a
  | .ext x i => (x.ev st.env g).ob fun a => extV i a
  | .build zero parts => (evParts st.env g parts).ob fun ps => (buildV zero ps).ob fun cs => some (.agg cs)
  | .b2s x => (x.ev st.env g).ob fun a => b2sV st.h a
  | .mmax x y => (x.ev st.env g).ob fun a => (y.ev st.env g).ob fun b => mmaxV a b
  | .mmin x y => (x.ev st.env g).ob fun a => (y.ev st.env g).ob fun b => mminV a b
  | .look kk ok zero x i => (x.ev st.env g).ob fun a => (i.ev st.env g).ob fun b => lookV st.h kk ok zero a b

/-! ### Freezing: what is handed on is not written any more -/

def frzO (h : Heap) (l s i n : Nat) : Option AObj → AV × Heap
  | some (.arr s' imm z es) => if s = s' ∧ i + n ≤ es.length then (.psl ((es.drop i).take n), h.set l (.arr s' (max imm (i + n)) z es)) else (.dead, h)
  | _ => (.dead, h)

/-- A slice of one's own, of an object from n0 on, is frozen. -/
def frzP (n0 : Nat) (h : Heap) : AV → AV × Heap
  | .sl l s i n => if n0 ≤ l then frzO h l s i n h[l]? else (.sl l s i n, h)
  | .vn => (.psl [], h)
  | v => (v, h)

def consP (v : AV) (q : List AV × Heap) : List AV × Heap := (v :: q.1, q.2)

def frzCs (n0 : Nat) (h : Heap) : List AV → List AV × Heap
  | [] => ([], h)
  | v :: vs => consP (frzP n0 h v).1 (frzCs n0 (frzP n0 h v).2 vs)

def aggP (q : List AV × Heap) : AV × Heap := (.agg q.1, q.2)
def tupP (q : List AV × Heap) : AV × Heap := (.tup q.1, q.2)

def frz1 (n0 : Nat) (h : Heap) : AV → AV × Heap
  | .agg cs => aggP (frzCs n0 h cs)
  | v => frzP n0 h v

def frzs (n0 : Nat) (h : Heap) : List AV → List AV × Heap
  | [] => ([], h)
  | v :: vs => consP (frz1 n0 h v).1 (frzs n0 (frz1 n0 h v).2 vs)

def frzT (n0 : Nat) (h : Heap) : AV → AV × Heap
  | .tup vs => tupP (frzs n0 h vs)
  | v => frz1 n0 h v

/-! ### The transformer -/

inductive AEnd where
  | ret (v : AV)
  | pan (v : AV)

inductive AExit where
  | normal
  | exit (id : Nat)
  | ret
  | pan (v : AV)

def vtop (P : Program) (C : Ctx) (w : World) : AEnd → Ending → Prop
  | .ret v, e => ∃ y, e = .returned y ∧ vrel C w v y
  | .pan v, e => ∃ y, e = .panicked [{ v := y, recovered := false }] ∧ vrel C w v y

/-- Is there such a function, with a Go body? -/
def goFunc (P : Program) (f : FuncId) : Bool := match P.funcs[f]? with
  | some fn => fn.name != "runtime.NumGoroutine" && fn.body.isSome
  | none => false

/-- WHAT A CALL COMES TO: from whatever world that fits, it ends, and what it leaves fits what R lets. -/
def SpecA (P : Program) (f : FuncId) (args : List AV) (h : Heap) (R : AEnd → Heap → Prop) : Prop :=
  goFunc P f = true ∧ ∀ (C : Ctx) (w : World) (vs : List Value), HRel C w h → vrels C w args vs →
    Calls P f vs.toArray w fun e w' => ∃ C' r h', Step C w C' w' ∧ HRel C' w' h' ∧ vtop P C' w' r e ∧ R r h'

def callK (P : Program) (f : FuncId) (args : List AV) (h : Heap) (K : AEnd → Heap → Prop) : Prop :=
  ∃ R, SpecA P f args h R ∧ ∀ r h', R r h' → K r h'

@[congr] theorem callK_congr {P : Program} {f f' : FuncId} {args args' : List AV} {h h' : Heap} {K : AEnd → Heap → Prop} (e : f = f') (ha : args = args') (hh : h = h') :
    callK P f args h K = callK P f' args' h' K := by subst e; subst ha; subst hh; rfl

def onRet (K : AV → Heap → Prop) (Kp : AV → Heap → Prop) : AEnd → Heap → Prop
  | .ret v, h => K v h
  | .pan v, h => Kp v h

def storeH (h : Heap) (f : List AV → Option (List AV)) : AV → Option Heap
  | .ptr l s i _ => (h[l]?).ob fun o => (asArr o).ob fun q => if s = q.1 ∧ q.2.1 ≤ i then (q.2.2.2[i]?).ob fun r => (f r).ob fun r' => some (h.set l (.arr q.1 q.2.1 q.2.2.1 (q.2.2.2.set i r'))) else none
  | _ => none

def AV.off : AV → Nat
  | .ptr _ _ _ off => off
  | _ => 0

def setL (off : Nat) (v : AV) (cs : List AV) : Option (List AV) := if off < cs.length ∧ v.one = true then some (cs.set off v) else none

/-- What is appended. -/
def srcV (h : Heap) : AV → Option (List (List AV))
  | .psl es => some es
  | .vn => some []
  | .sl l s i n => (h.rows l s).ob fun es => if i + n ≤ es.length then some ((es.drop i).take n) else none
  | .str s => some (s.map fun b => [.int .u8 b.toNat])
  | _ => none

def nilLen (h : Heap) : AV → Option Nat
  | .psl es => some es.length
  | .sl l s _ n => (h.rows l s).ob fun _ => some n
  | _ => none

def fillV (zero : List AV) : Nat → List AV
  | 0 => []
  | n + 1 => zero ++ fillV zero n

def chunk (z : Nat) : Nat → List AV → List (List AV)
  | 0, _ => []
  | n + 1, cs => cs.take z :: chunk z n (cs.drop z)

/-- Slices that are nil are taken for new objects of one's own. -/
def ownK : List (Nat × Nat) → List AV → Heap → (List AV → Heap → Prop) → Prop
  | [], cs, h, K => K cs h
  | (k, z) :: r, cs, h, K => (match cs[k]? with | some .vn => True | _ => False) ∧ ∀ s, ownK r (cs.set k (.sl h.length s 0 0)) (h ++ [.arr s 0 z []]) K

def EOp.wp (P : Program) (st : St) (K Kp : AV → Heap → Prop) : EOp → Prop
  | .alloc z => ∀ s, K (.ptr st.h.length s 0 0) (st.h ++ [.arr s 0 z.length [z]])
  | .box n x => (x.ev st.env true).oK fun v => (v.cells.length = n ∧ v.cells.all AV.one = true) ∧ ∀ s, K (.ptr st.h.length s 0 0) (st.h ++ [.arr s 0 n [v.cells]])
  | .bsl z len zero parts => (evParts st.env true parts).oK fun ps => (buildV (fillV zero len) ps).oK fun cs => (cs.length = len * z ∧ cs.all AV.one = true) ∧ ∀ s, K (.sl st.h.length s 0 len) (st.h ++ [.arr s 0 z (chunk z len cs)])
  | .bslz z len zero parts => (evParts st.env true parts).oK fun ps => (buildV (fillV zero len) ps).oK fun cs => ((frzCs 0 st.h cs).1.length = len * z ∧ (frzCs 0 st.h cs).1.all AV.one = true) ∧ ∀ s, K (.sl (frzCs 0 st.h cs).2.length s 0 len) ((frzCs 0 st.h cs).2 ++ [.arr s 0 z (chunk z len (frzCs 0 st.h cs).1)])
  | .st a x => (a.ev st.env true).oK fun p => (x.ev st.env true).oK fun v => (storeH st.h (setL p.off v) p).oK fun h => K .dead h
  | .stn n a x => (a.ev st.env true).oK fun p => (x.ev st.env true).oK fun v => (asAgg v).oK fun cs => (storeH st.h (fun r => if cs.length = n ∧ cs.all AV.one = true then putL p.off cs r else none) p).oK fun h => K .dead h
  | .call f args frz => (evs st.env true args).oK fun vs => callK P f (if frz then (frzs 0 st.h vs).1 else vs) (if frz then (frzs 0 st.h vs).2 else st.h) (onRet K Kp)
  | .callv x args frz => (x.ev st.env true).oK fun xv => (asFn xv).oK fun fn => (evs st.env true args).oK fun vs =>
      callK P fn.1 (fn.2.1 ++ (if frz then (frzs 0 st.h vs).1 else vs) ++ fn.2.2) (if frz then (frzs 0 st.h vs).2 else st.h) (onRet K Kp)
  | .app z by_ s x => (s.ev st.env true).oK fun sv => (asSl sv).oK fun q => (x.ev st.env true).oK fun xv => (st.h[q.1]?).oK fun o => (asArr o).oK fun r => (srcV (st.h.set q.1 (.arr r.1 r.2.1 r.2.2.1 (r.2.2.2.take q.2.2.2))) xv).oK fun xs =>
      (q.2.1 = r.1 ∧ z = r.2.2.1 ∧ q.2.2.1 = 0 ∧ q.2.2.2 ≤ r.2.2.2.length ∧ r.2.1 ≤ q.2.2.2 ∧ (q.2.2.2 + xs.length) * by_ ≤ 140737488355328 ∧ ∀ e ∈ xs, e.length = z ∧ e.all AV.one = true) ∧
          ∀ s2, K (.sl q.1 s2 0 (q.2.2.2 + xs.length)) (st.h.set q.1 (.arr s2 r.2.1 r.2.2.1 (r.2.2.2.take q.2.2.2 ++ xs)))
  | .vnil z => ∀ s, K (.sl st.h.length s 0 0) (st.h ++ [.arr s 0 z []])
  | .mkmap => ∀ s, K (.mp st.h.length s) (st.h ++ [.mp s []])
  | .mapup kk m k v => (m.ev st.env true).oK fun mv => (asMp mv).oK fun q => (k.ev st.env true).oK fun kv => (v.ev st.env true).oK fun vv => (st.h[q.1]?).oK fun o => (asMpO o).oK fun r =>
      (mput kk kv vv r.2).oK fun es' => (q.2 = r.1 ∧ vv.one = true) ∧ K .dead (st.h.set q.1 (.mp r.1 es'))
  | .panic x => (x.ev st.env true).oK fun v => (asIf v).oK fun q => Kp (.iface q.1 q.2) st.h
  | .rstr x => (x.ev st.env true).oK fun v => (asStr v).oK fun str => ∀ s, K (.it st.h.length s) (st.h ++ [.sit s str 0])
  | .nstr x => (x.ev st.env true).oK fun v => (asIt v).oK fun q => (st.h[q.1]?).oK fun o => (asSit o).oK fun r => q.2 = r.1 ∧
      (r.2.2 < r.2.1.length → K (.tup [.bool true, .int .i64 r.2.2, .int .i32 (Utf8.decode ⟨r.2.1.toArray⟩ r.2.2).1]) (st.h.set q.1 (.sit r.1 r.2.1 (r.2.2 + (Utf8.decode ⟨r.2.1.toArray⟩ r.2.2).2)))) ∧
      (¬ r.2.2 < r.2.1.length → K (.tup [.bool false]) st.h)
  | .isnil neg x => (x.ev st.env true).oK fun v => (nilLen st.h v).oK fun n => ∀ b : Bool, (0 < n → b = false) → K (.bool (if neg then !b else b)) st.h
  | .clear z x => (x.ev st.env true).oK fun v => (asSl v).oK fun q => (st.h[q.1]?).oK fun o => (asArr o).oK fun r => (q.2.1 = r.1 ∧ r.2.1 ≤ q.2.2.1 ∧ z = r.2.2.1) ∧ K .dead (st.h.set q.1 (.arr r.1 r.2.1 r.2.2.1 (r.2.2.2.take q.2.2.1)))
  | .allocv own z => ownK own z st.h fun cs h => cs.all AV.one = true ∧ ∀ s, K (.ptr h.length s 0 0) (h ++ [.arr s 0 z.length [cs]])
  | .boxv n own x => (x.ev st.env true).oK fun v => v.cells.all AV.one = true ∧ ownK own v.cells st.h fun cs h => (cs.length = n ∧ cs.all AV.one = true) ∧ ∀ s, K (.ptr h.length s 0 0) (h ++ [.arr s 0 n [cs]])
  | .stnv n own a x => (a.ev st.env true).oK fun p => (x.ev st.env true).oK fun v => (asAgg v).oK fun cs => ownK own cs st.h fun cs h => (storeH h (fun r => if cs.length = n ∧ cs.all AV.one = true then putL p.off cs r else none) p).oK fun h => K .dead h

def eput (d : Option Nat) (v : AV) (env : Env) : Env :=
  match d with
  | some d => (d, v) :: env
  | none => env

/-- Is an operation carried out? (none: that isn't known.) -/
def gval : AV → Bool → Option Bool
  | .bool b, want => some (b == want)
  | .cond c (.bool b), want => some (c && (b == want))
  | .cond c .dead, _ => if c = true then none else some false
  | _, _ => none

def guardB (env : Env) : Option (Nat × Bool) → Option Bool
  | none => some true
  | some (t, want) => gval (eget env t) want

def condV (g : Bool) (v : AV) : AV := match g with
  | true => v
  | false => .cond false v

/-- A guarded value, or none: then the guard doesn't hold. -/
def gK (b : Bool) (x : Option AV) (K : AV → Prop) : Prop := match x with
  | some v => K (.cond b v)
  | none => b = false ∧ K (.cond false .dead)
@[congr] theorem gK_congr {b b' : Bool} {x y : Option AV} {K : AV → Prop} (hb : b = b') (h : x = y) : gK b x K = gK b' y K := by subst hb; subst h; rfl
@[go_sem] theorem gK_some (b : Bool) (v : AV) (K : AV → Prop) : gK b (some v) K = K (.cond b v) := rfl
@[go_sem] theorem gK_none (b : Bool) (K : AV → Prop) : gK b none K = (b = false ∧ K (.cond false .dead)) := rfl

/-- A slice's parts are well formed (asked where its operands are known, ahead of its turn). -/
def bslOk (env : Env) (z len : Nat) (zero : List AV) (parts : List (Nat × Nat × Opd)) : Prop :=
  (evParts env true parts).oK fun ps => (buildV (fillV zero len) ps).oK fun cs => cs.length = len * z ∧ cs.all AV.one = true

def bslG (env : Env) (z len : Nat) (zero : List AV) (parts : List (Nat × Nat × Opd)) : Option (Nat × Bool) → Prop
  | none => bslOk env z len zero parts
  | some g => (guardB env (some g)).oK fun b => b = true → bslOk env z len zero parts

def stabK (st : St) (d : Option Nat) (o : POp) : Option (Nat × Bool) → Prop
  | none => (o.ev st true).oK fun v => d.oK fun d => eget st.env d = v
  | some g => (guardB st.env (some g)).oK fun b => gK b (o.ev st b) fun v => d.oK fun d => eget st.env d = v

def runOps (P : Program) (Kp : AV → St → Prop) (K : St → Prop) : List COper → St → Prop
  | [], st => K st
  | ⟨d, .p o, none⟩ :: r, st => (o.ev st true).oK fun v => runOps P Kp K r ⟨eput d v st.env, st.h⟩
  | ⟨d, .p o, some g⟩ :: r, st => (guardB st.env (some g)).oK fun b => gK b (o.ev st b) fun v => runOps P Kp K r ⟨eput d v st.env, st.h⟩
  | ⟨d, .e o, none⟩ :: r, st => o.wp P st (fun v h => runOps P Kp K r ⟨eput d v st.env, h⟩) (fun v h => Kp v ⟨st.env, h⟩)
  | ⟨d, .e o, some g⟩ :: r, st => (guardB st.env (some g)).oK fun b =>
      (b = true → o.wp P st (fun v h => runOps P Kp K r ⟨eput d v st.env, h⟩) (fun v h => Kp v ⟨st.env, h⟩)) ∧ (b = false → runOps P Kp K r ⟨eput d (.cond false .dead) st.env, st.h⟩)
  | ⟨d, .s o, g⟩ :: r, st => stabK st d o g ∧ runOps P Kp K r st
  | ⟨_, .b z len zero parts, g⟩ :: r, st => bslG st.env z len zero parts g ∧ runOps P Kp K r st

def keepE (env : Env) (keep : List Nat) : Env := keep.map fun t => (t, eget env t)

def loopK (body : (AExit → St → Prop) → St → Prop) (live : List Nat) (Q : AExit → St → Prop) (st : St) : Prop :=
  ∃ (I : Nat → St → Prop), (∃ m, I m ⟨keepE st.env live, st.h⟩) ∧ ∀ m st', I m st' →
    body (fun e st'' => match e with
      | .normal => ∃ m' k, m' < m ∧ I m' ⟨keepE st''.env live, st''.h.take k⟩
      | e => Q e st'') st'

@[congr] theorem loopK_congr {body : (AExit → St → Prop) → St → Prop} {live : List Nat} {Q : AExit → St → Prop} {st st' : St} (e : st = st') :
    loopK body live Q st = loopK body live Q st' := by subst e; rfl

def andThen (next : St → Prop) (Q : AExit → St → Prop) : AExit → St → Prop
  | .normal, st => next st
  | e, st => Q e st

def inBlk (id : Nat) (Q : AExit → St → Prop) : AExit → St → Prop
  | .exit id', st => if id' = id then Q .normal st else Q (.exit id') st
  | e, st => Q e st

def wpA (P : Program) : LCode → (AExit → St → Prop) → St → Prop
  | .skip, Q, st => Q .normal st
  | .reg ops keep, Q, st => runOps P (fun v st => Q (.pan v) st) (fun st => Q .normal ⟨keepE st.env keep, st.h⟩) ops st
  | .regD ops _ keep, Q, st => runOps P (fun v st => Q (.pan v) st) (fun st => Q .normal ⟨keepE st.env keep, st.h⟩) ops st
  | .seq a b, Q, st => wpA P a (andThen (fun st => wpA P b Q st) Q) st
  | .cond c a b, Q, st => (c.ev st.env true).oK fun v => (asBool v).oK fun p => (p = true → wpA P a Q st) ∧ (p = false → wpA P b Q st)
  | .block id c, Q, st => wpA P c (inBlk id Q) st
  | .loop c live, Q, st => loopK (fun Q st => wpA P c Q st) live Q st
  | .exit id, Q, st => Q (.exit id) st
  | .ret, Q, st => Q .ret st

def LRes.ev (st : St) : LRes → Option AV
  | .t k => some (eget st.env k)
  | .c k => loadV st.h (eget st.env k)
  | .cn k n => loadN n st.h (eget st.env k)

def resAll (st : St) : List LRes → Option (List AV)
  | [] => some []
  | r :: rs => (r.ev st).ob fun v => (resAll st rs).ob fun vs => some (v :: vs)

def resA (st : St) (l : List LRes) : Option AV := (resAll st l).ob fun vs => match vs with
  | [v] => some v
  | vs => some (.tup vs)

/-- At a function's end: what it made for itself is forgotten, or kept. -/
def endQ (n0 : Nat) (R : AEnd → Heap → Prop) (mk : AV → AEnd) (v : AV) (h : Heap) : Prop :=
  R (mk (frzT n0 h v).1) ((frzT n0 h v).2.take n0) ∨ R (mk v) h

def bodyQ (n0 : Nat) (res : List LRes) (R : AEnd → Heap → Prop) : AExit → St → Prop
  | .normal, st | .ret, st => (resA st res).oK fun v => endQ n0 R .ret v st.h
  | .pan v, st => endQ n0 R .pan v st.h
  | .exit _, _ => False

def argEnv : Nat → List AV → Env
  | _, [] => []
  | n, v :: vs => (n, v) :: argEnv (n + 1) vs

def LFunc.wp (P : Program) (F : LFunc) (args : List AV) (h : Heap) (R : AEnd → Heap → Prop) : Prop :=
  wpA P F.code (bodyQ h.length F.res R) ⟨argEnv 0 args, h⟩

/-! ### What simp is to leave alone: what follows -/

@[congr] theorem runOps_congr {P : Program} {Kp : AV → St → Prop} {K : St → Prop} {l : List COper} {st st' : St} (e : st = st') : runOps P Kp K l st = runOps P Kp K l st' := by subst e; rfl
@[congr] theorem wpA_congr {P : Program} {c : LCode} {Q : AExit → St → Prop} {st st' : St} (e : st = st') : wpA P c Q st = wpA P c Q st' := by subst e; rfl
@[congr] theorem EOp.wp_congr {P : Program} {st st' : St} {K Kp : AV → Heap → Prop} {o : EOp} (e : st = st') : EOp.wp P st K Kp o = EOp.wp P st' K Kp o := by subst e; rfl
@[congr] theorem andThen_congr {next : St → Prop} {Q : AExit → St → Prop} {x x' : AExit} {st st' : St} (ex : x = x') (e : st = st') : andThen next Q x st = andThen next Q x' st' := by subst ex; subst e; rfl
@[congr] theorem inBlk_congr {id : Nat} {Q : AExit → St → Prop} {x x' : AExit} {st st' : St} (ex : x = x') (e : st = st') : inBlk id Q x st = inBlk id Q x' st' := by subst ex; subst e; rfl
@[congr] theorem bodyQ_congr {n0 : Nat} {res : List LRes} {R : AEnd → Heap → Prop} {x x' : AExit} {st st' : St} (ex : x = x') (e : st = st') : bodyQ n0 res R x st = bodyQ n0 res R x' st' := by subst ex; subst e; rfl
@[congr] theorem onRet_congr {K Kp : AV → Heap → Prop} {x x' : AEnd} {h h' : Heap} (ex : x = x') (e : h = h') : onRet K Kp x h = onRet K Kp x' h' := by subst ex; subst e; rfl

end Go.Ab
