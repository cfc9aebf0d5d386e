/- The bridge, part 1: what is read of arguments, as values of the layer. -/
import Derived.Test.YtghiionknnpajaaGreatDoorAb15
import Derived.Test.YtghiionknnpajaaGreatDoorRows
import Derived.Deep.Slices
import Derived.ChangeArms
import Derived.ReadAgain
set_option linter.unusedVariables false
set_option linter.unusedSimpArgs false
namespace Go.Ab
open Go.Proofs.YtghiionknnpajaaGreatDoor

/-- Which values of the layer a type's cells may be, no text and no slice longer than B. -/
def RdF (R : TypeId → List AV → Prop) : List Field → List AV → Prop
  | [], a => a = []
  | f :: r, a => ∃ x y, a = x ++ y ∧ R f.type x ∧ RdF R r y

def Rd (P : Program) (B : Nat) : Nat → TypeId → List AV → Prop
  | 0, _, _ => False
  | n + 1, t, a => match P.underlying t with
    | some .bool => ∃ b, a = [.bool b]
    | some (.int k) => ∃ z, a = [.int k z] ∧ (Lit.int k z).wf = true
    | some .string => ∃ s, a = [.str s] ∧ s.length ≤ B
    | some (.slice e) => ∃ es, a = [.psl es] ∧ es.length ≤ B ∧ ∀ x ∈ es, Rd P B n e x
    | some (.struct fs) => RdF (Rd P B n) fs.toList a
    | _ => False

/-- A struct's fields lie one behind the other, from o on. -/
def tiled (P : Program) : List Field → Nat → Nat → Bool
  | [], o, n => decide (o = n)
  | f :: r, o, n => decide (f.offset = o) && tiled P r (o + P.cellsOf f.type) n

/-- Is a type made of what the bridge knows? -/
def okT (P : Program) : Nat → TypeId → Bool
  | 0, _ => false
  | n + 1, t => match P.underlying t with
    | some .bool => true
    | some (.int _) => true
    | some .string => true
    | some (.slice e) => decide (0 < P.cellsOf e) && okT P n e
    | some (.struct fs) => tiled P fs.toList 0 (P.cellsOf t) && fs.toList.all fun f => okT P n f.type
    | _ => false

/-- The context in which a program's function is called: whatever there is, is not written. -/
def ctx0 (W : World) : Ctx := { ok := fun b _ => b < W.heap.size, μ := fun _ => none, clk := 0 }

section
variable {H : Type} {enc : TypeId × Value → H} {P : Program} {W : World}

theorem bulk_part {d : DataW H} {l : List (DataW H)} (h : d ∈ l) : Rows.uptoBulk d ≤ Rows.uptoBulkAll l := by
  induction l with
  | nil => cases h
  | cons x r ih =>
    simp only [Rows.uptoBulkAll]
    cases List.mem_cons.1 h with
    | inl e => subst e; omega
    | inr e => have := ih e; omega
theorem bulk_one (d : DataW H) : 1 ≤ Rows.uptoBulk d := by
  cases d with
  | lit l => cases l <;> simp [Rows.uptoBulk]
  | nil => simp [Rows.uptoBulk]
  | ptr d => simp [Rows.uptoBulk]
  | slice elems spare => simp [Rows.uptoBulk]
  | agg parts => simp [Rows.uptoBulk]
  | iface t d => simp [Rows.uptoBulk]
  | map entries => simp [Rows.uptoBulk]
  | held h => simp [Rows.uptoBulk]
theorem bulk_len (l : List (DataW H)) : l.length ≤ Rows.uptoBulkAll l := by
  induction l with
  | nil => simp [Rows.uptoBulkAll]
  | cons x r ih => have := bulk_one x; simp only [Rows.uptoBulkAll, List.length_cons]; omega

theorem cell_lt {a : Addr} {v : Value} (h : W.cell? a = some v) : a.block < W.heap.size := by
  unfold World.cell? at h
  split at h
  · rename_i hb; exact (Array.getElem?_eq_some_iff.1 hb).1
  · cases h

theorem vmem_of {b : Nat} : ∀ {a : List AV} {o : Nat} {cs : List Value}, vrels (ctx0 W) W a cs → (∀ i, i < cs.length → W.cell? ⟨b, o + i, none⟩ = cs[i]?) → vmem (ctx0 W) W a b o
  | [], _, _, _, _ => by simp [vmem]
  | x :: xs, o, us, h, hc => by
    simp only [vrels] at h
    obtain ⟨y, ys, rfl, h1, h2⟩ := h
    have h0 := hc 0 (by simp)
    simp only [Nat.add_zero, List.getElem?_cons_zero] at h0
    simp only [vmem]
    refine ⟨cell_lt h0, ⟨y, h0, h1⟩, vmem_of (cs := ys) h2 fun i hi => ?_⟩
    have := hc (i + 1) (by simp; omega)
    rw [List.getElem?_cons_succ] at this
    rw [← this]
    congr 2
    omega

theorem vrels_app {C : Ctx} {w : World} : ∀ {a b : List AV} {us vs : List Value}, vrels C w a us → vrels C w b vs → vrels C w (a ++ b) (us ++ vs)
  | [], b, us, vs, h1, h2 => by simp only [vrels] at h1; subst h1; exact h2
  | x :: a, b, us, vs, h1, h2 => by
    simp only [vrels] at h1
    obtain ⟨y, ys, rfl, q1, q2⟩ := h1
    simp only [List.cons_append, vrels]
    exact ⟨y, ys ++ vs, rfl, q1, vrels_app q2 h2⟩

theorem rows_of {R : List AV → Prop} {b z : Nat} : ∀ {k off : Nat}, (∀ i, i < k → ∃ r : List AV, r.length = z ∧ R r ∧ ∃ cs', W.cells? 0 ⟨b, off + i * z, none⟩ z = some cs' ∧ vrels (ctx0 W) W r cs') →
    ∃ es : List (List AV), es.length = k ∧ (∀ x ∈ es, R x) ∧ ves (ctx0 W) W z es b off
  | 0, off, _ => ⟨[], rfl, by simp, by simp [ves]⟩
  | k + 1, off, h => by
    obtain ⟨r, h1, h2, cs', h3, h4⟩ := h 0 (by omega)
    obtain ⟨es, q1, q2, q3⟩ := rows_of (R := R) (b := b) (z := z) (k := k) (off := off + z) fun i hi => by
      have := h (i + 1) (by omega)
      rwa [show off + (i + 1) * z = off + z + i * z by rw [Nat.add_mul]; omega] at this
    refine ⟨r :: es, by simp [q1], ?_, ?_⟩
    · intro x hx
      rcases List.mem_cons.1 hx with rfl | hx
      · exact h2
      · exact q2 x hx
    · simp only [ves]
      refine ⟨h1, ?_, q3⟩
      obtain ⟨-, hl, hc⟩ := World.cells?_some h3
      refine vmem_of h4 fun i hi => ?_
      have := hc i (by omega)
      rw [← this, Go.WideShapes.add_plain, Nat.zero_mul, Nat.add_zero]

theorem rd_fields {R : TypeId → List AV → Prop} {cs : List Value} : ∀ {fs : List Field} {o : Nat}, tiled P fs o cs.length = true →
    (∀ f ∈ fs, ∃ a, R f.type a ∧ vrels (ctx0 W) W a ((cs.drop f.offset).take (P.cellsOf f.type))) → ∃ a, RdF R fs a ∧ vrels (ctx0 W) W a (cs.drop o)
  | [], o, ht, _ => by
    simp only [tiled, decide_eq_true_eq] at ht
    exact ⟨[], rfl, by simp [vrels, ht]⟩
  | f :: r, o, ht, h => by
    simp only [tiled, Bool.and_eq_true, decide_eq_true_eq] at ht
    obtain ⟨rfl, ht⟩ := ht
    obtain ⟨x, h1, h2⟩ := h f (by simp)
    obtain ⟨y, h3, h4⟩ := rd_fields ht fun g hg => h g (by simp [hg])
    refine ⟨x ++ y, ⟨x, y, rfl, h1, h3⟩, ?_⟩
    have := vrels_app h2 h4
    rwa [← List.drop_drop, List.take_append_drop] at this

theorem rd {B : Nat} : ∀ (m : Nat) (t : TypeId), okT P m t = true → ∀ (n : Nat) (cs : List Value) (x : DataW H × List MemPlace), DataW.trod enc P W 0 (fun _ => true) true n t cs = some x → Rows.uptoBulk x.1 ≤ B →
    ∃ a, Rd P B m t a ∧ vrels (ctx0 W) W a cs
  | 0, _, h, _, _, _, _, _ => by simp [okT] at h
  | m + 1, t, h, n, cs, x, hx, hb => by
    unfold okT at h
    split at h
    · rename_i ht
      obtain ⟨b, rfl, rfl⟩ := DataW.trod_bool ht hx
      exact ⟨[.bool b], by simp [Rd, ht], by simp [vrels, vrel]⟩
    · rename_i k ht
      obtain ⟨z, rfl, rfl, hw⟩ := DataW.trod_int ht hx
      exact ⟨[.int k z], by simp [Rd, ht, hw], by simp [vrels, vrel]⟩
    · rename_i ht
      obtain ⟨s, rfl, rfl, hs⟩ := DataW.trod_string ht hx
      refine ⟨[.str s.data.toList], ?_, ?_⟩
      · simp only [Rd, ht]
        refine ⟨_, rfl, ?_⟩
        simp [Rows.uptoBulk] at hb
        simp; omega
      · simp [vrels, vrel]
    · rename_i e ht
      simp only [Bool.and_eq_true, decide_eq_true_eq] at h
      obtain ⟨hz, he⟩ := h
      rcases Go.Deep.open_slice ht hx with ⟨rfl, rfl⟩ | ⟨a, len, cap, k, n', D, Pl, rfl, -, hl, -, rfl, rfl, hel⟩
      · refine ⟨[.psl []], ?_, ?_⟩
        · simp [Rd, ht]
        · simp only [vrels, vrel]
          exact ⟨_, _, rfl, ⟨none, 0, rfl, Nat.le_refl _, .inl trivial⟩, rfl⟩
      · simp only [if_true] at hb hel
        simp only [Rows.uptoBulk] at hb
        have hlen := bulk_len ((List.range len).map D)
        simp only [List.length_map, List.length_range] at hlen
        have hall : ∀ i, i < len → ∃ r : List AV, r.length = P.cellsOf e ∧ Rd P B m e r ∧ ∃ cs', W.cells? 0 (a.add (i * P.cellsOf e)) (P.cellsOf e) = some cs' ∧ vrels (ctx0 W) W r cs' := by
          intro i hi
          obtain ⟨cs', h1, h2⟩ := hel i (by omega)
          have hp : Rows.uptoBulk (D i) ≤ Rows.uptoBulkAll ((List.range len).map D) := bulk_part (List.mem_map.2 ⟨i, by simpa using hi, rfl⟩)
          obtain ⟨r, q1, q2⟩ := rd (B := B) m e he n' cs' _ h2 (by simp only; omega)
          exact ⟨r, by have e1 := q2.length; have e2 := (World.cells?_some h1).2.1; omega, q1, cs', h1, q2⟩
        by_cases hl0 : len = 0
        · subst hl0
          refine ⟨[.psl []], ?_, ?_⟩
          · simp [Rd, ht]
          · simp only [vrels, vrel]
            exact ⟨_, _, rfl, ⟨some a, _, rfl, Nat.zero_le _, .inl trivial⟩, rfl⟩
        · obtain ⟨b, off, spot⟩ := a
          have hsp : spot = none := by
            obtain ⟨r, hr, -, cs', h1, -⟩ := hall 0 (by omega)
            obtain ⟨-, hcl, hc⟩ := World.cells?_some h1
            have hc0 := hc 0 (by omega)
            obtain ⟨v, hv⟩ : ∃ v, cs'[0]? = some v := ⟨cs'[0], by simp⟩
            rw [hv] at hc0
            simpa [Addr.add] using World.cell?_spot hc0
          subst hsp
          obtain ⟨es, q1, q2, q3⟩ := rows_of (R := Rd P B m e) (b := b) (z := P.cellsOf e) (k := len) (off := off) fun i hi => by
            have := hall i hi
            rwa [Go.WideShapes.add_plain] at this
          refine ⟨[.psl es], ?_, ?_⟩
          · simp only [Rd, ht]
            exact ⟨es, rfl, by omega, q2⟩
          · simp only [vrels, vrel]
            exact ⟨_, _, rfl, ⟨some ⟨b, off, none⟩, _, by rw [q1], by omega, .inr ⟨b, off, _, rfl, q3⟩⟩, rfl⟩
    · rename_i fs ht
      simp only [Bool.and_eq_true, List.all_eq_true] at h
      obtain ⟨htl, hall⟩ := h
      obtain ⟨xs, n', rfl, rfl, hcl, hxl, hf⟩ := DataW.trod_struct ht hx
      simp only [Rows.uptoBulk] at hb
      rw [← hcl] at htl
      obtain ⟨a, h1, h2⟩ := rd_fields (R := Rd P B m) htl fun f hfm => by
        obtain ⟨i, hi, he⟩ := List.mem_iff_getElem.1 hfm
        have hfi : fs[i]? = some f := by
          rw [← Array.getElem?_toList, List.getElem?_eq_getElem hi, he]
        have h3 := hf i f hfi
        obtain ⟨y, hy⟩ : ∃ y, xs[i]? = some y := ⟨xs[i]'(by simp at hi; omega), by simp⟩
        rw [hy] at h3
        have hp : Rows.uptoBulk y.1 ≤ Rows.uptoBulkAll (xs.map (·.1)) := bulk_part (List.mem_map.2 ⟨y, List.mem_of_getElem? hy, rfl⟩)
        exact rd (B := B) m f.type (hall f hfm) n' _ y h3 (by omega)
      exact ⟨a, by simp only [Rd, ht]; exact h1, by simpa using h2⟩
    · cases h
end
end Go.Ab
