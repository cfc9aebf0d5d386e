/- The layer Ab, part 6: freezing; the checks of operations that change memory; what they do. -/
import Derived.Test.YtghiionknnpajaaGreatDoorAb4
set_option linter.unusedVariables false
set_option linter.unusedSimpArgs false
namespace Go.Ab

section
variable {C : Ctx} {w : World} {P : Program}

/-! ### Freezing -/

def Ctx.seal (C : Ctx) (b lo hi : Nat) : Ctx := { C with ok := fun k j => C.ok k j ∨ (k = b ∧ lo ≤ j ∧ j < hi) }

theorem step_seal (b lo hi : Nat) (ho : ∃ l s z, C.μ l = some (some b, s, z)) : Step C w (C.seal b lo hi) w :=
  ⟨rfl, rfl, rfl, Nat.le_refl _, Nat.le_refl _, fun _ _ h => .inl h, fun _ _ _ => rfl, fun _ _ _ _ h _ => h, fun _ arr t fz h => ⟨arr, t, fz, h, rfl⟩, fun _ _ _ => rfl, fun l _ s z h _ => ⟨l, s, z, h⟩, fun k j h _ => h.imp id fun q => by rw [q.1]; exact ho⟩

theorem mul_range {z i j n q : Nat} (h1 : i * z ≤ j) (h2 : j < (i + n) * z) (hq : q = j - i * z) : q < n * z := by
  rw [Nat.add_mul] at h2; omega

theorem frzO_sound {h : Heap} (H : HRel C w h) {l s i n : Nat} {y : Value} (hr : vrel C w (.sl l s i n) y) :
    ∃ C', Step C w C' w ∧ HRel C' w (frzO h l s i n h[l]?).2 ∧ vrel C' w (frzO h l s i n h[l]?).1 y := by
  have dead : ∃ C', Step C w C' w ∧ HRel C' w h ∧ vrel C' w .dead y := ⟨C, .refl C w, H, by simp [vrel]⟩
  cases ho : h[l]? with
  | none => exact dead
  | some o =>
    cases o with
    | arr s' imm z es =>
      simp only [frzO]
      split
      · rename_i hcond
        obtain ⟨rfl, hin⟩ := hcond
        have hobj := H.obj l _ ho
        simp only [orel] at hobj
        obtain ⟨hlt, ob, hmu, hob⟩ := hobj
        have hrows : h.rows l s = some es := by simp [Heap.rows, ho, ob_some, AObj.rows]
        obtain ⟨z', ⟨imm', hobj'⟩, hcase⟩ := rows_sound H hr hrows
        rw [ho] at hobj'
        simp at hobj'
        obtain ⟨_, rfl⟩ := hobj'
        rcases hcase with ⟨hm, rfl, rfl, rfl, rfl⟩ | ⟨b, cap, arr, t', hm, rfl, hcap, hbk, hsz, hsz2, hr'⟩
        · refine ⟨C, .refl C w, ?_, ?_⟩
          · refine ⟨?_, H.inj, ?_, H.okb, H.blk, H.tb⟩
            · intro k o' hk
              by_cases hkl : k = l
              · subst hkl
                rw [List.getElem?_set_self (List.getElem?_eq_some_iff.1 ho).1] at hk
                simp at hk; subst hk
                simp only [orel]
                exact ⟨hlt, none, hm, by trivial⟩
              · rw [List.getElem?_set_ne (fun e => hkl e.symm)] at hk
                exact H.obj k o' hk
            · intro k hk; exact H.none k (by simpa using hk)
          · simp only [vrel]; exact ⟨none, 0, by simp, by simp, .inl (by simp)⟩
        · rw [hm] at hmu
          simp at hmu
          subst hmu
          obtain ⟨arr0, t0, q1, q2, q3, q4⟩ := hob
          rw [hbk] at q1
          simp at q1
          obtain ⟨rfl, rfl⟩ := q1
          have st : Step C w (C.seal b (i * z) ((i + n) * z)) w := step_seal b (i * z) ((i + n) * z) ⟨l, s, z, hm⟩
          have hin' : (i + n) * z ≤ arr.size := Nat.le_trans (Nat.mul_le_mul_right _ hin) q2
          refine ⟨C.seal b (i * z) ((i + n) * z), st, ?_, ?_⟩
          · refine ⟨?_, H.inj, ?_, ?_, H.blk, H.tbS st⟩
            · intro k o' hk
              by_cases hkl : k = l
              · subst hkl
                rw [List.getElem?_set_self (List.getElem?_eq_some_iff.1 ho).1] at hk
                simp at hk; subst hk
                simp only [orel]
                refine ⟨hlt, some b, hm, arr, t', hbk, q2, fun j hj hk => ?_, fun i' e hi' => ⟨(q4 i' e hi').1, fun j v hj => ?_⟩⟩
                · rcases hk with hk | ⟨_, h1, h2⟩
                  · exact q3 j (Nat.le_trans (Nat.mul_le_mul_right _ (Nat.le_max_left _ _)) hj) hk
                  · have := Nat.mul_le_mul_right z (Nat.le_max_right imm (i + n))
                    omega
                · obtain ⟨y, f1, f2, f3⟩ := (q4 i' e hi').2 j v hj
                  exact ⟨y, f1, f2, f3.mono st⟩
              · rw [List.getElem?_set_ne (fun e => hkl e.symm)] at hk
                refine (H.obj k o' hk).keep st rfl (fun _ _ _ _ => rfl) (fun b' s' z' hm' j hk' => ?_)
                rcases hk' with hk' | ⟨rfl, _⟩
                · exact hk'
                · exact absurd (H.inj k l _ s' z' s z hm' hm) hkl
            · intro k hk; exact H.none k (by simpa using hk)
            · intro b' j hk
              rcases hk with hk | ⟨rfl, _⟩
              · exact H.okb b' j hk
              · exact (Array.getElem?_eq_some_iff.1 hbk).1
          · simp only [vrel]
            have hxl : ((es.drop i).take n).length = n := by simp; omega
            refine ⟨some ⟨b, i * z, none⟩, cap, by rw [hxl], by omega, .inr ⟨b, i * z, z, rfl, ves.of_get fun k e hk => ?_⟩⟩
            rw [List.getElem?_take] at hk
            split at hk
            · rename_i hkn
              rw [List.getElem?_drop] at hk
              obtain ⟨e1, e2⟩ := q4 (i + k) e hk
              refine ⟨e1, vmem.of_get fun j v hj => ?_⟩
              have hjz : j < z := by rw [← e1]; exact (List.getElem?_eq_some_iff.1 hj).1
              obtain ⟨y, f1, f2, f3⟩ := e2 j v hj
              have hle : (k + 1) * z ≤ n * z := Nat.mul_le_mul_right _ hkn
              rw [Nat.add_mul] at hle
              refine ⟨.inr ⟨rfl, by omega, by rw [Nat.add_mul]; omega⟩, y, ?_, f3.mono st⟩
              rw [cell_of_row w b _ arr t' (0, 0) hbk]
              rwa [show i * z + k * z + j = (i + k) * z + j by rw [Nat.add_mul]]
            · cases hk
      · exact dead
    | _ => exact dead

theorem frzP_sound {n0 : Nat} {h : Heap} (H : HRel C w h) {v : AV} {y : Value} (hr : vrel C w v y) : ∃ C', Step C w C' w ∧ HRel C' w (frzP n0 h v).2 ∧ vrel C' w (frzP n0 h v).1 y := by
  unfold frzP
  split
  · split
    · exact frzO_sound H hr
    · exact ⟨C, .refl C w, H, hr⟩
  · simp only [vrel] at hr
    exact ⟨C, .refl C w, H, by simp only [vrel]; exact ⟨none, 0, hr, Nat.le_refl _, .inl trivial⟩⟩
  · exact ⟨C, .refl C w, H, hr⟩

theorem frzCs_sound {n0 : Nat} : ∀ {vs : List AV} {ys : List Value} {C : Ctx} {h : Heap}, HRel C w h → vrels C w vs ys → ∃ C', Step C w C' w ∧ HRel C' w (frzCs n0 h vs).2 ∧ vrels C' w (frzCs n0 h vs).1 ys
  | [], ys, C, h, H, hr => ⟨C, .refl C w, H, hr⟩
  | v :: vs, ys, C, h, H, hr => by
    simp only [vrels] at hr
    obtain ⟨y, zs, rfl, h1, h2⟩ := hr
    obtain ⟨C1, s1, H1, r1⟩ := frzP_sound (n0 := n0) H h1
    obtain ⟨C2, s2, H2, r2⟩ := frzCs_sound (n0 := n0) H1 (h2.mono s1)
    refine ⟨C2, s1.trans s2, H2, ?_⟩
    simp only [frzCs, consP, vrels]
    exact ⟨y, zs, rfl, r1.mono s2, r2⟩

theorem frz1_sound {n0 : Nat} {h : Heap} (H : HRel C w h) {v : AV} {y : Value} (hr : vrel C w v y) : ∃ C', Step C w C' w ∧ HRel C' w (frz1 n0 h v).2 ∧ vrel C' w (frz1 n0 h v).1 y := by
  unfold frz1
  split
  · simp only [vrel] at hr
    obtain ⟨xs, rfl, h1⟩ := hr
    obtain ⟨C1, s1, H1, r1⟩ := frzCs_sound (n0 := n0) H h1
    exact ⟨C1, s1, H1, by simp only [aggP, vrel]; exact ⟨xs, rfl, r1⟩⟩
  · exact frzP_sound H hr

theorem frzs_sound {n0 : Nat} : ∀ {vs : List AV} {ys : List Value} {C : Ctx} {h : Heap}, HRel C w h → vrels C w vs ys → ∃ C', Step C w C' w ∧ HRel C' w (frzs n0 h vs).2 ∧ vrels C' w (frzs n0 h vs).1 ys
  | [], ys, C, h, H, hr => ⟨C, .refl C w, H, hr⟩
  | v :: vs, ys, C, h, H, hr => by
    simp only [vrels] at hr
    obtain ⟨y, zs, rfl, h1, h2⟩ := hr
    obtain ⟨C1, s1, H1, r1⟩ := frz1_sound (n0 := n0) H h1
    obtain ⟨C2, s2, H2, r2⟩ := frzs_sound (n0 := n0) H1 (h2.mono s1)
    refine ⟨C2, s1.trans s2, H2, ?_⟩
    simp only [frzs, consP, vrels]
    exact ⟨y, zs, rfl, r1.mono s2, r2⟩

theorem frzT_sound {n0 : Nat} {h : Heap} (H : HRel C w h) {v : AV} {y : Value} (hr : vrel C w v y) : ∃ C', Step C w C' w ∧ HRel C' w (frzT n0 h v).2 ∧ vrel C' w (frzT n0 h v).1 y := by
  unfold frzT
  split
  · simp only [vrel] at hr
    obtain ⟨xs, rfl, h1⟩ := hr
    obtain ⟨C1, s1, H1, r1⟩ := frzs_sound (n0 := n0) H h1
    exact ⟨C1, s1, H1, by simp only [tupP, vrel]; exact ⟨xs, rfl, r1⟩⟩
  · exact frz1_sound H hr

/-- What lies from n on is forgotten. -/
def Ctx.drop (C : Ctx) (n : Nat) : Ctx := { C with μ := fun l => if l < n then C.μ l else none }

theorem drop_sound {h : Heap} (H : HRel C w h) (n : Nat) : Step C w (C.drop n) w ∧ HRel (C.drop n) w (h.take n) := by
  have hs : ∀ {l : Nat} {x : Option Nat × Nat × Nat}, (C.drop n).μ l = some x → C.μ l = some x := by
    intro l x hx
    simp only [Ctx.drop] at hx
    split at hx
    · exact hx
    · cases hx
  have st : Step C w (C.drop n) w :=
    ⟨rfl, rfl, rfl, Nat.le_refl _, Nat.le_refl _, fun _ _ h => h, fun _ _ _ => rfl, fun _ _ _ _ h _ => hs h, fun _ arr t fz h => ⟨arr, t, fz, h, rfl⟩, fun _ _ _ => rfl, fun l _ s z h _ => ⟨l, s, z, hs h⟩, fun _ _ h _ => .inl h⟩
  refine ⟨st, ?_, fun l l' b s z s' z' h1 h2 => H.inj l l' b s z s' z' (hs h1) (hs h2), fun l hl => ?_, H.okb, fun l b s z h => H.blk l b s z (hs h), H.tbS st⟩
  · intro l o hl
    rw [List.getElem?_take] at hl
    split at hl
    · rename_i hln
      exact (H.obj l o hl).keep st (by simp [Ctx.drop, hln]) (fun _ _ _ _ => rfl) (fun _ _ _ _ _ h => h)
    · cases hl
  · simp only [Ctx.drop]
    split
    · rename_i hln
      simp at hl
      exact H.none l (by omega)
    · rfl

/-! ### The checks -/

def isNilSl : Operand → Bool
  | .const (.slice none 0 0) => true
  | _ => false

theorem isNilSl_of {x : Operand} (h : isNilSl x = true) : x = .const (.slice none 0 0) := by
  unfold isNilSl at h
  split at h
  · rfl
  · cases h

def chkE (P : Program) (o : Oper) (e : EOp) : Bool :=
  match o.op, e with
  | .alloc t, .alloc z => (match (P.info? t).bind (·.zero) with | some zv => chkLeaves zv.cells.toList z | none => false)
  | .box _ x, .box _ y => chkO x y
  | .buildSlice t len parts, .bsl z len' zero parts' => (match P.underlying t with
      | some (.slice e) => decide (sizeB P e = some z) && decide (0 < z) && decide (len = len') && decide (len * z ≤ 16777216) && (decide (0 < len) || (decide (len = 0) && parts.toList.isEmpty)) &&
          (match (P.info? e).bind (·.zero) with | some zv => chkLeaves zv.cells.toList zero && decide (zv.cells.size = z) | none => false) && chkParts (fun i => some (i * z, z)) parts.toList parts'
      | _ => false)
  | .buildSlice t len parts, .bslz z len' zero parts' => (match P.underlying t with
      | some (.slice e) => decide (sizeB P e = some z) && decide (0 < z) && decide (len = len') && decide (len * z ≤ 16777216) && decide (0 < len) &&
          (match (P.info? e).bind (·.zero) with | some zv => chkLeaves zv.cells.toList zero && decide (zv.cells.size = z) | none => false) && chkParts (fun i => some (i * z, z)) parts.toList parts'
      | _ => false)
  | .store t a x, .st a' x' => decide (sizeB P t = some 1) && chkO a a' && chkO x x'
  | .store t a x, .stn n a' x' => decide (sizeB P t = some n) && chkO a a' && chkO x x'
  | .call c, .call f args _ => (match c.callee with | .value (.func g) => decide (f = g) && goFunc P f && chkOs c.args.toList args | _ => false)
  | .call c, .callv x args _ => (match c.callee with | .value (.tmp t) => chkO (.tmp t) x && chkOs c.args.toList args | _ => false)
  | .call c, .app z by_ s x => (match c.callee, c.args.toList, c.argTypes.toList with
      | .builtin .append, [a, b], [t, t2] => (match P.underlying t with
          | some (.slice e) => (match P.info? e with
              | some i => decide (i.size = z) && decide (i.bytes = by_) && decide (0 < z) && decide (0 < by_) && (match i.zero with | some zv => decide (zv.cells.size = z) | none => false)
              | none => false)
          | _ => false) && (match P.underlying t2 with | some (.slice _) => true | some .string => true | _ => false) && chkO a s && chkO b x
      | _, _, _ => false)
  | .assign x, .vnil _ => isNilSl x
  | .call c, .clear z x => (match c.callee, c.args.toList, c.argTypes.toList with
      | .builtin .clear, [a], [t] => (match P.underlying t with
          | some (.slice e) => (match (P.info? e).bind (·.zero) with | some zv => decide (zv.cells.size = z) && zv.cells.toList.all (·.oneCell') | none => false)
          | _ => false) && chkO a x
      | _, _, _ => false)
  | .alloc t, .allocv _ z => (match (P.info? t).bind (·.zero) with | some zv => chkLeaves zv.cells.toList z | none => false)
  | .box _ x, .boxv _ _ y => chkO x y
  | .store t a x, .stnv n _ a' x' => decide (sizeB P t = some n) && chkO a a' && chkO x x'
  | .makeMap _ r, .mkmap => r.isNone
  | .panic x, .panic y => chkO x y
  | .mapUpdate t m' k' v', .mapup kk m k v => (match P.underlying t with | some (.map kt _) => keyTy P kt kk | _ => false) && chkO m' m && chkO k' k && chkO v' v
  | .insert t m' k' v', .mapup kk m k v => (match P.underlying t with | some (.map kt _) => keyTy P kt kk | _ => false) && chkO m' m && chkO k' k && chkO v' v
  | .range t x, .rstr y => (match P.underlying t with | some .string => true | _ => false) && chkO x y
  | .next x b, .nstr y => b && chkO x y
  | .binOp op t x n _, .isnil neg y => isNilSl n && (match op with | .eql => !neg | .neq => neg | _ => false) && (match P.underlying t with | some (.slice _) => true | _ => false) && chkO x y
  | _, _ => false

theorem oK_of {α : Type} {x : Option α} {f : α → Prop} (h : x.oK f) : ∃ a, x = some a ∧ f a := by
  cases x with
  | none => exact h.elim
  | some a => exact ⟨a, rfl, h⟩

def Post (C : Ctx) (w : World) (o : Oper) (a : Act) (K : AV → Heap → Prop) (a' : Act) (w' : World) : Prop :=
  ∃ C' v h' y, Step C w C' w' ∧ HRel C' w' h' ∧ vrel C' w' v y ∧ a' = a.put o.dst y ∧ K v h'
def PostP (C : Ctx) (w : World) (a : Act) (Kp : AV → Heap → Prop) (x : Exit) (a' : Act) (w' : World) : Prop :=
  ∃ C' v h' y, Step C w C' w' ∧ HRel C' w' h' ∧ vrel C' w' v y ∧ x = .panic [{ v := y, recovered := false }] ∧ a' = a ∧ Kp v h'

theorem wp_value {o : Oper} {a : Act} {K Kp : AV → Heap → Prop} {C' : Ctx} {v : AV} {h' : Heap} {y : Value} {w' : World} (hr : (execOp a.eval o).run P w = .ok (.value y) w') (s : Step C w C' w') (H' : HRel C' w' h') (hv : vrel C' w' v y) (hk : K v h') :
    o.wp P a w (Post C w o a K) (PostP C w a Kp) := by
  unfold Oper.wp
  rw [hr]
  exact ⟨C', v, h', y, s, H', hv, rfl, hk⟩

theorem wp_skip {o : Oper} {a : Act} {K Kp : AV → Heap → Prop} {C' : Ctx} {h' : Heap} {w' : World} (hr : (execOp a.eval o).run P w = .ok .skip w') (s : Step C w C' w') (H' : HRel C' w' h') (hk : K .dead h') :
    o.wp P a w (Post C w o a K) (PostP C w a Kp) := by
  unfold Oper.wp
  rw [hr]
  exact ⟨C', .dead, h', undef, s, H', by simp [vrel], rfl, hk⟩

theorem zero_run {t : TypeId} {zv : Value} (h : (P.info? t).bind (·.zero) = some zv) (w : World) : (zeroValue t).run P w = .ok zv w := by
  cases hi : P.info? t with
  | none => simp [hi] at h
  | some i => simp [hi] at h; simp [zeroValue, typeInfo, hi, h]

theorem chkLeaves_one : ∀ {vs : List Value} {us : List AV}, chkLeaves vs us = true → us.all AV.one = true
  | [], [], _ => rfl
  | v :: vs, a :: us, h => by
    simp only [chkLeaves, Bool.and_eq_true] at h
    simp only [List.all_cons, Bool.and_eq_true]
    exact ⟨(chkLeaf_sound (C := ⟨fun _ _ => False, fun _ => none, 0⟩) (w := default) h.1).2, chkLeaves_one h.2⟩
  | [], _ :: _, h => by simp [chkLeaves] at h
  | _ :: _, [], h => by simp [chkLeaves] at h

/-- A store at a place of one's own. -/
theorem store_sound {h h' : Heap} (H : HRel C w h) {p : AV} {y : Value} {f : List AV → Option (List AV)} {n : Nat} {vs : List AV} {ys : List Value} (hp : vrel C w p y) (hs : storeH h f p = some h')
    (hf : ∀ r r', f r = some r' → p.off + vs.length ≤ r.length ∧ r' = r.take p.off ++ vs ++ r.drop (p.off + vs.length)) (hv : vrels C w vs ys) (h1 : vs.all AV.one = true) :
    ∃ b o w', y = .pointer (some ⟨b, o, none⟩) ∧ (storeCells ⟨b, o, none⟩ ys).run P w = .ok () w' ∧ Step C w C w' ∧ HRel C w' h' := by
  cases p <;> simp only [storeH] at hs
  case ptr l s i off =>
    obtain ⟨o, ho, hs⟩ := ob_eq_some hs
    obtain ⟨q, hq, hs⟩ := ob_eq_some hs
    cases o <;> simp only [asArr] at hq
    case arr s' imm z es =>
      simp at hq; subst hq
      simp only at hs
      split at hs
      · rename_i hcond
        obtain ⟨rfl, himm⟩ := hcond
        obtain ⟨r, hr, hs⟩ := ob_eq_some hs
        obtain ⟨r', hr', hs⟩ := ob_eq_some hs
        simp at hs; subst hs
        obtain ⟨hle, hrr⟩ := hf r r' hr'
        simp only [AV.off] at hle hrr
        have hobj := H.obj l _ ho
        simp only [orel] at hobj
        obtain ⟨hlt, ob, hm, hob⟩ := hobj
        cases ob with
        | none => simp only at hob; subst hob; simp at hr
        | some b =>
          obtain ⟨arr, t, q1, q2, q3, q4⟩ := hob
          obtain ⟨e1, e2⟩ := q4 i r hr
          have hlv := hv.length
          have hilt : i < es.length := (List.getElem?_eq_some_iff.1 hr).1
          have hiz : (i + 1) * z ≤ arr.size := Nat.le_trans (Nat.mul_le_mul_right _ hilt) q2
          rw [Nat.add_mul] at hiz
          have hone := oneCells hv h1
          have hst := run_storeCells_at P b (i * z + off) t ys 0 arr w q1 (by omega) hone
          simp only [Nat.add_zero] at hst
          simp only [vrel] at hp
          refine ⟨b, i * z + off, _, hp.2.2 b z hm, hst, ?_⟩
          refine set_rel H ho hm q1 himm hr ?_ ?_ ?_ ?_
          · rw [hrr]; simp; omega
          · simp only [List.size_toArray, List.length_append, List.length_take, List.length_drop, Array.length_toList]
            omega
          · intro k hk
            rw [List.getElem?_toArray]
            rw [Nat.add_mul] at hk
            rcases hk with hk | hk
            · rw [List.append_assoc, List.getElem?_append_left (by simp; omega), List.getElem?_take, if_pos (by omega)]; simp
            · rw [List.getElem?_append_right (by simp; omega), List.getElem?_drop]
              simp only [List.length_append, List.length_take, Array.length_toList]
              rw [show i * z + off + ys.length + (k - (min (i * z + off) arr.size + ys.length)) = k by omega]
              simp
          · intro j v hj
            rw [hrr, List.append_assoc] at hj
            rcases Nat.lt_or_ge j off with hjo | hjo
            · rw [List.getElem?_append_left (by simp; omega), List.getElem?_take, if_pos hjo] at hj
              obtain ⟨y', f1, f2, f3⟩ := e2 j v hj
              refine ⟨y', ?_, f2, f3⟩
              rw [List.getElem?_toArray, List.append_assoc, List.getElem?_append_left (by simp; omega), List.getElem?_take, if_pos (by omega)]
              simpa using f1
            · rw [List.getElem?_append_right (by simp; omega)] at hj
              have hto : (r.take off).length = off := by simp; omega
              rw [hto] at hj
              rcases Nat.lt_or_ge (j - off) vs.length with hjv | hjv
              · rw [List.getElem?_append_left hjv] at hj
                obtain ⟨y', f1, f2⟩ := hv.get hj
                refine ⟨y', ?_, hone y' (List.mem_of_getElem? f1), f2⟩
                rw [List.getElem?_toArray, List.append_assoc, List.getElem?_append_right (by simp; omega), List.getElem?_append_left (by simp; omega)]
                simp only [List.length_take, Array.length_toList]
                rw [show i * z + j - min (i * z + off) arr.size = j - off by omega]
                exact f1
              · rw [List.getElem?_append_right hjv, List.getElem?_drop] at hj
                rw [show off + vs.length + (j - off - vs.length) = j by omega] at hj
                obtain ⟨y', f1, f2, f3⟩ := e2 j v hj
                refine ⟨y', ?_, f2, f3⟩
                rw [List.getElem?_toArray, List.getElem?_append_right (by simp; omega), List.getElem?_drop]
                simp only [List.length_append, List.length_take, Array.length_toList]
                rw [show i * z + off + ys.length + (i * z + j - (min (i * z + off) arr.size + ys.length)) = i * z + j by omega]
                simpa using f1
      · cases hs
    all_goals cases hq
  all_goals cases hs

theorem run_callFunc {f : FuncId} {args : Array Value} (h : goFunc P f = true) (w : World) : (callFunc f args).run P w = .ok (.enter f args) w := by
  unfold goFunc at h
  split at h
  · rename_i fn hf
    simp only [Bool.and_eq_true, bne_iff_ne, ne_eq, Option.isSome_iff_exists] at h
    obtain ⟨h1, b, h2⟩ := h
    simp [callFunc, hf, h1, h2]
  · cases h

theorem call_sound {o : Oper} {a : Act} {K Kp : AV → Heap → Prop} {f : FuncId} {vs : List AV} {h : Heap} {ys : List Value} {args : Array Value} {C1 : Ctx} (hr : (execOp a.eval o).run P w = .ok (.enter f args) w) (ha : args = ys.toArray) (s1 : Step C w C1 w) (H : HRel C1 w h) (hv : vrels C1 w vs ys)
    (hk : callK P f vs h (onRet K Kp)) : o.wp P a w (Post C w o a K) (PostP C w a Kp) := by
  obtain ⟨R, hS, hK⟩ := hk
  unfold Oper.wp
  rw [hr, Oper.upon_enter, ha]
  refine (hS.2 C1 w ys H hv).mono fun e w' hp => ?_
  obtain ⟨C', r, h', s2, H', hvt, hR⟩ := hp
  have hk := hK r h' hR
  cases r with
  | ret v =>
    obtain ⟨y, rfl, hy⟩ := hvt
    exact ⟨C', v, h', y, s1.trans s2, H', hy, rfl, hk⟩
  | pan v =>
    obtain ⟨y, rfl, hy⟩ := hvt
    exact ⟨C', v, h', y, s1.trans s2, H', hy, rfl, rfl, hk⟩

/-- A map or an iterator is turned. -/
theorem upd_rel {h : Heap} (H : HRel C w h) {l s z b : Nat} {o o' : AObj} {ob ob' : Obj} (ho : h[l]? = some o) (hm : C.μ l = some (some b, s, z)) (hb : w.heap[b]? = some ob) (hn : ∀ arr t fz, ob ≠ .cells arr t fz) (hn' : ∀ arr t fz, ob' ≠ .cells arr t fz)
    (ho' : Step C w C { w with heap := w.heap.setIfInBounds b ob' } → orel C { w with heap := w.heap.setIfInBounds b ob' } l o') : Step C w C { w with heap := w.heap.setIfInBounds b ob' } ∧ HRel C { w with heap := w.heap.setIfInBounds b ob' } (h.set l o') := by
  have hlt : b < w.heap.size := (Array.getElem?_eq_some_iff.1 hb).1
  have hself : (w.heap.setIfInBounds b ob')[b]? = some ob' := by simp [hlt]
  have hother : ∀ k, k ≠ b → (w.heap.setIfInBounds b ob')[k]? = w.heap[k]? := fun k hk => by
    rw [Array.getElem?_setIfInBounds]; simp [Ne.symm hk]
  have st : Step C w C { w with heap := w.heap.setIfInBounds b ob' } := by
    refine ⟨rfl, rfl, rfl, by simp, Nat.le_refl _, fun _ _ h => h, ?_, fun _ _ _ _ h _ => h, ?_, ?_, fun l b s z h _ => ⟨l, s, z, h⟩, fun _ _ h _ => .inl h⟩
    · intro k j hk
      by_cases hkb : k = b
      · subst hkb
        have e1 : ({ w with heap := w.heap.setIfInBounds k ob' } : World).cell? ⟨k, j, none⟩ = none := by
          simp only [World.cell?, hself]
          cases ob' <;> first | rfl | exact absurd rfl (hn' _ _ _)
        have e2 : w.cell? ⟨k, j, none⟩ = none := by
          simp only [World.cell?, hb]
          cases ob <;> first | rfl | exact absurd rfl (hn _ _ _)
        rw [e1, e2]
      · simp only [World.cell?, hother k hkb]
    · intro k a t fz hk
      by_cases hkb : k = b
      · subst hkb; rw [hb] at hk; simp at hk; exact absurd hk (hn _ _ _)
      · exact ⟨a, t, fz, by simp only [hother k hkb]; exact hk, rfl⟩
    · intro k hk hne
      exact hother k (fun e => by subst e; exact hne l s z hm)
  refine ⟨st, ?_, H.inj, fun k hk => H.none k (by simpa using hk), fun b' j hk => by simpa using H.okb b' j hk, fun k b' s' z' hm' => by simpa using H.blk k b' s' z' hm', H.tbS st⟩
  intro k o1 hk
  by_cases hkl : k = l
  · subst hkl
    rw [List.getElem?_set_self (List.getElem?_eq_some_iff.1 ho).1] at hk
    simp at hk; subst hk
    exact ho' st
  · rw [List.getElem?_set_ne (fun e => hkl e.symm)] at hk
    refine (H.obj k o1 hk).keep st rfl (fun b' s' z' hm' => hother b' (fun e => ?_)) (fun _ _ _ _ _ hk => hk)
    subst e
    exact hkl (H.inj k l b' s' z' s z hm' hm)

theorem run_setObj {r : Nat} {o ob : Obj} (hb : w.heap[r]? = some ob) (hn : ∀ arr t fz, ob ≠ .cells arr t fz) : (setObj r o).run P w = .ok () { w with heap := w.heap.setIfInBounds r o } := by
  simp only [setObj, Sem.run, hb]
  try (cases ob <;> first | rfl | exact absurd rfl (hn _ _ _))

theorem run_getObj {r : Nat} {ob : Obj} (hb : w.heap[r]? = some ob) (hn : ∀ arr t fz, ob ≠ .cells arr t fz) : (getObj r).run P w = .ok ob w := by
  simp only [getObj, Sem.run, hb]
  try (cases ob <;> first | rfl | exact absurd rfl (hn _ _ _))

/-- Rows may be forgotten. -/
theorem trunc_rel {h : Heap} (H : HRel C w h) {l s imm z n : Nat} {es : List (List AV)} (ho : h[l]? = some (.arr s imm z es)) (_hn : imm ≤ n) : HRel C w (h.set l (.arr s imm z (es.take n))) := by
  refine ⟨fun k o hk => ?_, H.inj, fun k hk => H.none k (by simpa using hk), H.okb, H.blk, H.tb⟩
  by_cases hkl : k = l
  · subst hkl
    rw [List.getElem?_set_self (List.getElem?_eq_some_iff.1 ho).1] at hk
    simp at hk; subst hk
    have hobj := H.obj k _ ho
    simp only [orel] at hobj ⊢
    obtain ⟨h1, ob, h2, h3⟩ := hobj
    refine ⟨h1, ob, h2, ?_⟩
    cases ob with
    | none => simp only at h3; subst h3; simp
    | some b =>
      obtain ⟨arr, t, q1, q2, q3, q4⟩ := h3
      refine ⟨arr, t, q1, Nat.le_trans (Nat.mul_le_mul_right _ (by simp; omega)) q2, q3, fun i e hi => ?_⟩
      rw [List.getElem?_take] at hi
      split at hi
      · exact q4 i e hi
      · cases hi
  · rw [List.getElem?_set_ne (fun e => hkl e.symm)] at hk
    exact H.obj k o hk

theorem fillV_length {zero : List AV} : ∀ n, (fillV zero n).length = n * zero.length
  | 0 => by simp [fillV]
  | n + 1 => by simp [fillV, fillV_length n, Nat.add_mul, Nat.add_comm]

theorem fillV_get {zero : List AV} {z : Nat} (hz : zero.length = z) (hp : 0 < z) : ∀ {n k : Nat}, k < n * z → (fillV zero n)[k]? = zero[k % z]?
  | 0, k, h => by omega
  | n + 1, k, h => by
    simp only [fillV]
    rcases Nat.lt_or_ge k z with hk | hk
    · rw [List.getElem?_append_left (by omega), Nat.mod_eq_of_lt hk]
    · rw [List.getElem?_append_right (by omega), hz, fillV_get hz hp (by rw [Nat.add_mul] at h; omega), ← Nat.mod_eq_sub_mod hk]

theorem chunk_length {z : Nat} : ∀ {n : Nat} {cs : List AV}, (chunk z n cs).length = n
  | 0, _ => rfl
  | n + 1, cs => by simp [chunk, chunk_length]

theorem chunk_get {z : Nat} : ∀ {n i : Nat} {cs : List AV}, i < n → (chunk z n cs)[i]? = some ((cs.drop (i * z)).take z)
  | 0, _, _, h => by omega
  | n + 1, 0, cs, _ => by simp [chunk]
  | n + 1, i + 1, cs, h => by
    simp only [chunk, List.getElem?_cons_succ]
    rw [chunk_get (by omega), List.drop_drop, Nat.add_mul, Nat.one_mul, Nat.add_comm z]

/-- AN OPERATION THAT MAY CHANGE MEMORY does in the model what part 2 says. -/
theorem clear_sound {h : Heap} (H : HRel C w h) {t ty e : TypeId} {zv : Value} {l s imm z i n : Nat} {es : List (List AV)} {y : Value} (ht : P.underlying t = some (.slice e)) (hzv : (P.info? e).bind (·.zero) = some zv) (hz : zv.cells.size = z) (hz1 : ∀ v ∈ zv.cells.toList, v.oneCell' = true)
    (hx : vrel C w (.sl l s i n) y) (ho : h[l]? = some (.arr s imm z es)) (himm : imm ≤ i) :
    ∃ w', (Builtin.clear_ #[t] ty #[y]).run P w = .ok (.tuple #[]) w' ∧ Step C w C w' ∧ HRel C w' (h.set l (.arr s imm z (es.take i))) := by
  obtain ⟨z', ⟨imm', hobj⟩, hcase⟩ := rows_sound H hx (es := es) (by simp [Heap.rows, ho, ob_some, AObj.rows])
  rw [ho] at hobj
  simp at hobj
  obtain ⟨rfl, rfl⟩ := hobj
  have H1 := trunc_rel H ho himm
  rcases hcase with ⟨hm, rfl, rfl, rfl, rfl⟩ | ⟨b, cap, arr, t', hm, rfl, hcap, hb, hsz, _, _⟩
  · exact ⟨w, by simp [Builtin.clear_, run_underlying ht], .refl C w, H1⟩
  · rcases Nat.eq_zero_or_pos n with rfl | hn
    · exact ⟨w, by simp [Builtin.clear_, run_underlying ht], .refl C w, H1⟩
    · have hlen : ((Builtin.zeroCells zv.cells n).toList).length = n * z := by simp [zeroCells_size, hz]
      have hle : (i + n) * z ≤ arr.size := Nat.le_trans (Nat.mul_le_mul_right _ (by omega)) hsz
      rw [Nat.add_mul] at hle
      have hone : ∀ v ∈ (Builtin.zeroCells zv.cells n).toList, v.oneCell' = true := by
        intro v hv
        rcases Nat.eq_zero_or_pos z with hz0 | hzp
        · rw [hz0, Nat.mul_zero] at hlen
          rw [List.eq_nil_of_length_eq_zero hlen] at hv
          cases hv
        · simp only [Builtin.zeroCells] at hv
          simp only [Array.toList_map, List.mem_map] at hv
          obtain ⟨k, hk, rfl⟩ := hv
          refine hz1 _ ?_
          have hkz : k % zv.cells.size < zv.cells.size := Nat.mod_lt _ (by omega)
          rw [getElem!_pos zv.cells _ hkz]
          simp
      have hst := run_storeCells_at P b (i * z) t' _ 0 arr w hb (by rw [hlen]; omega) hone
      simp only [Nat.add_zero] at hst
      have hlt := (List.getElem?_eq_some_iff.1 ho).1
      have W := write_rel (arr' := (arr.toList.take (i * z) ++ (Builtin.zeroCells zv.cells n).toList ++ arr.toList.drop (i * z + (Builtin.zeroCells zv.cells n).toList.length)).toArray) (i := i) H1 (List.getElem?_set_self hlt) hm hb himm (by simp; omega) (by
          simp only [List.size_toArray, List.length_append, List.length_take, List.length_drop, Array.length_toList, hlen]
          omega) (fun k hk => by
          rw [List.getElem?_toArray, List.append_assoc, List.getElem?_append_left (by simp; omega), List.getElem?_take, if_pos hk]
          simp)
      refine ⟨_, ?_, W.1, W.2⟩
      have hn0 : n ≠ 0 := by omega
      obtain ⟨m, rfl⟩ : ∃ m, n = m + 1 := ⟨n - 1, by omega⟩
      simp [Builtin.clear_, run_underlying ht, zero_run hzv, hst]

/-- Nil slices taken for objects of one's own. -/
theorem own_sound : ∀ {own : List (Nat × Nat)} {cs : List AV} {ys : List Value} {C : Ctx} {h : Heap} {K : List AV → Heap → Prop}, HRel C w h → vrels C w cs ys → ownK own cs h K → ∃ C' cs' h', Step C w C' w ∧ HRel C' w h' ∧ vrels C' w cs' ys ∧ K cs' h' ∧ cs'.length = cs.length
  | [], cs, ys, C, h, K, H, hv, hk => ⟨C, cs, h, .refl C w, H, hv, hk, rfl⟩
  | (k, z) :: r, cs, ys, C, h, K, H, hv, hk => by
    simp only [ownK] at hk
    obtain ⟨h1, h2⟩ := hk
    split at h1
    · rename_i hk0
      have S := step_virtual (C := C) (w := w) (h := h) z
      have H' : HRel (C.new h.length none z) w (h ++ [.arr C.clk 0 z []]) := hrel_virtual H z (by simp only [orel]; exact ⟨by simp [Ctx.new], none, by simp [Ctx.new], trivial⟩)
      have hv' : vrels (C.new h.length none z) w (cs.set k (.sl h.length C.clk 0 0)) ys := by
        have hl := hv.length
        refine vrels.of_get (by simpa using hl) fun i v y hi hy => ?_
        by_cases hik : k = i
        · subst hik
          rw [List.getElem?_set_self (List.getElem?_eq_some_iff.1 hk0).1] at hi
          obtain rfl := Option.some.inj hi
          obtain ⟨y', g1, g2⟩ := hv.get hk0
          rw [hy] at g1
          obtain rfl := Option.some.inj g1
          simp only [vrel] at g2
          subst g2
          simp only [vrel]
          refine ⟨by simp [Ctx.new], ⟨_, _, _, rfl⟩, fun ob z' hm => ?_⟩
          simp [Ctx.new] at hm
          obtain ⟨rfl, rfl⟩ := hm
          simp
        · rw [List.getElem?_set_ne hik] at hi
          obtain ⟨y', g1, g2⟩ := hv.get hi
          rw [hy] at g1
          obtain rfl := Option.some.inj g1
          exact g2.mono S
      obtain ⟨C', cs', h', S', H'', hv'', hk', hl⟩ := own_sound H' hv' (h2 C.clk)
      exact ⟨C', cs', h', S.trans S', H'', hv'', hk', by simpa using hl⟩
    · exact h1.elim

theorem EOp.sound {o : Oper} {e : EOp} {st : St} {a : Act} {K Kp : AV → Heap → Prop} (hc : chkE P o e = true) (H : HRel C w st.h) (he : ERel C w st.env a.tmps) (h : e.wp P st K Kp) : o.wp P a w (Post C w o a K) (PostP C w a Kp) := by
  obtain ⟨dst, op, ty, pp, aft, gd⟩ := o
  cases e
  case alloc z =>
    cases op <;> first | (cases hc; done) | skip
    rename_i t
    simp only [chkE] at hc
    split at hc
    · rename_i zv hz
      simp only [EOp.wp] at h
      have hl := chkLeaves_sound (C := C) (w := w) hc
      refine wp_value (C' := C.new st.h.length (some w.heap.size) z.length) (w' := w.alloc (.cells zv.cells t)) (y := .pointer (some ⟨w.heap.size, 0, none⟩)) ?_ (step_new H _ _) (new_one H hl (chkLeaves_one hc)) ?_ (h C.clk)
      · simp [execOp, Instr.alloc, zero_run hz, newVar, newRow]
      · have := ptr_new (C := C) (w := w) (w' := w.alloc (.cells zv.cells t)) (h := st.h) (z := z.length) (i := 0) (off := 0)
        simpa using this
    · cases hc
  case box n y =>
    cases op <;> first | (cases hc; done) | skip
    rename_i t x
    simp only [chkE] at hc
    simp only [EOp.wp] at h
    obtain ⟨v, h1, ⟨hl, hone⟩, hk⟩ := oK_of h
    have hv := ev_sound hc he h1 rfl
    have hcs := cells_sound hv hone
    have hn := new_one (t := t) H hcs hone
    rw [hl] at hn
    refine wp_value (C' := C.new st.h.length (some w.heap.size) n) (w' := w.alloc (.cells (a.eval x).cells t)) (y := .pointer (some ⟨w.heap.size, 0, none⟩)) ?_ (step_new H _ _) hn ?_ (hk C.clk)
    · simp [execOp, Instr.box, newVar, newRow]
    · have := ptr_new (C := C) (w := w) (w' := w.alloc (.cells (a.eval x).cells t)) (h := st.h) (z := n) (i := 0) (off := 0)
      simpa using this
  case allocv own z =>
    cases op <;> first | (cases hc; done) | skip
    rename_i t
    simp only [chkE] at hc
    split at hc
    · rename_i zv hz
      simp only [EOp.wp] at h
      have hl := chkLeaves_sound (C := C) (w := w) hc
      obtain ⟨C1, cs, h1, S1, H1, hv1, ⟨hone, hk⟩, hlen⟩ := own_sound H hl h
      have hnew := new_one (t := t) H1 hv1 hone
      rw [hlen] at hnew
      refine wp_value (C' := C1.new h1.length (some w.heap.size) z.length) (w' := w.alloc (.cells zv.cells t)) (y := .pointer (some ⟨w.heap.size, 0, none⟩)) ?_ (S1.trans (step_new H1 _ _)) hnew ?_ (hk C1.clk)
      · simp [execOp, Instr.alloc, zero_run hz, newVar, newRow]
      · have := ptr_new (C := C1) (w := w) (w' := w.alloc (.cells zv.cells t)) (h := h1) (z := z.length) (i := 0) (off := 0)
        simpa using this
    · cases hc
  case boxv n own y =>
    cases op <;> first | (cases hc; done) | skip
    rename_i t x
    simp only [chkE] at hc
    simp only [EOp.wp] at h
    obtain ⟨v, h1, hone0, h⟩ := oK_of h
    have hv := ev_sound hc he h1 rfl
    have hcs := cells_sound hv hone0
    obtain ⟨C1, cs, h1, S1, H1, hv1, ⟨⟨hl, hone⟩, hk⟩, hlen⟩ := own_sound H hcs h
    have hn := new_one (t := t) H1 hv1 hone
    rw [hl] at hn
    refine wp_value (C' := C1.new h1.length (some w.heap.size) n) (w' := w.alloc (.cells (a.eval x).cells t)) (y := .pointer (some ⟨w.heap.size, 0, none⟩)) ?_ (S1.trans (step_new H1 _ _)) hn ?_ (hk C1.clk)
    · simp [execOp, Instr.box, newVar, newRow]
    · have := ptr_new (C := C1) (w := w) (w' := w.alloc (.cells (a.eval x).cells t)) (h := h1) (z := n) (i := 0) (off := 0)
      simpa using this
  case clear z y =>
    cases op <;> first | (cases hc; done) | skip
    rename_i c
    obtain ⟨callee, cargs, ctys⟩ := c
    simp only [chkE] at hc
    split at hc
    · rename_i a0 t e1 e2
      simp only [Bool.and_eq_true] at hc
      obtain ⟨hT, ha⟩ := hc
      split at hT
      · rename_i e hu
        split at hT
        · rename_i zv hzv
          simp only [Bool.and_eq_true, decide_eq_true_eq] at hT
          obtain ⟨hz, hz1⟩ := hT
          simp only [EOp.wp] at h
          obtain ⟨v, h1, h⟩ := oK_of h
          obtain ⟨q, h2, h⟩ := oK_of h
          obtain ⟨o, h3, h⟩ := oK_of h
          obtain ⟨r, h4, ⟨h5, h6, h7⟩, hk⟩ := oK_of h
          have hv := ev_sound ha he h1 rfl
          cases v <;> simp only [asSl] at h2
          case sl l s i n =>
            obtain rfl := Option.some.inj h2
            cases o <;> simp only [asArr] at h4
            case arr s' imm z' es =>
              obtain rfl := Option.some.inj h4
              simp only at h3 h5 h6 h7 hk
              subst h5; subst h7
              obtain ⟨w', g1, g2, g3⟩ := clear_sound (P := P) (ty := ty) H hu hzv hz (fun v hv => List.all_eq_true.1 hz1 v hv) hv h3 h6
              refine wp_value (C' := C) (v := .dead) (w' := w') (y := .tuple #[]) ?_ g2 g3 (by simp [vrel]) hk
              have ea : cargs = #[a0] := by apply Array.ext'; simpa using e1
              have et : ctys = #[t] := by apply Array.ext'; simpa using e2
              subst ea; subst et
              simp [execOp, resolve, invoke, builtin, g1]
            all_goals cases h4
          all_goals cases h2
        · cases hT
      · cases hT
    · cases hc
  case stnv n own x y =>
    cases op <;> first | (cases hc; done) | skip
    rename_i t x' y'
    simp only [chkE, Bool.and_eq_true, decide_eq_true_eq] at hc
    simp only [EOp.wp] at h
    obtain ⟨p, h1, h⟩ := oK_of h
    obtain ⟨v, h2, h⟩ := oK_of h
    obtain ⟨cs, h5, h⟩ := oK_of h
    have hp := ev_sound hc.1.2 he h1 rfl
    have hv := ev_sound hc.2 he h2 rfl
    cases v <;> simp only [asAgg] at h5
    case agg cs0 =>
      simp at h5; subst h5
      simp only [vrel] at hv
      obtain ⟨xs, hx, hvs⟩ := hv
      obtain ⟨C1, cs', h1', S1, H1, hvs, h, hlen⟩ := own_sound H hvs h
      obtain ⟨h', h3, hk⟩ := oK_of h
      have hp := hp.mono S1
      by_cases hcond : cs'.length = n ∧ cs'.all AV.one = true
      · obtain ⟨hl, hone⟩ := hcond
        have hlx := hvs.length
        obtain ⟨b, off, w', e1, e2, e3, e4⟩ := store_sound (P := P) H1 hp h3 (vs := cs') (ys := xs.toList) (n := n) (fun r r' hr => by
          rw [if_pos ⟨hl, hone⟩] at hr
          exact putL_some hr) hvs hone
        refine wp_skip (C' := C1) (w' := w') ?_ (S1.trans e3) e4 hk
        simp at hlx
        simp [execOp, Instr.storeAt, Instr.sureAddr, e1, storeVar, run_sizeB hc.1.1, hx, Value.cells, e2, hlx, hl]
      · exfalso
        cases p <;> try simp only [storeH] at h3
        case ptr =>
          obtain ⟨_, _, h3⟩ := ob_eq_some h3
          obtain ⟨_, _, h3⟩ := ob_eq_some h3
          split at h3
          · obtain ⟨_, _, h3⟩ := ob_eq_some h3
            obtain ⟨_, h4, _⟩ := ob_eq_some h3
            first
              | cases h4; done
              | (rw [if_neg hcond] at h4; cases h4)
          · cases h3
        all_goals cases h3
    all_goals cases h5
  case bsl z len zero parts =>
    cases op <;> first | (cases hc; done) | skip
    rename_i t len' parts'
    simp only [chkE] at hc
    split at hc
    · rename_i e hu
      simp only [Bool.and_eq_true, decide_eq_true_eq] at hc
      obtain ⟨⟨⟨⟨⟨⟨hsz, hzp⟩, rfl⟩, hbig⟩, hlp⟩, hz⟩, hparts⟩ := hc
      split at hz
      · rename_i zv hzv
        simp only [Bool.and_eq_true, decide_eq_true_eq] at hz
        obtain ⟨hzl, hzs⟩ := hz
        simp only [EOp.wp] at h
        obtain ⟨ps, h1, h⟩ := oK_of h
        obtain ⟨cs, h2, ⟨hl, hone⟩, hk⟩ := oK_of h
        have hz0 := chkLeaves_sound (C := C) (w := w) hzl
        have hz0l := hz0.length
        simp at hz0l
        have hfill : vrels C w (fillV zero len') ((Array.range (len' * z)).map (zv.cells[· % zv.cells.size]!)).toList := by
          refine vrels.of_get (by simp [fillV_length]; rw [← hz0l, hzs]) fun i v y hv hy => ?_
          have hi : i < len' * z := by
            have := (List.getElem?_eq_some_iff.1 hy).1
            simpa using this
          rw [fillV_get (by omega) hzp hi] at hv
          simp [hi] at hy
          subst hy
          obtain ⟨y', g1, g2⟩ := hz0.get hv
          rw [hzs]
          simp at g1
          rw [getElem!_def, g1]
          exact g2
        obtain ⟨zc, e1, e2⟩ := evParts_sound he rfl hparts h1 h2 hfill
        simp only [Bool.or_eq_true, Bool.and_eq_true, decide_eq_true_eq] at hlp
        rcases hlp with hlp | ⟨hl0, hpe⟩
        case inr =>
          subst hl0
          have hpn : parts'.toList = [] := by simpa using hpe
          have hrun : (Instr.buildSlice t 0 (parts'.map fun (i, x) => (i, a.eval x))).run P w = .ok (.slice (some ⟨w.heap.size, 0, none⟩) 0 0) (w.alloc (.cells #[] e)) := by
            have : (parts'.map fun (i, x) => (i, a.eval x)).toList = [] := by simp [hpn]
            unfold Instr.buildSlice
            simp only [Sem.run_bind, run_underlying hu, Result.andThen_ok, run_sizeB hsz]
            rw [if_neg (by omega), if_pos (by omega)]
            simp only [Sem.run_bind, Sem.run_pure, Result.andThen_ok]
            rw [this]
            simp [newRow, Instr.fill, show Array.range 0 = #[] from rfl]
          refine wp_value (C' := C.new st.h.length (some w.heap.size) z) (w' := w.alloc (.cells #[] e)) (y := .slice (some ⟨w.heap.size, 0, none⟩) 0 0) ?_ (step_new H _ _) (new_rows H ?_ ?_) ?_ (hk C.clk)
          · simp [execOp, hrun]
          · simp [chunk]
          · intro i r hi; simp [chunk] at hi
          · simp only [vrel]
            refine ⟨by simp [Ctx.new], ⟨_, _, _, rfl⟩, fun ob z' hm => ?_⟩
            simp [Ctx.new] at hm
            obtain ⟨rfl, rfl⟩ := hm
            exact ⟨0, by simp, Nat.le_refl _, #[], e, _, heap_alloc_new w _, by simp⟩
        have hrun : (Instr.buildSlice t len' (parts'.map fun (i, x) => (i, a.eval x))).run P w = .ok (.slice (some ⟨w.heap.size, 0, none⟩) len' len') (w.alloc (.cells zc e)) := by
          have hne : ¬ len' * z = 0 := by
            intro h0
            rcases Nat.mul_eq_zero.1 h0 with h0 | h0 <;> omega
          have : (parts'.map fun (i, x) => (i, a.eval x)).toList = parts'.toList.map fun q => (q.1, a.eval q.2) := by simp
          unfold Instr.buildSlice
          simp only [Sem.run_bind, run_underlying hu, Result.andThen_ok, run_sizeB hsz]
          rw [if_neg (by omega), if_neg hne]
          simp only [Sem.run_bind, Sem.run_pure, zero_run hzv, Result.andThen_ok]
          rw [this, e1]
          simp [newRow]
        refine wp_value (C' := C.new st.h.length (some w.heap.size) z) (w' := w.alloc (.cells zc e)) (y := .slice (some ⟨w.heap.size, 0, none⟩) len' len') ?_ (step_new H _ _) (new_rows H ?_ ?_) ?_ (hk C.clk)
        · simp [execOp, hrun]
        · rw [chunk_length]; have := e2.length; simp at this; omega
        · intro i r hi
          have hil : i < len' := by have := (List.getElem?_eq_some_iff.1 hi).1; rwa [chunk_length] at this
          rw [chunk_get hil] at hi
          obtain rfl := Option.some.inj hi
          have hb : (i + 1) * z ≤ len' * z := Nat.mul_le_mul_right _ hil
          rw [Nat.add_mul] at hb
          refine ⟨by simp; omega, fun j v hj => ?_⟩
          have hjz : j < z := by
            have := (List.getElem?_eq_some_iff.1 hj).1
            simp at this; omega
          rw [List.getElem?_take, if_pos hjz, List.getElem?_drop] at hj
          obtain ⟨y, g1, g2⟩ := e2.get hj
          exact ⟨y, by simpa using g1, oneCell_of g2 (List.all_eq_true.1 hone v (List.mem_of_getElem? hj)), g2⟩
        · simp only [vrel]
          refine ⟨by simp [Ctx.new], ⟨_, _, _, rfl⟩, fun ob z' hm => ?_⟩
          simp [Ctx.new] at hm
          obtain ⟨rfl, rfl⟩ := hm
          have := e2.length
          simp at this
          exact ⟨len', by simp, Nat.le_refl _, zc, e, _, heap_alloc_new w _, by simp; omega⟩
      · cases hz
    · cases hc
  case bslz z len zero parts =>
    cases op <;> first | (cases hc; done) | skip
    rename_i t len' parts'
    simp only [chkE] at hc
    split at hc
    · rename_i e hu
      simp only [Bool.and_eq_true, decide_eq_true_eq] at hc
      obtain ⟨⟨⟨⟨⟨⟨hsz, hzp⟩, rfl⟩, hbig⟩, hlp⟩, hz⟩, hparts⟩ := hc
      split at hz
      · rename_i zv hzv
        simp only [Bool.and_eq_true, decide_eq_true_eq] at hz
        obtain ⟨hzl, hzs⟩ := hz
        simp only [EOp.wp] at h
        obtain ⟨ps, h1, h⟩ := oK_of h
        obtain ⟨cs, h2, ⟨hl, hone⟩, hk⟩ := oK_of h
        have hz0 := chkLeaves_sound (C := C) (w := w) hzl
        have hz0l := hz0.length
        simp at hz0l
        have hfill : vrels C w (fillV zero len') ((Array.range (len' * z)).map (zv.cells[· % zv.cells.size]!)).toList := by
          refine vrels.of_get (by simp [fillV_length]; rw [← hz0l, hzs]) fun i v y hv hy => ?_
          have hi : i < len' * z := by
            have := (List.getElem?_eq_some_iff.1 hy).1
            simpa using this
          rw [fillV_get (by omega) hzp hi] at hv
          simp [hi] at hy
          subst hy
          obtain ⟨y', g1, g2⟩ := hz0.get hv
          rw [hzs]
          simp at g1
          rw [getElem!_def, g1]
          exact g2
        obtain ⟨zc, e1, e2⟩ := evParts_sound he rfl hparts h1 h2 hfill
        have e2l := e2.length
        simp at e2l
        obtain ⟨C1, S1, H1, e2⟩ := frzCs_sound (n0 := 0) H e2
        generalize hq : frzCs 0 st.h cs = q at hl hone hk H1 e2
        obtain ⟨cs1, h1'⟩ := q
        simp only at hl hone hk H1 e2
        have hrun : (Instr.buildSlice t len' (parts'.map fun (i, x) => (i, a.eval x))).run P w = .ok (.slice (some ⟨w.heap.size, 0, none⟩) len' len') (w.alloc (.cells zc e)) := by
          have hne : ¬ len' * z = 0 := by
            intro h0
            rcases Nat.mul_eq_zero.1 h0 with h0 | h0 <;> omega
          have : (parts'.map fun (i, x) => (i, a.eval x)).toList = parts'.toList.map fun q => (q.1, a.eval q.2) := by simp
          unfold Instr.buildSlice
          simp only [Sem.run_bind, run_underlying hu, Result.andThen_ok, run_sizeB hsz]
          rw [if_neg (by omega), if_neg hne]
          simp only [Sem.run_bind, Sem.run_pure, zero_run hzv, Result.andThen_ok]
          rw [this, e1]
          simp [newRow]
        refine wp_value (C' := C1.new h1'.length (some w.heap.size) z) (w' := w.alloc (.cells zc e)) (y := .slice (some ⟨w.heap.size, 0, none⟩) len' len') ?_ (S1.trans (step_new H1 _ _)) (new_rows H1 ?_ ?_) ?_ (hk C1.clk)
        · simp [execOp, hrun]
        · rw [chunk_length]; have := e2.length; simp at this; omega
        · intro i r hi
          have hil : i < len' := by have := (List.getElem?_eq_some_iff.1 hi).1; rwa [chunk_length] at this
          rw [chunk_get hil] at hi
          obtain rfl := Option.some.inj hi
          have hb : (i + 1) * z ≤ len' * z := Nat.mul_le_mul_right _ hil
          rw [Nat.add_mul] at hb
          refine ⟨by simp; omega, fun j v hj => ?_⟩
          have hjz : j < z := by
            have := (List.getElem?_eq_some_iff.1 hj).1
            simp at this; omega
          rw [List.getElem?_take, if_pos hjz, List.getElem?_drop] at hj
          obtain ⟨y, g1, g2⟩ := e2.get hj
          exact ⟨y, by simpa using g1, oneCell_of g2 (List.all_eq_true.1 hone v (List.mem_of_getElem? hj)), g2⟩
        · simp only [vrel]
          refine ⟨by simp [Ctx.new], ⟨_, _, _, rfl⟩, fun ob z' hm => ?_⟩
          simp [Ctx.new] at hm
          obtain ⟨rfl, rfl⟩ := hm
          have := e2.length
          simp at this
          exact ⟨len', by simp, Nat.le_refl _, zc, e, _, heap_alloc_new w _, by simp; omega⟩
      · cases hz
    · cases hc
  case st x y =>
    cases op <;> first | (cases hc; done) | skip
    rename_i t x' y'
    simp only [chkE, Bool.and_eq_true, decide_eq_true_eq] at hc
    simp only [EOp.wp] at h
    obtain ⟨p, h1, h⟩ := oK_of h
    obtain ⟨v, h2, h⟩ := oK_of h
    obtain ⟨h', h3, hk⟩ := oK_of h
    have hp := ev_sound hc.1.2 he h1 rfl
    have hv := ev_sound hc.2 he h2 rfl
    by_cases hone : v.one = true
    · have ho := oneCell_of hv hone
      have hcells : (a.eval y').cells = #[a.eval y'] := by
        revert ho; cases a.eval y' <;> simp [Value.oneCell', Value.cells]
      obtain ⟨b, off, w', e1, e2, e3, e4⟩ := store_sound (P := P) H hp h3 (vs := [v]) (ys := [a.eval y']) (n := 1) (fun r r' hr => by
        unfold setL at hr
        split at hr
        · rename_i hcond
          simp at hr; subst hr
          refine ⟨by simp; omega, ?_⟩
          rw [List.set_eq_take_append_cons_drop, if_pos hcond.1]
          simp
        · cases hr) (by simp only [vrels]; exact ⟨_, _, rfl, hv, rfl⟩) (by simp [hone])
      refine wp_skip (C' := C) (w' := w') ?_ e3 e4 hk
      simp [execOp, Instr.storeAt, Instr.sureAddr, e1, storeVar, run_sizeB hc.1.1, hcells, e2]
    · exfalso
      cases p <;> try simp only [storeH] at h3
      case ptr =>
        obtain ⟨_, _, h3⟩ := ob_eq_some h3
        obtain ⟨_, _, h3⟩ := ob_eq_some h3
        split at h3
        · obtain ⟨_, _, h3⟩ := ob_eq_some h3
          obtain ⟨_, h4, _⟩ := ob_eq_some h3
          simp [setL, hone] at h4
        · cases h3
      all_goals cases h3
  case stn n x y =>
    cases op <;> first | (cases hc; done) | skip
    rename_i t x' y'
    simp only [chkE, Bool.and_eq_true, decide_eq_true_eq] at hc
    simp only [EOp.wp] at h
    obtain ⟨p, h1, h⟩ := oK_of h
    obtain ⟨v, h2, h⟩ := oK_of h
    obtain ⟨cs, h5, h⟩ := oK_of h
    obtain ⟨h', h3, hk⟩ := oK_of h
    have hp := ev_sound hc.1.2 he h1 rfl
    have hv := ev_sound hc.2 he h2 rfl
    cases v <;> simp only [asAgg] at h5
    case agg cs' =>
      simp at h5; subst h5
      simp only [vrel] at hv
      obtain ⟨xs, hx, hvs⟩ := hv
      by_cases hcond : cs'.length = n ∧ cs'.all AV.one = true
      · obtain ⟨hl, hone⟩ := hcond
        have hlx := hvs.length
        obtain ⟨b, off, w', e1, e2, e3, e4⟩ := store_sound (P := P) H hp h3 (vs := cs') (ys := xs.toList) (n := n) (fun r r' hr => by
          rw [if_pos ⟨hl, hone⟩] at hr
          exact putL_some hr) hvs hone
        refine wp_skip (C' := C) (w' := w') ?_ e3 e4 hk
        have hsz : ¬ xs.size ≠ n := by simp at hlx; omega
        simp at hlx
        simp [execOp, Instr.storeAt, Instr.sureAddr, e1, storeVar, run_sizeB hc.1.1, hx, Value.cells, e2, hlx, hl]
      · exfalso
        cases p <;> try simp only [storeH] at h3
        case ptr =>
          obtain ⟨_, _, h3⟩ := ob_eq_some h3
          obtain ⟨_, _, h3⟩ := ob_eq_some h3
          split at h3
          · obtain ⟨_, _, h3⟩ := ob_eq_some h3
            obtain ⟨_, h4, _⟩ := ob_eq_some h3
            first
              | cases h4; done
              | (rw [if_neg hcond] at h4; cases h4)
          · cases h3
        all_goals cases h3
    all_goals cases h5
  case call f args frz =>
    cases op <;> first | (cases hc; done) | skip
    rename_i c
    obtain ⟨callee, cargs, ctys⟩ := c
    simp only [chkE] at hc
    split at hc
    · simp only [Bool.and_eq_true, decide_eq_true_eq] at hc
      obtain ⟨⟨rfl, hgo⟩, hargs⟩ := hc
      simp only [EOp.wp] at h
      obtain ⟨vs, h1, hk⟩ := oK_of h
      have hvs := evs_sound he rfl hargs h1
      have hrun : (execOp a.eval ⟨dst, .call ⟨.value (.func f), cargs, ctys⟩, ty, pp, aft, gd⟩).run P w = .ok (.enter f (cargs.map a.eval)) w := by
        simp [execOp, resolve, Act.eval, Deferred.ofValue, invoke, run_callFunc hgo]
      have harr : cargs.map a.eval = (cargs.toList.map a.eval).toArray := by apply Array.ext'; simp
      cases frz with
      | true =>
        obtain ⟨C1, s1, H1, r1⟩ := frzs_sound (n0 := 0) H hvs
        exact call_sound hrun harr s1 H1 r1 hk
      | false => exact call_sound hrun harr (.refl C w) H hvs hk
    · cases hc
  case callv x args frz =>
    cases op <;> first | (cases hc; done) | skip
    rename_i c
    obtain ⟨callee, cargs, ctys⟩ := c
    simp only [chkE] at hc
    split at hc
    · rename_i t
      simp only [Bool.and_eq_true] at hc
      simp only [EOp.wp] at h
      obtain ⟨xv, h0, h⟩ := oK_of h
      obtain ⟨fn, h2, h⟩ := oK_of h
      obtain ⟨vs, h1, hk⟩ := oK_of h
      have hvs := evs_sound he rfl hc.2 h1
      have hx := ev_sound hc.1 he h0 rfl
      cases xv <;> simp only [asFn] at h2
      case fn f fi ca =>
        simp at h2; subst h2
        simp only [vrel] at hx
        obtain ⟨xs, ys, hf, q1, q2⟩ := hx
        have hgo : goFunc P f = true := hk.choose_spec.1.1
        have hrun : (execOp a.eval ⟨dst, .call ⟨.value (.tmp t), cargs, ctys⟩, ty, pp, aft, gd⟩).run P w = .ok (.enter f (xs ++ cargs.map a.eval ++ ys)) w := by
          simp [execOp, resolve, hf, Deferred.ofValue, invoke, run_callFunc hgo]
        have app : ∀ {C2 : Ctx} {a1 a2 : List AV} {b1 b2 : List Value}, vrels C2 w a1 b1 → vrels C2 w a2 b2 → vrels C2 w (a1 ++ a2) (b1 ++ b2) := by
          intro C2 a1 a2 b1 b2 g1 g2
          induction a1 generalizing b1 with
          | nil => simp [vrels] at g1; subst g1; exact g2
          | cons u us ih =>
            simp only [vrels] at g1
            obtain ⟨y, zs, rfl, g3, g4⟩ := g1
            simp only [List.cons_append, vrels]
            exact ⟨y, _, rfl, g3, ih g4⟩
        have harr : xs ++ cargs.map a.eval ++ ys = (xs.toList ++ cargs.toList.map a.eval ++ ys.toList).toArray := by
          apply Array.ext'; simp
        cases frz with
        | true =>
          obtain ⟨C1, s1, H1, r1⟩ := frzs_sound (n0 := 0) H hvs
          exact call_sound hrun harr s1 H1 (app (app (q1.mono s1) r1) (q2.mono s1)) hk
        | false => exact call_sound hrun harr (.refl C w) H (app (app q1 hvs) q2) hk
      all_goals cases h2
    · cases hc
  case app z by_ x y =>
    cases op <;> first | (cases hc; done) | skip
    rename_i c
    obtain ⟨callee, cargs, ctys⟩ := c
    simp only [chkE] at hc
    split at hc
    · rename_i a0 b0 t t2 e1 e2
      simp only [Bool.and_eq_true] at hc
      obtain ⟨⟨⟨hT, hT2⟩, ha⟩, hb⟩ := hc
      split at hT
      · rename_i e ht
        split at hT
        · rename_i info hi
          simp only [Bool.and_eq_true, decide_eq_true_eq] at hT
          obtain ⟨⟨⟨⟨hz, hby⟩, hzp⟩, hbp⟩, hzv⟩ := hT
          split at hzv
          · rename_i zv hzero
            simp only [decide_eq_true_eq] at hzv
            simp only [EOp.wp] at h
            obtain ⟨sv, h1, h⟩ := oK_of h
            obtain ⟨q, h2, h⟩ := oK_of h
            obtain ⟨xv, h3, h⟩ := oK_of h
            obtain ⟨ob, h4, h⟩ := oK_of h
            obtain ⟨r, h5, h⟩ := oK_of h
            obtain ⟨xs, h6, ⟨g1, g2, g3, g4, g5, g6, g7⟩, hk⟩ := oK_of h
            have hs := ev_sound ha he h1 rfl
            have hx := ev_sound hb he h3 rfl
            cases sv <;> simp only [asSl] at h2
            case sl l s i n =>
              simp at h2; subst h2
              cases ob <;> simp only [asArr] at h5
              case arr s' imm z' es =>
                simp at h5; subst h5
                simp only at g1 g2 g3 g4 g5 g6
                subst g1; subst g2; subst g3
                have hd2 : ∃ d2, P.underlying t2 = some d2 ∧ ((∃ e', d2 = .slice e') ∨ d2 = .string) := by
                  split at hT2
                  · exact ⟨_, ‹_›, .inl ⟨_, rfl⟩⟩
                  · exact ⟨_, ‹_›, .inr rfl⟩
                  · cases hT2
                obtain ⟨d2, ht2, hd⟩ := hd2
                have H1 := trunc_rel H h4 g5
                have h4' : (st.h.set l (.arr s imm z (es.take n)))[l]? = some (.arr s imm z (es.take n)) := by
                  rw [List.getElem?_set_self (List.getElem?_eq_some_iff.1 h4).1]
                have hlen : n = (es.take n).length := by simp; omega
                obtain ⟨C', yv, w', q1, q2, q3, q4⟩ := app_sound (ty := ty) H1 ht ht2 hd hi hzero hz hby hzv hzp hbp rfl hs hx h4' hlen (by rw [← hlen]; exact g5) h6 g6 g7
                rw [List.set_set] at q3
                obtain ⟨cargs⟩ := cargs
                obtain ⟨ctys⟩ := ctys
                simp only at e1 e2
                subst e1; subst e2
                refine wp_value (C' := C') (w' := w') (y := yv) ?_ q2 q3 q4 (hk C.clk)
                simp [execOp, resolve, invoke, builtin, q1]
              all_goals cases h5
            all_goals cases h2
          · cases hzv
        · cases hT
      · cases hT
    · cases hc
  case vnil z =>
    cases op <;> first | (cases hc; done) | skip
    rename_i x
    have hx := isNilSl_of hc
    subst hx
    simp only [EOp.wp] at h
    refine wp_value (C' := C.new st.h.length none z) (w' := w) (y := .slice none 0 0) rfl (step_virtual z) (hrel_virtual H z ?_) ?_ (h C.clk)
    · simp only [orel]; exact ⟨by simp [Ctx.new], none, by simp [Ctx.new], by trivial⟩
    · simp only [vrel]
      refine ⟨by simp [Ctx.new], ⟨_, _, _, rfl⟩, fun ob z' hm => ?_⟩
      simp [Ctx.new] at hm
      obtain ⟨rfl, rfl⟩ := hm
      simp
  case mkmap =>
    cases op <;> first | (cases hc; done) | skip
    rename_i t r
    cases r with
    | some x => cases hc
    | none =>
      simp only [EOp.wp] at h
      refine wp_value (C' := C.new st.h.length (some w.heap.size) 0) (w' := w.alloc (.map #[] 0)) (y := .map (some w.heap.size)) ?_ (step_new H _ _) (hrel_new H _ _ ?_) ?_ (h C.clk)
      · simp [execOp, Instr.makeMap]
      · simp only [orel]
        exact ⟨by simp [Ctx.new], w.heap.size, by simp [Ctx.new], #[], 0, heap_alloc_new w _, by simp, by simp⟩
      · simp only [vrel]
        refine ⟨by simp [Ctx.new], ⟨_, rfl⟩, fun b z hm => ?_⟩
        simp [Ctx.new] at hm
        obtain ⟨rfl, rfl⟩ := hm
        rfl
  case mapup kk m k v =>
    have main : ∀ {t : TypeId} {m' k' v' : Operand} (hop : op = .mapUpdate t m' k' v' ∨ op = .insert t m' k' v'), ((match P.underlying t with | some (.map kt _) => keyTy P kt kk | _ => false) && chkO m' m && chkO k' k && chkO v' v) = true →
        Oper.wp P ⟨dst, op, ty, pp, aft, gd⟩ a w (Post C w ⟨dst, op, ty, pp, aft, gd⟩ a K) (PostP C w a Kp) := by
      intro t m' k' v' hop hc
      simp only [Bool.and_eq_true] at hc
      obtain ⟨⟨⟨hT, hmm⟩, hkk⟩, hvv⟩ := hc
      split at hT
      · rename_i kt et hu
        obtain ⟨d, huk, hd⟩ := kind_of hT
        simp only [EOp.wp] at h
        obtain ⟨mv, h1, h⟩ := oK_of h
        obtain ⟨q, h2, h⟩ := oK_of h
        obtain ⟨kv, h3, h⟩ := oK_of h
        obtain ⟨vv, h4, h⟩ := oK_of h
        obtain ⟨o, h5, h⟩ := oK_of h
        obtain ⟨r, h6, h⟩ := oK_of h
        obtain ⟨es', h7, ⟨hs, hone⟩, hk⟩ := oK_of h
        have rm := ev_sound hmm he h1 rfl
        have rk := ev_sound hkk he h3 rfl
        have rv := ev_sound hvv he h4 rfl
        cases mv <;> simp only [asMp] at h2
        case mp l s =>
          simp at h2; subst h2
          cases o <;> simp only [asMpO] at h6
          case mp s' es =>
            simp at h6; subst h6
            simp only at hs h7 hk h5
            subst hs
            obtain ⟨b, xs, clock, hm, hy, hb, hent⟩ := mp_obj H rm h5
            have hlt : s < C.clk := by simp only [vrel] at rm; exact rm.1
            have hgo := run_getObj (P := P) hb (by intro _ _ _ h; cases h)
            have hck := run_checkKey (P := P) (w := w) huk hd false 9999 (a.eval k')
            have hfnd : ∃ r, mfind kk kv es = some r := by
              cases hf : mfind kk kv es with
              | some r => exact ⟨r, rfl⟩
              | none =>
                exfalso
                have : ∀ es : List (AV × AV), mfind kk kv es = none → mput kk kv vv es = none := by
                  intro es
                  induction es with
                  | nil => simp [mfind]
                  | cons e es ih =>
                    intro hn
                    simp only [mfind, mput] at hn ⊢
                    cases hke : keyEq kk kv e.1 with
                    | none => rfl
                    | some b =>
                      rw [hke] at hn
                      cases b with
                      | true => simp [ob_some] at hn
                      | false =>
                        simp [ob_some] at hn
                        simp [ob_some, ih hn, ob_none]
                rw [this es hf] at h7
                cases h7
            obtain ⟨r, hr⟩ := hfnd
            have hf := find_sound hd rk 0 hent hr
            cases r with
            | none =>
              obtain ⟨f1, f2⟩ := hf
              rw [f2 vv] at h7
              obtain rfl := Option.some.inj h7
              have hso := run_setObj (P := P) (o := .map (xs.push { key := a.eval k', val := a.eval v', born := clock }) (clock + 1)) hb (by intro _ _ _ h; cases h)
              have hu' := upd_rel H h5 hm hb (by intro _ _ _ h; cases h) (ob' := .map (xs.push { key := a.eval k', val := a.eval v', born := clock }) (clock + 1)) (o' := .mp s (es ++ [(kv, vv)])) (by intro _ _ _ h; cases h)
                (fun st => by
                  simp only [orel]
                  refine ⟨hlt, b, hm, xs.push { key := a.eval k', val := a.eval v', born := clock }, clock + 1, by simp [(Array.getElem?_eq_some_iff.1 hb).1], by simpa using hent.1, fun i e x g1 g2 => ?_⟩
                  have hl := hent.1
                  simp at hl
                  rcases Nat.lt_trichotomy i es.length with hi | hi | hi
                  · rw [List.getElem?_append_left hi] at g1
                    rw [Array.getElem?_push_lt (by omega)] at g2
                    have := hent.2 i e x g1 (by simpa [Array.getElem?_eq_getElem (show i < xs.size by omega)] using g2)
                    exact ⟨this.1.mono st, this.2.mono st⟩
                  · subst hi
                    simp at g1; subst g1
                    rw [← hl] at g2
                    simp at g2; subst g2
                    exact ⟨rk.mono st, rv.mono st⟩
                  · rw [List.getElem?_eq_none (by simp; omega)] at g1; cases g1)
              refine wp_skip ?_ hu'.1 hu'.2 hk
              rcases hop with rfl | rfl <;> simp [execOp, Instr.mapUpdate, run_underlying hu, hy, hgo, hck, run_findKey huk f1, hso]
            | some v0 =>
              obtain ⟨i, x, f1, f2, f3, f4, f5⟩ := hf
              rw [f5 vv] at h7
              obtain rfl := Option.some.inj h7
              simp only [Nat.zero_add] at f2
              have hxi : xs[i]? = some x := by simpa using f1
              have hkt : (Instr.keyThatStays (((xs[i]?).map (·.key)).getD (a.eval k')) (a.eval k')).run P w = .ok (a.eval k') w := by
                simp [Instr.keyThatStays, hxi, f4]
              have hso := run_setObj (P := P) (o := .map (xs.modify i fun e => { e with key := a.eval k', val := a.eval v' }) clock) hb (by intro _ _ _ h; cases h)
              have hu' := upd_rel H h5 hm hb (by intro _ _ _ h; cases h) (ob' := .map (xs.modify i fun e => { e with key := a.eval k', val := a.eval v' }) clock) (o' := .mp s (es.set i (kv, vv))) (by intro _ _ _ h; cases h)
                (fun st => by
                  simp only [orel]
                  refine ⟨hlt, b, hm, xs.modify i fun e => { e with key := a.eval k', val := a.eval v' }, clock, by simp [(Array.getElem?_eq_some_iff.1 hb).1], by simpa using hent.1, fun j e y g1 g2 => ?_⟩
                  rw [Array.getElem?_modify] at g2
                  by_cases hij : i = j
                  · subst hij
                    have hl := hent.1
                    simp at hl
                    have : i < es.length := by have := (List.getElem?_eq_some_iff.1 f1).1; simp at this; omega
                    rw [List.getElem?_set_self this] at g1
                    simp at g1; subst g1
                    simp [hxi] at g2; subst g2
                    exact ⟨rk.mono st, rv.mono st⟩
                  · rw [List.getElem?_set_ne hij] at g1
                    rw [if_neg hij] at g2
                    have := hent.2 j e y g1 (by simpa using g2)
                    exact ⟨this.1.mono st, this.2.mono st⟩)
              refine wp_skip ?_ hu'.1 hu'.2 hk
              simp only [Option.getD] at hkt
              rcases hop with rfl | rfl <;> simp [execOp, Instr.mapUpdate, run_underlying hu, hy, hgo, hck, run_findKey huk f2, hso, Option.getD, hkt]
          all_goals cases h6
        all_goals cases h2
      · cases hT
    cases op <;> first | (cases hc; done) | skip
    all_goals first
      | exact main (.inl rfl) hc
      | exact main (.inr rfl) hc
  case panic y =>
    cases op <;> first | (cases hc; done) | skip
    rename_i x
    simp only [chkE] at hc
    simp only [EOp.wp] at h
    obtain ⟨v, h1, h⟩ := oK_of h
    obtain ⟨q, h2, hk⟩ := oK_of h
    have hv := ev_sound hc he h1 rfl
    cases v <;> simp only [asIf] at h2
    case iface t x' =>
      simp at h2; subst h2
      have hv' := hv
      simp only [vrel] at hv'
      obtain ⟨y', hy, _⟩ := hv'
      unfold Oper.wp
      have hr : (execOp a.eval ⟨dst, .panic x, ty, pp, aft, gd⟩).run P w = .halt (.panic (a.eval x)) w := by
        simp [execOp, Instr.panic, hy]
      rw [hr, Oper.upon_panic]
      exact ⟨C, _, st.h, a.eval x, .refl C w, H, hv, rfl, rfl, hk⟩
    all_goals cases h2
  case rstr y =>
    cases op <;> first | (cases hc; done) | skip
    rename_i t x
    simp only [chkE, Bool.and_eq_true] at hc
    obtain ⟨hT, hxy⟩ := hc
    split at hT
    · rename_i hu
      simp only [EOp.wp] at h
      obtain ⟨v, h1, h⟩ := oK_of h
      obtain ⟨q, h2, hk⟩ := oK_of h
      have hv := ev_sound hxy he h1 rfl
      cases v <;> simp only [asStr] at h2
      case str s =>
        simp at h2; subst h2
        simp only [vrel] at hv
        refine wp_value (C' := C.new st.h.length (some w.heap.size) 0) (w' := w.alloc (.stringIter ⟨s.toArray⟩ 0)) (y := .pointer (some ⟨w.heap.size, 0, none⟩)) ?_ (step_new H _ _) (hrel_new H _ _ ?_) ?_ (hk C.clk)
        · simp [execOp, Instr.range, run_underlying hu, hv]
        · simp only [orel]
          exact ⟨by simp [Ctx.new], w.heap.size, by simp [Ctx.new], heap_alloc_new w _⟩
        · simp only [vrel]
          refine ⟨by simp [Ctx.new], ⟨_, rfl⟩, fun b z hm => ?_⟩
          simp [Ctx.new] at hm
          obtain ⟨rfl, rfl⟩ := hm
          rfl
      all_goals cases h2
    · cases hT
  case nstr y =>
    cases op <;> first | (cases hc; done) | skip
    rename_i x isStr
    simp only [chkE, Bool.and_eq_true] at hc
    obtain ⟨rfl, hxy⟩ := hc
    simp only [EOp.wp] at h
    obtain ⟨v, h1, h⟩ := oK_of h
    obtain ⟨q, h2, h⟩ := oK_of h
    obtain ⟨ob, h3, h⟩ := oK_of h
    obtain ⟨r, h4, hs, hk1, hk2⟩ := oK_of h
    have hv := ev_sound hxy he h1 rfl
    cases v <;> simp only [asIt] at h2
    case it l s =>
      simp at h2; subst h2
      cases ob <;> simp only [asSit] at h4
      case sit s' str pos =>
        simp at h4; subst h4
        simp only at hs hk1 hk2
        subst hs
        have hobj := H.obj l _ h3
        simp only [orel] at hobj
        obtain ⟨hlt, b, hm, hb⟩ := hobj
        simp only [vrel] at hv
        have hp := hv.2.2 b 0 hm
        have hsz : (⟨str.toArray⟩ : ByteArray).size = str.length := by simp [ByteArray.size]
        have hgo := run_getObj (P := P) hb (by intro _ _ _ h; cases h)
        by_cases hlen : pos < str.length
        · have hso := run_setObj (P := P) (o := .stringIter ⟨str.toArray⟩ (pos + (Utf8.decode ⟨str.toArray⟩ pos).2)) hb (by intro _ _ _ h; cases h)
          have hrun : (execOp a.eval ⟨dst, .next x true, ty, pp, aft, gd⟩).run P w = .ok (.value (.tuple #[.bool true, goInt pos, .int .i32 (Utf8.decode ⟨str.toArray⟩ pos).1])) { w with heap := w.heap.setIfInBounds b (.stringIter ⟨str.toArray⟩ (pos + (Utf8.decode ⟨str.toArray⟩ pos).2)) } := by
            simp [execOp, Instr.next, hp, hgo, hsz, hlen, hso]
          have hu := upd_rel H h3 hm hb (by intro _ _ _ h; cases h) (ob' := .stringIter ⟨str.toArray⟩ (pos + (Utf8.decode ⟨str.toArray⟩ pos).2)) (o' := .sit s str (pos + (Utf8.decode ⟨str.toArray⟩ pos).2)) (by intro _ _ _ h; cases h)
            (fun st => by simp only [orel]; exact ⟨hlt, b, hm, by simp [(Array.getElem?_eq_some_iff.1 hb).1]⟩)
          exact wp_value hrun hu.1 hu.2 (by simp only [vrel]; exact ⟨_, rfl, by simp [vrels, vrel, goInt]⟩) (hk1 hlen)
        · have hrun : (execOp a.eval ⟨dst, .next x true, ty, pp, aft, gd⟩).run P w = .ok (.value (.tuple #[.bool false])) w := by
            simp [execOp, Instr.next, hp, hgo, hsz, hlen]
          exact wp_value hrun (.refl C w) H (by simp only [vrel]; exact ⟨_, rfl, by simp [vrels, vrel]⟩) (hk2 hlen)
      all_goals cases h4
    all_goals cases h2
  case isnil neg y =>
    cases op <;> first | (cases hc; done) | skip
    rename_i op t x n t2
    simp only [chkE, Bool.and_eq_true] at hc
    obtain ⟨⟨⟨hn, ho⟩, hT⟩, hxy⟩ := hc
    have hn' := isNilSl_of hn
    subst hn'
    split at hT
    · rename_i e hu
      simp only [EOp.wp] at h
      obtain ⟨v, h1, h⟩ := oK_of h
      obtain ⟨m, h2, hk⟩ := oK_of h
      have hv := ev_sound hxy he h1 rfl
      have hsl : ∃ b len cap, a.eval x = .slice b len cap ∧ (0 < m → b ≠ none) := by
        cases v <;> simp only [nilLen] at h2
        case psl es =>
          simp at h2; subst h2
          simp only [vrel] at hv
          obtain ⟨b, cap, e1, e2, e3⟩ := hv
          refine ⟨b, es.length, cap, e1, fun hm => ?_⟩
          rcases e3 with rfl | ⟨b', o, z, rfl, _⟩
          · simp at hm
          · simp
        case sl l s i n =>
          obtain ⟨es, g1, g2⟩ := ob_eq_some h2
          obtain rfl := Option.some.inj g2
          obtain ⟨z, _, hcase⟩ := rows_sound H hv g1
          rcases hcase with ⟨_, _, _, rfl, e1⟩ | ⟨b, cap, arr, t', _, e1, _⟩
          · exact ⟨none, 0, 0, e1, by simp⟩
          · exact ⟨_, n, cap, e1, by simp⟩
        all_goals cases h2
      obtain ⟨b, len, cap, e1, e2⟩ := hsl
      have heq : (Op.equal t (.slice b len cap) (.slice none 0 0)).run P w = .ok b.isNone w := by
        refine equal_simple hu (fun n => ?_)
        cases b with
        | none => simp [Op.equalIn, run_underlying hu]
        | some b => simp [Op.equalIn, run_underlying hu]
      have hrun := eqk_fin (P := P) (op := op) (t := t) (xo := x) (yo := .const (.slice none 0 0)) (neg := neg) ho heq (eqk_guard (.inl rfl)) rfl rfl
      refine wp_value (C' := C) (w' := w) (v := .bool (if neg then !b.isNone else b.isNone)) (y := .bool (if neg then !b.isNone else b.isNone)) ?_ (.refl C w) H (by simp [vrel]) (hk b.isNone (fun hm => by
        cases b with
        | none => exact absurd rfl (e2 hm)
        | some _ => rfl))
      exact run_val (by rw [e1]; exact hrun)
    · cases hT
end
end Go.Ab

/- The layer Ab, part 7: an operation with its guard; regions carried out as they stand. -/
namespace Go.Ab

def chkG (ops : Array Oper) (o : Oper) (g : Option (Nat × Bool)) : Bool :=
  match o.guard, g with
  | none, none => true
  | some (j, want), some (t, want') => decide (want = want') && decide ((ops[j]?).bind (·.dst) = some t)
  | _, _ => false

def chkOp (P : Program) (o : Oper) : COp → Bool
  | .p e => chkP P o e
  | .e e => chkE P o e
  | .s _ => false
  | .b .. => false

def chk1 (P : Program) (ops : Array Oper) (n : Nat) (o : Oper) (c : COper) : Bool :=
  decide (o.dst = c.d) && (match c.d with | some d => decide (d < n) | none => true) && chkG ops o c.g && chkOp P o c.o

def chkL (P : Program) (ops : Array Oper) (n : Nat) : List Oper → List COper → Bool
  | [], [] => true
  | o :: os, c :: cs => chk1 P ops n o c && chkL P ops n os cs
  | _, _ => false

section
variable {C : Ctx} {w : World} {P : Program}

theorem ERel.put {env : Env} {a : Act} (he : ERel C w env a.tmps) {n : Nat} (hn : n ≤ a.tmps.size) {d : Option Nat} (hd : (match d with | some d => decide (d < n) | none => true) = true) {v : AV} {y : Value} (hv : vrel C w v y) :
    ERel C w (eput d v env) (a.put d y).tmps ∧ n ≤ (a.put d y).tmps.size ∧ (a.put d y).defers = a.defers := by
  cases d with
  | none => exact ⟨he, hn, rfl⟩
  | some d =>
    simp at hd
    refine ⟨⟨fun t => ?_⟩, by simpa [Act.put] using hn, rfl⟩
    simp only [eput, eget, Act.put]
    by_cases ht : d = t
    · subst ht
      have : d < a.tmps.size := by omega
      simp [this, hv]
    · rw [if_neg ht]
      have := he.slot t
      simpa [Array.getElem?_setIfInBounds_ne ht] using this

theorem ERel.keep {env : Env} {tmps : Array Value} (he : ERel C w env tmps) (l : List Nat) : ERel C w (keepE env l) tmps := by
  refine ⟨fun t => ?_⟩
  have key : ∀ l : List Nat, eget (l.map fun t => (t, eget env t)) t = eget env t ∨ eget (l.map fun t => (t, eget env t)) t = .dead := by
    intro l
    induction l with
    | nil => exact .inr rfl
    | cons x xs ih =>
      simp only [List.map_cons, eget]
      by_cases hx : x = t
      · rw [if_pos hx, hx]; exact .inl rfl
      · rw [if_neg hx]; exact ih
  rcases key l with h | h
  · unfold keepE; rw [h]; exact he.slot t
  · unfold keepE; rw [h]; simp [vrel]

theorem ERel.step {C' : Ctx} {w' : World} {env : Env} {tmps : Array Value} (he : ERel C w env tmps) (st : Step C w C' w') : ERel C' w' env tmps := ⟨fun t => (he.slot t).mono st⟩

theorem wanted_sound {ops : Array Oper} {o : Oper} {c : COper} {env : Env} {a : Act} {b : Bool} (hc : chkG ops o c.g = true) (he : ERel C w env a.tmps) (h : guardB env c.g = some b) : Region.wanted o (yielded ops a.tmps) = b := by
  unfold chkG at hc
  unfold Region.wanted
  cases hg : o.guard with
  | none =>
    rw [hg] at hc
    cases hcg : c.g with
    | none => rw [hcg] at h; simp [guardB] at h; simp [h]
    | some q => rw [hcg] at hc; cases hc
  | some q =>
    obtain ⟨j, want⟩ := q
    rw [hg] at hc
    cases hcg : c.g with
    | none => rw [hcg] at hc; cases hc
    | some q =>
      obtain ⟨t, want'⟩ := q
      rw [hcg] at hc h
      simp only [Bool.and_eq_true, decide_eq_true_eq] at hc
      obtain ⟨rfl, hd⟩ := hc
      simp only [guardB] at h
      have hs := he.slot t
      simp only [yielded, hd, Option.bind_some]
      revert h hs
      cases eget env t <;> simp only [gval] <;> (intro h hs)
      case bool b' =>
        simp only [vrel] at hs
        have : a.tmps[t]? = some (.bool b') := by
          cases ht : a.tmps[t]? with
          | none => simp [ht, undef] at hs
          | some y => simp [ht] at hs; rw [hs]
        rw [this]
        have h := Option.some.inj h
        subst h
        cases b' <;> cases want <;> rfl
      case cond c' v =>
        simp only [vrel] at hs
        have hun : a.tmps.getD t undef = undef → a.tmps[t]? = none ∨ a.tmps[t]? = some undef := by
          intro hy
          cases ht : a.tmps[t]? with
          | none => exact .inl rfl
          | some y => simp [ht] at hy; subst hy; exact .inr rfl
        cases v <;> simp only [gval] at h
        case bool b' =>
          have h := Option.some.inj h
          subst h
          cases c' with
          | true =>
            have h1 := hs.1 rfl
            simp only [vrel] at h1
            have : a.tmps[t]? = some (.bool b') := by
              cases ht : a.tmps[t]? with
              | none => simp [ht, undef] at h1
              | some y => simp [ht] at h1; rw [h1]
            rw [this]
            cases b' <;> cases want <;> rfl
          | false => rcases hun (hs.2 rfl) with hq | hq <;> rw [hq] <;> rfl
        case dead =>
          cases c' with
          | true => simp at h
          | false => simp at h; subst h; rcases hun (hs.2 rfl) with hq | hq <;> rw [hq] <;> rfl
        all_goals cases h
      all_goals cases h

theorem Oper.wp_imp {o : Oper} {a : Act} {K K' : Act → World → Prop} {Q Q' : Exit → Act → World → Prop} (hh : o.wp P a w K Q) (h : ∀ a w, K a w → K' a w) (hq : ∀ x a w, Q x a w → Q' x a w) : o.wp P a w K' Q' := by
  unfold Oper.wp at *
  have hl : LetsOut Q → LetsOut Q' := fun ⟨a, w, q⟩ => ⟨a, w, hq _ _ _ q⟩
  generalize (execOp a.eval o).run P w = r at *
  cases r with
  | ok n w' =>
    cases n <;> simp only [Oper.upon] at hh ⊢ <;>
      first
        | exact h _ _ hh
        | exact Calls.mono hh (fun e w'' he => by cases e <;> first | exact h _ _ he | exact hq _ _ _ he | exact hl he)
        | exact Rows.mono hh (fun _ _ he => h _ _ he)
  | halt x w' => cases x <;> simp only [Oper.upon] at hh ⊢ <;> exact hq _ _ _ hh

/-- What a region's operation that leaves memory as it is comes to. -/
def pureK (st : St) (o : POp) (g : Option (Nat × Bool)) (K : AV → Prop) : Prop :=
  match g with
  | none => (o.ev st true).oK K
  | some g => (guardB st.env (some g)).oK fun b => gK b (o.ev st b) K

theorem pure_run {ops : Array Oper} {o : Oper} {d : Option Nat} {e : POp} {g : Option (Nat × Bool)} {n : Nat} {st : St} {a : Act} {K : AV → Prop} (hc : chk1 P ops n o ⟨d, .p e, g⟩ = true) (H : HRel C w st.h) (he : ERel C w st.env a.tmps) (h : pureK st e g K) :
    ∃ v y, K v ∧ vrel C w v y ∧ ((Region.wanted o (yielded ops a.tmps) = true ∧ (execOp a.eval o).run P w = .ok (.value y) w) ∨ (Region.wanted o (yielded ops a.tmps) = false ∧ y = undef)) := by
  unfold chk1 at hc
  simp only [Bool.and_eq_true, chkOp] at hc
  obtain ⟨⟨_, hg⟩, hp⟩ := hc
  cases g with
  | none =>
    obtain ⟨v, h1, hk⟩ := oK_of h
    obtain ⟨y, h2, h3⟩ := POp.sound hp H he h1 rfl
    exact ⟨v, y, hk, h3, .inl ⟨wanted_sound (c := ⟨d, .p e, none⟩) hg he rfl, h2⟩⟩
  | some g =>
    obtain ⟨b, h1, h⟩ := oK_of h
    have hw := wanted_sound (c := ⟨d, .p e, some g⟩) hg he h1
    cases hv : e.ev st b with
    | none =>
      rw [hv, gK_none] at h
      obtain ⟨rfl, hk⟩ := h
      exact ⟨_, undef, hk, by simp [vrel], .inr ⟨hw, rfl⟩⟩
    | some v =>
      rw [hv, gK_some] at h
      cases b with
      | true =>
        obtain ⟨y, h2, h3⟩ := POp.sound hp H he hv rfl
        exact ⟨_, y, h, by simp [vrel, h3], .inl ⟨hw, h2⟩⟩
      | false => exact ⟨_, undef, h, by simp [vrel], .inr ⟨hw, rfl⟩⟩

/-- What is behind a piece of code, in the model: whatever fits what part 2 says may stand there. -/
def QM (Q0 : AExit → St → Prop) (C : Ctx) (w : World) (n : Nat) (e : Exit) (a : Act) (w' : World) : Prop :=
  ∃ C' st x, Step C w C' w' ∧ HRel C' w' st.h ∧ n ≤ a.tmps.size ∧ a.defers = [] ∧ Q0 x st ∧
    match x with
    | .normal => e = .normal ∧ ERel C' w' st.env a.tmps
    | .exit id => e = .exit id ∧ ERel C' w' st.env a.tmps
    | .ret => e = .ret ∧ ERel C' w' st.env a.tmps
    | .pan v => ∃ y, e = .panic [{ v := y, recovered := false }] ∧ vrel C' w' v y

theorem QM.step {Q0 : AExit → St → Prop} {C C1 : Ctx} {w w1 : World} (st : Step C w C1 w1) {n : Nat} {e : Exit} {a : Act} {w' : World} (h : QM Q0 C1 w1 n e a w') : QM Q0 C w n e a w' := by
  obtain ⟨C', s, x, h1, h2⟩ := h
  exact ⟨C', s, x, st.trans h1, h2⟩

/-- A region's operations, one behind the other. -/
theorem list_sound {ops : Array Oper} {n : Nat} {Q0 : AExit → St → Prop} {keep : List Nat} {C0 : Ctx} {w0 : World} :
    ∀ (l : List Oper) (cs : List COper) {C : Ctx} {w : World} {st : St} {a : Act}, chkL P ops n l cs = true → Step C0 w0 C w → HRel C w st.h → ERel C w st.env a.tmps → n ≤ a.tmps.size → a.defers = [] →
      runOps P (fun v st => Q0 (.pan v) st) (fun st => Q0 .normal ⟨keepE st.env keep, st.h⟩) cs st → wpList P ops (QM Q0 C0 w0 n) l a w
  | [], [], C, w, st, a, _, S, H, he, hn, hdf, h => ⟨C, ⟨keepE st.env keep, st.h⟩, .normal, S, H, hn, hdf, h, rfl, he.keep keep⟩
  | [], _ :: _, _, _, _, _, hc, _, _, _, _, _, _ => by simp [chkL] at hc
  | _ :: _, [], _, _, _, _, hc, _, _, _, _, _, _ => by simp [chkL] at hc
  | o :: l, c :: cs, C, w, st, a, hc, S, H, he, hn, hdf, h => by
    simp only [chkL, Bool.and_eq_true] at hc
    obtain ⟨h1, hl⟩ := hc
    obtain ⟨d, co, g⟩ := c
    have h1' := h1
    simp only [chk1, Bool.and_eq_true, decide_eq_true_eq] at h1'
    obtain ⟨⟨⟨hd, hdn⟩, hg⟩, hop⟩ := h1'
    cases co with
    | p e =>
      have hk : pureK st e g fun v => runOps P (fun v st => Q0 (.pan v) st) (fun st => Q0 .normal ⟨keepE st.env keep, st.h⟩) cs ⟨eput d v st.env, st.h⟩ := by
        cases g with
        | none => exact h
        | some g => exact h
      obtain ⟨v, y, hk, hv, hr⟩ := pure_run h1 H he hk
      obtain ⟨he', hn', hd'⟩ := he.put hn hdn hv
      have ih := list_sound (C0 := C0) (w0 := w0) l cs (a := a.put o.dst y) (st := ⟨eput d v st.env, st.h⟩) hl S H (by rw [hd]; exact he') (by rw [hd]; exact hn') (by rw [hd, hd']; exact hdf) hk
      unfold wpList
      rcases hr with ⟨hw, hr⟩ | ⟨hw, rfl⟩
      · rw [if_pos hw]
        refine .inl ?_
        unfold Oper.wp
        rw [hr]
        exact ih
      · rw [if_neg (by rw [hw]; simp)]
        exact ih
    | s e => cases hop
    | b z len zero parts => cases hop
    | e e =>
      simp only [chkOp] at hop
      have main : e.wp P st (fun v h => runOps P (fun v st => Q0 (.pan v) st) (fun st => Q0 .normal ⟨keepE st.env keep, st.h⟩) cs ⟨eput d v st.env, h⟩) (fun v h => Q0 (.pan v) ⟨st.env, h⟩) →
          o.wp P a w (wpList P ops (QM Q0 C0 w0 n) l) (QM Q0 C0 w0 n) := by
        intro h
        have hs := EOp.sound (C := C) (w := w) (a := a) hop H he h
        refine Oper.wp_imp hs ?_ ?_
        · rintro a' w' ⟨C', v, h', y, S', H', hv, rfl, hk⟩
          obtain ⟨he', hn', hd'⟩ := (he.step S').put hn hdn hv
          exact list_sound (C0 := C0) (w0 := w0) l cs hl (S.trans S') H' (by rw [hd]; exact he') (by rw [hd]; exact hn') (by rw [hd, hd']; exact hdf) hk
        · rintro x a' w' ⟨C', v, h', y, S', H', hv, rfl, rfl, hk⟩
          exact ⟨C', ⟨st.env, h'⟩, .pan v, S.trans S', H', hn, hdf, hk, y, rfl, hv⟩
      unfold wpList
      cases g with
      | none =>
        have hw : Region.wanted o (yielded ops a.tmps) = true := wanted_sound (c := ⟨d, .e e, none⟩) hg he rfl
        rw [if_pos hw]
        exact .inl (main h)
      | some g =>
        obtain ⟨b, hb, h⟩ := oK_of h
        have hw := wanted_sound (c := ⟨d, .e e, some g⟩) hg he hb
        cases b with
        | true =>
          rw [if_pos hw]
          exact .inl (main (h.1 rfl))
        | false =>
          rw [if_neg (by rw [hw]; simp)]
          obtain ⟨he', hn', hd'⟩ := he.put hn hdn (v := .cond false .dead) (y := undef) (by simp [vrel])
          exact list_sound (C0 := C0) (w0 := w0) l cs (a := a.put o.dst undef) (st := ⟨eput d (.cond false .dead) st.env, st.h⟩) hl S H (by rw [hd]; exact he') (by rw [hd]; exact hn') (by rw [hd, hd']; exact hdf) (h.2 rfl)
end
end Go.Ab

/- The layer Ab, part 8: regions whose order is drawn. First: what an operation reads. -/
namespace Go.Ab

def Opd.rd : Opd → List Nat
  | .s t => [t]
  | .c _ => []
def rds : List Opd → List Nat
  | [] => []
  | x :: xs => x.rd ++ rds xs
def rdo : Option Opd → List Nat
  | none => []
  | some x => x.rd
def rdp : List (Nat × Nat × Opd) → List Nat
  | [] => []
  | (_, _, x) :: r => x.rd ++ rdp r

def POp.rd : POp → List Nat
  | .mv x | .ld x | .ldn _ x | .nilc x | .un _ x | .cvt _ x | .mkif _ x | .foff _ x | .fld _ x | .fldn _ _ x | .lens x | .lenl x | .lenm x | .ext x _ | .b2s x => x.rd
  | .pick c a b => c.rd ++ (a.rd ++ b.rd)
  | .bin _ x y | .eqk _ _ x y | .iadr _ x y | .iarr _ _ x y | .idxs x y | .mmax x y | .mmin x y | .look _ _ _ x y => x.rd ++ y.rd
  | .mkfn _ a b => rds a ++ rds b
  | .slcs x lo hi mx | .slcl _ x lo hi mx => x.rd ++ (rdo lo ++ (rdo hi ++ rdo mx))
  | .build _ parts => rdp parts

def EOp.rd : EOp → List Nat
  | .alloc _ | .vnil _ | .mkmap | .allocv _ _ => []
  | .clear _ x | .boxv _ _ x | .box _ x | .panic x | .rstr x | .nstr x | .isnil _ x => x.rd
  | .bsl _ _ _ parts | .bslz _ _ _ parts => rdp parts
  | .st a x | .stn _ a x | .stnv _ _ a x => a.rd ++ x.rd
  | .call _ args _ => rds args
  | .callv x args _ => x.rd ++ rds args
  | .app _ _ s x => s.rd ++ x.rd
  | .mapup _ m k v => m.rd ++ (k.rd ++ v.rd)

/-- Does it look at memory? -/
def POp.mem : POp → Bool
  | .ld _ | .ldn _ _ | .iadr .. | .slcl .. | .lenl _ | .lenm _ | .b2s _ | .look .. => true
  | _ => false

section
variable {env env' : Env} {hp hp' : Heap}

def EqOn (l : List Nat) (env env' : Env) : Prop := ∀ t ∈ l, eget env t = eget env' t
theorem EqOn.left {a b : List Nat} (h : EqOn (a ++ b) env env') : EqOn a env env' := fun t ht => h t (List.mem_append_left _ ht)
theorem EqOn.right {a b : List Nat} (h : EqOn (a ++ b) env env') : EqOn b env env' := fun t ht => h t (List.mem_append_right _ ht)

theorem Opd.ev_env {x : Opd} (h : EqOn x.rd env env') (g : Bool) : x.ev env g = x.ev env' g := by
  cases x with
  | s t => simp only [Opd.ev, Opd.val]; rw [h t (by simp [Opd.rd])]
  | c v => rfl

theorem evs_env (g : Bool) : ∀ {xs : List Opd}, EqOn (rds xs) env env' → evs env g xs = evs env' g xs
  | [], _ => rfl
  | x :: xs, h => by simp only [evs]; rw [Opd.ev_env h.left g, evs_env g (xs := xs) h.right]

theorem evo_env {x : Option Opd} (h : EqOn (rdo x) env env') (g : Bool) : evo env g x = evo env' g x := by
  cases x with
  | none => rfl
  | some x => simp only [evo]; rw [Opd.ev_env h g]

theorem evParts_env (g : Bool) : ∀ {xs : List (Nat × Nat × Opd)}, EqOn (rdp xs) env env' → evParts env g xs = evParts env' g xs
  | [], _ => rfl
  | (_, _, x) :: xs, h => by simp only [evParts]; rw [Opd.ev_env h.left g, evParts_env g (xs := xs) h.right]

theorem POp.ev_env {o : POp} (h : EqOn o.rd env env') (g : Bool) : o.ev ⟨env, hp⟩ g = o.ev ⟨env', hp⟩ g := by
  cases o <;> simp only [POp.rd] at h <;> simp only [POp.ev]
  case pick c a b =>
    have h1 := Opd.ev_env h.left
    have h2 := Opd.ev_env h.right.left
    have h3 := Opd.ev_env h.right.right
    simp only [h1, h2, h3]
  case mkfn f a b => rw [evs_env g h.left, evs_env g h.right]
  case slcs x lo hi mx => rw [Opd.ev_env h.left g, evo_env h.right.left g, evo_env h.right.right.left g, evo_env h.right.right.right g]
  case slcl z x lo hi mx => rw [Opd.ev_env h.left g, evo_env h.right.left g, evo_env h.right.right.left g, evo_env h.right.right.right g]
  case build zero parts => rw [evParts_env g h]
  all_goals first
    | exact Opd.ev_env h g
    | rw [Opd.ev_env h g]
    | rw [Opd.ev_env h.left g, Opd.ev_env h.right g]

theorem POp.ev_heap {o : POp} (h : o.mem = false) (g : Bool) : o.ev ⟨env, hp⟩ g = o.ev ⟨env, hp'⟩ g := by
  cases o <;> first | rfl | (simp [POp.mem] at h)

theorem EOp.wp_env {P : Program} {o : EOp} {K Kp : AV → Heap → Prop} (h : EqOn o.rd env env') (hw : o.wp P ⟨env, hp⟩ K Kp) : o.wp P ⟨env', hp⟩ K Kp := by
  cases o <;> simp only [EOp.rd] at h <;> simp only [EOp.wp] at hw ⊢
  case alloc => exact hw
  case vnil => exact hw
  case mkmap => exact hw
  case allocv => exact hw
  case bsl => rw [evParts_env true h] at hw; exact hw
  case bslz => rw [evParts_env true h] at hw; exact hw
  case call => rw [evs_env true h] at hw; exact hw
  case callv => rw [Opd.ev_env h.left true, evs_env true h.right] at hw; exact hw
  case mapup => rw [Opd.ev_env h.left true, Opd.ev_env h.right.left true, Opd.ev_env h.right.right true] at hw; exact hw
  all_goals first
    | (rw [Opd.ev_env h true] at hw; exact hw)
    | (rw [Opd.ev_env h.left true, Opd.ev_env h.right true] at hw; exact hw)

/-- What a guarded operation leaves. -/
def pval (st : St) (o : POp) : Option (Nat × Bool) → Option AV
  | none => o.ev st true
  | some g => (guardB st.env (some g)).ob fun b => match o.ev st b with
    | some v => some (.cond b v)
    | none => if b = true then none else some (.cond false .dead)

theorem pval_of {st : St} {o : POp} {g : Option (Nat × Bool)} {K : AV → Prop} (h : pureK st o g K) : ∃ v, pval st o g = some v ∧ K v := by
  cases g with
  | none => exact oK_of h
  | some g =>
    obtain ⟨b, h1, h⟩ := oK_of h
    simp only [pval, h1, ob_some]
    cases hv : o.ev st b with
    | none =>
      rw [hv, gK_none] at h
      obtain ⟨rfl, hk⟩ := h
      exact ⟨_, rfl, hk⟩
    | some v =>
      rw [hv, gK_some] at h
      exact ⟨_, rfl, h⟩

theorem pval_to {st : St} {o : POp} {g : Option (Nat × Bool)} {v : AV} (h : pval st o g = some v) : pureK st o g (fun u => u = v) := by
  cases g with
  | none => simp only [pval] at h; simp only [pureK, h, oK_some]
  | some g =>
    simp only [pval] at h
    obtain ⟨b, h1, h⟩ := ob_eq_some h
    simp only [pureK, h1, oK_some]
    cases hv : o.ev st b with
    | none =>
      rw [hv] at h
      cases b with
      | true => simp at h
      | false => simp at h; rw [gK_none]; exact ⟨rfl, h⟩
    | some u =>
      rw [hv] at h
      rw [gK_some]
      exact Option.some.inj h

theorem pval_stab {st : St} {d : Nat} {o : POp} {g : Option (Nat × Bool)} (h : stabK st (some d) o g) : pval st o g = some (eget st.env d) := by
  have : pureK st o g fun v => eget st.env d = v := by cases g <;> exact h
  obtain ⟨v, h1, h2⟩ := pval_of this
  rw [h1, h2]

def gRd : Option (Nat × Bool) → List Nat
  | none => []
  | some g => [g.1]

theorem guardB_env {g : Option (Nat × Bool)} (h : EqOn (gRd g) env env') : guardB env g = guardB env' g := by
  cases g with
  | none => rfl
  | some g => simp only [guardB]; rw [h g.1 (by simp [gRd])]

theorem pval_env {o : POp} {g : Option (Nat × Bool)} (h : EqOn (o.rd ++ gRd g) env env') : pval ⟨env, hp⟩ o g = pval ⟨env', hp⟩ o g := by
  cases g with
  | none => exact POp.ev_env h.left true
  | some g =>
    have h1 := guardB_env h.right
    have h2 : ∀ b, o.ev ⟨env, hp⟩ b = o.ev ⟨env', hp⟩ b := fun b => POp.ev_env h.left b
    simp only [pval, h1, h2]

theorem pval_heap {o : POp} {g : Option (Nat × Bool)} (h : o.mem = false) : pval ⟨env, hp⟩ o g = pval ⟨env, hp'⟩ o g := by
  have h2 : ∀ b, o.ev ⟨env, hp⟩ b = o.ev ⟨env, hp'⟩ b := fun b => POp.ev_heap h b
  cases g with
  | none => exact h2 true
  | some g => simp only [pval, h2]
end
end Go.Ab

/- The layer Ab, part 9: a region whose order is drawn comes, in whichever order, to what its operations come to in one. -/
namespace Go.Ab

structure Ent where
  i : Nat
  c : COper
  pend : List COper

def spanS : List COper → List COper × List COper
  | ⟨d, .s o, g⟩ :: r => (⟨d, .s o, g⟩ :: (spanS r).1, (spanS r).2)
  | ⟨d, .b z len zero parts, g⟩ :: r => (⟨d, .b z len zero parts, g⟩ :: (spanS r).1, (spanS r).2)
  | l => ([], l)

def COp.isS : COp → Bool
  | .s _ => true
  | .b .. => true
  | _ => false

def zipD : List Nat → List COper → Option (List Ent)
  | [], [] => some []
  | i :: is, c :: cs => if c.o.isS then none else (zipD is (spanS cs).2).map (⟨i, c, (spanS cs).1⟩ :: ·)
  | _, _ => none

def Ent.rd (x : Ent) : List Nat := (match x.c.o with
  | .p o => o.rd
  | .e o => o.rd
  | .s _ => []
  | .b .. => []) ++ gRd x.c.g

def Ent.mem (x : Ent) : Bool := match x.c.o with
  | .p o => o.mem
  | _ => false

def Ent.eff (x : Ent) : Bool := match x.c.o with
  | .e _ => true
  | _ => false

def Op.isAssign : Op → Bool
  | .assign _ => true
  | _ => false

/-- It may come ahead of what stands before it. -/
def Ent.P (ops : Array Oper) (x : Ent) : Bool := match x.c.o with
  | .p _ => match ops[x.i]? with
    | some o => !Op.isAssign o.op
    | none => false
  | _ => false

/-- It makes a block of its own: it may come late. -/
def Ent.A (x : Ent) : Bool := match x.c with
  | ⟨some _, .e (.alloc _), none⟩ => true
  | ⟨some _, .e (.bsl ..), _⟩ => true
  | _ => false

def eqAV : AV → AV → Bool
  | .bool a, .bool b => a == b
  | .int k a, .int j b => decide (k = j) && decide (a = b)
  | .str a, .str b => decide (a = b)
  | .nilp, .nilp => true
  | .psl [], .psl [] => true
  | .vn, .vn => true
  | .nilfn, .nilfn => true
  | .nilif, .nilif => true
  | .nilmp, .nilmp => true
  | _, _ => false

theorem eqAV_eq {a b : AV} (h : eqAV a b = true) : a = b := by
  unfold eqAV at h
  split at h <;> simp_all

def eqAVs : List AV → List AV → Bool
  | [], [] => true
  | a :: us, b :: bs => eqAV a b && eqAVs us bs
  | _, _ => false

theorem eqAVs_eq : ∀ {a b : List AV}, eqAVs a b = true → a = b
  | [], [], _ => rfl
  | a :: us, b :: bs, h => by
    simp only [eqAVs, Bool.and_eq_true] at h
    rw [eqAV_eq h.1, eqAVs_eq h.2]
  | [], _ :: _, h => by simp [eqAVs] at h
  | _ :: _, [], h => by simp [eqAVs] at h

def eqOpd : Opd → Opd → Bool
  | .s a, .s b => decide (a = b)
  | .c a, .c b => eqAV a b
  | _, _ => false

theorem eqOpd_eq {a b : Opd} (h : eqOpd a b = true) : a = b := by
  cases a <;> cases b <;> simp only [eqOpd] at h <;> first | (cases h; done) | skip
  · rw [of_decide_eq_true h]
  · rw [eqAV_eq h]

def eqParts : List (Nat × Nat × Opd) → List (Nat × Nat × Opd) → Bool
  | [], [] => true
  | (i, n, x) :: us, (j, m, y) :: bs => decide (i = j) && decide (n = m) && eqOpd x y && eqParts us bs
  | _, _ => false

theorem eqParts_eq : ∀ {a b : List (Nat × Nat × Opd)}, eqParts a b = true → a = b
  | [], [], _ => rfl
  | (i, n, x) :: us, (j, m, y) :: bs, h => by
    simp only [eqParts, Bool.and_eq_true, decide_eq_true_eq] at h
    obtain ⟨⟨⟨rfl, rfl⟩, h3⟩, h4⟩ := h
    rw [eqOpd_eq h3, eqParts_eq h4]
  | [], _ :: _, h => by simp [eqParts] at h
  | _ :: _, [], h => by simp [eqParts] at h

/-- The item that says ahead that a slice's parts are well formed. -/
def itemOK (x : Ent) (s : COper) : Bool := match x.c.o, s.o with
  | .e (.bsl z len zero parts), .b z' len' zero' parts' => decide (x.c.g = s.g) && decide (z = z') && decide (len = len') && eqAVs zero zero' && eqParts parts parts'
  | _, _ => false

/-- They are so whatever there is. -/
def bslStat (x : Ent) : Bool := match x.c.o with
  | .e (.bsl z len zero parts) => x.c.g.isNone && parts.all (fun p => p.2.2.rd.isEmpty) && (match evParts [] true parts with
      | some ps => (match buildV (fillV zero len) ps with
        | some cs => decide (cs.length = len * z) && cs.all AV.one
        | none => false)
      | none => false)
  | _ => true

def bslDyn (m : Nat) (x : Ent) : Bool → List Ent → Bool
  | ok, [] => ok
  | ok, v :: r => (ok || (v :: r).any fun v => !v.A && m.testBit v.i) && bslDyn m x (v.pend.any (itemOK x)) r

def bslAll (clo : List Nat) : List Ent → List Ent → Bool
  | _, [] => true
  | pre, x :: r => (!x.A || bslStat x || bslDyn (clo.getD x.i 0) x false pre) && bslAll clo (pre ++ [x]) r

def dOut (x : Ent) (l : List Nat) : Bool := match x.c.d with
  | some d => !(l.contains d)
  | none => true
def dNe (x y : Ent) : Bool := match x.c.d with
  | some d => decide (y.c.d ≠ some d)
  | none => true

def pendOK (P : Program) (ops : Array Oper) (n : Nat) (x : Ent) (s : COper) : Bool := match s.o, ops[x.i]? with
  | .s o, some op => (match x.c.d, s.d with | some d, some d' => decide (d = d') | _, _ => false) && chk1 P ops n op ⟨x.c.d, .p o, s.g⟩ && (o.rd ++ gRd s.g).all fun t => x.rd.contains t
  | _, _ => false

def pairOK (P : Program) (ops : Array Oper) (n : Nat) (clo : List Nat) (x y : Ent) : Bool :=
  decide (x.i ≠ y.i) && (!(y.P ops || y.A) || (dOut y x.rd && dNe y x)) && (!(x.A && y.A) || dOut x y.rd) &&
  ((clo.getD y.i 0).testBit x.i || ((x.P ops || y.A) && dOut x y.rd && dOut y x.rd && dNe x y && (!(x.mem && y.eff) || y.pend.any (pendOK P ops n x))))

def pairs (P : Program) (ops : Array Oper) (n : Nat) (clo : List Nat) : List Ent → Bool
  | [] => true
  | x :: r => r.all (pairOK P ops n clo x) && pairs P ops n clo r

def maskOf (o : Oper) (clo : List Nat) : Nat := o.after.toList.foldl (fun m e => if Region.binds .any e = true then m ||| (1 <<< e.on) ||| clo.getD e.on 0 else m) 0

def clos : List Oper → List Nat → List Nat
  | [], acc => acc
  | o :: r, acc => clos r (acc ++ [maskOf o acc])

def edgesOK (clo : List Nat) : Nat → List Oper → Bool
  | _, [] => true
  | j, o :: r => o.after.toList.all (fun e => !Region.binds .any e || decide (e.on < j)) && decide (clo.getD j 0 = maskOf o clo) && edgesOK clo (j + 1) r

def entOK (P : Program) (ops : Array Oper) (n : Nat) (x : Ent) : Bool :=
  (match ops[x.i]? with | some o => chk1 P ops n o x.c | none => false) && (!(x.P ops) || (match x.c.d with | some d => !(x.rd.contains d) | none => false))

def goodD (P : Program) (ops : Array Oper) (n : Nat) (clo : List Nat) (E : List Ent) : Bool :=
  decide (E.length = ops.size) && E.all (entOK P ops n) && pairs P ops n clo E && edgesOK clo 0 ops.toList && bslAll clo [] E && (List.range ops.size).all fun j => E.any fun x => decide (x.i = j)

def chkD (P : Program) (ops : Array Oper) (n : Nat) (L : List COper) (ord : List Nat) : Bool := match zipD ord L with
  | none => false
  | some E => P.follows .mixedOrders && goodD P ops n (clos ops.toList []) E

def stabs (st : St) : List COper → Prop
  | [] => True
  | ⟨d, .s o, g⟩ :: r => stabK st d o g ∧ stabs st r
  | ⟨_, .b z len zero parts, g⟩ :: r => bslG st.env z len zero parts g ∧ stabs st r
  | _ :: _ => False

def runE (P : Program) (Q0 : AExit → St → Prop) (keep : List Nat) : List Ent → St → Prop
  | [], st => Q0 .normal ⟨keepE st.env keep, st.h⟩
  | ⟨_, ⟨d, .p o, g⟩, pend⟩ :: r, st => pureK st o g fun v => stabs ⟨eput d v st.env, st.h⟩ pend ∧ runE P Q0 keep r ⟨eput d v st.env, st.h⟩
  | ⟨_, ⟨d, .e o, none⟩, pend⟩ :: r, st => o.wp P st (fun v h => stabs ⟨eput d v st.env, h⟩ pend ∧ runE P Q0 keep r ⟨eput d v st.env, h⟩) (fun v h => Q0 (.pan v) ⟨st.env, h⟩)
  | ⟨_, ⟨d, .e o, some g⟩, pend⟩ :: r, st => (guardB st.env (some g)).oK fun b =>
      (b = true → o.wp P st (fun v h => stabs ⟨eput d v st.env, h⟩ pend ∧ runE P Q0 keep r ⟨eput d v st.env, h⟩) (fun v h => Q0 (.pan v) ⟨st.env, h⟩)) ∧
      (b = false → stabs ⟨eput d (.cond false .dead) st.env, st.h⟩ pend ∧ runE P Q0 keep r ⟨eput d (.cond false .dead) st.env, st.h⟩)
  | ⟨_, ⟨_, .s _, _⟩, _⟩ :: _, _ => False
  | ⟨_, ⟨_, .b .., _⟩, _⟩ :: _, _ => False

theorem onRet_mono {K K' Kp : AV → Heap → Prop} (hk : ∀ v h, K v h → K' v h) {r : AEnd} {h : Heap} (q : onRet K Kp r h) : onRet K' Kp r h := by
  cases r with
  | ret v => exact hk _ _ q
  | pan v => exact q

theorem oK_mono {α : Type} {x : Option α} {f g : α → Prop} (h : x.oK f) (hfg : ∀ a, f a → g a) : x.oK g := by
  cases x with
  | none => exact h
  | some a => exact hfg a h

theorem ownK_mono : ∀ {own : List (Nat × Nat)} {cs : List AV} {h : Heap} {K K' : List AV → Heap → Prop}, (∀ cs h, K cs h → K' cs h) → ownK own cs h K → ownK own cs h K'
  | [], _, _, _, _, hk, h => hk _ _ h
  | (k, z) :: r, cs, h, K, K', hk, hh => by
    simp only [ownK] at hh ⊢
    exact ⟨hh.1, fun s => ownK_mono hk (hh.2 s)⟩

theorem EOp.wp_mono {P : Program} {o : EOp} {st : St} {K K' Kp : AV → Heap → Prop} (hk : ∀ v h, K v h → K' v h) (h : o.wp P st K Kp) : o.wp P st K' Kp := by
  cases o <;> simp only [EOp.wp] at h ⊢
  case alloc => exact fun s => hk _ _ (h s)
  case vnil => exact fun s => hk _ _ (h s)
  case mkmap => exact fun s => hk _ _ (h s)
  case box => exact oK_mono h fun v q => ⟨q.1, fun s => hk _ _ (q.2 s)⟩
  case bslz => exact oK_mono h fun v q => oK_mono q fun v q => ⟨q.1, fun s => hk _ _ (q.2 s)⟩
  case bsl => exact oK_mono h fun v q => oK_mono q fun v q => ⟨q.1, fun s => hk _ _ (q.2 s)⟩
  case st => exact oK_mono h fun v q => oK_mono q fun v q => oK_mono q fun v q => hk _ _ q
  case stn => exact oK_mono h fun v q => oK_mono q fun v q => oK_mono q fun v q => oK_mono q fun v q => hk _ _ q
  case call => exact oK_mono h fun v ⟨R, q1, q2⟩ => ⟨R, q1, fun r h' q => onRet_mono hk (q2 r h' q)⟩
  case callv => exact oK_mono h fun v q => oK_mono q fun v q => oK_mono q fun v ⟨R, q1, q2⟩ => ⟨R, q1, fun r h' q => onRet_mono hk (q2 r h' q)⟩
  case app => exact oK_mono h fun v q => oK_mono q fun v q => oK_mono q fun v q => oK_mono q fun v q => oK_mono q fun v q => oK_mono q fun v q => ⟨q.1, fun s => hk _ _ (q.2 s)⟩
  case mapup => exact oK_mono h fun v q => oK_mono q fun v q => oK_mono q fun v q => oK_mono q fun v q => oK_mono q fun v q => oK_mono q fun v q => oK_mono q fun v q => ⟨q.1, hk _ _ q.2⟩
  case panic => exact h
  case rstr => exact oK_mono h fun v q => oK_mono q fun v q s => hk _ _ (q s)
  case nstr => exact oK_mono h fun v q => oK_mono q fun v q => oK_mono q fun v q => oK_mono q fun v q => ⟨q.1, fun g => hk _ _ (q.2.1 g), fun g => hk _ _ (q.2.2 g)⟩
  case isnil => exact oK_mono h fun v q => oK_mono q fun v q b g => hk _ _ (q b g)
  case clear => exact oK_mono h fun v q => oK_mono q fun v q => oK_mono q fun v q => oK_mono q fun v q => ⟨q.1, hk _ _ q.2⟩
  case allocv => exact ownK_mono (fun cs h q => ⟨q.1, fun s => hk _ _ (q.2 s)⟩) h
  case boxv => exact oK_mono h fun v q => ⟨q.1, ownK_mono (fun cs h q => ⟨q.1, fun s => hk _ _ (q.2 s)⟩) q.2⟩
  case stnv => exact oK_mono h fun v q => oK_mono q fun v q => oK_mono q fun v q => ownK_mono (fun cs h q => oK_mono q fun v q => hk _ _ q) q

section
variable {P : Program} {Q0 : AExit → St → Prop} {keep : List Nat}

theorem run_span : ∀ {cs : List COper} {st : St} {Kp : AV → St → Prop} {K : St → Prop}, runOps P Kp K cs st → stabs st (spanS cs).1 ∧ runOps P Kp K (spanS cs).2 st
  | [], st, _, _, h => ⟨trivial, h⟩
  | ⟨d, .s o, g⟩ :: r, st, _, _, h => by
    simp only [runOps] at h
    have ih := run_span h.2
    exact ⟨⟨h.1, ih.1⟩, ih.2⟩
  | ⟨d, .b z len zero parts, g⟩ :: r, st, _, _, h => by
    simp only [runOps] at h
    have ih := run_span h.2
    exact ⟨⟨h.1, ih.1⟩, ih.2⟩
  | ⟨d, .p o, g⟩ :: r, st, _, _, h => ⟨trivial, h⟩
  | ⟨d, .e o, g⟩ :: r, st, _, _, h => ⟨trivial, h⟩

theorem runE_of : ∀ {ord : List Nat} {L : List COper} {E : List Ent} {st : St}, zipD ord L = some E → runOps P (fun v st => Q0 (.pan v) st) (fun st => Q0 .normal ⟨keepE st.env keep, st.h⟩) L st → runE P Q0 keep E st
  | [], [], E, st, hz, h => by
    simp [zipD] at hz; subst hz
    exact h
  | [], _ :: _, _, _, hz, _ => by simp [zipD] at hz
  | _ :: _, [], _, _, hz, _ => by simp [zipD] at hz
  | i :: is, ⟨d, o, g⟩ :: cs, E, st, hz, h => by
    simp only [zipD] at hz
    split at hz
    · cases hz
    · rename_i hs
      simp only [Option.map_eq_some_iff] at hz
      obtain ⟨E', hz, rfl⟩ := hz
      have next : ∀ {st : St}, runOps P (fun v st => Q0 (.pan v) st) (fun st => Q0 .normal ⟨keepE st.env keep, st.h⟩) cs st → stabs st (spanS cs).1 ∧ runE P Q0 keep E' st := fun h => ⟨(run_span h).1, runE_of hz (run_span h).2⟩
      cases o with
      | s o => simp [COp.isS] at hs
      | b z len zero parts => simp [COp.isS] at hs
      | p o =>
        simp only [runE]
        cases g with
        | none => exact oK_mono h fun v q => next q
        | some g =>
          refine oK_mono h fun b q => ?_
          cases hv : o.ev st b with
          | none => rw [hv, gK_none] at q; rw [gK_none]; exact ⟨q.1, next q.2⟩
          | some v => rw [hv, gK_some] at q; rw [gK_some]; exact next q
      | e o =>
        cases g with
        | none => simp only [runE]; exact EOp.wp_mono (fun v h q => next q) h
        | some g =>
          simp only [runE]
          exact oK_mono h fun b q => ⟨fun hb => EOp.wp_mono (fun v h q => next q) (q.1 hb), fun hb => next (q.2 hb)⟩
end

/-! ### What the check says -/

structure Good (P : Program) (ops : Array Oper) (n : Nat) (clo : List Nat) (E : List Ent) : Prop where
  one : ∀ x ∈ E, ∃ o, ops[x.i]? = some o ∧ chk1 P ops n o x.c = true ∧ (x.P ops = true → ∃ d, x.c.d = some d ∧ d ∉ x.rd)
  pair : E.Pairwise fun x y => pairOK P ops n clo x y = true
  edge : ∀ j o, ops[j]? = some o → ∀ e ∈ o.after, Region.binds .any e = true → e.on < j
  bsl : ∀ pre x r, E = pre ++ x :: r → x.A = true → bslStat x = true ∨ ∀ d1 d2, pre = d1 ++ d2 → (∃ w, d1.getLast? = some w ∧ ∃ s ∈ w.pend, itemOK x s = true) ∨ ∃ v ∈ d2, v.A = false ∧ (clo.getD x.i 0).testBit v.i = true
  clo : ∀ j o, ops[j]? = some o → ∀ k, (clo.getD j 0).testBit k = true → ∃ e ∈ o.after, Region.binds .any e = true ∧ (k = e.on ∨ (clo.getD e.on 0).testBit k = true)
  all : ∀ j, j < ops.size → ∃ x ∈ E, x.i = j

theorem testBit_one {k j : Nat} (h : (1 <<< k).testBit j = true) : j = k := by
  rw [Nat.shiftLeft_eq, Nat.one_mul] at h
  by_cases hjk : k = j
  · exact hjk.symm
  · rw [Nat.testBit_two_pow] at h
    simp [hjk] at h

theorem fold_mask (clo : List Nat) (k : Nat) : ∀ (l : List Edge) (m : Nat), (l.foldl (fun m e => if Region.binds .any e = true then m ||| (1 <<< e.on) ||| clo.getD e.on 0 else m) m).testBit k = true →
    m.testBit k = true ∨ ∃ e ∈ l, Region.binds .any e = true ∧ (k = e.on ∨ (clo.getD e.on 0).testBit k = true)
  | [], m, h => .inl h
  | e :: l, m, h => by
    rw [List.foldl_cons] at h
    rcases fold_mask clo k l _ h with h | ⟨e', h1, h2⟩
    · split at h
      · rename_i hb
        rw [Nat.testBit_or, Nat.testBit_or, Bool.or_eq_true, Bool.or_eq_true] at h
        rcases h with (h | h) | h
        · exact .inl h
        · exact .inr ⟨e, by simp, hb, .inl (testBit_one h)⟩
        · exact .inr ⟨e, by simp, hb, .inr h⟩
      · exact .inl h
    · exact .inr ⟨e', by simp [h1], h2⟩

theorem edges_good {clo : List Nat} : ∀ {l : List Oper} {j0 : Nat}, edgesOK clo j0 l = true → ∀ j o, l[j]? = some o →
    (∀ e ∈ o.after, Region.binds .any e = true → e.on < j0 + j) ∧ clo.getD (j0 + j) 0 = maskOf o clo
  | [], _, _, j, o, hj => by simp at hj
  | x :: l, j0, h, j, o, hj => by
    simp only [edgesOK, Bool.and_eq_true, decide_eq_true_eq] at h
    obtain ⟨⟨h1, h2⟩, h3⟩ := h
    cases j with
    | zero =>
      simp at hj; subst hj
      refine ⟨fun e he hb => ?_, h2⟩
      have := List.all_eq_true.1 h1 e (by simpa using he)
      simpa [hb] using this
    | succ j =>
      simp at hj
      have := edges_good h3 j o hj
      rwa [show j0 + 1 + j = j0 + (j + 1) by omega] at this

theorem pairs_good {P : Program} {ops : Array Oper} {n : Nat} {clo : List Nat} : ∀ {E : List Ent}, pairs P ops n clo E = true → E.Pairwise fun x y => pairOK P ops n clo x y = true
  | [], _ => .nil
  | x :: r, h => by
    simp only [pairs, Bool.and_eq_true] at h
    exact .cons (fun y hy => List.all_eq_true.1 h.1 y hy) (pairs_good h.2)

theorem bslDyn_spec {m : Nat} {x : Ent} : ∀ {pre : List Ent} {ok : Bool}, bslDyn m x ok pre = true → ∀ d1 d2, pre = d1 ++ d2 → (match d1.getLast? with | some w => ∃ s ∈ w.pend, itemOK x s = true | none => ok = true) ∨ ∃ v ∈ d2, v.A = false ∧ m.testBit v.i = true
  | [], ok, h, d1, d2, e => by
    have := List.append_eq_nil_iff.1 e.symm
    obtain ⟨rfl, rfl⟩ := this
    exact .inl h
  | v :: r, ok, h, d1, d2, e => by
    simp only [bslDyn, Bool.and_eq_true, Bool.or_eq_true] at h
    cases d1 with
    | nil =>
      simp only [List.nil_append] at e
      subst e
      rcases h.1 with h1 | h1
      · exact .inl h1
      · obtain ⟨u, hu, h2⟩ := List.any_eq_true.1 h1
        simp only [Bool.and_eq_true, Bool.not_eq_true'] at h2
        exact .inr ⟨u, hu, h2.1, h2.2⟩
    | cons a d1 =>
      simp only [List.cons_append, List.cons.injEq] at e
      obtain ⟨rfl, rfl⟩ := e
      rcases bslDyn_spec h.2 d1 d2 rfl with h1 | h1
      · left
        cases d1 with
        | nil => simpa using h1
        | cons b d1 =>
          rw [List.getLast?_cons_cons]
          cases hg : (b :: d1).getLast? with
          | none => simp at hg
          | some w => rw [hg] at h1; exact h1
      · exact .inr h1

theorem bslAll_spec {clo : List Nat} : ∀ {l pre0 : List Ent}, bslAll clo pre0 l = true → ∀ pre x r, l = pre ++ x :: r → x.A = true → bslStat x = true ∨ ∀ d1 d2, pre0 ++ pre = d1 ++ d2 → (∃ w, d1.getLast? = some w ∧ ∃ s ∈ w.pend, itemOK x s = true) ∨ ∃ v ∈ d2, v.A = false ∧ (clo.getD x.i 0).testBit v.i = true
  | [], _, _, pre, x, r, e, _ => by simp at e
  | y :: l, pre0, h, pre, x, r, e, hA => by
    simp only [bslAll, Bool.and_eq_true, Bool.or_eq_true] at h
    cases pre with
    | nil =>
      simp only [List.nil_append, List.cons.injEq] at e
      obtain ⟨rfl, rfl⟩ := e
      rcases h.1 with (h1 | h1) | h1
      · rw [hA] at h1; cases h1
      · exact .inl h1
      · right
        intro d1 d2 e
        rw [List.append_nil] at e
        rcases bslDyn_spec h1 d1 d2 e with h2 | h2
        · left
          cases hg : d1.getLast? with
          | none => rw [hg] at h2; cases h2
          | some w => rw [hg] at h2; exact ⟨w, rfl, h2⟩
        · exact .inr h2
    | cons z pre =>
      simp only [List.cons_append, List.cons.injEq] at e
      obtain ⟨rfl, rfl⟩ := e
      have := bslAll_spec h.2 pre x r rfl hA
      simpa using this

theorem good_of {P : Program} {ops : Array Oper} {n : Nat} {clo : List Nat} {E : List Ent} (h : goodD P ops n clo E = true) : Good P ops n clo E := by
  simp only [goodD, Bool.and_eq_true] at h
  obtain ⟨⟨⟨⟨⟨_, h2⟩, h3⟩, h4⟩, h6⟩, h5⟩ := h
  refine ⟨fun x hx => ?_, pairs_good h3, fun j o hj e he hb => ?_, fun pre x r e hA => by simpa using bslAll_spec h6 pre x r e hA, fun j o hj k hk => ?_, fun j hj => ?_⟩
  · have := List.all_eq_true.1 h2 x hx
    simp only [entOK, Bool.and_eq_true] at this
    obtain ⟨h1, h2⟩ := this
    split at h1
    · rename_i o ho
      refine ⟨o, ho, h1, fun hp => ?_⟩
      rw [hp] at h2
      simp only [Bool.not_true, Bool.false_or] at h2
      split at h2
      · rename_i d hd
        exact ⟨d, hd, by simpa using h2⟩
      · cases h2
    · cases h1
  · have := (edges_good h4 j o (by simpa using hj)).1 e he hb
    omega
  · have := (edges_good h4 j o (by simpa using hj)).2
    rw [Nat.zero_add] at this
    rw [this] at hk
    unfold maskOf at hk
    rcases fold_mask clo k _ 0 hk with h | ⟨e, h1, h2⟩
    · simp at h
    · exact ⟨e, by simpa using h1, h2⟩
  · have := List.all_eq_true.1 h5 j (by simpa using hj)
    obtain ⟨x, hx, he⟩ := List.any_eq_true.1 this
    exact ⟨x, hx, by simpa using he⟩
end Go.Ab

/- The layer Ab, part 10: the orders of a drawn region. -/
namespace Go.Ab

def Ls (listed : Array Bool) (j : Nat) : Prop := listed.getD j false = true

/-- The rows of what is made: a variable, or a slice of so many. -/
def aRows (env : Env) : EOp → Option (Nat × List (List AV))
  | .alloc z => some (z.length, [z])
  | .bsl z len zero parts => (evParts env true parts).ob fun ps => (buildV (fillV zero len) ps).ob fun cs => if cs.length = len * z ∧ cs.all AV.one = true then some (z, chunk z len cs) else none
  | _ => none

def aModel (b : Nat) : EOp → Value
  | .bsl _ len _ _ => .slice (some ⟨b, 0, none⟩) len len
  | _ => .pointer (some ⟨b, 0, none⟩)

def aVal (l s : Nat) : EOp → AV
  | .bsl _ len _ _ => .sl l s 0 len
  | _ => .ptr l s 0 0

def RowsRel (C : Ctx) (w : World) (zv : Array Value) (z : Nat) (es : List (List AV)) : Prop :=
  ∀ (i : Nat) (e : List AV), es[i]? = some e → e.length = z ∧ ∀ (j : Nat) (v : AV), e[j]? = some v → ∃ y : Value, zv[i * z + j]? = some y ∧ y.oneCell' = true ∧ vrel C w v y

theorem RowsRel.mono {C C' : Ctx} {w w' : World} {zv : Array Value} {z : Nat} {es : List (List AV)} (h : RowsRel C w zv z es) (M : Mono C w C' w') : RowsRel C' w' zv z es := fun i e hi => ⟨(h i e hi).1, fun j v hj => by
  obtain ⟨y, f1, f2, f3⟩ := (h i e hi).2 j v hj
  exact ⟨y, f1, f2, f3.monoM M⟩⟩

theorem aRows_env {o : EOp} {env env' : Env} (h : EqOn o.rd env env') : aRows env o = aRows env' o := by
  cases o <;> first | rfl | skip
  simp only [EOp.rd] at h
  simp only [aRows]
  rw [evParts_env true h]

/-- What is made, in its turn. -/
theorem aRows_wp {P : Program} {o : EOp} {st : St} {K Kp : AV → Heap → Prop} {z : Nat} {es : List (List AV)} (hr : aRows st.env o = some (z, es)) (h : o.wp P st K Kp) : ∀ s, K (aVal st.h.length s o) (st.h ++ [.arr s 0 z es]) := by
  cases o <;> simp only [aRows] at hr <;> first | (cases hr; done) | skip
  case alloc zz =>
    simp at hr
    obtain ⟨rfl, rfl⟩ := hr
    exact h
  case bsl z' len zero parts =>
    obtain ⟨ps, h1, hr⟩ := ob_eq_some hr
    obtain ⟨cs, h2, hr⟩ := ob_eq_some hr
    split at hr
    · simp at hr
      obtain ⟨rfl, rfl⟩ := hr
      simp only [EOp.wp, h1, h2, oK_some] at h
      exact h.2
    · cases hr

/-- A block that was made ahead of its turn. -/
structure AheadT (C0 : Ctx) (w0 : World) (C : Ctx) (w : World) (env : Env) (a : Act) (b : Nat) (x : Ent) : Prop where
  is : ∃ d o g z es zv ty, x.c = ⟨some d, .e o, g⟩ ∧ x.A = true ∧ guardB env g = some true ∧ aRows env o = some (z, es) ∧ RowsRel C w zv z es ∧ es.length * z ≤ zv.size ∧ a.tmps.getD d undef = aModel b o ∧ w.heap[b]? = some (Obj.cells zv ty)
  new : w0.heap.size ≤ b
  un : ∀ l s z, C.μ l ≠ some (some b, s, z)
  ok : ∀ j, ¬ C.ok b j

/-- Ahead of its turn it was seen that its guard doesn't hold. -/
structure AheadF (env : Env) (a : Act) (x : Ent) : Prop where
  is : ∃ d o g, x.c = ⟨some d, .e o, g⟩ ∧ x.A = true ∧ guardB env g = some false ∧ a.tmps.getD d undef = undef

def Ahead (C0 : Ctx) (w0 : World) (C : Ctx) (w : World) (env : Env) (a : Act) (bn : Nat) (x : Ent) : Prop :=
  (∃ b, bn = 2 * b ∧ AheadT C0 w0 C w env a b x) ∨ (bn = 2 * x.i + 1 ∧ AheadF env a x)

theorem Ahead.env {C0 C : Ctx} {w0 w : World} {env env' : Env} {a : Act} {b : Nat} {x : Ent} (A : Ahead C0 w0 C w env a b x) (h : EqOn x.rd env env') : Ahead C0 w0 C w env' a b x := by
  have hg : ∀ {d : Option Nat} {o : EOp} {g : Option (Nat × Bool)}, x.c = ⟨d, .e o, g⟩ → guardB env' g = guardB env g ∧ aRows env' o = aRows env o := by
    intro d o g hx
    refine ⟨(guardB_env fun t ht => h t ?_).symm, (aRows_env fun t ht => h t ?_).symm⟩
    · unfold Ent.rd; rw [hx]; exact List.mem_append_right _ ht
    · unfold Ent.rd; rw [hx]; exact List.mem_append_left _ ht
  rcases A with ⟨b', e, ⟨d, o, g, z, es, zv, ty, q1, q2, q3, q4, q5⟩, r1, r2, r3⟩ | ⟨e, d, o, g, q1, q2, q3, q4⟩
  · exact .inl ⟨b', e, ⟨d, o, g, z, es, zv, ty, q1, q2, by rw [(hg q1).1]; exact q3, by rw [(hg q1).2]; exact q4, q5⟩, r1, r2, r3⟩
  · exact .inr ⟨e, d, o, g, q1, q2, by rw [(hg q1).1]; exact q3, q4⟩

section
variable {P : Program} {ops : Array Oper} {n : Nat} {clo : List Nat} {E : List Ent} {Q0 : AExit → St → Prop} {keep : List Nat} {C0 : Ctx} {w0 : World}

structure Inv (P : Program) (ops : Array Oper) (n : Nat) (E : List Ent) (Q0 : AExit → St → Prop) (keep : List Nat) (C0 : Ctx) (w0 : World) (listed : Array Bool) (dn rest : List Ent) (C : Ctx) (w : World) (st : St) (a : Act) (bl : Nat → Nat) : Prop where
  split : E = dn ++ rest
  run : runE P Q0 keep rest st
  S : Step C0 w0 C w
  H : HRel C w st.h
  nle : n ≤ a.tmps.size
  df : a.defers = []
  lsize : listed.size = ops.size
  down : ∀ j o, Ls listed j → ops[j]? = some o → ∀ e ∈ o.after, Region.binds .any e = true → Ls listed e.on
  done : ∀ x ∈ dn, x.P ops = true ∨ Ls listed x.i
  ah : ∀ x ∈ rest, Ls listed x.i → Ahead C0 w0 C w st.env a (bl x.i) x
  last : ∀ x, dn.getLast? = some x → stabs st x.pend
  inj : ∀ x ∈ rest, ∀ y ∈ rest, Ls listed x.i → Ls listed y.i → x.i ≠ y.i → bl x.i ≠ bl y.i
  er : ∀ t, (∀ x ∈ dn, ¬ Ls listed x.i → x.c.d ≠ some t) → (∀ x ∈ rest, Ls listed x.i → x.c.d ≠ some t) → vrel C w (eget st.env t) (a.tmps.getD t undef)
  stb : ∀ x ∈ dn, ¬ Ls listed x.i → ∃ d o g op, x.c.d = some d ∧ ops[x.i]? = some op ∧ chk1 P ops n op ⟨some d, .p o, g⟩ = true ∧ (∀ t ∈ o.rd ++ gRd g, t ∈ x.rd) ∧ (o.mem = true → x.mem = true) ∧ pval st o g = some (eget st.env d)

theorem pair_of (G : Good P ops n clo E) {dn rest : List Ent} (hs : E = dn ++ rest) {x y : Ent} (hx : x ∈ dn) (hy : y ∈ rest) : pairOK P ops n clo x y = true := by
  have := G.pair
  rw [hs, List.pairwise_append] at this
  exact this.2.2 x hx y hy

theorem pair_ne (G : Good P ops n clo E) : ∀ x ∈ E, ∀ y ∈ E, x.i = y.i → x = y := by
  have hp := G.pair.imp (S := fun x y : Ent => x.i ≠ y.i) (fun {x y} h => by
    simp only [pairOK, Bool.and_eq_true, decide_eq_true_eq] at h
    exact h.1.1.1)
  have key : ∀ {l : List Ent}, l.Pairwise (fun x y : Ent => x.i ≠ y.i) → ∀ x ∈ l, ∀ y ∈ l, x.i = y.i → x = y := by
    intro l hl
    induction hl with
    | nil => intro x hx; cases hx
    | cons h1 _ ih =>
      intro x hx y hy he
      rcases List.mem_cons.1 hx with e1 | e1
      · rcases List.mem_cons.1 hy with e2 | e2
        · rw [e1, e2]
        · rw [e1] at he; exact absurd he (h1 y e2)
      · rcases List.mem_cons.1 hy with e2 | e2
        · rw [e2] at he; exact absurd he.symm (h1 x e1)
        · exact ih x e1 y e2 he
  exact key hp

/-- What must come before has come. -/
theorem clo_listed (G : Good P ops n clo E) {listed : Array Bool} (down : ∀ j o, Ls listed j → ops[j]? = some o → ∀ e ∈ o.after, Region.binds .any e = true → Ls listed e.on) :
    ∀ (j : Nat) (o : Oper), ops[j]? = some o → (∀ e ∈ o.after, Region.binds .any e = true → Ls listed e.on) → ∀ k, (clo.getD j 0).testBit k = true → Ls listed k := by
  intro j
  induction j using Nat.strongRecOn with
  | _ j ih =>
    intro o ho hr k hk
    obtain ⟨e, he, hb, h⟩ := G.clo j o ho k hk
    have hl := hr e he hb
    rcases h with rfl | h
    · exact hl
    · have hlt := G.edge j o ho e he hb
      have hsz : e.on < ops.size := Nat.lt_trans hlt (Array.getElem?_eq_some_iff.1 ho).1
      exact ih e.on hlt ops[e.on] (Array.getElem?_eq_getElem hsz) (down e.on _ hl (Array.getElem?_eq_getElem hsz)) k h

structure PairU (P : Program) (ops : Array Oper) (n : Nat) (x y : Ent) : Prop where
  pa : x.P ops = true ∨ y.A = true
  xy : ∀ d, x.c.d = some d → d ∉ y.rd
  yx : ∀ d, y.c.d = some d → d ∉ x.rd
  ne : ∀ d, x.c.d = some d → y.c.d ≠ some d
  pend : x.mem = true → y.eff = true → ∃ s ∈ y.pend, pendOK P ops n x s = true

theorem dOut_spec {x : Ent} {l : List Nat} (h : dOut x l = true) : ∀ d, x.c.d = some d → d ∉ l := by
  intro d hd
  simp only [dOut, hd] at h
  simpa using h

theorem dNe_spec {x y : Ent} (h : dNe x y = true) : ∀ d, x.c.d = some d → y.c.d ≠ some d := by
  intro d hd
  simp only [dNe, hd] at h
  simpa using h

theorem pair_un {x y : Ent} (h : pairOK P ops n clo x y = true) (hu : (clo.getD y.i 0).testBit x.i = false) : PairU P ops n x y := by
  simp only [pairOK, Bool.and_eq_true, hu, Bool.false_or] at h
  obtain ⟨_, ⟨⟨⟨h1, h2⟩, h3⟩, h4⟩, h5⟩ := h
  refine ⟨by simpa using h1, dOut_spec h2, dOut_spec h3, dNe_spec h4, fun hm he => ?_⟩
  rw [hm, he] at h5
  simp only [Bool.and_self, Bool.not_true, Bool.false_or] at h5
  exact List.any_eq_true.1 h5

theorem pair_c5 {x y : Ent} (h : pairOK P ops n clo x y = true) (hy : y.P ops = true ∨ y.A = true) : (∀ d, y.c.d = some d → d ∉ x.rd) ∧ ∀ d, y.c.d = some d → x.c.d ≠ some d := by
  simp only [pairOK, Bool.and_eq_true] at h
  have h1 := h.1.1.2
  have : (y.P ops || y.A) = true := by rcases hy with h | h <;> simp [h]
  rw [this] at h1
  simp only [Bool.not_true, Bool.false_or, Bool.and_eq_true] at h1
  exact ⟨dOut_spec h1.1, dNe_spec h1.2⟩

theorem pair_AA {x y : Ent} (h : pairOK P ops n clo x y = true) (hx : x.A = true) (hy : y.A = true) : ∀ d, x.c.d = some d → d ∉ y.rd := by
  simp only [pairOK, Bool.and_eq_true] at h
  have h1 := h.1.2
  rw [hx, hy] at h1
  exact dOut_spec (by simpa using h1)

theorem pair_i {x y : Ent} (h : pairOK P ops n clo x y = true) : x.i ≠ y.i := by
  simp only [pairOK, Bool.and_eq_true, decide_eq_true_eq] at h
  exact h.1.1.1

theorem A_eff {x : Ent} (h : x.A = true) : x.eff = true ∧ x.P ops = false := by
  obtain ⟨i, ⟨d, o, g⟩, pend⟩ := x
  unfold Ent.A at h
  split at h
  · rename_i heq
    simp only [COper.mk.injEq] at heq
    obtain ⟨rfl, rfl, rfl⟩ := heq
    exact ⟨rfl, rfl⟩
  · rename_i heq
    simp only [COper.mk.injEq] at heq
    obtain ⟨rfl, rfl, rfl⟩ := heq
    exact ⟨rfl, rfl⟩
  · cases h

/-- One that is pending stays so, behind an operation that must not wait for it. -/
theorem stb_keep {x y : Ent} (U : PairU P ops n x y) {st : St} {h' : Heap} {v : AV} (hheap : y.eff = true ∨ h' = st.h) (hp : stabs ⟨eput y.c.d v st.env, h'⟩ y.pend)
    (hx : ∃ d o g op, x.c.d = some d ∧ ops[x.i]? = some op ∧ chk1 P ops n op ⟨some d, .p o, g⟩ = true ∧ (∀ t ∈ o.rd ++ gRd g, t ∈ x.rd) ∧ (o.mem = true → x.mem = true) ∧ pval st o g = some (eget st.env d)) :
    ∃ d o g op, x.c.d = some d ∧ ops[x.i]? = some op ∧ chk1 P ops n op ⟨some d, .p o, g⟩ = true ∧ (∀ t ∈ o.rd ++ gRd g, t ∈ x.rd) ∧ (o.mem = true → x.mem = true) ∧ pval ⟨eput y.c.d v st.env, h'⟩ o g = some (eget (eput y.c.d v st.env) d) := by
  obtain ⟨d, o, g, op, h1, h2, h3, h4, h5, h6⟩ := hx
  have henv : ∀ t, t ∈ x.rd → eget (eput y.c.d v st.env) t = eget st.env t := by
    intro t ht
    cases hd : y.c.d with
    | none => rfl
    | some d' =>
      simp only [eput, eget]
      rw [if_neg]
      intro e; subst e
      exact U.yx _ hd ht
  have hdd : eget (eput y.c.d v st.env) d = eget st.env d := by
    cases hd : y.c.d with
    | none => rfl
    | some d' =>
      simp only [eput, eget]
      rw [if_neg]
      intro e; subst e
      exact U.ne _ h1 hd
  by_cases hmem : x.mem = true ∧ y.eff = true
  · obtain ⟨s, hs, hs'⟩ := U.pend hmem.1 hmem.2
    unfold pendOK at hs'
    split at hs'
    · rename_i o' op' e1 e2
      simp only [Bool.and_eq_true] at hs'
      obtain ⟨⟨q1, q2⟩, q3⟩ := hs'
      rw [h1] at q1 q2
      have hsd : s.d = some d := by
        cases hsd : s.d with
        | none => rw [hsd] at q1; cases q1
        | some d' => rw [hsd] at q1; simp at q1; rw [q1]
      refine ⟨d, o', s.g, op', h1, e2, q2, fun t ht => ?_, fun _ => hmem.1, ?_⟩
      · have := List.all_eq_true.1 q3 t ht
        simpa using this
      · have key : ∀ (l : List COper), stabs ⟨eput y.c.d v st.env, h'⟩ l → s ∈ l → stabK ⟨eput y.c.d v st.env, h'⟩ s.d o' s.g := by
          intro l
          induction l with
          | nil => intro _ hm; cases hm
          | cons c l ih =>
            intro hl hm
            obtain ⟨cd, co, cg⟩ := c
            cases co with
            | s oo =>
              simp only [stabs] at hl
              rcases List.mem_cons.1 hm with rfl | hm
              · simp only [COp.s.injEq] at e1
                subst e1
                exact hl.1
              · exact ih hl.2 hm
            | p oo => exact hl.elim
            | e oo => exact hl.elim
            | b z len zero parts =>
              simp only [stabs] at hl
              rcases List.mem_cons.1 hm with rfl | hm
              · cases e1
              · exact ih hl.2 hm
        have := key y.pend hp hs
        rw [hsd] at this
        exact pval_stab this
    · cases hs'
  · refine ⟨d, o, g, op, h1, h2, h3, h4, h5, ?_⟩
    have e1 : pval ⟨eput y.c.d v st.env, h'⟩ o g = pval ⟨st.env, h'⟩ o g := pval_env fun t ht => henv t (h4 t ht)
    have e2 : pval ⟨st.env, h'⟩ o g = pval st o g := by
      rcases hheap with he | rfl
      · have : o.mem = false := by
          cases hm : o.mem with
          | false => rfl
          | true => exact absurd ⟨h5 hm, he⟩ hmem
        exact pval_heap this
      · rfl
    rw [e1, e2, h6, hdd]

theorem unlisted_not_clo (G : Good P ops n clo E) {listed : Array Bool} (down : ∀ j o, Ls listed j → ops[j]? = some o → ∀ e ∈ o.after, Region.binds .any e = true → Ls listed e.on) {j : Nat} {o : Oper} (ho : ops[j]? = some o)
    (hr : ∀ e ∈ o.after, Region.binds .any e = true → Ls listed e.on) {k : Nat} (hk : ¬ Ls listed k) : (clo.getD j 0).testBit k = false := by
  cases h : (clo.getD j 0).testBit k with
  | false => rfl
  | true => exact absurd (clo_listed G down j o ho hr k h) hk

/-- An operation is carried out ahead. -/
theorem adv_pure (G : Good P ops n clo E) {listed : Array Bool} {dn rest : List Ent} {x : Ent} {C : Ctx} {w : World} {st : St} {a : Act} {bl : Nat → Nat} (I : Inv P ops n E Q0 keep C0 w0 listed dn (x :: rest) C w st a bl) (hp : x.P ops = true) (hl : ¬ Ls listed x.i) :
    ∃ st', Inv P ops n E Q0 keep C0 w0 listed (dn ++ [x]) rest C w st' a bl := by
  have hxE : x ∈ E := by rw [I.split]; simp
  obtain ⟨op, hop, hchk, hself⟩ := G.one x hxE
  obtain ⟨d, hd, hdn⟩ := hself hp
  obtain ⟨i, ⟨d', o, g⟩, pend⟩ := x
  simp only at hd; subst hd
  cases o with
  | e o => simp [Ent.P] at hp
  | s o => simp [Ent.P] at hp
  | b z len zero parts => simp [Ent.P] at hp
  | p o =>
    have hrun := I.run
    simp only [runE] at hrun
    obtain ⟨v, hv, hst, hk⟩ := pval_of hrun
    simp only [eput] at hk hst
    refine ⟨⟨(d, v) :: st.env, st.h⟩, by rw [I.split]; simp, hk, I.S, I.H, I.nle, I.df, I.lsize, I.down, ?_, ?_, ?_, ?_, ?_, ?_⟩
    · intro y hy
      rcases List.mem_append.1 hy with hy | hy
      · exact I.done y hy
      · simp at hy; subst hy; exact .inl hp
    · intro y hy hly
      refine (I.ah y (List.mem_cons_of_mem _ hy) hly).env fun t ht => ?_
      have hyE : y ∈ E := by rw [I.split]; simp [hy]
      obtain ⟨opy, hopy, _⟩ := G.one y hyE
      have hpair := pair_of G (dn := dn ++ [⟨i, ⟨some d, .p o, g⟩, pend⟩]) (rest := rest) (by rw [I.split]; simp) (x := ⟨i, ⟨some d, .p o, g⟩, pend⟩) (y := y) (by simp) hy
      have hu := (pair_un hpair (unlisted_not_clo G I.down hopy (I.down y.i opy hly hopy) hl)).xy d rfl
      simp only [eget]
      rw [if_neg]
      intro e; subst e; exact hu ht
    · intro y hy
      rw [List.getLast?_concat] at hy
      obtain rfl := Option.some.inj hy
      exact hst
    · exact fun y hy z hz => I.inj y (List.mem_cons_of_mem _ hy) z (List.mem_cons_of_mem _ hz)
    · intro t h1 h2
      have hdt : d ≠ t := by
        intro e
        exact h1 _ (List.mem_append_right _ (List.mem_singleton_self _)) hl (by simp [e])
      simp only [eget]
      rw [if_neg hdt]
      refine I.er t (fun y hy => h1 y (List.mem_append_left _ hy)) fun y hy hly => ?_
      rcases List.mem_cons.1 hy with rfl | hy
      · exact absurd hly hl
      · exact h2 y hy hly
    · intro y hy hly
      rcases List.mem_append.1 hy with hy | hy
      · have hpair := pair_of G I.split hy (List.mem_cons_self (a := (⟨i, ⟨some d, .p o, g⟩, pend⟩ : Ent)))
        obtain ⟨c1, c2⟩ := pair_c5 hpair (.inl hp)
        obtain ⟨dy, oy, gy, opy, h1, h2, h3, h4, h5, h6⟩ := I.stb y hy hly
        refine ⟨dy, oy, gy, opy, h1, h2, h3, h4, h5, ?_⟩
        have e1 : pval ⟨(d, v) :: st.env, st.h⟩ oy gy = pval st oy gy := pval_env fun t ht => by
          simp only [eget]
          rw [if_neg]
          intro e; subst e
          exact c1 _ rfl (h4 _ ht)
        rw [e1, h6]
        simp only [eget]
        rw [if_neg]
        intro e; subst e
        exact c2 _ rfl h1
      · simp at hy; subst hy
        refine ⟨d, o, g, op, rfl, hop, hchk, ?_, ?_, ?_⟩
        · exact fun t ht => ht
        · exact fun h => h
        · have e1 : pval ⟨(d, v) :: st.env, st.h⟩ o g = pval st o g := pval_env fun t ht => by
            simp only [eget]
            rw [if_neg]
            intro e; subst e
            exact hdn ht
          rw [e1, hv]
          simp [eget]
end
end Go.Ab

/- The layer Ab, part 11: the orders of a drawn region, brought together. -/
namespace Go.Ab

section
variable {P : Program} {ops : Array Oper} {n : Nat} {clo : List Nat} {E : List Ent} {Q0 : AExit → St → Prop} {keep : List Nat} {C0 : Ctx} {w0 : World}

/-- A block that stands in the world is taken for a new object's. -/
theorem adopt {C : Ctx} {w : World} {h : Heap} (S : Step C0 w0 C w) (H : HRel C w h) {b z : Nat} {es : List (List AV)} {zv : Array Value} {ty : TypeId} (hb : w.heap[b]? = some (Obj.cells zv ty)) (hnew : w0.heap.size ≤ b) (hun : ∀ l s z, C.μ l ≠ some (some b, s, z)) (hok : ∀ j, ¬ C.ok b j)
    (hrows : RowsRel C w zv z es) (hsz : es.length * z ≤ zv.size) : Mono C w (C.new h.length (some b) z) w ∧ Step C0 w0 (C.new h.length (some b) z) w ∧ HRel (C.new h.length (some b) z) w (h ++ [.arr C.clk 0 z es]) := by
  have hold : ∀ {l : Nat} {q : Option Nat × Nat × Nat}, (C.new h.length (some b) z).μ l = some q → (l = h.length ∧ q = (some b, C.clk, z)) ∨ C.μ l = some q := by
    intro l q hq
    simp only [Ctx.new] at hq
    split at hq
    · rename_i e; exact .inl ⟨e, (Option.some.inj hq).symm⟩
    · exact .inr hq
  have M : Mono C w (C.new h.length (some b) z) w := by
    refine ⟨by simp [Ctx.new], fun _ _ h => h, fun _ _ _ => rfl, fun l ob s z' hl hs => ?_, fun _ arr t fz h => ⟨arr, t, fz, h, rfl⟩⟩
    rcases hold hl with ⟨_, e⟩ | e
    · simp at e; omega
    · exact e
  have S' : Step C0 w0 (C.new h.length (some b) z) w := by
    refine ⟨S.os, S.tape, S.output, S.size, Nat.le_trans S.clk M.clk, S.ok, S.cell, fun l ob s z' hl hs => ?_, S.kind, S.out, fun l b' s z' hl hb' => ?_, S.okn⟩
    · rcases hold hl with ⟨_, e⟩ | e
      · simp at e; have := S.clk; omega
      · exact S.old l ob s z' e hs
    · rcases hold hl with ⟨_, e⟩ | e
      · simp at e; omega
      · exact S.own l b' s z' e hb'
  refine ⟨M, S', ?_, ?_, ?_, H.okb, ?_, H.tb⟩
  · intro l o hl
    rcases Nat.lt_trichotomy l h.length with hlt | rfl | hgt
    · rw [List.getElem?_append_left hlt] at hl
      exact (H.obj l o hl).keepM M (by simp [Ctx.new]; omega) (fun _ _ _ _ => rfl) (fun _ _ _ _ _ h => h)
    · simp at hl; subst hl
      simp only [orel]
      exact ⟨by simp [Ctx.new], some b, by simp [Ctx.new], zv, ty, hb, hsz, fun j _ => hok j, hrows.mono M⟩
    · rw [List.getElem?_eq_none (by simp; omega)] at hl; cases hl
  · intro l l' b' s z1 s' z1' h1 h2
    rcases hold h1 with ⟨e1, e2⟩ | e1
    · simp at e2
      obtain ⟨rfl, _⟩ := e2
      rcases hold h2 with ⟨e3, _⟩ | e3
      · rw [e1, e3]
      · exact absurd e3 (hun _ _ _)
    · rcases hold h2 with ⟨_, e4⟩ | e3
      · simp at e4
        obtain ⟨rfl, _⟩ := e4
        exact absurd e1 (hun _ _ _)
      · exact H.inj l l' b' s z1 s' z1' e1 e3
  · intro l hl
    simp at hl
    simp only [Ctx.new]
    rw [if_neg (by omega)]
    exact H.none l (by omega)
  · intro l b' s z' hl
    rcases hold hl with ⟨_, e⟩ | e
    · simp at e
      obtain ⟨rfl, _⟩ := e
      exact (Array.getElem?_eq_some_iff.1 hb).1
    · exact H.blk l b' s z' e

/-- What was made ahead is taken up, in its turn. -/
theorem absorbT (G : Good P ops n clo E) {listed : Array Bool} {dn rest : List Ent} {x : Ent} {C : Ctx} {w : World} {st : St} {a : Act} {bl : Nat → Nat} (I : Inv P ops n E Q0 keep C0 w0 listed dn (x :: rest) C w st a bl) (hl : Ls listed x.i) {bx : Nat} (hbx : bl x.i = 2 * bx) (hA : AheadT C0 w0 C w st.env a bx x) :
    ∃ C' st', Inv P ops n E Q0 keep C0 w0 listed (dn ++ [x]) rest C' w st' a bl := by
  obtain ⟨⟨d, o, g, z, es, zv, ty, hx, hAx, hgt, hrow, hrel, hsz, hd, hb⟩, hnew, hun, hok⟩ := hA
  obtain ⟨i, c, pend⟩ := x
  simp only at hx hd hb hnew hun hok hl hbx
  subst hx
  have hxE : (⟨i, ⟨some d, .e o, g⟩, pend⟩ : Ent) ∈ E := by rw [I.split]; simp
  obtain ⟨op, hop, hchk, -⟩ := G.one _ hxE
  have hrun0 := I.run
  have hrun : o.wp P st (fun v h => stabs ⟨eput (some d) v st.env, h⟩ pend ∧ runE P Q0 keep rest ⟨eput (some d) v st.env, h⟩) (fun v h => Q0 (.pan v) ⟨st.env, h⟩) := by
    cases g with
    | none => simpa only [runE] using hrun0
    | some g =>
      simp only [runE] at hrun0
      obtain ⟨b, h1, h2⟩ := oK_of hrun0
      rw [hgt] at h1
      obtain rfl := Option.some.inj h1
      exact h2.1 rfl
  clear hrun0
  obtain ⟨hst, hk⟩ := aRows_wp hrow hrun C.clk
  obtain ⟨M, S', H'⟩ := adopt I.S I.H hb hnew hun hok hrel hsz
  refine ⟨C.new st.h.length (some bx) z, _, by rw [I.split]; simp, hk, S', H', I.nle, I.df, I.lsize, I.down, ?_, ?_, ?_, ?_, ?_, ?_⟩
  · intro y hy
    rcases List.mem_append.1 hy with hy | hy
    · exact I.done y hy
    · simp at hy; subst hy; exact .inr hl
  · intro y hy hly
    have hpair := pair_of G (dn := dn ++ [⟨i, ⟨some d, .e o, g⟩, pend⟩]) (rest := rest) (by rw [I.split]; simp) (x := ⟨i, ⟨some d, .e o, g⟩, pend⟩) (y := y) (by simp) hy
    have hyA := I.ah y (List.mem_cons_of_mem _ hy) hly
    have hinj := I.inj _ (List.mem_cons_self ..) y (List.mem_cons_of_mem _ hy) hl hly (pair_i hpair)
    simp only at hinj
    have hAy : y.A = true := by
      rcases hyA with ⟨_, _, ⟨_, _, _, _, _, _, _, _, q, _⟩, _⟩ | ⟨_, _, _, _, _, q, _⟩ <;> exact q
    have henv : EqOn y.rd st.env (eput (some d) (aVal st.h.length C.clk o) st.env) := by
      intro t ht
      simp only [eput, eget]
      rw [if_neg]
      intro e; subst e
      exact pair_AA hpair hAx hAy _ rfl ht
    refine Ahead.env ?_ henv
    rcases hyA with ⟨b', e', ⟨d', o', g', z', es', zv', ty', p1, p2, p2', p3, p4, p5⟩, q2, q3, q4⟩ | ⟨e', p⟩
    · refine .inl ⟨b', e', ⟨d', o', g', z', es', zv', ty', p1, p2, p2', p3, p4.mono M, p5⟩, q2, fun l s z' hm => ?_, q4⟩
      simp only [Ctx.new] at hm
      split at hm
      · simp at hm
        omega
      · exact q3 _ _ _ hm
    · exact .inr ⟨e', p⟩
  · intro y hy
    rw [List.getLast?_concat] at hy
    obtain rfl := Option.some.inj hy
    exact hst
  · exact fun y hy z hz => I.inj y (List.mem_cons_of_mem _ hy) z (List.mem_cons_of_mem _ hz)
  · intro t h1 h2
    simp only [eput, eget]
    by_cases hdt : d = t
    · subst hdt
      rw [if_pos rfl, hd]
      cases o <;> simp only [aRows] at hrow <;> first | (cases hrow; done) | skip
      case alloc zz =>
        simp only [aVal, aModel, vrel]
        refine ⟨by simp [Ctx.new], ⟨_, rfl⟩, fun b' z' hm => ?_⟩
        simp [Ctx.new] at hm
        obtain ⟨rfl, rfl⟩ := hm
        simp
      case bsl z1 len zero parts =>
        obtain ⟨ps, h1, hrow⟩ := ob_eq_some hrow
        obtain ⟨cs, h2, hrow⟩ := ob_eq_some hrow
        split at hrow
        · simp at hrow
          obtain ⟨rfl, rfl⟩ := hrow
          rw [chunk_length] at hsz
          simp only [aVal, aModel, vrel]
          refine ⟨by simp [Ctx.new], ⟨_, _, _, rfl⟩, fun ob z' hm => ?_⟩
          simp [Ctx.new] at hm
          obtain ⟨rfl, rfl⟩ := hm
          exact ⟨len, by simp, Nat.le_refl _, zv, ty, _, hb, by simpa using hsz⟩
        · cases hrow
    · rw [if_neg hdt]
      refine (I.er t (fun y hy hly => h1 y (List.mem_append_left _ hy) hly) fun y hy hly => ?_).monoM M
      rcases List.mem_cons.1 hy with rfl | hy
      · simpa using hdt
      · exact h2 y hy hly
  · intro y hy hly
    rcases List.mem_append.1 hy with hy | hy
    · have hpair := pair_of G I.split hy (List.mem_cons_self (a := (⟨i, ⟨some d, .e o, g⟩, pend⟩ : Ent)))
      have hu := unlisted_not_clo G I.down hop (I.down i op hl hop) hly
      exact stb_keep (pair_un hpair hu) (.inl rfl) hst (I.stb y hy hly)
    · simp at hy; subst hy; exact absurd hl hly

/-- Nor was it made: its guard doesn't hold. -/
theorem absorbF (G : Good P ops n clo E) {listed : Array Bool} {dn rest : List Ent} {x : Ent} {C : Ctx} {w : World} {st : St} {a : Act} {bl : Nat → Nat} (I : Inv P ops n E Q0 keep C0 w0 listed dn (x :: rest) C w st a bl) (hl : Ls listed x.i) (hA : AheadF st.env a x) :
    ∃ C' st', Inv P ops n E Q0 keep C0 w0 listed (dn ++ [x]) rest C' w st' a bl := by
  obtain ⟨d, o, g, hx, hAx, hgf, hd⟩ := hA
  obtain ⟨i, c, pend⟩ := x
  simp only at hx hl
  subst hx
  have hxE : (⟨i, ⟨some d, .e o, g⟩, pend⟩ : Ent) ∈ E := by rw [I.split]; simp
  obtain ⟨op, hop, hchk, -⟩ := G.one _ hxE
  have hrun0 := I.run
  have hrun : stabs ⟨eput (some d) (.cond false .dead) st.env, st.h⟩ pend ∧ runE P Q0 keep rest ⟨eput (some d) (.cond false .dead) st.env, st.h⟩ := by
    cases g with
    | none => cases hgf
    | some g =>
      simp only [runE] at hrun0
      obtain ⟨b, h1, h2⟩ := oK_of hrun0
      rw [hgf] at h1
      obtain rfl := Option.some.inj h1
      exact h2.2 rfl
  obtain ⟨hst, hk⟩ := hrun
  refine ⟨C, _, by rw [I.split]; simp, hk, I.S, I.H, I.nle, I.df, I.lsize, I.down, ?_, ?_, ?_, ?_, ?_, ?_⟩
  · intro y hy
    rcases List.mem_append.1 hy with hy | hy
    · exact I.done y hy
    · simp at hy; subst hy; exact .inr hl
  · intro y hy hly
    have hpair := pair_of G (dn := dn ++ [⟨i, ⟨some d, .e o, g⟩, pend⟩]) (rest := rest) (by rw [I.split]; simp) (x := ⟨i, ⟨some d, .e o, g⟩, pend⟩) (y := y) (by simp) hy
    have hyA := I.ah y (List.mem_cons_of_mem _ hy) hly
    have hAy : y.A = true := by
      rcases hyA with ⟨_, _, ⟨_, _, _, _, _, _, _, _, q, _⟩, _⟩ | ⟨_, _, _, _, _, q, _⟩ <;> exact q
    refine Ahead.env hyA fun t ht => ?_
    simp only [eput, eget]
    rw [if_neg]
    intro e; subst e
    exact pair_AA hpair hAx hAy _ rfl ht
  · intro y hy
    rw [List.getLast?_concat] at hy
    obtain rfl := Option.some.inj hy
    exact hst
  · exact fun y hy z hz => I.inj y (List.mem_cons_of_mem _ hy) z (List.mem_cons_of_mem _ hz)
  · intro t h1 h2
    simp only [eput, eget]
    by_cases hdt : d = t
    · subst hdt
      rw [if_pos rfl, hd]
      simp [vrel]
    · rw [if_neg hdt]
      refine I.er t (fun y hy hly => h1 y (List.mem_append_left _ hy) hly) fun y hy hly => ?_
      rcases List.mem_cons.1 hy with rfl | hy
      · simpa using hdt
      · exact h2 y hy hly
  · intro y hy hly
    rcases List.mem_append.1 hy with hy | hy
    · have hpair := pair_of G I.split hy (List.mem_cons_self (a := (⟨i, ⟨some d, .e o, g⟩, pend⟩ : Ent)))
      have hu := unlisted_not_clo G I.down hop (I.down i op hl hop) hly
      exact stb_keep (pair_un hpair hu) (.inl rfl) hst (I.stb y hy hly)
    · simp at hy; subst hy; exact absurd hl hly

theorem absorb (G : Good P ops n clo E) {listed : Array Bool} {dn rest : List Ent} {x : Ent} {C : Ctx} {w : World} {st : St} {a : Act} {bl : Nat → Nat} (I : Inv P ops n E Q0 keep C0 w0 listed dn (x :: rest) C w st a bl) (hl : Ls listed x.i) :
    ∃ C' st', Inv P ops n E Q0 keep C0 w0 listed (dn ++ [x]) rest C' w st' a bl := by
  rcases I.ah x (List.mem_cons_self ..) hl with ⟨b, e, A⟩ | ⟨_, A⟩
  · exact absorbT G I hl e A
  · exact absorbF G I hl A

theorem Ahead.A {C : Ctx} {w : World} {env : Env} {a : Act} {b : Nat} {x : Ent} (h : Ahead C0 w0 C w env a b x) : x.A = true := by
  rcases h with ⟨_, _, ⟨_, _, _, _, _, _, _, _, q, _⟩, _⟩ | ⟨_, _, _, _, _, q, _⟩ <;> exact q

/-- What stands ahead of an operation that may come now has come, or may come ahead. -/
theorem advance (G : Good P ops n clo E) {listed : Array Bool} {w : World} {a : Act} {bl : Nat → Nat} {rest : List Ent} :
    ∀ (mid : List Ent) {dn : List Ent} {C : Ctx} {st : St}, Inv P ops n E Q0 keep C0 w0 listed dn (mid ++ rest) C w st a bl → (∀ y ∈ mid, y.P ops = true ∨ Ls listed y.i) → ∃ C' st', Inv P ops n E Q0 keep C0 w0 listed (dn ++ mid) rest C' w st' a bl
  | [], dn, C, st, I, _ => ⟨C, st, by simpa using I⟩
  | y :: mid, dn, C, st, I, h => by
    have fin : ∀ {C : Ctx} {st : St}, Inv P ops n E Q0 keep C0 w0 listed (dn ++ [y]) (mid ++ rest) C w st a bl → ∃ C' st', Inv P ops n E Q0 keep C0 w0 listed (dn ++ (y :: mid)) rest C' w st' a bl := by
      intro C st I
      obtain ⟨C', st', I'⟩ := advance G mid I fun z hz => h z (List.mem_cons_of_mem _ hz)
      exact ⟨C', st', by simpa using I'⟩
    by_cases hl : Ls listed y.i
    · obtain ⟨C', st', I'⟩ := absorb G I hl
      exact fin I'
    · obtain ⟨st', I'⟩ := adv_pure G I ((h y (List.mem_cons_self ..)).resolve_right hl) hl
      exact fin I'

theorem ls_set {listed : Array Bool} {i j : Nat} (hi : i < listed.size) : Ls (listed.setIfInBounds i true) j ↔ j = i ∨ Ls listed j := by
  unfold Ls
  by_cases h : i = j
  · subst h; simp [hi]
  · have hj : j ≠ i := fun e => h e.symm
    simp [Array.getElem?_setIfInBounds_ne h, hj]

theorem down_set {listed : Array Bool} {i : Nat} {o : Oper} (hi : i < listed.size) (ho : ops[i]? = some o) (hr : ∀ e ∈ o.after, Region.binds .any e = true → Ls listed e.on) (down : ∀ j o, Ls listed j → ops[j]? = some o → ∀ e ∈ o.after, Region.binds .any e = true → Ls listed e.on) :
    ∀ j o, Ls (listed.setIfInBounds i true) j → ops[j]? = some o → ∀ e ∈ o.after, Region.binds .any e = true → Ls (listed.setIfInBounds i true) e.on := by
  intro j o' hj ho' e he hb
  rw [ls_set hi] at hj ⊢
  rcases hj with rfl | hj
  · rw [ho] at ho'
    obtain rfl := Option.some.inj ho'
    exact .inr (hr e he hb)
  · exact .inr (down j o' hj ho' e he hb)

/-- What an operation reads is there. -/
theorem reads_ok (G : Good P ops n clo E) {listed : Array Bool} {dn rest : List Ent} {C : Ctx} {w : World} {st : St} {a : Act} {bl : Nat → Nat} (I : Inv P ops n E Q0 keep C0 w0 listed dn rest C w st a bl) {x : Ent} (hx : x ∈ dn ∨ rest.head? = some x) {op : Oper} (hop : ops[x.i]? = some op)
    (hr : ∀ e ∈ op.after, Region.binds .any e = true → Ls listed e.on) (hl : ¬ Ls listed x.i) (hself : x ∈ dn → ∀ d, x.c.d = some d → d ∉ x.rd) : ∀ t ∈ x.rd, vrel C w (eget st.env t) (a.tmps.getD t undef) := by
  have hxE : x ∈ E := by
    rw [I.split]
    rcases hx with h | h
    · exact List.mem_append_left _ h
    · exact List.mem_append_right _ (List.mem_of_mem_head? h)
  have hclo : ∀ y : Ent, ¬ Ls listed y.i → (clo.getD x.i 0).testBit y.i = false := fun y hy => unlisted_not_clo G I.down hop hr hy
  have before : ∀ {y : Ent}, pairOK P ops n clo y x = true → ¬ Ls listed y.i → ∀ d, y.c.d = some d → d ∉ x.rd := fun hp hy => (pair_un hp (hclo _ hy)).xy
  have hpw := G.pair
  rw [I.split, List.pairwise_append] at hpw
  intro t ht
  refine I.er t (fun y hy hly hd => ?_) (fun y hy hly hd => ?_)
  · -- pending
    rcases hx with hxd | hxr
    · obtain ⟨l1, l2, hsp⟩ := List.append_of_mem hxd
      rw [hsp, List.pairwise_append, List.pairwise_cons] at hpw
      rw [hsp] at hy
      rcases List.mem_append.1 hy with h | h
      · exact before (hpw.1.2.2 y h x (List.mem_cons_self ..)) hly t hd ht
      · rcases List.mem_cons.1 h with rfl | h
        · exact hself hxd t hd ht
        · have hy' : y ∈ dn := by rw [hsp]; simp [h]
          exact (pair_c5 (hpw.1.2.1.1 y h) (.inl ((I.done y hy').resolve_right hly))).1 t hd ht
    · exact before (hpw.2.2 y hy x (List.mem_of_mem_head? hxr)) hly t hd ht
  · -- ahead
    have hA := (I.ah y hy hly).A
    rcases hx with hxd | hxr
    · exact (pair_c5 (hpw.2.2 x hxd y hy) (.inr hA)).1 t hd ht
    · cases rest with
      | nil => cases hxr
      | cons r rest =>
        simp at hxr; subst hxr
        rcases List.mem_cons.1 hy with rfl | hy
        · exact absurd hly hl
        · have := hpw.2.1
          rw [List.pairwise_cons] at this
          exact (pair_c5 (this.1 y hy) (.inr hA)).1 t hd ht

theorem erel_keep {C : Ctx} {w : World} {st : St} {a : Act} {l : List Nat} (h : ∀ t ∈ l, vrel C w (eget st.env t) (a.tmps.getD t undef)) : ERel C w (keepE st.env l) a.tmps ∧ EqOn l st.env (keepE st.env l) := by
  have key : ∀ (l : List Nat) (t : Nat), (t ∈ l → eget (keepE st.env l) t = eget st.env t) ∧ (t ∉ l → eget (keepE st.env l) t = .dead) := by
    intro l t
    induction l with
    | nil => exact ⟨fun h => absurd h (by simp), fun _ => rfl⟩
    | cons x xs ih =>
      simp only [keepE, List.map_cons, eget]
      by_cases hx : x = t
      · rw [if_pos hx]; exact ⟨fun _ => by rw [hx], fun h => absurd (by simp [hx]) h⟩
      · rw [if_neg hx]
        exact ⟨fun h => ih.1 ((List.mem_cons.1 h).resolve_left fun e => hx e.symm), fun h => ih.2 fun hm => h (List.mem_cons_of_mem _ hm)⟩
  refine ⟨⟨fun t => ?_⟩, fun t ht => ((key l t).1 ht).symm⟩
  by_cases ht : t ∈ l
  · rw [(key l t).1 ht]; exact h t ht
  · rw [(key l t).2 ht]; simp [vrel]
end
end Go.Ab
