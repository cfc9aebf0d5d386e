/- The layer Ab, part 6: freezing; the checks of operations that change memory; what they do. -/
import Derived.Test.YtghiionknnpajaaGreatDoorAb5
set_option linter.unusedVariables false
set_option linter.unusedSimpArgs false
namespace Go.Ab

section
variable {C : Ctx} {w : World} {P : Program}

/-! ### Freezing -/

def Ctx.seal (C : Ctx) (b lo hi : Nat) : Ctx := { C with ok := fun k j => C.ok k j ∨ (k = b ∧ lo ≤ j ∧ j < hi) }

theorem step_seal (b lo hi : Nat) (ho : ∃ l s z, C.μ l = some (some b, s, z)) : Step C w (C.seal b lo hi) w :=
  ⟨rfl, rfl, rfl, Nat.le_refl _, Nat.le_refl _, fun _ _ h => .inl h, fun _ _ _ => rfl, fun _ _ _ _ h _ => h, fun _ arr t fz h => ⟨arr, t, fz, h, rfl⟩, fun _ _ _ => rfl, fun l _ s z h _ => ⟨l, s, z, h⟩, fun k j h _ => h.imp id fun q => by rw [q.1]; exact ho⟩

theorem mul_range {z i j n q : Nat} (h1 : i * z ≤ j) (h2 : j < (i + n) * z) (hq : q = j - i * z) : q < n * z := by
  rw [Nat.add_mul] at h2; omega

theorem frzO_sound {h : Heap} (H : HRel C w h) {l s i n : Nat} {y : Value} (hr : vrel C w (.sl l s i n) y) :
    ∃ C', Step C w C' w ∧ HRel C' w (frzO h l s i n h[l]?).2 ∧ vrel C' w (frzO h l s i n h[l]?).1 y := by
  have dead : ∃ C', Step C w C' w ∧ HRel C' w h ∧ vrel C' w .dead y := ⟨C, .refl C w, H, by simp [vrel]⟩
  cases ho : h[l]? with
  | none => exact dead
  | some o =>
    cases o with
    | arr s' imm z es =>
      simp only [frzO]
      split
      · rename_i hcond
        obtain ⟨rfl, hin⟩ := hcond
        have hobj := H.obj l _ ho
        simp only [orel] at hobj
        obtain ⟨hlt, ob, hmu, hob⟩ := hobj
        have hrows : h.rows l s = some es := by simp [Heap.rows, ho, ob_some, AObj.rows]
        obtain ⟨z', ⟨imm', hobj'⟩, hcase⟩ := rows_sound H hr hrows
        rw [ho] at hobj'
        simp at hobj'
        obtain ⟨_, rfl⟩ := hobj'
        rcases hcase with ⟨hm, rfl, rfl, rfl, rfl⟩ | ⟨b, cap, arr, t', hm, rfl, hcap, hbk, hsz, hsz2, hr'⟩
        · refine ⟨C, .refl C w, ?_, ?_⟩
          · refine ⟨?_, H.inj, ?_, H.okb, H.blk, H.tb⟩
            · intro k o' hk
              by_cases hkl : k = l
              · subst hkl
                rw [List.getElem?_set_self (List.getElem?_eq_some_iff.1 ho).1] at hk
                simp at hk; subst hk
                simp only [orel]
                exact ⟨hlt, none, hm, by trivial⟩
              · rw [List.getElem?_set_ne (fun e => hkl e.symm)] at hk
                exact H.obj k o' hk
            · intro k hk; exact H.none k (by simpa using hk)
          · simp only [vrel]; exact ⟨none, 0, by simp, by simp, .inl (by simp)⟩
        · rw [hm] at hmu
          simp at hmu
          subst hmu
          obtain ⟨arr0, t0, q1, q2, q3, q4⟩ := hob
          rw [hbk] at q1
          simp at q1
          obtain ⟨rfl, rfl⟩ := q1
          have st : Step C w (C.seal b (i * z) ((i + n) * z)) w := step_seal b (i * z) ((i + n) * z) ⟨l, s, z, hm⟩
          have hin' : (i + n) * z ≤ arr.size := Nat.le_trans (Nat.mul_le_mul_right _ hin) q2
          refine ⟨C.seal b (i * z) ((i + n) * z), st, ?_, ?_⟩
          · refine ⟨?_, H.inj, ?_, ?_, H.blk, H.tbS st⟩
            · intro k o' hk
              by_cases hkl : k = l
              · subst hkl
                rw [List.getElem?_set_self (List.getElem?_eq_some_iff.1 ho).1] at hk
                simp at hk; subst hk
                simp only [orel]
                refine ⟨hlt, some b, hm, arr, t', hbk, q2, fun j hj hk => ?_, fun i' e hi' => ⟨(q4 i' e hi').1, fun j v hj => ?_⟩⟩
                · rcases hk with hk | ⟨_, h1, h2⟩
                  · exact q3 j (Nat.le_trans (Nat.mul_le_mul_right _ (Nat.le_max_left _ _)) hj) hk
                  · have := Nat.mul_le_mul_right z (Nat.le_max_right imm (i + n))
                    omega
                · obtain ⟨y, f1, f2, f3⟩ := (q4 i' e hi').2 j v hj
                  exact ⟨y, f1, f2, f3.mono st⟩
              · rw [List.getElem?_set_ne (fun e => hkl e.symm)] at hk
                refine (H.obj k o' hk).keep st rfl (fun _ _ _ _ => rfl) (fun b' s' z' hm' j hk' => ?_)
                rcases hk' with hk' | ⟨rfl, _⟩
                · exact hk'
                · exact absurd (H.inj k l _ s' z' s z hm' hm) hkl
            · intro k hk; exact H.none k (by simpa using hk)
            · intro b' j hk
              rcases hk with hk | ⟨rfl, _⟩
              · exact H.okb b' j hk
              · exact (Array.getElem?_eq_some_iff.1 hbk).1
          · simp only [vrel]
            have hxl : ((es.drop i).take n).length = n := by simp; omega
            refine ⟨some ⟨b, i * z, none⟩, cap, by rw [hxl], by omega, .inr ⟨b, i * z, z, rfl, ves.of_get fun k e hk => ?_⟩⟩
            rw [List.getElem?_take] at hk
            split at hk
            · rename_i hkn
              rw [List.getElem?_drop] at hk
              obtain ⟨e1, e2⟩ := q4 (i + k) e hk
              refine ⟨e1, vmem.of_get fun j v hj => ?_⟩
              have hjz : j < z := by rw [← e1]; exact (List.getElem?_eq_some_iff.1 hj).1
              obtain ⟨y, f1, f2, f3⟩ := e2 j v hj
              have hle : (k + 1) * z ≤ n * z := Nat.mul_le_mul_right _ hkn
              rw [Nat.add_mul] at hle
              refine ⟨.inr ⟨rfl, by omega, by rw [Nat.add_mul]; omega⟩, y, ?_, f3.mono st⟩
              rw [cell_of_row w b _ arr t' (0, 0) hbk]
              rwa [show i * z + k * z + j = (i + k) * z + j by rw [Nat.add_mul]]
            · cases hk
      · exact dead
    | _ => exact dead

theorem frzP_sound {n0 : Nat} {h : Heap} (H : HRel C w h) {v : AV} {y : Value} (hr : vrel C w v y) : ∃ C', Step C w C' w ∧ HRel C' w (frzP n0 h v).2 ∧ vrel C' w (frzP n0 h v).1 y := by
  unfold frzP
  split
  · split
    · exact frzO_sound H hr
    · exact ⟨C, .refl C w, H, hr⟩
  · simp only [vrel] at hr
    exact ⟨C, .refl C w, H, by simp only [vrel]; exact ⟨none, 0, hr, Nat.le_refl _, .inl trivial⟩⟩
  · exact ⟨C, .refl C w, H, hr⟩

theorem frzCs_sound {n0 : Nat} : ∀ {vs : List AV} {ys : List Value} {C : Ctx} {h : Heap}, HRel C w h → vrels C w vs ys → ∃ C', Step C w C' w ∧ HRel C' w (frzCs n0 h vs).2 ∧ vrels C' w (frzCs n0 h vs).1 ys
  | [], ys, C, h, H, hr => ⟨C, .refl C w, H, hr⟩
  | v :: vs, ys, C, h, H, hr => by
    simp only [vrels] at hr
    obtain ⟨y, zs, rfl, h1, h2⟩ := hr
    obtain ⟨C1, s1, H1, r1⟩ := frzP_sound (n0 := n0) H h1
    obtain ⟨C2, s2, H2, r2⟩ := frzCs_sound (n0 := n0) H1 (h2.mono s1)
    refine ⟨C2, s1.trans s2, H2, ?_⟩
    simp only [frzCs, consP, vrels]
    exact ⟨y, zs, rfl, r1.mono s2, r2⟩

theorem frz1_sound {n0 : Nat} {h : Heap} (H : HRel C w h) {v : AV} {y : Value} (hr : vrel C w v y) : ∃ C', Step C w C' w ∧ HRel C' w (frz1 n0 h v).2 ∧ vrel C' w (frz1 n0 h v).1 y := by
  unfold frz1
  split
  · simp only [vrel] at hr
    obtain ⟨xs, rfl, h1⟩ := hr
    obtain ⟨C1, s1, H1, r1⟩ := frzCs_sound (n0 := n0) H h1
    exact ⟨C1, s1, H1, by simp only [aggP, vrel]; exact ⟨xs, rfl, r1⟩⟩
  · exact frzP_sound H hr

theorem frzs_sound {n0 : Nat} : ∀ {vs : List AV} {ys : List Value} {C : Ctx} {h : Heap}, HRel C w h → vrels C w vs ys → ∃ C', Step C w C' w ∧ HRel C' w (frzs n0 h vs).2 ∧ vrels C' w (frzs n0 h vs).1 ys
  | [], ys, C, h, H, hr => ⟨C, .refl C w, H, hr⟩
  | v :: vs, ys, C, h, H, hr => by
    simp only [vrels] at hr
    obtain ⟨y, zs, rfl, h1, h2⟩ := hr
    obtain ⟨C1, s1, H1, r1⟩ := frz1_sound (n0 := n0) H h1
    obtain ⟨C2, s2, H2, r2⟩ := frzs_sound (n0 := n0) H1 (h2.mono s1)
    refine ⟨C2, s1.trans s2, H2, ?_⟩
    simp only [frzs, consP, vrels]
    exact ⟨y, zs, rfl, r1.mono s2, r2⟩

theorem frzT_sound {n0 : Nat} {h : Heap} (H : HRel C w h) {v : AV} {y : Value} (hr : vrel C w v y) : ∃ C', Step C w C' w ∧ HRel C' w (frzT n0 h v).2 ∧ vrel C' w (frzT n0 h v).1 y := by
  unfold frzT
  split
  · simp only [vrel] at hr
    obtain ⟨xs, rfl, h1⟩ := hr
    obtain ⟨C1, s1, H1, r1⟩ := frzs_sound (n0 := n0) H h1
    exact ⟨C1, s1, H1, by simp only [tupP, vrel]; exact ⟨xs, rfl, r1⟩⟩
  · exact frz1_sound H hr

/-- What lies from n on is forgotten. -/
def Ctx.drop (C : Ctx) (n : Nat) : Ctx := { C with μ := fun l => if l < n then C.μ l else none }

theorem drop_sound {h : Heap} (H : HRel C w h) (n : Nat) : Step C w (C.drop n) w ∧ HRel (C.drop n) w (h.take n) := by
  have hs : ∀ {l : Nat} {x : Option Nat × Nat × Nat}, (C.drop n).μ l = some x → C.μ l = some x := by
    intro l x hx
    simp only [Ctx.drop] at hx
    split at hx
    · exact hx
    · cases hx
  have st : Step C w (C.drop n) w :=
    ⟨rfl, rfl, rfl, Nat.le_refl _, Nat.le_refl _, fun _ _ h => h, fun _ _ _ => rfl, fun _ _ _ _ h _ => hs h, fun _ arr t fz h => ⟨arr, t, fz, h, rfl⟩, fun _ _ _ => rfl, fun l _ s z h _ => ⟨l, s, z, hs h⟩, fun _ _ h _ => .inl h⟩
  refine ⟨st, ?_, fun l l' b s z s' z' h1 h2 => H.inj l l' b s z s' z' (hs h1) (hs h2), fun l hl => ?_, H.okb, fun l b s z h => H.blk l b s z (hs h), H.tbS st⟩
  · intro l o hl
    rw [List.getElem?_take] at hl
    split at hl
    · rename_i hln
      exact (H.obj l o hl).keep st (by simp [Ctx.drop, hln]) (fun _ _ _ _ => rfl) (fun _ _ _ _ _ h => h)
    · cases hl
  · simp only [Ctx.drop]
    split
    · rename_i hln
      simp at hl
      exact H.none l (by omega)
    · rfl

/-! ### The checks -/

def isNilSl : Operand → Bool
  | .const (.slice none 0 0) => true
  | _ => false

theorem isNilSl_of {x : Operand} (h : isNilSl x = true) : x = .const (.slice none 0 0) := by
  unfold isNilSl at h
  split at h
  · rfl
  · cases h

def chkE (P : Program) (o : Oper) (e : EOp) : Bool :=
  match o.op, e with
  | .alloc t, .alloc z => (match (P.info? t).bind (·.zero) with | some zv => chkLeaves zv.cells.toList z | none => false)
  | .box _ x, .box _ y => chkO x y
  | .buildSlice t len parts, .bsl z len' zero parts' => (match P.underlying t with
      | some (.slice e) => decide (sizeB P e = some z) && decide (0 < z) && decide (len = len') && decide (len * z ≤ 16777216) && (decide (0 < len) || (decide (len = 0) && parts.toList.isEmpty)) &&
          (match (P.info? e).bind (·.zero) with | some zv => chkLeaves zv.cells.toList zero && decide (zv.cells.size = z) | none => false) && chkParts (fun i => some (i * z, z)) parts.toList parts'
      | _ => false)
  | .buildSlice t len parts, .bslz z len' zero parts' => (match P.underlying t with
      | some (.slice e) => decide (sizeB P e = some z) && decide (0 < z) && decide (len = len') && decide (len * z ≤ 16777216) && decide (0 < len) &&
          (match (P.info? e).bind (·.zero) with | some zv => chkLeaves zv.cells.toList zero && decide (zv.cells.size = z) | none => false) && chkParts (fun i => some (i * z, z)) parts.toList parts'
      | _ => false)
  | .store t a x, .st a' x' => decide (sizeB P t = some 1) && chkO a a' && chkO x x'
  | .store t a x, .stn n a' x' => decide (sizeB P t = some n) && chkO a a' && chkO x x'
  | .call c, .call f args _ => (match c.callee with | .value (.func g) => decide (f = g) && goFunc P f && chkOs c.args.toList args | _ => false)
  | .call c, .callv x args _ => (match c.callee with | .value (.tmp t) => chkO (.tmp t) x && chkOs c.args.toList args | _ => false)
  | .call c, .app z by_ s x => (match c.callee, c.args.toList, c.argTypes.toList with
      | .builtin .append, [a, b], [t, t2] => (match P.underlying t with
          | some (.slice e) => (match P.info? e with
              | some i => decide (i.size = z) && decide (i.bytes = by_) && decide (0 < z) && decide (0 < by_) && (match i.zero with | some zv => decide (zv.cells.size = z) | none => false)
              | none => false)
          | _ => false) && (match P.underlying t2 with | some (.slice _) => true | some .string => true | _ => false) && chkO a s && chkO b x
      | _, _, _ => false)
  | .assign x, .vnil _ => isNilSl x
  | .call c, .clear z x => (match c.callee, c.args.toList, c.argTypes.toList with
      | .builtin .clear, [a], [t] => (match P.underlying t with
          | some (.slice e) => (match (P.info? e).bind (·.zero) with | some zv => decide (zv.cells.size = z) && zv.cells.toList.all (·.oneCell') | none => false)
          | _ => false) && chkO a x
      | _, _, _ => false)
  | .alloc t, .allocv _ z => (match (P.info? t).bind (·.zero) with | some zv => chkLeaves zv.cells.toList z | none => false)
  | .box _ x, .boxv _ _ y => chkO x y
  | .store t a x, .stnv n _ a' x' => decide (sizeB P t = some n) && chkO a a' && chkO x x'
  | .makeMap _ r, .mkmap => r.isNone
  | .panic x, .panic y => chkO x y
  | .mapUpdate t m' k' v', .mapup kk m k v => (match P.underlying t with | some (.map kt _) => keyTy P kt kk | _ => false) && chkO m' m && chkO k' k && chkO v' v
  | .insert t m' k' v', .mapup kk m k v => (match P.underlying t with | some (.map kt _) => keyTy P kt kk | _ => false) && chkO m' m && chkO k' k && chkO v' v
  | .range t x, .rstr y => (match P.underlying t with | some .string => true | _ => false) && chkO x y
  | .next x b, .nstr y => b && chkO x y
  | .binOp op t x n _, .isnil neg y => isNilSl n && (match op with | .eql => !neg | .neq => neg | _ => false) && (match P.underlying t with | some (.slice _) => true | _ => false) && chkO x y
  | _, _ => false

theorem oK_of {α : Type} {x : Option α} {f : α → Prop} (h : x.oK f) : ∃ a, x = some a ∧ f a := by
  cases x with
  | none => exact h.elim
  | some a => exact ⟨a, rfl, h⟩

def Post (C : Ctx) (w : World) (o : Oper) (a : Act) (K : AV → Heap → Prop) (a' : Act) (w' : World) : Prop :=
  ∃ C' v h' y, Step C w C' w' ∧ HRel C' w' h' ∧ vrel C' w' v y ∧ a' = a.put o.dst y ∧ K v h'
def PostP (C : Ctx) (w : World) (a : Act) (Kp : AV → Heap → Prop) (x : Exit) (a' : Act) (w' : World) : Prop :=
  ∃ C' v h' y, Step C w C' w' ∧ HRel C' w' h' ∧ vrel C' w' v y ∧ x = .panic [{ v := y, recovered := false }] ∧ a' = a ∧ Kp v h'

theorem wp_value {o : Oper} {a : Act} {K Kp : AV → Heap → Prop} {C' : Ctx} {v : AV} {h' : Heap} {y : Value} {w' : World} (hr : (execOp a.eval o).run P w = .ok (.value y) w') (s : Step C w C' w') (H' : HRel C' w' h') (hv : vrel C' w' v y) (hk : K v h') :
    o.wp P a w (Post C w o a K) (PostP C w a Kp) := by
  unfold Oper.wp
  rw [hr]
  exact ⟨C', v, h', y, s, H', hv, rfl, hk⟩

theorem wp_skip {o : Oper} {a : Act} {K Kp : AV → Heap → Prop} {C' : Ctx} {h' : Heap} {w' : World} (hr : (execOp a.eval o).run P w = .ok .skip w') (s : Step C w C' w') (H' : HRel C' w' h') (hk : K .dead h') :
    o.wp P a w (Post C w o a K) (PostP C w a Kp) := by
  unfold Oper.wp
  rw [hr]
  exact ⟨C', .dead, h', undef, s, H', by simp [vrel], rfl, hk⟩

theorem zero_run {t : TypeId} {zv : Value} (h : (P.info? t).bind (·.zero) = some zv) (w : World) : (zeroValue t).run P w = .ok zv w := by
  cases hi : P.info? t with
  | none => simp [hi] at h
  | some i => simp [hi] at h; simp [zeroValue, typeInfo, hi, h]

theorem chkLeaves_one : ∀ {vs : List Value} {us : List AV}, chkLeaves vs us = true → us.all AV.one = true
  | [], [], _ => rfl
  | v :: vs, a :: us, h => by
    simp only [chkLeaves, Bool.and_eq_true] at h
    simp only [List.all_cons, Bool.and_eq_true]
    exact ⟨(chkLeaf_sound (C := ⟨fun _ _ => False, fun _ => none, 0⟩) (w := default) h.1).2, chkLeaves_one h.2⟩
  | [], _ :: _, h => by simp [chkLeaves] at h
  | _ :: _, [], h => by simp [chkLeaves] at h

/-- A store at a place of one's own. -/
theorem store_sound {h h' : Heap} (H : HRel C w h) {p : AV} {y : Value} {f : List AV → Option (List AV)} {n : Nat} {vs : List AV} {ys : List Value} (hp : vrel C w p y) (hs : storeH h f p = some h')
    (hf : ∀ r r', f r = some r' → p.off + vs.length ≤ r.length ∧ r' = r.take p.off ++ vs ++ r.drop (p.off + vs.length)) (hv : vrels C w vs ys) (h1 : vs.all AV.one = true) :
    ∃ b o w', y = .pointer (some ⟨b, o, none⟩) ∧ (storeCells ⟨b, o, none⟩ ys).run P w = .ok () w' ∧ Step C w C w' ∧ HRel C w' h' := by
  cases p <;> simp only [storeH] at hs
  case ptr l s i off =>
    obtain ⟨o, ho, hs⟩ := ob_eq_some hs
    obtain ⟨q, hq, hs⟩ := ob_eq_some hs
    cases o <;> simp only [asArr] at hq
    case arr s' imm z es =>
      simp at hq; subst hq
      simp only at hs
      split at hs
      · rename_i hcond
        obtain ⟨rfl, himm⟩ := hcond
        obtain ⟨r, hr, hs⟩ := ob_eq_some hs
        obtain ⟨r', hr', hs⟩ := ob_eq_some hs
        simp at hs; subst hs
        obtain ⟨hle, hrr⟩ := hf r r' hr'
        simp only [AV.off] at hle hrr
        have hobj := H.obj l _ ho
        simp only [orel] at hobj
        obtain ⟨hlt, ob, hm, hob⟩ := hobj
        cases ob with
        | none => simp only at hob; subst hob; simp at hr
        | some b =>
          obtain ⟨arr, t, q1, q2, q3, q4⟩ := hob
          obtain ⟨e1, e2⟩ := q4 i r hr
          have hlv := hv.length
          have hilt : i < es.length := (List.getElem?_eq_some_iff.1 hr).1
          have hiz : (i + 1) * z ≤ arr.size := Nat.le_trans (Nat.mul_le_mul_right _ hilt) q2
          rw [Nat.add_mul] at hiz
          have hone := oneCells hv h1
          have hst := run_storeCells_at P b (i * z + off) t ys 0 arr w q1 (by omega) hone
          simp only [Nat.add_zero] at hst
          simp only [vrel] at hp
          refine ⟨b, i * z + off, _, hp.2.2 b z hm, hst, ?_⟩
          refine set_rel H ho hm q1 himm hr ?_ ?_ ?_ ?_
          · rw [hrr]; simp; omega
          · simp only [List.size_toArray, List.length_append, List.length_take, List.length_drop, Array.length_toList]
            omega
          · intro k hk
            rw [List.getElem?_toArray]
            rw [Nat.add_mul] at hk
            rcases hk with hk | hk
            · rw [List.append_assoc, List.getElem?_append_left (by simp; omega), List.getElem?_take, if_pos (by omega)]; simp
            · rw [List.getElem?_append_right (by simp; omega), List.getElem?_drop]
              simp only [List.length_append, List.length_take, Array.length_toList]
              rw [show i * z + off + ys.length + (k - (min (i * z + off) arr.size + ys.length)) = k by omega]
              simp
          · intro j v hj
            rw [hrr, List.append_assoc] at hj
            rcases Nat.lt_or_ge j off with hjo | hjo
            · rw [List.getElem?_append_left (by simp; omega), List.getElem?_take, if_pos hjo] at hj
              obtain ⟨y', f1, f2, f3⟩ := e2 j v hj
              refine ⟨y', ?_, f2, f3⟩
              rw [List.getElem?_toArray, List.append_assoc, List.getElem?_append_left (by simp; omega), List.getElem?_take, if_pos (by omega)]
              simpa using f1
            · rw [List.getElem?_append_right (by simp; omega)] at hj
              have hto : (r.take off).length = off := by simp; omega
              rw [hto] at hj
              rcases Nat.lt_or_ge (j - off) vs.length with hjv | hjv
              · rw [List.getElem?_append_left hjv] at hj
                obtain ⟨y', f1, f2⟩ := hv.get hj
                refine ⟨y', ?_, hone y' (List.mem_of_getElem? f1), f2⟩
                rw [List.getElem?_toArray, List.append_assoc, List.getElem?_append_right (by simp; omega), List.getElem?_append_left (by simp; omega)]
                simp only [List.length_take, Array.length_toList]
                rw [show i * z + j - min (i * z + off) arr.size = j - off by omega]
                exact f1
              · rw [List.getElem?_append_right hjv, List.getElem?_drop] at hj
                rw [show off + vs.length + (j - off - vs.length) = j by omega] at hj
                obtain ⟨y', f1, f2, f3⟩ := e2 j v hj
                refine ⟨y', ?_, f2, f3⟩
                rw [List.getElem?_toArray, List.getElem?_append_right (by simp; omega), List.getElem?_drop]
                simp only [List.length_append, List.length_take, Array.length_toList]
                rw [show i * z + off + ys.length + (i * z + j - (min (i * z + off) arr.size + ys.length)) = i * z + j by omega]
                simpa using f1
      · cases hs
    all_goals cases hq
  all_goals cases hs

theorem run_callFunc {f : FuncId} {args : Array Value} (h : goFunc P f = true) (w : World) : (callFunc f args).run P w = .ok (.enter f args) w := by
  unfold goFunc at h
  split at h
  · rename_i fn hf
    simp only [Bool.and_eq_true, bne_iff_ne, ne_eq, Option.isSome_iff_exists] at h
    obtain ⟨h1, b, h2⟩ := h
    simp [callFunc, hf, h1, h2]
  · cases h

theorem call_sound {o : Oper} {a : Act} {K Kp : AV → Heap → Prop} {f : FuncId} {vs : List AV} {h : Heap} {ys : List Value} {args : Array Value} {C1 : Ctx} (hr : (execOp a.eval o).run P w = .ok (.enter f args) w) (ha : args = ys.toArray) (s1 : Step C w C1 w) (H : HRel C1 w h) (hv : vrels C1 w vs ys)
    (hk : callK P f vs h (onRet K Kp)) : o.wp P a w (Post C w o a K) (PostP C w a Kp) := by
  obtain ⟨R, hS, hK⟩ := hk
  unfold Oper.wp
  rw [hr, Oper.upon_enter, ha]
  refine (hS.2 C1 w ys H hv).mono fun e w' hp => ?_
  obtain ⟨C', r, h', s2, H', hvt, hR⟩ := hp
  have hk := hK r h' hR
  cases r with
  | ret v =>
    obtain ⟨y, rfl, hy⟩ := hvt
    exact ⟨C', v, h', y, s1.trans s2, H', hy, rfl, hk⟩
  | pan v =>
    obtain ⟨y, rfl, hy⟩ := hvt
    exact ⟨C', v, h', y, s1.trans s2, H', hy, rfl, rfl, hk⟩

/-- A map or an iterator is turned. -/
theorem upd_rel {h : Heap} (H : HRel C w h) {l s z b : Nat} {o o' : AObj} {ob ob' : Obj} (ho : h[l]? = some o) (hm : C.μ l = some (some b, s, z)) (hb : w.heap[b]? = some ob) (hn : ∀ arr t fz, ob ≠ .cells arr t fz) (hn' : ∀ arr t fz, ob' ≠ .cells arr t fz)
    (ho' : Step C w C { w with heap := w.heap.setIfInBounds b ob' } → orel C { w with heap := w.heap.setIfInBounds b ob' } l o') : Step C w C { w with heap := w.heap.setIfInBounds b ob' } ∧ HRel C { w with heap := w.heap.setIfInBounds b ob' } (h.set l o') := by
  have hlt : b < w.heap.size := (Array.getElem?_eq_some_iff.1 hb).1
  have hself : (w.heap.setIfInBounds b ob')[b]? = some ob' := by simp [hlt]
  have hother : ∀ k, k ≠ b → (w.heap.setIfInBounds b ob')[k]? = w.heap[k]? := fun k hk => by
    rw [Array.getElem?_setIfInBounds]; simp [Ne.symm hk]
  have st : Step C w C { w with heap := w.heap.setIfInBounds b ob' } := by
    refine ⟨rfl, rfl, rfl, by simp, Nat.le_refl _, fun _ _ h => h, ?_, fun _ _ _ _ h _ => h, ?_, ?_, fun l b s z h _ => ⟨l, s, z, h⟩, fun _ _ h _ => .inl h⟩
    · intro k j hk
      by_cases hkb : k = b
      · subst hkb
        have e1 : ({ w with heap := w.heap.setIfInBounds k ob' } : World).cell? ⟨k, j, none⟩ = none := by
          simp only [World.cell?, hself]
          cases ob' <;> first | rfl | exact absurd rfl (hn' _ _ _)
        have e2 : w.cell? ⟨k, j, none⟩ = none := by
          simp only [World.cell?, hb]
          cases ob <;> first | rfl | exact absurd rfl (hn _ _ _)
        rw [e1, e2]
      · simp only [World.cell?, hother k hkb]
    · intro k a t fz hk
      by_cases hkb : k = b
      · subst hkb; rw [hb] at hk; simp at hk; exact absurd hk (hn _ _ _)
      · exact ⟨a, t, fz, by simp only [hother k hkb]; exact hk, rfl⟩
    · intro k hk hne
      exact hother k (fun e => by subst e; exact hne l s z hm)
  refine ⟨st, ?_, H.inj, fun k hk => H.none k (by simpa using hk), fun b' j hk => by simpa using H.okb b' j hk, fun k b' s' z' hm' => by simpa using H.blk k b' s' z' hm', H.tbS st⟩
  intro k o1 hk
  by_cases hkl : k = l
  · subst hkl
    rw [List.getElem?_set_self (List.getElem?_eq_some_iff.1 ho).1] at hk
    simp at hk; subst hk
    exact ho' st
  · rw [List.getElem?_set_ne (fun e => hkl e.symm)] at hk
    refine (H.obj k o1 hk).keep st rfl (fun b' s' z' hm' => hother b' (fun e => ?_)) (fun _ _ _ _ _ hk => hk)
    subst e
    exact hkl (H.inj k l b' s' z' s z hm' hm)

theorem run_setObj {r : Nat} {o ob : Obj} (hb : w.heap[r]? = some ob) (hn : ∀ arr t fz, ob ≠ .cells arr t fz) : (setObj r o).run P w = .ok () { w with heap := w.heap.setIfInBounds r o } := by
  simp only [setObj, Sem.run, hb]
  try (cases ob <;> first | rfl | exact absurd rfl (hn _ _ _))

theorem run_getObj {r : Nat} {ob : Obj} (hb : w.heap[r]? = some ob) (hn : ∀ arr t fz, ob ≠ .cells arr t fz) : (getObj r).run P w = .ok ob w := by
  simp only [getObj, Sem.run, hb]
  try (cases ob <;> first | rfl | exact absurd rfl (hn _ _ _))

/-- Rows may be forgotten. -/
theorem trunc_rel {h : Heap} (H : HRel C w h) {l s imm z n : Nat} {es : List (List AV)} (ho : h[l]? = some (.arr s imm z es)) (_hn : imm ≤ n) : HRel C w (h.set l (.arr s imm z (es.take n))) := by
  refine ⟨fun k o hk => ?_, H.inj, fun k hk => H.none k (by simpa using hk), H.okb, H.blk, H.tb⟩
  by_cases hkl : k = l
  · subst hkl
    rw [List.getElem?_set_self (List.getElem?_eq_some_iff.1 ho).1] at hk
    simp at hk; subst hk
    have hobj := H.obj k _ ho
    simp only [orel] at hobj ⊢
    obtain ⟨h1, ob, h2, h3⟩ := hobj
    refine ⟨h1, ob, h2, ?_⟩
    cases ob with
    | none => simp only at h3; subst h3; simp
    | some b =>
      obtain ⟨arr, t, q1, q2, q3, q4⟩ := h3
      refine ⟨arr, t, q1, Nat.le_trans (Nat.mul_le_mul_right _ (by simp; omega)) q2, q3, fun i e hi => ?_⟩
      rw [List.getElem?_take] at hi
      split at hi
      · exact q4 i e hi
      · cases hi
  · rw [List.getElem?_set_ne (fun e => hkl e.symm)] at hk
    exact H.obj k o hk

theorem fillV_length {zero : List AV} : ∀ n, (fillV zero n).length = n * zero.length
  | 0 => by simp [fillV]
  | n + 1 => by simp [fillV, fillV_length n, Nat.add_mul, Nat.add_comm]

theorem fillV_get {zero : List AV} {z : Nat} (hz : zero.length = z) (hp : 0 < z) : ∀ {n k : Nat}, k < n * z → (fillV zero n)[k]? = zero[k % z]?
  | 0, k, h => by omega
  | n + 1, k, h => by
    simp only [fillV]
    rcases Nat.lt_or_ge k z with hk | hk
    · rw [List.getElem?_append_left (by omega), Nat.mod_eq_of_lt hk]
    · rw [List.getElem?_append_right (by omega), hz, fillV_get hz hp (by rw [Nat.add_mul] at h; omega), ← Nat.mod_eq_sub_mod hk]

theorem chunk_length {z : Nat} : ∀ {n : Nat} {cs : List AV}, (chunk z n cs).length = n
  | 0, _ => rfl
  | n + 1, cs => by simp [chunk, chunk_length]

theorem chunk_get {z : Nat} : ∀ {n i : Nat} {cs : List AV}, i < n → (chunk z n cs)[i]? = some ((cs.drop (i * z)).take z)
  | 0, _, _, h => by omega
  | n + 1, 0, cs, _ => by simp [chunk]
  | n + 1, i + 1, cs, h => by
    simp only [chunk, List.getElem?_cons_succ]
    rw [chunk_get (by omega), List.drop_drop, Nat.add_mul, Nat.one_mul, Nat.add_comm z]

/-- AN OPERATION THAT MAY CHANGE MEMORY does in the model what part 2 says. -/
theorem clear_sound {h : Heap} (H : HRel C w h) {t ty e : TypeId} {zv : Value} {l s imm z i n : Nat} {es : List (List AV)} {y : Value} (ht : P.underlying t = some (.slice e)) (hzv : (P.info? e).bind (·.zero) = some zv) (hz : zv.cells.size = z) (hz1 : ∀ v ∈ zv.cells.toList, v.oneCell' = true)
    (hx : vrel C w (.sl l s i n) y) (ho : h[l]? = some (.arr s imm z es)) (himm : imm ≤ i) :
    ∃ w', (Builtin.clear_ #[t] ty #[y]).run P w = .ok (.tuple #[]) w' ∧ Step C w C w' ∧ HRel C w' (h.set l (.arr s imm z (es.take i))) := by
  obtain ⟨z', ⟨imm', hobj⟩, hcase⟩ := rows_sound H hx (es := es) (by simp [Heap.rows, ho, ob_some, AObj.rows])
  rw [ho] at hobj
  simp at hobj
  obtain ⟨rfl, rfl⟩ := hobj
  have H1 := trunc_rel H ho himm
  rcases hcase with ⟨hm, rfl, rfl, rfl, rfl⟩ | ⟨b, cap, arr, t', hm, rfl, hcap, hb, hsz, _, _⟩
  · exact ⟨w, by simp [Builtin.clear_, run_underlying ht], .refl C w, H1⟩
  · rcases Nat.eq_zero_or_pos n with rfl | hn
    · exact ⟨w, by simp [Builtin.clear_, run_underlying ht], .refl C w, H1⟩
    · have hlen : ((Builtin.zeroCells zv.cells n).toList).length = n * z := by simp [zeroCells_size, hz]
      have hle : (i + n) * z ≤ arr.size := Nat.le_trans (Nat.mul_le_mul_right _ (by omega)) hsz
      rw [Nat.add_mul] at hle
      have hone : ∀ v ∈ (Builtin.zeroCells zv.cells n).toList, v.oneCell' = true := by
        intro v hv
        rcases Nat.eq_zero_or_pos z with hz0 | hzp
        · rw [hz0, Nat.mul_zero] at hlen
          rw [List.eq_nil_of_length_eq_zero hlen] at hv
          cases hv
        · simp only [Builtin.zeroCells] at hv
          simp only [Array.toList_map, List.mem_map] at hv
          obtain ⟨k, hk, rfl⟩ := hv
          refine hz1 _ ?_
          have hkz : k % zv.cells.size < zv.cells.size := Nat.mod_lt _ (by omega)
          rw [getElem!_pos zv.cells _ hkz]
          simp
      have hst := run_storeCells_at P b (i * z) t' _ 0 arr w hb (by rw [hlen]; omega) hone
      simp only [Nat.add_zero] at hst
      have hlt := (List.getElem?_eq_some_iff.1 ho).1
      have W := write_rel (arr' := (arr.toList.take (i * z) ++ (Builtin.zeroCells zv.cells n).toList ++ arr.toList.drop (i * z + (Builtin.zeroCells zv.cells n).toList.length)).toArray) (i := i) H1 (List.getElem?_set_self hlt) hm hb himm (by simp; omega) (by
          simp only [List.size_toArray, List.length_append, List.length_take, List.length_drop, Array.length_toList, hlen]
          omega) (fun k hk => by
          rw [List.getElem?_toArray, List.append_assoc, List.getElem?_append_left (by simp; omega), List.getElem?_take, if_pos hk]
          simp)
      refine ⟨_, ?_, W.1, W.2⟩
      have hn0 : n ≠ 0 := by omega
      obtain ⟨m, rfl⟩ : ∃ m, n = m + 1 := ⟨n - 1, by omega⟩
      simp [Builtin.clear_, run_underlying ht, zero_run hzv, hst]

/-- Nil slices taken for objects of one's own. -/
theorem own_sound : ∀ {own : List (Nat × Nat)} {cs : List AV} {ys : List Value} {C : Ctx} {h : Heap} {K : List AV → Heap → Prop}, HRel C w h → vrels C w cs ys → ownK own cs h K → ∃ C' cs' h', Step C w C' w ∧ HRel C' w h' ∧ vrels C' w cs' ys ∧ K cs' h' ∧ cs'.length = cs.length
  | [], cs, ys, C, h, K, H, hv, hk => ⟨C, cs, h, .refl C w, H, hv, hk, rfl⟩
  | (k, z) :: r, cs, ys, C, h, K, H, hv, hk => by
    simp only [ownK] at hk
    obtain ⟨h1, h2⟩ := hk
    split at h1
    · rename_i hk0
      have S := step_virtual (C := C) (w := w) (h := h) z
      have H' : HRel (C.new h.length none z) w (h ++ [.arr C.clk 0 z []]) := hrel_virtual H z (by simp only [orel]; exact ⟨by simp [Ctx.new], none, by simp [Ctx.new], trivial⟩)
      have hv' : vrels (C.new h.length none z) w (cs.set k (.sl h.length C.clk 0 0)) ys := by
        have hl := hv.length
        refine vrels.of_get (by simpa using hl) fun i v y hi hy => ?_
        by_cases hik : k = i
        · subst hik
          rw [List.getElem?_set_self (List.getElem?_eq_some_iff.1 hk0).1] at hi
          obtain rfl := Option.some.inj hi
          obtain ⟨y', g1, g2⟩ := hv.get hk0
          rw [hy] at g1
          obtain rfl := Option.some.inj g1
          simp only [vrel] at g2
          subst g2
          simp only [vrel]
          refine ⟨by simp [Ctx.new], ⟨_, _, _, rfl⟩, fun ob z' hm => ?_⟩
          simp [Ctx.new] at hm
          obtain ⟨rfl, rfl⟩ := hm
          simp
        · rw [List.getElem?_set_ne hik] at hi
          obtain ⟨y', g1, g2⟩ := hv.get hi
          rw [hy] at g1
          obtain rfl := Option.some.inj g1
          exact g2.mono S
      obtain ⟨C', cs', h', S', H'', hv'', hk', hl⟩ := own_sound H' hv' (h2 C.clk)
      exact ⟨C', cs', h', S.trans S', H'', hv'', hk', by simpa using hl⟩
    · exact h1.elim

theorem EOp.sound {o : Oper} {e : EOp} {st : St} {a : Act} {K Kp : AV → Heap → Prop} (hc : chkE P o e = true) (H : HRel C w st.h) (he : ERel C w st.env a.tmps) (h : e.wp P st K Kp) : o.wp P a w (Post C w o a K) (PostP C w a Kp) := by
  obtain ⟨dst, op, ty, pp, aft, gd⟩ := o
  cases e
  case alloc z =>
    cases op <;> first | (cases hc; done) | skip
    rename_i t
    simp only [chkE] at hc
    split at hc
    · rename_i zv hz
      simp only [EOp.wp] at h
      have hl := chkLeaves_sound (C := C) (w := w) hc
      refine wp_value (C' := C.new st.h.length (some w.heap.size) z.length) (w' := w.alloc (.cells zv.cells t)) (y := .pointer (some ⟨w.heap.size, 0, none⟩)) ?_ (step_new H _ _) (new_one H hl (chkLeaves_one hc)) ?_ (h C.clk)
      · simp [execOp, Instr.alloc, zero_run hz, newVar, newRow]
      · have := ptr_new (C := C) (w := w) (w' := w.alloc (.cells zv.cells t)) (h := st.h) (z := z.length) (i := 0) (off := 0)
        simpa using this
    · cases hc
  case box n y =>
    cases op <;> first | (cases hc; done) | skip
    rename_i t x
    simp only [chkE] at hc
    simp only [EOp.wp] at h
    obtain ⟨v, h1, ⟨hl, hone⟩, hk⟩ := oK_of h
    have hv := ev_sound hc he h1 rfl
    have hcs := cells_sound hv hone
    have hn := new_one (t := t) H hcs hone
    rw [hl] at hn
    refine wp_value (C' := C.new st.h.length (some w.heap.size) n) (w' := w.alloc (.cells (a.eval x).cells t)) (y := .pointer (some ⟨w.heap.size, 0, none⟩)) ?_ (step_new H _ _) hn ?_ (hk C.clk)
    · simp [execOp, Instr.box, newVar, newRow]
    · have := ptr_new (C := C) (w := w) (w' := w.alloc (.cells (a.eval x).cells t)) (h := st.h) (z := n) (i := 0) (off := 0)
      simpa using this
  case allocv own z =>
    cases op <;> first | (cases hc; done) | skip
    rename_i t
    simp only [chkE] at hc
    split at hc
    · rename_i zv hz
      simp only [EOp.wp] at h
      have hl := chkLeaves_sound (C := C) (w := w) hc
      obtain ⟨C1, cs, h1, S1, H1, hv1, ⟨hone, hk⟩, hlen⟩ := own_sound H hl h
      have hnew := new_one (t := t) H1 hv1 hone
      rw [hlen] at hnew
      refine wp_value (C' := C1.new h1.length (some w.heap.size) z.length) (w' := w.alloc (.cells zv.cells t)) (y := .pointer (some ⟨w.heap.size, 0, none⟩)) ?_ (S1.trans (step_new H1 _ _)) hnew ?_ (hk C1.clk)
      · simp [execOp, Instr.alloc, zero_run hz, newVar, newRow]
      · have := ptr_new (C := C1) (w := w) (w' := w.alloc (.cells zv.cells t)) (h := h1) (z := z.length) (i := 0) (off := 0)
        simpa using this
    · cases hc
  case boxv n own y =>
    cases op <;> first | (cases hc; done) | skip
    rename_i t x
    simp only [chkE] at hc
    simp only [EOp.wp] at h
    obtain ⟨v, h1, hone0, h⟩ := oK_of h
    have hv := ev_sound hc he h1 rfl
    have hcs := cells_sound hv hone0
    obtain ⟨C1, cs, h1, S1, H1, hv1, ⟨⟨hl, hone⟩, hk⟩, hlen⟩ := own_sound H hcs h
    have hn := new_one (t := t) H1 hv1 hone
    rw [hl] at hn
    refine wp_value (C' := C1.new h1.length (some w.heap.size) n) (w' := w.alloc (.cells (a.eval x).cells t)) (y := .pointer (some ⟨w.heap.size, 0, none⟩)) ?_ (S1.trans (step_new H1 _ _)) hn ?_ (hk C1.clk)
    · simp [execOp, Instr.box, newVar, newRow]
    · have := ptr_new (C := C1) (w := w) (w' := w.alloc (.cells (a.eval x).cells t)) (h := h1) (z := n) (i := 0) (off := 0)
      simpa using this
  case clear z y =>
    cases op <;> first | (cases hc; done) | skip
    rename_i c
    obtain ⟨callee, cargs, ctys⟩ := c
    simp only [chkE] at hc
    split at hc
    · rename_i a0 t e1 e2
      simp only [Bool.and_eq_true] at hc
      obtain ⟨hT, ha⟩ := hc
      split at hT
      · rename_i e hu
        split at hT
        · rename_i zv hzv
          simp only [Bool.and_eq_true, decide_eq_true_eq] at hT
          obtain ⟨hz, hz1⟩ := hT
          simp only [EOp.wp] at h
          obtain ⟨v, h1, h⟩ := oK_of h
          obtain ⟨q, h2, h⟩ := oK_of h
          obtain ⟨o, h3, h⟩ := oK_of h
          obtain ⟨r, h4, ⟨h5, h6, h7⟩, hk⟩ := oK_of h
          have hv := ev_sound ha he h1 rfl
          cases v <;> simp only [asSl] at h2
          case sl l s i n =>
            obtain rfl := Option.some.inj h2
            cases o <;> simp only [asArr] at h4
            case arr s' imm z' es =>
              obtain rfl := Option.some.inj h4
              simp only at h3 h5 h6 h7 hk
              subst h5; subst h7
              obtain ⟨w', g1, g2, g3⟩ := clear_sound (P := P) (ty := ty) H hu hzv hz (fun v hv => List.all_eq_true.1 hz1 v hv) hv h3 h6
              refine wp_value (C' := C) (v := .dead) (w' := w') (y := .tuple #[]) ?_ g2 g3 (by simp [vrel]) hk
              have ea : cargs = #[a0] := by apply Array.ext'; simpa using e1
              have et : ctys = #[t] := by apply Array.ext'; simpa using e2
              subst ea; subst et
              simp [execOp, resolve, invoke, builtin, g1]
            all_goals cases h4
          all_goals cases h2
        · cases hT
      · cases hT
    · cases hc
  case stnv n own x y =>
    cases op <;> first | (cases hc; done) | skip
    rename_i t x' y'
    simp only [chkE, Bool.and_eq_true, decide_eq_true_eq] at hc
    simp only [EOp.wp] at h
    obtain ⟨p, h1, h⟩ := oK_of h
    obtain ⟨v, h2, h⟩ := oK_of h
    obtain ⟨cs, h5, h⟩ := oK_of h
    have hp := ev_sound hc.1.2 he h1 rfl
    have hv := ev_sound hc.2 he h2 rfl
    cases v <;> simp only [asAgg] at h5
    case agg cs0 =>
      simp at h5; subst h5
      simp only [vrel] at hv
      obtain ⟨xs, hx, hvs⟩ := hv
      obtain ⟨C1, cs', h1', S1, H1, hvs, h, hlen⟩ := own_sound H hvs h
      obtain ⟨h', h3, hk⟩ := oK_of h
      have hp := hp.mono S1
      by_cases hcond : cs'.length = n ∧ cs'.all AV.one = true
      · obtain ⟨hl, hone⟩ := hcond
        have hlx := hvs.length
        obtain ⟨b, off, w', e1, e2, e3, e4⟩ := store_sound (P := P) H1 hp h3 (vs := cs') (ys := xs.toList) (n := n) (fun r r' hr => by
          rw [if_pos ⟨hl, hone⟩] at hr
          exact putL_some hr) hvs hone
        refine wp_skip (C' := C1) (w' := w') ?_ (S1.trans e3) e4 hk
        simp at hlx
        simp [execOp, Instr.storeAt, Instr.sureAddr, e1, storeVar, run_sizeB hc.1.1, hx, Value.cells, e2, hlx, hl]
      · exfalso
        cases p <;> try simp only [storeH] at h3
        case ptr =>
          obtain ⟨_, _, h3⟩ := ob_eq_some h3
          obtain ⟨_, _, h3⟩ := ob_eq_some h3
          split at h3
          · obtain ⟨_, _, h3⟩ := ob_eq_some h3
            obtain ⟨_, h4, _⟩ := ob_eq_some h3
            first
              | cases h4; done
              | (rw [if_neg hcond] at h4; cases h4)
          · cases h3
        all_goals cases h3
    all_goals cases h5
  case bsl z len zero parts =>
    cases op <;> first | (cases hc; done) | skip
    rename_i t len' parts'
    simp only [chkE] at hc
    split at hc
    · rename_i e hu
      simp only [Bool.and_eq_true, decide_eq_true_eq] at hc
      obtain ⟨⟨⟨⟨⟨⟨hsz, hzp⟩, rfl⟩, hbig⟩, hlp⟩, hz⟩, hparts⟩ := hc
      split at hz
      · rename_i zv hzv
        simp only [Bool.and_eq_true, decide_eq_true_eq] at hz
        obtain ⟨hzl, hzs⟩ := hz
        simp only [EOp.wp] at h
        obtain ⟨ps, h1, h⟩ := oK_of h
        obtain ⟨cs, h2, ⟨hl, hone⟩, hk⟩ := oK_of h
        have hz0 := chkLeaves_sound (C := C) (w := w) hzl
        have hz0l := hz0.length
        simp at hz0l
        have hfill : vrels C w (fillV zero len') ((Array.range (len' * z)).map (zv.cells[· % zv.cells.size]!)).toList := by
          refine vrels.of_get (by simp [fillV_length]; rw [← hz0l, hzs]) fun i v y hv hy => ?_
          have hi : i < len' * z := by
            have := (List.getElem?_eq_some_iff.1 hy).1
            simpa using this
          rw [fillV_get (by omega) hzp hi] at hv
          simp [hi] at hy
          subst hy
          obtain ⟨y', g1, g2⟩ := hz0.get hv
          rw [hzs]
          simp at g1
          rw [getElem!_def, g1]
          exact g2
        obtain ⟨zc, e1, e2⟩ := evParts_sound he rfl hparts h1 h2 hfill
        simp only [Bool.or_eq_true, Bool.and_eq_true, decide_eq_true_eq] at hlp
        rcases hlp with hlp | ⟨hl0, hpe⟩
        case inr =>
          subst hl0
          have hpn : parts'.toList = [] := by simpa using hpe
          have hrun : (Instr.buildSlice t 0 (parts'.map fun (i, x) => (i, a.eval x))).run P w = .ok (.slice (some ⟨w.heap.size, 0, none⟩) 0 0) (w.alloc (.cells #[] e)) := by
            have : (parts'.map fun (i, x) => (i, a.eval x)).toList = [] := by simp [hpn]
            unfold Instr.buildSlice
            simp only [Sem.run_bind, run_underlying hu, Result.andThen_ok, run_sizeB hsz]
            rw [if_neg (by omega), if_pos (by omega)]
            simp only [Sem.run_bind, Sem.run_pure, Result.andThen_ok]
            rw [this]
            simp [newRow, Instr.fill, show Array.range 0 = #[] from rfl]
          refine wp_value (C' := C.new st.h.length (some w.heap.size) z) (w' := w.alloc (.cells #[] e)) (y := .slice (some ⟨w.heap.size, 0, none⟩) 0 0) ?_ (step_new H _ _) (new_rows H ?_ ?_) ?_ (hk C.clk)
          · simp [execOp, hrun]
          · simp [chunk]
          · intro i r hi; simp [chunk] at hi
          · simp only [vrel]
            refine ⟨by simp [Ctx.new], ⟨_, _, _, rfl⟩, fun ob z' hm => ?_⟩
            simp [Ctx.new] at hm
            obtain ⟨rfl, rfl⟩ := hm
            exact ⟨0, by simp, Nat.le_refl _, #[], e, _, heap_alloc_new w _, by simp⟩
        have hrun : (Instr.buildSlice t len' (parts'.map fun (i, x) => (i, a.eval x))).run P w = .ok (.slice (some ⟨w.heap.size, 0, none⟩) len' len') (w.alloc (.cells zc e)) := by
          have hne : ¬ len' * z = 0 := by
            intro h0
            rcases Nat.mul_eq_zero.1 h0 with h0 | h0 <;> omega
          have : (parts'.map fun (i, x) => (i, a.eval x)).toList = parts'.toList.map fun q => (q.1, a.eval q.2) := by simp
          unfold Instr.buildSlice
          simp only [Sem.run_bind, run_underlying hu, Result.andThen_ok, run_sizeB hsz]
          rw [if_neg (by omega), if_neg hne]
          simp only [Sem.run_bind, Sem.run_pure, zero_run hzv, Result.andThen_ok]
          rw [this, e1]
          simp [newRow]
        refine wp_value (C' := C.new st.h.length (some w.heap.size) z) (w' := w.alloc (.cells zc e)) (y := .slice (some ⟨w.heap.size, 0, none⟩) len' len') ?_ (step_new H _ _) (new_rows H ?_ ?_) ?_ (hk C.clk)
        · simp [execOp, hrun]
        · rw [chunk_length]; have := e2.length; simp at this; omega
        · intro i r hi
          have hil : i < len' := by have := (List.getElem?_eq_some_iff.1 hi).1; rwa [chunk_length] at this
          rw [chunk_get hil] at hi
          obtain rfl := Option.some.inj hi
          have hb : (i + 1) * z ≤ len' * z := Nat.mul_le_mul_right _ hil
          rw [Nat.add_mul] at hb
          refine ⟨by simp; omega, fun j v hj => ?_⟩
          have hjz : j < z := by
            have := (List.getElem?_eq_some_iff.1 hj).1
            simp at this; omega
          rw [List.getElem?_take, if_pos hjz, List.getElem?_drop] at hj
          obtain ⟨y, g1, g2⟩ := e2.get hj
          exact ⟨y, by simpa using g1, oneCell_of g2 (List.all_eq_true.1 hone v (List.mem_of_getElem? hj)), g2⟩
        · simp only [vrel]
          refine ⟨by simp [Ctx.new], ⟨_, _, _, rfl⟩, fun ob z' hm => ?_⟩
          simp [Ctx.new] at hm
          obtain ⟨rfl, rfl⟩ := hm
          have := e2.length
          simp at this
          exact ⟨len', by simp, Nat.le_refl _, zc, e, _, heap_alloc_new w _, by simp; omega⟩
      · cases hz
    · cases hc
  case bslz z len zero parts =>
    cases op <;> first | (cases hc; done) | skip
    rename_i t len' parts'
    simp only [chkE] at hc
    split at hc
    · rename_i e hu
      simp only [Bool.and_eq_true, decide_eq_true_eq] at hc
      obtain ⟨⟨⟨⟨⟨⟨hsz, hzp⟩, rfl⟩, hbig⟩, hlp⟩, hz⟩, hparts⟩ := hc
      split at hz
      · rename_i zv hzv
        simp only [Bool.and_eq_true, decide_eq_true_eq] at hz
        obtain ⟨hzl, hzs⟩ := hz
        simp only [EOp.wp] at h
        obtain ⟨ps, h1, h⟩ := oK_of h
        obtain ⟨cs, h2, ⟨hl, hone⟩, hk⟩ := oK_of h
        have hz0 := chkLeaves_sound (C := C) (w := w) hzl
        have hz0l := hz0.length
        simp at hz0l
        have hfill : vrels C w (fillV zero len') ((Array.range (len' * z)).map (zv.cells[· % zv.cells.size]!)).toList := by
          refine vrels.of_get (by simp [fillV_length]; rw [← hz0l, hzs]) fun i v y hv hy => ?_
          have hi : i < len' * z := by
            have := (List.getElem?_eq_some_iff.1 hy).1
            simpa using this
          rw [fillV_get (by omega) hzp hi] at hv
          simp [hi] at hy
          subst hy
          obtain ⟨y', g1, g2⟩ := hz0.get hv
          rw [hzs]
          simp at g1
          rw [getElem!_def, g1]
          exact g2
        obtain ⟨zc, e1, e2⟩ := evParts_sound he rfl hparts h1 h2 hfill
        have e2l := e2.length
        simp at e2l
        obtain ⟨C1, S1, H1, e2⟩ := frzCs_sound (n0 := 0) H e2
        generalize hq : frzCs 0 st.h cs = q at hl hone hk H1 e2
        obtain ⟨cs1, h1'⟩ := q
        simp only at hl hone hk H1 e2
        have hrun : (Instr.buildSlice t len' (parts'.map fun (i, x) => (i, a.eval x))).run P w = .ok (.slice (some ⟨w.heap.size, 0, none⟩) len' len') (w.alloc (.cells zc e)) := by
          have hne : ¬ len' * z = 0 := by
            intro h0
            rcases Nat.mul_eq_zero.1 h0 with h0 | h0 <;> omega
          have : (parts'.map fun (i, x) => (i, a.eval x)).toList = parts'.toList.map fun q => (q.1, a.eval q.2) := by simp
          unfold Instr.buildSlice
          simp only [Sem.run_bind, run_underlying hu, Result.andThen_ok, run_sizeB hsz]
          rw [if_neg (by omega), if_neg hne]
          simp only [Sem.run_bind, Sem.run_pure, zero_run hzv, Result.andThen_ok]
          rw [this, e1]
          simp [newRow]
        refine wp_value (C' := C1.new h1'.length (some w.heap.size) z) (w' := w.alloc (.cells zc e)) (y := .slice (some ⟨w.heap.size, 0, none⟩) len' len') ?_ (S1.trans (step_new H1 _ _)) (new_rows H1 ?_ ?_) ?_ (hk C1.clk)
        · simp [execOp, hrun]
        · rw [chunk_length]; have := e2.length; simp at this; omega
        · intro i r hi
          have hil : i < len' := by have := (List.getElem?_eq_some_iff.1 hi).1; rwa [chunk_length] at this
          rw [chunk_get hil] at hi
          obtain rfl := Option.some.inj hi
          have hb : (i + 1) * z ≤ len' * z := Nat.mul_le_mul_right _ hil
          rw [Nat.add_mul] at hb
          refine ⟨by simp; omega, fun j v hj => ?_⟩
          have hjz : j < z := by
            have := (List.getElem?_eq_some_iff.1 hj).1
            simp at this; omega
          rw [List.getElem?_take, if_pos hjz, List.getElem?_drop] at hj
          obtain ⟨y, g1, g2⟩ := e2.get hj
          exact ⟨y, by simpa using g1, oneCell_of g2 (List.all_eq_true.1 hone v (List.mem_of_getElem? hj)), g2⟩
        · simp only [vrel]
          refine ⟨by simp [Ctx.new], ⟨_, _, _, rfl⟩, fun ob z' hm => ?_⟩
          simp [Ctx.new] at hm
          obtain ⟨rfl, rfl⟩ := hm
          have := e2.length
          simp at this
          exact ⟨len', by simp, Nat.le_refl _, zc, e, _, heap_alloc_new w _, by simp; omega⟩
      · cases hz
    · cases hc
  case st x y =>
    cases op <;> first | (cases hc; done) | skip
    rename_i t x' y'
    simp only [chkE, Bool.and_eq_true, decide_eq_true_eq] at hc
    simp only [EOp.wp] at h
    obtain ⟨p, h1, h⟩ := oK_of h
    obtain ⟨v, h2, h⟩ := oK_of h
    obtain ⟨h', h3, hk⟩ := oK_of h
    have hp := ev_sound hc.1.2 he h1 rfl
    have hv := ev_sound hc.2 he h2 rfl
    by_cases hone : v.one = true
    · have ho := oneCell_of hv hone
      have hcells : (a.eval y').cells = #[a.eval y'] := by
        revert ho; cases a.eval y' <;> simp [Value.oneCell', Value.cells]
      obtain ⟨b, off, w', e1, e2, e3, e4⟩ := store_sound (P := P) H hp h3 (vs := [v]) (ys := [a.eval y']) (n := 1) (fun r r' hr => by
        unfold setL at hr
        split at hr
        · rename_i hcond
          simp at hr; subst hr
          refine ⟨by simp; omega, ?_⟩
          rw [List.set_eq_take_append_cons_drop, if_pos hcond.1]
          simp
        · cases hr) (by simp only [vrels]; exact ⟨_, _, rfl, hv, rfl⟩) (by simp [hone])
      refine wp_skip (C' := C) (w' := w') ?_ e3 e4 hk
      simp [execOp, Instr.storeAt, Instr.sureAddr, e1, storeVar, run_sizeB hc.1.1, hcells, e2]
    · exfalso
      cases p <;> try simp only [storeH] at h3
      case ptr =>
        obtain ⟨_, _, h3⟩ := ob_eq_some h3
        obtain ⟨_, _, h3⟩ := ob_eq_some h3
        split at h3
        · obtain ⟨_, _, h3⟩ := ob_eq_some h3
          obtain ⟨_, h4, _⟩ := ob_eq_some h3
          simp [setL, hone] at h4
        · cases h3
      all_goals cases h3
  case stn n x y =>
    cases op <;> first | (cases hc; done) | skip
    rename_i t x' y'
    simp only [chkE, Bool.and_eq_true, decide_eq_true_eq] at hc
    simp only [EOp.wp] at h
    obtain ⟨p, h1, h⟩ := oK_of h
    obtain ⟨v, h2, h⟩ := oK_of h
    obtain ⟨cs, h5, h⟩ := oK_of h
    obtain ⟨h', h3, hk⟩ := oK_of h
    have hp := ev_sound hc.1.2 he h1 rfl
    have hv := ev_sound hc.2 he h2 rfl
    cases v <;> simp only [asAgg] at h5
    case agg cs' =>
      simp at h5; subst h5
      simp only [vrel] at hv
      obtain ⟨xs, hx, hvs⟩ := hv
      by_cases hcond : cs'.length = n ∧ cs'.all AV.one = true
      · obtain ⟨hl, hone⟩ := hcond
        have hlx := hvs.length
        obtain ⟨b, off, w', e1, e2, e3, e4⟩ := store_sound (P := P) H hp h3 (vs := cs') (ys := xs.toList) (n := n) (fun r r' hr => by
          rw [if_pos ⟨hl, hone⟩] at hr
          exact putL_some hr) hvs hone
        refine wp_skip (C' := C) (w' := w') ?_ e3 e4 hk
        have hsz : ¬ xs.size ≠ n := by simp at hlx; omega
        simp at hlx
        simp [execOp, Instr.storeAt, Instr.sureAddr, e1, storeVar, run_sizeB hc.1.1, hx, Value.cells, e2, hlx, hl]
      · exfalso
        cases p <;> try simp only [storeH] at h3
        case ptr =>
          obtain ⟨_, _, h3⟩ := ob_eq_some h3
          obtain ⟨_, _, h3⟩ := ob_eq_some h3
          split at h3
          · obtain ⟨_, _, h3⟩ := ob_eq_some h3
            obtain ⟨_, h4, _⟩ := ob_eq_some h3
            first
              | cases h4; done
              | (rw [if_neg hcond] at h4; cases h4)
          · cases h3
        all_goals cases h3
    all_goals cases h5
  case call f args frz =>
    cases op <;> first | (cases hc; done) | skip
    rename_i c
    obtain ⟨callee, cargs, ctys⟩ := c
    simp only [chkE] at hc
    split at hc
    · simp only [Bool.and_eq_true, decide_eq_true_eq] at hc
      obtain ⟨⟨rfl, hgo⟩, hargs⟩ := hc
      simp only [EOp.wp] at h
      obtain ⟨vs, h1, hk⟩ := oK_of h
      have hvs := evs_sound he rfl hargs h1
      have hrun : (execOp a.eval ⟨dst, .call ⟨.value (.func f), cargs, ctys⟩, ty, pp, aft, gd⟩).run P w = .ok (.enter f (cargs.map a.eval)) w := by
        simp [execOp, resolve, Act.eval, Deferred.ofValue, invoke, run_callFunc hgo]
      have harr : cargs.map a.eval = (cargs.toList.map a.eval).toArray := by apply Array.ext'; simp
      cases frz with
      | true =>
        obtain ⟨C1, s1, H1, r1⟩ := frzs_sound (n0 := 0) H hvs
        exact call_sound hrun harr s1 H1 r1 hk
      | false => exact call_sound hrun harr (.refl C w) H hvs hk
    · cases hc
  case callv x args frz =>
    cases op <;> first | (cases hc; done) | skip
    rename_i c
    obtain ⟨callee, cargs, ctys⟩ := c
    simp only [chkE] at hc
    split at hc
    · rename_i t
      simp only [Bool.and_eq_true] at hc
      simp only [EOp.wp] at h
      obtain ⟨xv, h0, h⟩ := oK_of h
      obtain ⟨fn, h2, h⟩ := oK_of h
      obtain ⟨vs, h1, hk⟩ := oK_of h
      have hvs := evs_sound he rfl hc.2 h1
      have hx := ev_sound hc.1 he h0 rfl
      cases xv <;> simp only [asFn] at h2
      case fn f fi ca =>
        simp at h2; subst h2
        simp only [vrel] at hx
        obtain ⟨xs, ys, hf, q1, q2⟩ := hx
        have hgo : goFunc P f = true := hk.choose_spec.1.1
        have hrun : (execOp a.eval ⟨dst, .call ⟨.value (.tmp t), cargs, ctys⟩, ty, pp, aft, gd⟩).run P w = .ok (.enter f (xs ++ cargs.map a.eval ++ ys)) w := by
          simp [execOp, resolve, hf, Deferred.ofValue, invoke, run_callFunc hgo]
        have app : ∀ {C2 : Ctx} {a1 a2 : List AV} {b1 b2 : List Value}, vrels C2 w a1 b1 → vrels C2 w a2 b2 → vrels C2 w (a1 ++ a2) (b1 ++ b2) := by
          intro C2 a1 a2 b1 b2 g1 g2
          induction a1 generalizing b1 with
          | nil => simp [vrels] at g1; subst g1; exact g2
          | cons u us ih =>
            simp only [vrels] at g1
            obtain ⟨y, zs, rfl, g3, g4⟩ := g1
            simp only [List.cons_append, vrels]
            exact ⟨y, _, rfl, g3, ih g4⟩
        have harr : xs ++ cargs.map a.eval ++ ys = (xs.toList ++ cargs.toList.map a.eval ++ ys.toList).toArray := by
          apply Array.ext'; simp
        cases frz with
        | true =>
          obtain ⟨C1, s1, H1, r1⟩ := frzs_sound (n0 := 0) H hvs
          exact call_sound hrun harr s1 H1 (app (app (q1.mono s1) r1) (q2.mono s1)) hk
        | false => exact call_sound hrun harr (.refl C w) H (app (app q1 hvs) q2) hk
      all_goals cases h2
    · cases hc
  case app z by_ x y =>
    cases op <;> first | (cases hc; done) | skip
    rename_i c
    obtain ⟨callee, cargs, ctys⟩ := c
    simp only [chkE] at hc
    split at hc
    · rename_i a0 b0 t t2 e1 e2
      simp only [Bool.and_eq_true] at hc
      obtain ⟨⟨⟨hT, hT2⟩, ha⟩, hb⟩ := hc
      split at hT
      · rename_i e ht
        split at hT
        · rename_i info hi
          simp only [Bool.and_eq_true, decide_eq_true_eq] at hT
          obtain ⟨⟨⟨⟨hz, hby⟩, hzp⟩, hbp⟩, hzv⟩ := hT
          split at hzv
          · rename_i zv hzero
            simp only [decide_eq_true_eq] at hzv
            simp only [EOp.wp] at h
            obtain ⟨sv, h1, h⟩ := oK_of h
            obtain ⟨q, h2, h⟩ := oK_of h
            obtain ⟨xv, h3, h⟩ := oK_of h
            obtain ⟨ob, h4, h⟩ := oK_of h
            obtain ⟨r, h5, h⟩ := oK_of h
            obtain ⟨xs, h6, ⟨g1, g2, g3, g4, g5, g6, g7⟩, hk⟩ := oK_of h
            have hs := ev_sound ha he h1 rfl
            have hx := ev_sound hb he h3 rfl
            cases sv <;> simp only [asSl] at h2
            case sl l s i n =>
              simp at h2; subst h2
              cases ob <;> simp only [asArr] at h5
              case arr s' imm z' es =>
                simp at h5; subst h5
                simp only at g1 g2 g3 g4 g5 g6
                subst g1; subst g2; subst g3
                have hd2 : ∃ d2, P.underlying t2 = some d2 ∧ ((∃ e', d2 = .slice e') ∨ d2 = .string) := by
                  split at hT2
                  · exact ⟨_, ‹_›, .inl ⟨_, rfl⟩⟩
                  · exact ⟨_, ‹_›, .inr rfl⟩
                  · cases hT2
                obtain ⟨d2, ht2, hd⟩ := hd2
                have H1 := trunc_rel H h4 g5
                have h4' : (st.h.set l (.arr s imm z (es.take n)))[l]? = some (.arr s imm z (es.take n)) := by
                  rw [List.getElem?_set_self (List.getElem?_eq_some_iff.1 h4).1]
                have hlen : n = (es.take n).length := by simp; omega
                obtain ⟨C', yv, w', q1, q2, q3, q4⟩ := app_sound (ty := ty) H1 ht ht2 hd hi hzero hz hby hzv hzp hbp rfl hs hx h4' hlen (by rw [← hlen]; exact g5) h6 g6 g7
                rw [List.set_set] at q3
                obtain ⟨cargs⟩ := cargs
                obtain ⟨ctys⟩ := ctys
                simp only at e1 e2
                subst e1; subst e2
                refine wp_value (C' := C') (w' := w') (y := yv) ?_ q2 q3 q4 (hk C.clk)
                simp [execOp, resolve, invoke, builtin, q1]
              all_goals cases h5
            all_goals cases h2
          · cases hzv
        · cases hT
      · cases hT
    · cases hc
  case vnil z =>
    cases op <;> first | (cases hc; done) | skip
    rename_i x
    have hx := isNilSl_of hc
    subst hx
    simp only [EOp.wp] at h
    refine wp_value (C' := C.new st.h.length none z) (w' := w) (y := .slice none 0 0) rfl (step_virtual z) (hrel_virtual H z ?_) ?_ (h C.clk)
    · simp only [orel]; exact ⟨by simp [Ctx.new], none, by simp [Ctx.new], by trivial⟩
    · simp only [vrel]
      refine ⟨by simp [Ctx.new], ⟨_, _, _, rfl⟩, fun ob z' hm => ?_⟩
      simp [Ctx.new] at hm
      obtain ⟨rfl, rfl⟩ := hm
      simp
  case mkmap =>
    cases op <;> first | (cases hc; done) | skip
    rename_i t r
    cases r with
    | some x => cases hc
    | none =>
      simp only [EOp.wp] at h
      refine wp_value (C' := C.new st.h.length (some w.heap.size) 0) (w' := w.alloc (.map #[] 0)) (y := .map (some w.heap.size)) ?_ (step_new H _ _) (hrel_new H _ _ ?_) ?_ (h C.clk)
      · simp [execOp, Instr.makeMap]
      · simp only [orel]
        exact ⟨by simp [Ctx.new], w.heap.size, by simp [Ctx.new], #[], 0, heap_alloc_new w _, by simp, by simp⟩
      · simp only [vrel]
        refine ⟨by simp [Ctx.new], ⟨_, rfl⟩, fun b z hm => ?_⟩
        simp [Ctx.new] at hm
        obtain ⟨rfl, rfl⟩ := hm
        rfl
  case mapup kk m k v =>
    have main : ∀ {t : TypeId} {m' k' v' : Operand} (hop : op = .mapUpdate t m' k' v' ∨ op = .insert t m' k' v'), ((match P.underlying t with | some (.map kt _) => keyTy P kt kk | _ => false) && chkO m' m && chkO k' k && chkO v' v) = true →
        Oper.wp P ⟨dst, op, ty, pp, aft, gd⟩ a w (Post C w ⟨dst, op, ty, pp, aft, gd⟩ a K) (PostP C w a Kp) := by
      intro t m' k' v' hop hc
      simp only [Bool.and_eq_true] at hc
      obtain ⟨⟨⟨hT, hmm⟩, hkk⟩, hvv⟩ := hc
      split at hT
      · rename_i kt et hu
        obtain ⟨d, huk, hd⟩ := kind_of hT
        simp only [EOp.wp] at h
        obtain ⟨mv, h1, h⟩ := oK_of h
        obtain ⟨q, h2, h⟩ := oK_of h
        obtain ⟨kv, h3, h⟩ := oK_of h
        obtain ⟨vv, h4, h⟩ := oK_of h
        obtain ⟨o, h5, h⟩ := oK_of h
        obtain ⟨r, h6, h⟩ := oK_of h
        obtain ⟨es', h7, ⟨hs, hone⟩, hk⟩ := oK_of h
        have rm := ev_sound hmm he h1 rfl
        have rk := ev_sound hkk he h3 rfl
        have rv := ev_sound hvv he h4 rfl
        cases mv <;> simp only [asMp] at h2
        case mp l s =>
          simp at h2; subst h2
          cases o <;> simp only [asMpO] at h6
          case mp s' es =>
            simp at h6; subst h6
            simp only at hs h7 hk h5
            subst hs
            obtain ⟨b, xs, clock, hm, hy, hb, hent⟩ := mp_obj H rm h5
            have hlt : s < C.clk := by simp only [vrel] at rm; exact rm.1
            have hgo := run_getObj (P := P) hb (by intro _ _ _ h; cases h)
            have hck := run_checkKey (P := P) (w := w) huk hd false 9999 (a.eval k')
            have hfnd : ∃ r, mfind kk kv es = some r := by
              cases hf : mfind kk kv es with
              | some r => exact ⟨r, rfl⟩
              | none =>
                exfalso
                have : ∀ es : List (AV × AV), mfind kk kv es = none → mput kk kv vv es = none := by
                  intro es
                  induction es with
                  | nil => simp [mfind]
                  | cons e es ih =>
                    intro hn
                    simp only [mfind, mput] at hn ⊢
                    cases hke : keyEq kk kv e.1 with
                    | none => rfl
                    | some b =>
                      rw [hke] at hn
                      cases b with
                      | true => simp [ob_some] at hn
                      | false =>
                        simp [ob_some] at hn
                        simp [ob_some, ih hn, ob_none]
                rw [this es hf] at h7
                cases h7
            obtain ⟨r, hr⟩ := hfnd
            have hf := find_sound hd rk 0 hent hr
            cases r with
            | none =>
              obtain ⟨f1, f2⟩ := hf
              rw [f2 vv] at h7
              obtain rfl := Option.some.inj h7
              have hso := run_setObj (P := P) (o := .map (xs.push { key := a.eval k', val := a.eval v', born := clock }) (clock + 1)) hb (by intro _ _ _ h; cases h)
              have hu' := upd_rel H h5 hm hb (by intro _ _ _ h; cases h) (ob' := .map (xs.push { key := a.eval k', val := a.eval v', born := clock }) (clock + 1)) (o' := .mp s (es ++ [(kv, vv)])) (by intro _ _ _ h; cases h)
                (fun st => by
                  simp only [orel]
                  refine ⟨hlt, b, hm, xs.push { key := a.eval k', val := a.eval v', born := clock }, clock + 1, by simp [(Array.getElem?_eq_some_iff.1 hb).1], by simpa using hent.1, fun i e x g1 g2 => ?_⟩
                  have hl := hent.1
                  simp at hl
                  rcases Nat.lt_trichotomy i es.length with hi | hi | hi
                  · rw [List.getElem?_append_left hi] at g1
                    rw [Array.getElem?_push_lt (by omega)] at g2
                    have := hent.2 i e x g1 (by simpa [Array.getElem?_eq_getElem (show i < xs.size by omega)] using g2)
                    exact ⟨this.1.mono st, this.2.mono st⟩
                  · subst hi
                    simp at g1; subst g1
                    rw [← hl] at g2
                    simp at g2; subst g2
                    exact ⟨rk.mono st, rv.mono st⟩
                  · rw [List.getElem?_eq_none (by simp; omega)] at g1; cases g1)
              refine wp_skip ?_ hu'.1 hu'.2 hk
              rcases hop with rfl | rfl <;> simp [execOp, Instr.mapUpdate, run_underlying hu, hy, hgo, hck, run_findKey huk f1, hso]
            | some v0 =>
              obtain ⟨i, x, f1, f2, f3, f4, f5⟩ := hf
              rw [f5 vv] at h7
              obtain rfl := Option.some.inj h7
              simp only [Nat.zero_add] at f2
              have hxi : xs[i]? = some x := by simpa using f1
              have hkt : (Instr.keyThatStays (((xs[i]?).map (·.key)).getD (a.eval k')) (a.eval k')).run P w = .ok (a.eval k') w := by
                simp [Instr.keyThatStays, hxi, f4]
              have hso := run_setObj (P := P) (o := .map (xs.modify i fun e => { e with key := a.eval k', val := a.eval v' }) clock) hb (by intro _ _ _ h; cases h)
              have hu' := upd_rel H h5 hm hb (by intro _ _ _ h; cases h) (ob' := .map (xs.modify i fun e => { e with key := a.eval k', val := a.eval v' }) clock) (o' := .mp s (es.set i (kv, vv))) (by intro _ _ _ h; cases h)
                (fun st => by
                  simp only [orel]
                  refine ⟨hlt, b, hm, xs.modify i fun e => { e with key := a.eval k', val := a.eval v' }, clock, by simp [(Array.getElem?_eq_some_iff.1 hb).1], by simpa using hent.1, fun j e y g1 g2 => ?_⟩
                  rw [Array.getElem?_modify] at g2
                  by_cases hij : i = j
                  · subst hij
                    have hl := hent.1
                    simp at hl
                    have : i < es.length := by have := (List.getElem?_eq_some_iff.1 f1).1; simp at this; omega
                    rw [List.getElem?_set_self this] at g1
                    simp at g1; subst g1
                    simp [hxi] at g2; subst g2
                    exact ⟨rk.mono st, rv.mono st⟩
                  · rw [List.getElem?_set_ne hij] at g1
                    rw [if_neg hij] at g2
                    have := hent.2 j e y g1 (by simpa using g2)
                    exact ⟨this.1.mono st, this.2.mono st⟩)
              refine wp_skip ?_ hu'.1 hu'.2 hk
              simp only [Option.getD] at hkt
              rcases hop with rfl | rfl <;> simp [execOp, Instr.mapUpdate, run_underlying hu, hy, hgo, hck, run_findKey huk f2, hso, Option.getD, hkt]
          all_goals cases h6
        all_goals cases h2
      · cases hT
    cases op <;> first | (cases hc; done) | skip
    all_goals first
      | exact main (.inl rfl) hc
      | exact main (.inr rfl) hc
  case panic y =>
    cases op <;> first | (cases hc; done) | skip
    rename_i x
    simp only [chkE] at hc
    simp only [EOp.wp] at h
    obtain ⟨v, h1, h⟩ := oK_of h
    obtain ⟨q, h2, hk⟩ := oK_of h
    have hv := ev_sound hc he h1 rfl
    cases v <;> simp only [asIf] at h2
    case iface t x' =>
      simp at h2; subst h2
      have hv' := hv
      simp only [vrel] at hv'
      obtain ⟨y', hy, _⟩ := hv'
      unfold Oper.wp
      have hr : (execOp a.eval ⟨dst, .panic x, ty, pp, aft, gd⟩).run P w = .halt (.panic (a.eval x)) w := by
        simp [execOp, Instr.panic, hy]
      rw [hr, Oper.upon_panic]
      exact ⟨C, _, st.h, a.eval x, .refl C w, H, hv, rfl, rfl, hk⟩
    all_goals cases h2
  case rstr y =>
    cases op <;> first | (cases hc; done) | skip
    rename_i t x
    simp only [chkE, Bool.and_eq_true] at hc
    obtain ⟨hT, hxy⟩ := hc
    split at hT
    · rename_i hu
      simp only [EOp.wp] at h
      obtain ⟨v, h1, h⟩ := oK_of h
      obtain ⟨q, h2, hk⟩ := oK_of h
      have hv := ev_sound hxy he h1 rfl
      cases v <;> simp only [asStr] at h2
      case str s =>
        simp at h2; subst h2
        simp only [vrel] at hv
        refine wp_value (C' := C.new st.h.length (some w.heap.size) 0) (w' := w.alloc (.stringIter ⟨s.toArray⟩ 0)) (y := .pointer (some ⟨w.heap.size, 0, none⟩)) ?_ (step_new H _ _) (hrel_new H _ _ ?_) ?_ (hk C.clk)
        · simp [execOp, Instr.range, run_underlying hu, hv]
        · simp only [orel]
          exact ⟨by simp [Ctx.new], w.heap.size, by simp [Ctx.new], heap_alloc_new w _⟩
        · simp only [vrel]
          refine ⟨by simp [Ctx.new], ⟨_, rfl⟩, fun b z hm => ?_⟩
          simp [Ctx.new] at hm
          obtain ⟨rfl, rfl⟩ := hm
          rfl
      all_goals cases h2
    · cases hT
  case nstr y =>
    cases op <;> first | (cases hc; done) | skip
    rename_i x isStr
    simp only [chkE, Bool.and_eq_true] at hc
    obtain ⟨rfl, hxy⟩ := hc
    simp only [EOp.wp] at h
    obtain ⟨v, h1, h⟩ := oK_of h
    obtain ⟨q, h2, h⟩ := oK_of h
    obtain ⟨ob, h3, h⟩ := oK_of h
    obtain ⟨r, h4, hs, hk1, hk2⟩ := oK_of h
    have hv := ev_sound hxy he h1 rfl
    cases v <;> simp only [asIt] at h2
    case it l s =>
      simp at h2; subst h2
      cases ob <;> simp only [asSit] at h4
      case sit s' str pos =>
        simp at h4; subst h4
        simp only at hs hk1 hk2
        subst hs
        have hobj := H.obj l _ h3
        simp only [orel] at hobj
        obtain ⟨hlt, b, hm, hb⟩ := hobj
        simp only [vrel] at hv
        have hp := hv.2.2 b 0 hm
        have hsz : (⟨str.toArray⟩ : ByteArray).size = str.length := by simp [ByteArray.size]
        have hgo := run_getObj (P := P) hb (by intro _ _ _ h; cases h)
        by_cases hlen : pos < str.length
        · have hso := run_setObj (P := P) (o := .stringIter ⟨str.toArray⟩ (pos + (Utf8.decode ⟨str.toArray⟩ pos).2)) hb (by intro _ _ _ h; cases h)
          have hrun : (execOp a.eval ⟨dst, .next x true, ty, pp, aft, gd⟩).run P w = .ok (.value (.tuple #[.bool true, goInt pos, .int .i32 (Utf8.decode ⟨str.toArray⟩ pos).1])) { w with heap := w.heap.setIfInBounds b (.stringIter ⟨str.toArray⟩ (pos + (Utf8.decode ⟨str.toArray⟩ pos).2)) } := by
            simp [execOp, Instr.next, hp, hgo, hsz, hlen, hso]
          have hu := upd_rel H h3 hm hb (by intro _ _ _ h; cases h) (ob' := .stringIter ⟨str.toArray⟩ (pos + (Utf8.decode ⟨str.toArray⟩ pos).2)) (o' := .sit s str (pos + (Utf8.decode ⟨str.toArray⟩ pos).2)) (by intro _ _ _ h; cases h)
            (fun st => by simp only [orel]; exact ⟨hlt, b, hm, by simp [(Array.getElem?_eq_some_iff.1 hb).1]⟩)
          exact wp_value hrun hu.1 hu.2 (by simp only [vrel]; exact ⟨_, rfl, by simp [vrels, vrel, goInt]⟩) (hk1 hlen)
        · have hrun : (execOp a.eval ⟨dst, .next x true, ty, pp, aft, gd⟩).run P w = .ok (.value (.tuple #[.bool false])) w := by
            simp [execOp, Instr.next, hp, hgo, hsz, hlen]
          exact wp_value hrun (.refl C w) H (by simp only [vrel]; exact ⟨_, rfl, by simp [vrels, vrel]⟩) (hk2 hlen)
      all_goals cases h4
    all_goals cases h2
  case isnil neg y =>
    cases op <;> first | (cases hc; done) | skip
    rename_i op t x n t2
    simp only [chkE, Bool.and_eq_true] at hc
    obtain ⟨⟨⟨hn, ho⟩, hT⟩, hxy⟩ := hc
    have hn' := isNilSl_of hn
    subst hn'
    split at hT
    · rename_i e hu
      simp only [EOp.wp] at h
      obtain ⟨v, h1, h⟩ := oK_of h
      obtain ⟨m, h2, hk⟩ := oK_of h
      have hv := ev_sound hxy he h1 rfl
      have hsl : ∃ b len cap, a.eval x = .slice b len cap ∧ (0 < m → b ≠ none) := by
        cases v <;> simp only [nilLen] at h2
        case psl es =>
          simp at h2; subst h2
          simp only [vrel] at hv
          obtain ⟨b, cap, e1, e2, e3⟩ := hv
          refine ⟨b, es.length, cap, e1, fun hm => ?_⟩
          rcases e3 with rfl | ⟨b', o, z, rfl, _⟩
          · simp at hm
          · simp
        case sl l s i n =>
          obtain ⟨es, g1, g2⟩ := ob_eq_some h2
          obtain rfl := Option.some.inj g2
          obtain ⟨z, _, hcase⟩ := rows_sound H hv g1
          rcases hcase with ⟨_, _, _, rfl, e1⟩ | ⟨b, cap, arr, t', _, e1, _⟩
          · exact ⟨none, 0, 0, e1, by simp⟩
          · exact ⟨_, n, cap, e1, by simp⟩
        all_goals cases h2
      obtain ⟨b, len, cap, e1, e2⟩ := hsl
      have heq : (Op.equal t (.slice b len cap) (.slice none 0 0)).run P w = .ok b.isNone w := by
        refine equal_simple hu (fun n => ?_)
        cases b with
        | none => simp [Op.equalIn, run_underlying hu]
        | some b => simp [Op.equalIn, run_underlying hu]
      have hrun := eqk_fin (P := P) (op := op) (t := t) (xo := x) (yo := .const (.slice none 0 0)) (neg := neg) ho heq (eqk_guard (.inl rfl)) rfl rfl
      refine wp_value (C' := C) (w' := w) (v := .bool (if neg then !b.isNone else b.isNone)) (y := .bool (if neg then !b.isNone else b.isNone)) ?_ (.refl C w) H (by simp [vrel]) (hk b.isNone (fun hm => by
        cases b with
        | none => exact absurd rfl (e2 hm)
        | some _ => rfl))
      exact run_val (by rw [e1]; exact hrun)
    · cases hT
end
end Go.Ab
