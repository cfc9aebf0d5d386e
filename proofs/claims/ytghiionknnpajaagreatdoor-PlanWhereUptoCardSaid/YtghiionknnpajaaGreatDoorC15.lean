/- Contracts: the cells that a write makes (plan). -/
import Derived.Test.YtghiionknnpajaaGreatDoorC13
import Derived.Test.YtghiionknnpajaaGreatDoorC14
import Derived.Test.YtghiionknnpajaaGreatDoorC7b
set_option linter.unusedVariables false
set_option linter.unusedSimpArgs false
namespace Go.Ab.S2
open Go.Ab
set_option maxRecDepth 100000

def needless (x c : Cell) : Bool := if order x c = 0 then true else if x.fam ≠ c.fam then false else c.kind == 4 || (c.kind == 3 && x.kind == 1) && x.qual == c.qual

theorem needless_spec (x c : Cell) : Ans N.plan_needless [.agg x.e, .agg c.e] (.bool (needless x c)) := by
  intro h
  refine spec_of ck_plan_needless ?_
  rw [wp_start]
  simp (maxSteps := 1000000) (disch := omega) only [go_sem, opS_s, opS_sg, opS_b, opS_bg, ↓reduceIte, Nat.reduceAdd, Nat.reduceMul, Nat.reduceSub, Nat.reduceEqDiff, Nat.reduceLeDiff, Nat.reduceLT, Nat.reduceBEq, Int.reduceBEq, Int.reduceBNe, Int.reduceEq, Int.reduceNeg, Int.reduceAdd, Int.reduceSub, Int.reduceMul, List.cons_beq_cons, BEq.rfl, Int.reduceToNat, Int.reduceLE, Int.reduceLT, reduceCtorEq, F.plan_needless]
  intro s1 s2
  refine callS_exact (order_spec x c _) ?_
  simp (maxSteps := 1000000) (disch := omega) only [go_sem, opS_s, opS_sg, opS_b, opS_bg, ↓reduceIte, Nat.reduceAdd, Nat.reduceMul, Nat.reduceSub, Nat.reduceEqDiff, Nat.reduceLeDiff, Nat.reduceLT, Nat.reduceBEq, Int.reduceBEq, Int.reduceBNe, Int.reduceEq, Int.reduceNeg, Int.reduceAdd, Int.reduceSub, Int.reduceMul, List.cons_beq_cons, BEq.rfl, Int.reduceToNat, Int.reduceLE, Int.reduceLT, reduceCtorEq]
  rw [condS_some]; refine ⟨fun hx => ?_, fun hx => ?_⟩
  · simp (maxSteps := 1000000) (disch := omega) only [go_sem, opS_s, opS_sg, opS_b, opS_bg, ↓reduceIte, Nat.reduceAdd, Nat.reduceMul, Nat.reduceSub, Nat.reduceEqDiff, Nat.reduceLeDiff, Nat.reduceLT, Nat.reduceBEq, Int.reduceBEq, Int.reduceBNe, Int.reduceEq, Int.reduceNeg, Int.reduceAdd, Int.reduceSub, Int.reduceMul, List.cons_beq_cons, BEq.rfl, Int.reduceToNat, Int.reduceLE, Int.reduceLT, reduceCtorEq]
    have ho : order x c = 0 := by simpa using hx
    refine finS_l ?_
    simp (maxSteps := 1000000) (disch := omega) only [go_sem, opS_s, opS_sg, opS_b, opS_bg, ↓reduceIte, Nat.reduceAdd, Nat.reduceMul, Nat.reduceSub, Nat.reduceEqDiff, Nat.reduceLeDiff, Nat.reduceLT, Nat.reduceBEq, Int.reduceBEq, Int.reduceBNe, Int.reduceEq, Int.reduceNeg, Int.reduceAdd, Int.reduceSub, Int.reduceMul, List.cons_beq_cons, BEq.rfl, Int.reduceToNat, Int.reduceLE, Int.reduceLT, reduceCtorEq]
    all_goals simp [needless, ho]
  · simp (maxSteps := 1000000) (disch := omega) only [go_sem, opS_s, opS_sg, opS_b, opS_bg, ↓reduceIte, Nat.reduceAdd, Nat.reduceMul, Nat.reduceSub, Nat.reduceEqDiff, Nat.reduceLeDiff, Nat.reduceLT, Nat.reduceBEq, Int.reduceBEq, Int.reduceBNe, Int.reduceEq, Int.reduceNeg, Int.reduceAdd, Int.reduceSub, Int.reduceMul, List.cons_beq_cons, BEq.rfl, Int.reduceToNat, Int.reduceLE, Int.reduceLT, reduceCtorEq]
    have ho : ¬ order x c = 0 := by simpa using hx
    rw [condS_some]; refine ⟨fun hx => ?_, fun hx => ?_⟩
    · simp (maxSteps := 1000000) (disch := omega) only [go_sem, opS_s, opS_sg, opS_b, opS_bg, ↓reduceIte, Nat.reduceAdd, Nat.reduceMul, Nat.reduceSub, Nat.reduceEqDiff, Nat.reduceLeDiff, Nat.reduceLT, Nat.reduceBEq, Int.reduceBEq, Int.reduceBNe, Int.reduceEq, Int.reduceNeg, Int.reduceAdd, Int.reduceSub, Int.reduceMul, List.cons_beq_cons, BEq.rfl, Int.reduceToNat, Int.reduceLE, Int.reduceLT, reduceCtorEq]
      have hf : ¬ x.fam = c.fam := by simpa using hx
      refine finS_l ?_
      simp (maxSteps := 1000000) (disch := omega) only [go_sem, opS_s, opS_sg, opS_b, opS_bg, ↓reduceIte, Nat.reduceAdd, Nat.reduceMul, Nat.reduceSub, Nat.reduceEqDiff, Nat.reduceLeDiff, Nat.reduceLT, Nat.reduceBEq, Int.reduceBEq, Int.reduceBNe, Int.reduceEq, Int.reduceNeg, Int.reduceAdd, Int.reduceSub, Int.reduceMul, List.cons_beq_cons, BEq.rfl, Int.reduceToNat, Int.reduceLE, Int.reduceLT, reduceCtorEq]
      all_goals simp [needless, ho, hf]
    · simp (maxSteps := 1000000) (disch := omega) only [go_sem, opS_s, opS_sg, opS_b, opS_bg, ↓reduceIte, Nat.reduceAdd, Nat.reduceMul, Nat.reduceSub, Nat.reduceEqDiff, Nat.reduceLeDiff, Nat.reduceLT, Nat.reduceBEq, Int.reduceBEq, Int.reduceBNe, Int.reduceEq, Int.reduceNeg, Int.reduceAdd, Int.reduceSub, Int.reduceMul, List.cons_beq_cons, BEq.rfl, Int.reduceToNat, Int.reduceLE, Int.reduceLT, reduceCtorEq]
      have hf : x.fam = c.fam := by simpa using hx
      refine finS_l ?_
      simp (maxSteps := 1000000) (disch := omega) only [go_sem, opS_s, opS_sg, opS_b, opS_bg, ↓reduceIte, Nat.reduceAdd, Nat.reduceMul, Nat.reduceSub, Nat.reduceEqDiff, Nat.reduceLeDiff, Nat.reduceLT, Nat.reduceBEq, Int.reduceBEq, Int.reduceBNe, Int.reduceEq, Int.reduceNeg, Int.reduceAdd, Int.reduceSub, Int.reduceMul, List.cons_beq_cons, BEq.rfl, Int.reduceToNat, Int.reduceLE, Int.reduceLT, reduceCtorEq]
      simp [needless, ho, hf]

theorem add1_spec (x c : Cell) (H : Heap) (l s : Nat) (hl : H[l]? = some (.arr s 0 8 [c.e])) : SpecA PP N.plan_maker_add_1 [.agg x.e, .ptr l s 0 0] H (fun r h' => r = .ret (.bool (needless x c)) ∧ h' = H) := by
  have hl' := hgl hl
  refine spec_of ck_plan_maker_add_1 ?_
  rw [wp_start]
  simp (maxSteps := 1000000) (disch := omega) only [go_sem, opS_s, opS_sg, opS_b, opS_bg, ↓reduceIte, Nat.reduceAdd, Nat.reduceMul, Nat.reduceSub, Nat.reduceEqDiff, Nat.reduceLeDiff, Nat.reduceLT, Nat.reduceBEq, Int.reduceBEq, Int.reduceBNe, Int.reduceEq, Int.reduceNeg, Int.reduceAdd, Int.reduceSub, Int.reduceMul, List.cons_beq_cons, BEq.rfl, Int.reduceToNat, Int.reduceLE, Int.reduceLT, reduceCtorEq, F.plan_maker_add_1]
  intro s2
  simp (maxSteps := 1000000) (disch := omega) only [go_sem, opS_s, opS_sg, opS_b, opS_bg, ↓reduceIte, Nat.reduceAdd, Nat.reduceMul, Nat.reduceSub, Nat.reduceEqDiff, Nat.reduceLeDiff, Nat.reduceLT, Nat.reduceBEq, Int.reduceBEq, Int.reduceBNe, Int.reduceEq, Int.reduceNeg, Int.reduceAdd, Int.reduceSub, Int.reduceMul, List.cons_beq_cons, BEq.rfl, Int.reduceToNat, Int.reduceLE, Int.reduceLT, reduceCtorEq, hl']
  refine callS_exact (needless_spec x c _) ?_
  simp (maxSteps := 1000000) (disch := omega) only [go_sem, opS_s, opS_sg, opS_b, opS_bg, ↓reduceIte, Nat.reduceAdd, Nat.reduceMul, Nat.reduceSub, Nat.reduceEqDiff, Nat.reduceLeDiff, Nat.reduceLT, Nat.reduceBEq, Int.reduceBEq, Int.reduceBNe, Int.reduceEq, Int.reduceNeg, Int.reduceAdd, Int.reduceSub, Int.reduceMul, List.cons_beq_cons, BEq.rfl, Int.reduceToNat, Int.reduceLE, Int.reduceLT, reduceCtorEq]
  refine finS_l ?_
  simp (maxSteps := 1000000) (disch := omega) only [go_sem, opS_s, opS_sg, opS_b, opS_bg, ↓reduceIte, Nat.reduceAdd, Nat.reduceMul, Nat.reduceSub, Nat.reduceEqDiff, Nat.reduceLeDiff, Nat.reduceLT, Nat.reduceBEq, Int.reduceBEq, Int.reduceBNe, Int.reduceEq, Int.reduceNeg, Int.reduceAdd, Int.reduceSub, Int.reduceMul, List.cons_beq_cons, BEq.rfl, Int.reduceToNat, Int.reduceLE, Int.reduceLT, reduceCtorEq]
  all_goals simp []

/-- A maker's cells of memory. -/
def Mk.e (s : Schema) (row : Str) (time : Int) (o : AV) : List AV := [.int .i64 s.version, .psl (s.fams.map Family.e), .int .i64 s.change.kind, .str s.change.fam, .str s.change.qual, .int .i64 s.change.type, .int .i64 s.change.group, .int .i64 s.change.versions, .int .i64 s.change.life, .int .i64 s.step, .str row, .int .i64 time, o]
section
variable (s : Schema) (row : Str) (time : Int) (o o' : AV)
@[go_sem high] theorem Mk.len : (Mk.e s row time o).length = 13 := rfl
@[go_sem high] theorem Mk.g1 : (Mk.e s row time o)[1]? = some (.psl (s.fams.map Family.e)) := rfl
@[go_sem high] theorem Mk.g10 : (Mk.e s row time o)[10]? = some (.str row) := rfl
@[go_sem high] theorem Mk.g11 : (Mk.e s row time o)[11]? = some (.int .i64 time) := rfl
@[go_sem high] theorem Mk.g12 : (Mk.e s row time o)[12]? = some o := rfl
@[go_sem high] theorem Mk.cut : cutL 0 10 (Mk.e s row time o) = some s.e := rfl
@[go_sem high] theorem Mk.set12 (l t i n : Nat) : setL 12 (.sl l t i n) (Mk.e s row time o) = some (Mk.e s row time (.sl l t i n)) := rfl
end

/-- Memory, but for two of its objects. -/
def H2 (h : Heap) (lo : Nat) (a : AObj) (lm : Nat) (b : AObj) : Heap := (h.set lo a).set lm b
section
variable {h : Heap} {lo lm : Nat} (a b x : AObj) (r : Heap) (k : Nat)
@[go_sem] theorem H2.len : (H2 h lo a lm b).length = h.length := by simp [H2]
@[go_sem] theorem H2.g0 : (H2 h lo a lm b ++ r)[h.length]? = r[0]? := by rw [List.getElem?_append_right (by simp [H2])]; simp [H2]
@[go_sem] theorem H2.gk : (H2 h lo a lm b ++ r)[h.length + k]? = r[k]? := by rw [List.getElem?_append_right (by simp [H2])]; simp [H2]
@[go_sem] theorem H2.s0 : (H2 h lo a lm b ++ r).set h.length x = H2 h lo a lm b ++ r.set 0 x := by rw [List.set_append_right _ _ (by simp [H2])]; simp [H2]
@[go_sem] theorem H2.sk : (H2 h lo a lm b ++ r).set (h.length + k) x = H2 h lo a lm b ++ r.set k x := by rw [List.set_append_right _ _ (by simp [H2])]; simp [H2]
@[go_sem] theorem H2.tk : (H2 h lo a lm b ++ r).take h.length = H2 h lo a lm b := by rw [List.take_append_of_le_length (by simp [H2])]; exact List.take_of_length_le (by simp [H2])
@[go_sem] theorem H2.tkk : (H2 h lo a lm b ++ r).take (h.length + k) = H2 h lo a lm b ++ r.take k := by rw [show h.length + k = (H2 h lo a lm b).length + k by simp [H2], List.take_length_add_append]
@[go_sem] theorem H2.tk0 : (H2 h lo a lm b).take h.length = H2 h lo a lm b := List.take_of_length_le (by simp [H2])
end
theorem H2.glo {h : Heap} {lo lm : Nat} (hlo : lo < h.length) (hlm : lm < h.length) (hne : lo ≠ lm) (a b : AObj) : (H2 h lo a lm b)[lo]? = some a := by unfold H2; rw [List.getElem?_set_ne (fun e => hne e.symm), List.getElem?_set_self hlo]
theorem H2.glor {h : Heap} {lo lm : Nat} (hlo : lo < h.length) (hlm : lm < h.length) (hne : lo ≠ lm) (a b : AObj) (r : Heap) : (H2 h lo a lm b ++ r)[lo]? = some a := by rw [List.getElem?_append_left (by simpa [H2] using hlo)]; exact H2.glo hlo hlm hne a b
theorem H2.glm {h : Heap} {lo lm : Nat} (hlo : lo < h.length) (hlm : lm < h.length) (hne : lo ≠ lm) (a b : AObj) : (H2 h lo a lm b)[lm]? = some b := by unfold H2; rw [List.getElem?_set_self (by simpa using hlm)]
theorem H2.glmr {h : Heap} {lo lm : Nat} (hlo : lo < h.length) (hlm : lm < h.length) (hne : lo ≠ lm) (a b : AObj) (r : Heap) : (H2 h lo a lm b ++ r)[lm]? = some b := by rw [List.getElem?_append_left (by simpa [H2] using hlm)]; exact H2.glm hlo hlm hne a b
theorem H2.slo {h : Heap} {lo lm : Nat} (hlo : lo < h.length) (hlm : lm < h.length) (hne : lo ≠ lm) (a b x : AObj) : (H2 h lo a lm b).set lo x = H2 h lo x lm b := by unfold H2; rw [List.set_comm _ _ (fun e => hne e.symm), List.set_set]
theorem H2.slor {h : Heap} {lo lm : Nat} (hlo : lo < h.length) (hlm : lm < h.length) (hne : lo ≠ lm) (a b x : AObj) (r : Heap) : (H2 h lo a lm b ++ r).set lo x = H2 h lo x lm b ++ r := by rw [List.set_append_left _ _ (by simpa [H2] using hlo), H2.slo hlo hlm hne]
theorem H2.slm {h : Heap} {lo lm : Nat} (hlo : lo < h.length) (hlm : lm < h.length) (hne : lo ≠ lm) (a b x : AObj) : (H2 h lo a lm b).set lm x = H2 h lo a lm x := by unfold H2; rw [List.set_set]
theorem H2.slmr {h : Heap} {lo lm : Nat} (hlo : lo < h.length) (hlm : lm < h.length) (hne : lo ≠ lm) (a b x : AObj) (r : Heap) : (H2 h lo a lm b ++ r).set lm x = H2 h lo a lm x ++ r := by rw [List.set_append_left _ _ (by simpa [H2] using hlm), H2.slm hlo hlm hne]
theorem H2.same {h : Heap} {lo lm : Nat} {a b : AObj} (h1 : h[lo]? = some a) (h2 : h[lm]? = some b) : H2 h lo a lm b = h := by unfold H2; rw [set_same h1, set_same h2]
def addF (l : List Cell) (c : Cell) : List Cell := (l.filter fun x => !needless x c) ++ [c]

theorem add_spec (s : Schema) (row : Str) (time : Int) (l : List Cell) (c : Cell) (h : Heap) (lo lm so sm : Nat) (hlo : lo < h.length) (hlm : lm < h.length) (hne : lo ≠ lm) (hl : l.length < 1000000000) :
    SpecA PP N.plan_maker_add [.ptr lm sm 0 0, .agg c.e] (H2 h lo (.arr so 0 8 (l.map Cell.e)) lm (.arr sm 0 13 [Mk.e s row time (.sl lo so 0 l.length)])) (fun r h' => r = .ret (.tup []) ∧ ∃ so', h' = H2 h lo (.arr so' 0 8 ((addF l { c with row := row }).map Cell.e)) lm (.arr sm 0 13 [Mk.e s row time (.sl lo so' 0 (addF l { c with row := row }).length)])) := by
  have e1 := @H2.glo h lo lm hlo hlm hne
  have e2 := @H2.glor h lo lm hlo hlm hne
  have e3 := @H2.glm h lo lm hlo hlm hne
  have e4 := @H2.glmr h lo lm hlo hlm hne
  have e5 := @H2.slo h lo lm hlo hlm hne
  have e6 := @H2.slor h lo lm hlo hlm hne
  have e7 := @H2.slm h lo lm hlo hlm hne
  have e8 := @H2.slmr h lo lm hlo hlm hne
  refine spec_of ck_plan_maker_add ?_
  rw [wp_start]
  simp (maxSteps := 1000000) (disch := omega) only [go_sem, opS_s, opS_sg, opS_b, opS_bg, ↓reduceIte, Nat.reduceAdd, Nat.reduceMul, Nat.reduceSub, Nat.reduceEqDiff, Nat.reduceLeDiff, Nat.reduceLT, Nat.reduceBEq, Int.reduceBEq, Int.reduceBNe, Int.reduceEq, Int.reduceNeg, Int.reduceAdd, Int.reduceSub, Int.reduceMul, List.cons_beq_cons, BEq.rfl, Int.reduceToNat, Int.reduceLE, Int.reduceLT, reduceCtorEq, F.plan_maker_add]
  simp (maxSteps := 1000000) (disch := omega) only [go_sem, opS_s, opS_sg, opS_b, opS_bg, ↓reduceIte, Nat.reduceAdd, Nat.reduceMul, Nat.reduceSub, Nat.reduceEqDiff, Nat.reduceLeDiff, Nat.reduceLT, Nat.reduceBEq, Int.reduceBEq, Int.reduceBNe, Int.reduceEq, Int.reduceNeg, Int.reduceAdd, Int.reduceSub, Int.reduceMul, List.cons_beq_cons, BEq.rfl, Int.reduceToNat, Int.reduceLE, Int.reduceLT, reduceCtorEq, e1, e2, e3, e4, e5, e6, e7, e8]
  intro s3
  try simp (maxSteps := 1000000) (disch := omega) only [go_sem, opS_s, opS_sg, opS_b, opS_bg, ↓reduceIte, Nat.reduceAdd, Nat.reduceMul, Nat.reduceSub, Nat.reduceEqDiff, Nat.reduceLeDiff, Nat.reduceLT, Nat.reduceBEq, Int.reduceBEq, Int.reduceBNe, Int.reduceEq, Int.reduceNeg, Int.reduceAdd, Int.reduceSub, Int.reduceMul, List.cons_beq_cons, BEq.rfl, Int.reduceToNat, Int.reduceLE, Int.reduceLT, reduceCtorEq, e1, e2, e3, e4, e5, e6, e7, e8]
  refine callS_exact (deleteFunc_spec l _ [.ptr h.length s3 0 0] (fun x => needless x { c with row := row }) _ lo so (e2 _ _ _) (by omega) (fun x _ H hR => add1_spec x _ H _ _ ((hR h.length (by omega) (by simp [H2])).trans (by simp (maxSteps := 1000000) (disch := omega) only [go_sem, opS_s, opS_sg, opS_b, opS_bg, ↓reduceIte, Nat.reduceAdd, Nat.reduceMul, Nat.reduceSub, Nat.reduceEqDiff, Nat.reduceLeDiff, Nat.reduceLT, Nat.reduceBEq, Int.reduceBEq, Int.reduceBNe, Int.reduceEq, Int.reduceNeg, Int.reduceAdd, Int.reduceSub, Int.reduceMul, List.cons_beq_cons, BEq.rfl, Int.reduceToNat, Int.reduceLE, Int.reduceLT, reduceCtorEq])))) ?_
  simp (maxSteps := 1000000) (disch := omega) only [go_sem, opS_s, opS_sg, opS_b, opS_bg, ↓reduceIte, Nat.reduceAdd, Nat.reduceMul, Nat.reduceSub, Nat.reduceEqDiff, Nat.reduceLeDiff, Nat.reduceLT, Nat.reduceBEq, Int.reduceBEq, Int.reduceBNe, Int.reduceEq, Int.reduceNeg, Int.reduceAdd, Int.reduceSub, Int.reduceMul, List.cons_beq_cons, BEq.rfl, Int.reduceToNat, Int.reduceLE, Int.reduceLT, reduceCtorEq, e1, e2, e3, e4, e5, e6, e7, e8]
  have hk : (l.filter fun x => !needless x { c with row := row }).length ≤ l.length := List.length_filter_le _ _
  refine fun s4 => ⟨by omega, fun s5 => ?_⟩
  refine finS_l ?_
  simp (maxSteps := 1000000) (disch := omega) only [go_sem, opS_s, opS_sg, opS_b, opS_bg, ↓reduceIte, Nat.reduceAdd, Nat.reduceMul, Nat.reduceSub, Nat.reduceEqDiff, Nat.reduceLeDiff, Nat.reduceLT, Nat.reduceBEq, Int.reduceBEq, Int.reduceBNe, Int.reduceEq, Int.reduceNeg, Int.reduceAdd, Int.reduceSub, Int.reduceMul, List.cons_beq_cons, BEq.rfl, Int.reduceToNat, Int.reduceLE, Int.reduceLT, reduceCtorEq, addF, List.map_append]
  exact ⟨s5, rfl⟩

theorem H2.app {h : Heap} {lo lm : Nat} (hlo : lo < h.length) (hlm : lm < h.length) (a b : AObj) (r : Heap) : H2 h lo a lm b ++ r = H2 (h ++ r) lo a lm b := by
  unfold H2; rw [List.set_append_left _ _ hlo, List.set_append_left _ _ (by simpa using hlm)]
theorem onRet_ret (K Kp : AV → Heap → Prop) (v : AV) (h : Heap) : onRet K Kp (.ret v) h = K v h := rfl

def rowF (s : Schema) (row : Str) (time : Int) (l : List Cell) : List Family → List Cell
  | [] => l
  | f :: r => rowF s row time (if famU s f.name then addF l ⟨row, f.name, [], time - 1, 4, Value.zero⟩ else l) r
def doF (s : Schema) (row : Str) (time : Int) (l : List Cell) (m : Mut) : List Cell :=
  if m.kind = 1 then addF l ⟨row, m.fam, m.qual, time, 1, m.val⟩
  else if m.kind = 2 then addF l ⟨row, m.fam, m.qual, time - 1, 3, Value.zero⟩
  else if m.kind = 3 then addF l ⟨row, m.fam, [], time - 1, 4, Value.zero⟩
  else if m.kind = 4 then rowF s row time l s.fams
  else l

theorem addF_len (l : List Cell) (c : Cell) : (addF l c).length ≤ l.length + 1 := by
  unfold addF; have := List.length_filter_le (fun x => !needless x c) l; simp; omega
theorem rowF_len (s : Schema) (row : Str) (time : Int) : ∀ (fs : List Family) (l : List Cell), (rowF s row time l fs).length ≤ l.length + fs.length
  | [], l => by simp [rowF]
  | f :: r, l => by
    simp only [rowF]
    refine Nat.le_trans (rowF_len s row time r _) ?_
    split
    · have := addF_len l ⟨row, f.name, [], time - 1, 4, Value.zero⟩; simp; omega
    · simp

theorem do_spec (s : Schema) (row : Str) (time : Int) (l : List Cell) (m : Mut) (hs : s.wf) (h : Heap) (lo lm so sm : Nat) (hlo : lo < h.length) (hlm : lm < h.length) (hne : lo ≠ lm) (hl : l.length + s.fams.length < 1000000000) (ht1 : 1 ≤ time) (ht2 : time ≤ 1099511627776) :
    SpecA PP N.plan_maker_do [.ptr lm sm 0 0, .agg m.e] (H2 h lo (.arr so 0 8 (l.map Cell.e)) lm (.arr sm 0 13 [Mk.e s row time (.sl lo so 0 l.length)])) (fun r h' => r = .ret (.tup []) ∧ ∃ so', h' = H2 h lo (.arr so' 0 8 ((doF s row time l m).map Cell.e)) lm (.arr sm 0 13 [Mk.e s row time (.sl lo so' 0 (doF s row time l m).length)])) := by
  have e1 := @H2.glo h lo lm hlo hlm hne
  have e2 := @H2.glor h lo lm hlo hlm hne
  have e3 := @H2.glm h lo lm hlo hlm hne
  have e4 := @H2.glmr h lo lm hlo hlm hne
  have lo' : ∀ r : Heap, lo < (h ++ r).length := fun r => by simp; omega
  have lm' : ∀ r : Heap, lm < (h ++ r).length := fun r => by simp; omega
  refine spec_of ck_plan_maker_do ?_
  rw [wp_start]
  simp (maxSteps := 1000000) (disch := omega) only [go_sem, opS_s, opS_sg, opS_b, opS_bg, ↓reduceIte, Nat.reduceAdd, Nat.reduceMul, Nat.reduceSub, Nat.reduceEqDiff, Nat.reduceLeDiff, Nat.reduceLT, Nat.reduceBEq, Int.reduceBEq, Int.reduceBNe, Int.reduceEq, Int.reduceNeg, Int.reduceAdd, Int.reduceSub, Int.reduceMul, List.cons_beq_cons, BEq.rfl, Int.reduceToNat, Int.reduceLE, Int.reduceLT, reduceCtorEq, F.plan_maker_do]
  intro s3
  try simp (maxSteps := 1000000) (disch := omega) only [go_sem, opS_s, opS_sg, opS_b, opS_bg, ↓reduceIte, Nat.reduceAdd, Nat.reduceMul, Nat.reduceSub, Nat.reduceEqDiff, Nat.reduceLeDiff, Nat.reduceLT, Nat.reduceBEq, Int.reduceBEq, Int.reduceBNe, Int.reduceEq, Int.reduceNeg, Int.reduceAdd, Int.reduceSub, Int.reduceMul, List.cons_beq_cons, BEq.rfl, Int.reduceToNat, Int.reduceLE, Int.reduceLT, reduceCtorEq, e1, e2, e3, e4]
  rw [condS_some]; refine ⟨fun hx => ?_, fun hx => ?_⟩
  · have k1 : m.kind = 1 := by simpa using hx
    simp (maxSteps := 1000000) (disch := omega) only [go_sem, opS_s, opS_sg, opS_b, opS_bg, ↓reduceIte, Nat.reduceAdd, Nat.reduceMul, Nat.reduceSub, Nat.reduceEqDiff, Nat.reduceLeDiff, Nat.reduceLT, Nat.reduceBEq, Int.reduceBEq, Int.reduceBNe, Int.reduceEq, Int.reduceNeg, Int.reduceAdd, Int.reduceSub, Int.reduceMul, List.cons_beq_cons, BEq.rfl, Int.reduceToNat, Int.reduceLE, Int.reduceLT, reduceCtorEq, e1, e2, e3, e4]
    rw [H2.app hlo hlm]
    refine callS_any (add_spec s row time l ⟨[], m.fam, m.qual, time, 1, m.val⟩ _ lo lm so sm (lo' _) (lm' _) hne (by omega)) ?_
    rintro _ _ ⟨rfl, so', rfl⟩
    rw [← H2.app hlo hlm]
    simp (maxSteps := 1000000) (disch := omega) only [go_sem, opS_s, opS_sg, opS_b, opS_bg, ↓reduceIte, Nat.reduceAdd, Nat.reduceMul, Nat.reduceSub, Nat.reduceEqDiff, Nat.reduceLeDiff, Nat.reduceLT, Nat.reduceBEq, Int.reduceBEq, Int.reduceBNe, Int.reduceEq, Int.reduceNeg, Int.reduceAdd, Int.reduceSub, Int.reduceMul, List.cons_beq_cons, BEq.rfl, Int.reduceToNat, Int.reduceLE, Int.reduceLT, reduceCtorEq, onRet_ret]
    refine finS_l ?_
    simp (maxSteps := 1000000) (disch := omega) only [go_sem, opS_s, opS_sg, opS_b, opS_bg, ↓reduceIte, Nat.reduceAdd, Nat.reduceMul, Nat.reduceSub, Nat.reduceEqDiff, Nat.reduceLeDiff, Nat.reduceLT, Nat.reduceBEq, Int.reduceBEq, Int.reduceBNe, Int.reduceEq, Int.reduceNeg, Int.reduceAdd, Int.reduceSub, Int.reduceMul, List.cons_beq_cons, BEq.rfl, Int.reduceToNat, Int.reduceLE, Int.reduceLT, reduceCtorEq, doF, k1]
    exact ⟨so', rfl⟩
  · have k1 : ¬ m.kind = 1 := by simpa using hx
    simp (maxSteps := 1000000) (disch := omega) only [go_sem, opS_s, opS_sg, opS_b, opS_bg, ↓reduceIte, Nat.reduceAdd, Nat.reduceMul, Nat.reduceSub, Nat.reduceEqDiff, Nat.reduceLeDiff, Nat.reduceLT, Nat.reduceBEq, Int.reduceBEq, Int.reduceBNe, Int.reduceEq, Int.reduceNeg, Int.reduceAdd, Int.reduceSub, Int.reduceMul, List.cons_beq_cons, BEq.rfl, Int.reduceToNat, Int.reduceLE, Int.reduceLT, reduceCtorEq]
    rw [condS_some]; refine ⟨fun hx => ?_, fun hx => ?_⟩
    · have k2 : m.kind = 2 := by simpa using hx
      simp (maxSteps := 1000000) (disch := omega) only [go_sem, opS_s, opS_sg, opS_b, opS_bg, ↓reduceIte, Nat.reduceAdd, Nat.reduceMul, Nat.reduceSub, Nat.reduceEqDiff, Nat.reduceLeDiff, Nat.reduceLT, Nat.reduceBEq, Int.reduceBEq, Int.reduceBNe, Int.reduceEq, Int.reduceNeg, Int.reduceAdd, Int.reduceSub, Int.reduceMul, List.cons_beq_cons, BEq.rfl, Int.reduceToNat, Int.reduceLE, Int.reduceLT, reduceCtorEq, e1, e2, e3, e4, wrap64]
      rw [H2.app hlo hlm]
      refine callS_any (add_spec s row time l ⟨[], m.fam, m.qual, time - 1, 3, Value.zero⟩ _ lo lm so sm (lo' _) (lm' _) hne (by omega)) ?_
      rintro _ _ ⟨rfl, so', rfl⟩
      rw [← H2.app hlo hlm]
      simp (maxSteps := 1000000) (disch := omega) only [go_sem, opS_s, opS_sg, opS_b, opS_bg, ↓reduceIte, Nat.reduceAdd, Nat.reduceMul, Nat.reduceSub, Nat.reduceEqDiff, Nat.reduceLeDiff, Nat.reduceLT, Nat.reduceBEq, Int.reduceBEq, Int.reduceBNe, Int.reduceEq, Int.reduceNeg, Int.reduceAdd, Int.reduceSub, Int.reduceMul, List.cons_beq_cons, BEq.rfl, Int.reduceToNat, Int.reduceLE, Int.reduceLT, reduceCtorEq, onRet_ret]
      refine finS_l ?_
      simp (maxSteps := 1000000) (disch := omega) only [go_sem, opS_s, opS_sg, opS_b, opS_bg, ↓reduceIte, Nat.reduceAdd, Nat.reduceMul, Nat.reduceSub, Nat.reduceEqDiff, Nat.reduceLeDiff, Nat.reduceLT, Nat.reduceBEq, Int.reduceBEq, Int.reduceBNe, Int.reduceEq, Int.reduceNeg, Int.reduceAdd, Int.reduceSub, Int.reduceMul, List.cons_beq_cons, BEq.rfl, Int.reduceToNat, Int.reduceLE, Int.reduceLT, reduceCtorEq, doF, k2]
      exact ⟨so', rfl⟩
    · have k2 : ¬ m.kind = 2 := by simpa using hx
      simp (maxSteps := 1000000) (disch := omega) only [go_sem, opS_s, opS_sg, opS_b, opS_bg, ↓reduceIte, Nat.reduceAdd, Nat.reduceMul, Nat.reduceSub, Nat.reduceEqDiff, Nat.reduceLeDiff, Nat.reduceLT, Nat.reduceBEq, Int.reduceBEq, Int.reduceBNe, Int.reduceEq, Int.reduceNeg, Int.reduceAdd, Int.reduceSub, Int.reduceMul, List.cons_beq_cons, BEq.rfl, Int.reduceToNat, Int.reduceLE, Int.reduceLT, reduceCtorEq]
      rw [condS_some]; refine ⟨fun hx => ?_, fun hx => ?_⟩
      · have k3 : m.kind = 3 := by simpa using hx
        simp (maxSteps := 1000000) (disch := omega) only [go_sem, opS_s, opS_sg, opS_b, opS_bg, ↓reduceIte, Nat.reduceAdd, Nat.reduceMul, Nat.reduceSub, Nat.reduceEqDiff, Nat.reduceLeDiff, Nat.reduceLT, Nat.reduceBEq, Int.reduceBEq, Int.reduceBNe, Int.reduceEq, Int.reduceNeg, Int.reduceAdd, Int.reduceSub, Int.reduceMul, List.cons_beq_cons, BEq.rfl, Int.reduceToNat, Int.reduceLE, Int.reduceLT, reduceCtorEq, e1, e2, e3, e4, wrap64]
        rw [H2.app hlo hlm]
        refine callS_any (add_spec s row time l ⟨[], m.fam, [], time - 1, 4, Value.zero⟩ _ lo lm so sm (lo' _) (lm' _) hne (by omega)) ?_
        rintro _ _ ⟨rfl, so', rfl⟩
        rw [← H2.app hlo hlm]
        simp (maxSteps := 1000000) (disch := omega) only [go_sem, opS_s, opS_sg, opS_b, opS_bg, ↓reduceIte, Nat.reduceAdd, Nat.reduceMul, Nat.reduceSub, Nat.reduceEqDiff, Nat.reduceLeDiff, Nat.reduceLT, Nat.reduceBEq, Int.reduceBEq, Int.reduceBNe, Int.reduceEq, Int.reduceNeg, Int.reduceAdd, Int.reduceSub, Int.reduceMul, List.cons_beq_cons, BEq.rfl, Int.reduceToNat, Int.reduceLE, Int.reduceLT, reduceCtorEq, onRet_ret]
        refine finS_l ?_
        simp (maxSteps := 1000000) (disch := omega) only [go_sem, opS_s, opS_sg, opS_b, opS_bg, ↓reduceIte, Nat.reduceAdd, Nat.reduceMul, Nat.reduceSub, Nat.reduceEqDiff, Nat.reduceLeDiff, Nat.reduceLT, Nat.reduceBEq, Int.reduceBEq, Int.reduceBNe, Int.reduceEq, Int.reduceNeg, Int.reduceAdd, Int.reduceSub, Int.reduceMul, List.cons_beq_cons, BEq.rfl, Int.reduceToNat, Int.reduceLE, Int.reduceLT, reduceCtorEq, doF, k3]
        exact ⟨so', rfl⟩
      · have k3 : ¬ m.kind = 3 := by simpa using hx
        simp (maxSteps := 1000000) (disch := omega) only [go_sem, opS_s, opS_sg, opS_b, opS_bg, ↓reduceIte, Nat.reduceAdd, Nat.reduceMul, Nat.reduceSub, Nat.reduceEqDiff, Nat.reduceLeDiff, Nat.reduceLT, Nat.reduceBEq, Int.reduceBEq, Int.reduceBNe, Int.reduceEq, Int.reduceNeg, Int.reduceAdd, Int.reduceSub, Int.reduceMul, List.cons_beq_cons, BEq.rfl, Int.reduceToNat, Int.reduceLE, Int.reduceLT, reduceCtorEq]
        rw [condS_some]; refine ⟨fun hx => ?_, fun hx => ?_⟩
        · have k4 : m.kind = 4 := by simpa using hx
          simp (maxSteps := 1000000) (disch := omega) only [go_sem, opS_s, opS_sg, opS_b, opS_bg, ↓reduceIte, Nat.reduceAdd, Nat.reduceMul, Nat.reduceSub, Nat.reduceEqDiff, Nat.reduceLeDiff, Nat.reduceLT, Nat.reduceBEq, Int.reduceBEq, Int.reduceBNe, Int.reduceEq, Int.reduceNeg, Int.reduceAdd, Int.reduceSub, Int.reduceMul, List.cons_beq_cons, BEq.rfl, Int.reduceToNat, Int.reduceLE, Int.reduceLT, reduceCtorEq, e1, e2, e3, e4, wrap64]
          have hd : doF s row time l m = rowF s row time l s.fams := by simp [doF, k4]
          rw [hd]
          refine loopS_list s.fams (fun pre (e : List Cell × Nat) => ⟨[(0, .ptr lm sm 0 0), (56, .psl (s.fams.map Family.e)), (57, .int .i64 s.fams.length), (58, .int .i64 pre.length)], H2 h lo (.arr e.2 0 8 (e.1.map Cell.e)) lm (.arr sm 0 13 [Mk.e s row time (.sl lo e.2 0 e.1.length)]) ++ [.arr s3 0 6 [m.e]]⟩) (fun pre post e => rowF s row time l s.fams = rowF s row time e.1 post ∧ e.1.length + post.length ≤ l.length + s.fams.length) (l, so) ?_ ⟨rfl, Nat.le_refl _⟩ ?_
          · rfl
          · rintro pre post ⟨l2, so2⟩ hpp ⟨hJ, hJl⟩
            simp only at hJ hJl ⊢
            have hfl := hs.fams
            cases post with
            | nil =>
              simp (maxSteps := 1000000) (disch := omega) only [go_sem, opS_s, opS_sg, opS_b, opS_bg, ↓reduceIte, Nat.reduceAdd, Nat.reduceMul, Nat.reduceSub, Nat.reduceEqDiff, Nat.reduceLeDiff, Nat.reduceLT, Nat.reduceBEq, Int.reduceBEq, Int.reduceBNe, Int.reduceEq, Int.reduceNeg, Int.reduceAdd, Int.reduceSub, Int.reduceMul, List.cons_beq_cons, BEq.rfl, Int.reduceToNat, Int.reduceLE, Int.reduceLT, reduceCtorEq, nl0 hpp]
              refine finS_l ?_
              simp (maxSteps := 1000000) (disch := omega) only [go_sem, opS_s, opS_sg, opS_b, opS_bg, ↓reduceIte, Nat.reduceAdd, Nat.reduceMul, Nat.reduceSub, Nat.reduceEqDiff, Nat.reduceLeDiff, Nat.reduceLT, Nat.reduceBEq, Int.reduceBEq, Int.reduceBNe, Int.reduceEq, Int.reduceNeg, Int.reduceAdd, Int.reduceSub, Int.reduceMul, List.cons_beq_cons, BEq.rfl, Int.reduceToNat, Int.reduceLE, Int.reduceLT, reduceCtorEq, hJ, rowF]
              exact ⟨so2, rfl⟩
            | cons x post =>
              have hn := nl hpp
              simp only [List.length_cons] at hJl
              simp (maxSteps := 1000000) (disch := omega) only [go_sem, opS_s, opS_sg, opS_b, opS_bg, ↓reduceIte, Nat.reduceAdd, Nat.reduceMul, Nat.reduceSub, Nat.reduceEqDiff, Nat.reduceLeDiff, Nat.reduceLT, Nat.reduceBEq, Int.reduceBEq, Int.reduceBNe, Int.reduceEq, Int.reduceNeg, Int.reduceAdd, Int.reduceSub, Int.reduceMul, List.cons_beq_cons, BEq.rfl, Int.reduceToNat, Int.reduceLE, Int.reduceLT, reduceCtorEq, gml Family.e hpp, hn, e4]
              intro s4
              try simp (maxSteps := 1000000) (disch := omega) only [go_sem, opS_s, opS_sg, opS_b, opS_bg, ↓reduceIte, Nat.reduceAdd, Nat.reduceMul, Nat.reduceSub, Nat.reduceEqDiff, Nat.reduceLeDiff, Nat.reduceLT, Nat.reduceBEq, Int.reduceBEq, Int.reduceBNe, Int.reduceEq, Int.reduceNeg, Int.reduceAdd, Int.reduceSub, Int.reduceMul, List.cons_beq_cons, BEq.rfl, Int.reduceToNat, Int.reduceLE, Int.reduceLT, reduceCtorEq, e1, e2, e3, e4]
              refine callS_exact (vnamed_spec s x.name hs _) ?_
              simp (maxSteps := 1000000) (disch := omega) only [go_sem, opS_s, opS_sg, opS_b, opS_bg, ↓reduceIte, Nat.reduceAdd, Nat.reduceMul, Nat.reduceSub, Nat.reduceEqDiff, Nat.reduceLeDiff, Nat.reduceLT, Nat.reduceBEq, Int.reduceBEq, Int.reduceBNe, Int.reduceEq, Int.reduceNeg, Int.reduceAdd, Int.reduceSub, Int.reduceMul, List.cons_beq_cons, BEq.rfl, Int.reduceToNat, Int.reduceLE, Int.reduceLT, reduceCtorEq]
              rw [condS_some]; refine ⟨fun hx => ?_, fun hx => ?_⟩
              · have hu : famU s x.name = true := by
                  unfold namE at hx
                  cases hq : famU s x.name with
                  | true => rfl
                  | false => rw [hq] at hx; simp at hx
                simp (maxSteps := 1000000) (disch := omega) only [go_sem, opS_s, opS_sg, opS_b, opS_bg, ↓reduceIte, Nat.reduceAdd, Nat.reduceMul, Nat.reduceSub, Nat.reduceEqDiff, Nat.reduceLeDiff, Nat.reduceLT, Nat.reduceBEq, Int.reduceBEq, Int.reduceBNe, Int.reduceEq, Int.reduceNeg, Int.reduceAdd, Int.reduceSub, Int.reduceMul, List.cons_beq_cons, BEq.rfl, Int.reduceToNat, Int.reduceLE, Int.reduceLT, reduceCtorEq, e1, e2, e3, e4, wrap64]
                rw [H2.app hlo hlm]
                refine callS_any (add_spec s row time l2 ⟨[], x.name, [], time - 1, 4, Value.zero⟩ _ lo lm so2 sm (lo' _) (lm' _) hne (by omega)) ?_
                rintro _ _ ⟨rfl, so', rfl⟩
                rw [← H2.app hlo hlm]
                simp (maxSteps := 1000000) (disch := omega) only [go_sem, opS_s, opS_sg, opS_b, opS_bg, ↓reduceIte, Nat.reduceAdd, Nat.reduceMul, Nat.reduceSub, Nat.reduceEqDiff, Nat.reduceLeDiff, Nat.reduceLT, Nat.reduceBEq, Int.reduceBEq, Int.reduceBNe, Int.reduceEq, Int.reduceNeg, Int.reduceAdd, Int.reduceSub, Int.reduceMul, List.cons_beq_cons, BEq.rfl, Int.reduceToNat, Int.reduceLE, Int.reduceLT, reduceCtorEq, onRet_ret]
                refine lp_next (h.length + 1) (addF l2 ⟨row, x.name, [], time - 1, 4, Value.zero⟩, so') hpp ?_ ?_ ?_
                · refine ⟨?_, ?_⟩
                  · rw [hJ, rowF, hu]; simp
                  · have := addF_len l2 ⟨row, x.name, [], time - 1, 4, Value.zero⟩; simp only; omega
                · simp (maxSteps := 1000000) (disch := omega) only [go_sem, opS_s, opS_sg, opS_b, opS_bg, ↓reduceIte, Nat.reduceAdd, Nat.reduceMul, Nat.reduceSub, Nat.reduceEqDiff, Nat.reduceLeDiff, Nat.reduceLT, Nat.reduceBEq, Int.reduceBEq, Int.reduceBNe, Int.reduceEq, Int.reduceNeg, Int.reduceAdd, Int.reduceSub, Int.reduceMul, List.cons_beq_cons, BEq.rfl, Int.reduceToNat, Int.reduceLE, Int.reduceLT, reduceCtorEq, wrap64, Int.natCast_add, Int.cast_ofNat_Int, Int.natCast_one, hn]
                · simp (maxSteps := 1000000) (disch := omega) only [go_sem, opS_s, opS_sg, opS_b, opS_bg, ↓reduceIte, Nat.reduceAdd, Nat.reduceMul, Nat.reduceSub, Nat.reduceEqDiff, Nat.reduceLeDiff, Nat.reduceLT, Nat.reduceBEq, Int.reduceBEq, Int.reduceBNe, Int.reduceEq, Int.reduceNeg, Int.reduceAdd, Int.reduceSub, Int.reduceMul, List.cons_beq_cons, BEq.rfl, Int.reduceToNat, Int.reduceLE, Int.reduceLT, reduceCtorEq]
              · have hu : famU s x.name = false := by
                  unfold namE at hx
                  cases hq : famU s x.name with
                  | true => rw [hq] at hx; simp at hx
                  | false => rfl
                simp (maxSteps := 1000000) (disch := omega) only [go_sem, opS_s, opS_sg, opS_b, opS_bg, ↓reduceIte, Nat.reduceAdd, Nat.reduceMul, Nat.reduceSub, Nat.reduceEqDiff, Nat.reduceLeDiff, Nat.reduceLT, Nat.reduceBEq, Int.reduceBEq, Int.reduceBNe, Int.reduceEq, Int.reduceNeg, Int.reduceAdd, Int.reduceSub, Int.reduceMul, List.cons_beq_cons, BEq.rfl, Int.reduceToNat, Int.reduceLE, Int.reduceLT, reduceCtorEq]
                refine lp_next (h.length + 1) (l2, so2) hpp ?_ ?_ ?_
                · refine ⟨?_, ?_⟩
                  · rw [hJ, rowF, hu]; simp
                  · simp only; omega
                · simp (maxSteps := 1000000) (disch := omega) only [go_sem, opS_s, opS_sg, opS_b, opS_bg, ↓reduceIte, Nat.reduceAdd, Nat.reduceMul, Nat.reduceSub, Nat.reduceEqDiff, Nat.reduceLeDiff, Nat.reduceLT, Nat.reduceBEq, Int.reduceBEq, Int.reduceBNe, Int.reduceEq, Int.reduceNeg, Int.reduceAdd, Int.reduceSub, Int.reduceMul, List.cons_beq_cons, BEq.rfl, Int.reduceToNat, Int.reduceLE, Int.reduceLT, reduceCtorEq, wrap64, Int.natCast_add, Int.cast_ofNat_Int, Int.natCast_one, hn]
                · simp (maxSteps := 1000000) (disch := omega) only [go_sem, opS_s, opS_sg, opS_b, opS_bg, ↓reduceIte, Nat.reduceAdd, Nat.reduceMul, Nat.reduceSub, Nat.reduceEqDiff, Nat.reduceLeDiff, Nat.reduceLT, Nat.reduceBEq, Int.reduceBEq, Int.reduceBNe, Int.reduceEq, Int.reduceNeg, Int.reduceAdd, Int.reduceSub, Int.reduceMul, List.cons_beq_cons, BEq.rfl, Int.reduceToNat, Int.reduceLE, Int.reduceLT, reduceCtorEq]
        · have k4 : ¬ m.kind = 4 := by simpa using hx
          simp (maxSteps := 1000000) (disch := omega) only [go_sem, opS_s, opS_sg, opS_b, opS_bg, ↓reduceIte, Nat.reduceAdd, Nat.reduceMul, Nat.reduceSub, Nat.reduceEqDiff, Nat.reduceLeDiff, Nat.reduceLT, Nat.reduceBEq, Int.reduceBEq, Int.reduceBNe, Int.reduceEq, Int.reduceNeg, Int.reduceAdd, Int.reduceSub, Int.reduceMul, List.cons_beq_cons, BEq.rfl, Int.reduceToNat, Int.reduceLE, Int.reduceLT, reduceCtorEq, e1, e2, e3, e4]
          refine finS_l ?_
          simp (maxSteps := 1000000) (disch := omega) only [go_sem, opS_s, opS_sg, opS_b, opS_bg, ↓reduceIte, Nat.reduceAdd, Nat.reduceMul, Nat.reduceSub, Nat.reduceEqDiff, Nat.reduceLeDiff, Nat.reduceLT, Nat.reduceBEq, Int.reduceBEq, Int.reduceBNe, Int.reduceEq, Int.reduceNeg, Int.reduceAdd, Int.reduceSub, Int.reduceMul, List.cons_beq_cons, BEq.rfl, Int.reduceToNat, Int.reduceLE, Int.reduceLT, reduceCtorEq, doF, k1, k2, k3, k4]
          exact ⟨so, rfl⟩
end Go.Ab.S2
