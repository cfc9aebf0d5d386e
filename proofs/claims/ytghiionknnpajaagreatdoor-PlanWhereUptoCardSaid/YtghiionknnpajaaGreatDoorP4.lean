/- Maps that count, texts that are decoded: plain laws for walks. -/
import Derived.Test.YtghiionknnpajaaGreatDoorP3
import Derived.Lib.TrimUEq
set_option linter.unusedVariables false
set_option linter.unusedSimpArgs false
namespace Go.Ab

def mpS (l : List (Str × Int)) : List (AV × AV) := l.map fun p => (.str p.1, .int .i64 p.2)
def mpI (l : List (Int × Int)) : List (AV × AV) := l.map fun p => (.int .i64 p.1, .int .i64 p.2)
def putK {α : Type} [BEq α] (k : α) (v : Int) : List (α × Int) → List (α × Int)
  | [] => [(k, v)]
  | e :: es => if k == e.1 then (k, v) :: es else e :: putK k v es

@[go_sem] theorem mfindS (k : Str) : ∀ l : List (Str × Int), mfind 1 (.str k) (mpS l) = some ((l.lookup k).map fun n => .int .i64 n)
  | [] => rfl
  | e :: l => by
    have ih := mfindS k l
    simp only [mpS, List.map_cons, mfind, keyEq, ob_some, List.lookup] at ih ⊢
    cases h : k == e.1 <;> simp [ih]
@[go_sem] theorem mputS (k : Str) (v : Int) : ∀ l : List (Str × Int), mput 1 (.str k) (.int .i64 v) (mpS l) = some (mpS (putK k v l))
  | [] => rfl
  | e :: l => by
    have ih := mputS k v l
    simp only [mpS, List.map_cons, mput, keyEq, ob_some, putK] at ih ⊢
    cases h : k == e.1 <;> simp [ih, ob_some]
@[go_sem] theorem mfindI (k : Int) : ∀ l : List (Int × Int), mfind 0 (.int .i64 k) (mpI l) = some ((l.lookup k).map fun n => .int .i64 n)
  | [] => rfl
  | e :: l => by
    have ih := mfindI k l
    simp only [mpI, List.map_cons, mfind, keyEq, ob_some, List.lookup, if_true] at ih ⊢
    cases h : k == e.1 <;> simp [ih]
@[go_sem] theorem mputI (k : Int) (v : Int) : ∀ l : List (Int × Int), mput 0 (.int .i64 k) (.int .i64 v) (mpI l) = some (mpI (putK k v l))
  | [] => rfl
  | e :: l => by
    have ih := mputI k v l
    simp only [mpI, List.map_cons, mput, keyEq, ob_some, putK, if_true] at ih ⊢
    cases h : k == e.1 <;> simp [ih, ob_some]
@[go_sem] theorem mpS_len (l : List (Str × Int)) : (mpS l).length = l.length := by simp [mpS]
@[go_sem] theorem mpI_len (l : List (Int × Int)) : (mpI l).length = l.length := by simp [mpI]
/-- What a map that counts has come to, behind some keys. -/
structure Cnt {α : Type} (ks : List α) (l : List (α × Int)) : Prop where
  le : l.length ≤ ks.length
  eq : l.length = ks.length ↔ ks.Nodup
  mem : ∀ k, (∃ v, (k, v) ∈ l) ↔ k ∈ ks

theorem Cnt.nil {α : Type} : Cnt ([] : List α) [] := ⟨Nat.le_refl _, by simp, by simp⟩

theorem putK_mem {α : Type} [BEq α] [LawfulBEq α] (k : α) (v : Int) : ∀ (l : List (α × Int)) (q : α), (∃ w, (q, w) ∈ putK k v l) ↔ q = k ∨ ∃ w, (q, w) ∈ l
  | [], q => by simp [putK]
  | e :: l, q => by
    have ih := putK_mem k v l q
    simp only [putK]
    by_cases h : k = e.1
    · subst h
      simp only [beq_self_eq_true, if_true, List.mem_cons]
      constructor
      · rintro ⟨w, hw | hw⟩
        · simp at hw; exact .inl hw.1
        · exact .inr ⟨w, .inr hw⟩
      · rintro (hw | ⟨w, hw | hw⟩)
        · exact ⟨v, .inl (by rw [hw])⟩
        · exact ⟨v, .inl (by rw [← hw])⟩
        · exact ⟨w, .inr hw⟩
    · have hb : (k == e.1) = false := by simpa using h
      simp only [hb, List.mem_cons, Bool.false_eq_true, if_false]
      constructor
      · rintro ⟨w, hw | hw⟩
        · exact .inr ⟨w, .inl hw⟩
        · rcases ih.1 ⟨w, hw⟩ with h | ⟨w, h⟩
          · exact .inl h
          · exact .inr ⟨w, .inr h⟩
      · rintro (hw | ⟨w, hw | hw⟩)
        · obtain ⟨w, h⟩ := ih.2 (.inl hw); exact ⟨w, .inr h⟩
        · exact ⟨w, .inl hw⟩
        · obtain ⟨w, h⟩ := ih.2 (.inr ⟨w, hw⟩); exact ⟨w, .inr h⟩

theorem putK_len {α : Type} [BEq α] [LawfulBEq α] (k : α) (v : Int) : ∀ (l : List (α × Int)), ((∃ w, (k, w) ∈ l) → (putK k v l).length = l.length) ∧ (¬ (∃ w, (k, w) ∈ l) → (putK k v l).length = l.length + 1)
  | [] => by simp [putK]
  | e :: l => by
    have ih := putK_len k v l
    simp only [putK]
    by_cases h : k = e.1
    · subst h
      simp only [beq_self_eq_true, if_true, List.length_cons]
      exact ⟨fun _ => by simp, fun hn => absurd ⟨e.2, by simp⟩ hn⟩
    · have hb : (k == e.1) = false := by simpa using h
      simp only [hb, List.length_cons, List.mem_cons, Bool.false_eq_true, if_false]
      refine ⟨?_, fun hn => ?_⟩
      · rintro ⟨w, hw | hw⟩
        · exact absurd (by rw [← hw]) h
        · rw [ih.1 ⟨w, hw⟩]
      · rw [ih.2 fun ⟨w, hw⟩ => hn ⟨w, .inr hw⟩]

theorem Cnt.step {α : Type} [BEq α] [LawfulBEq α] {ks : List α} {l : List (α × Int)} (h : Cnt ks l) (k : α) (v : Int) : Cnt (ks ++ [k]) (putK k v l) := by
  have hm := putK_mem k v l
  have hl := putK_len k v l
  have hnd : (ks ++ [k]).Nodup ↔ ks.Nodup ∧ k ∉ ks := by
    rw [List.nodup_append]
    simp only [List.mem_singleton, List.nodup_cons, List.not_mem_nil, not_false_eq_true, List.nodup_nil, and_true, true_and, forall_eq, ne_eq]
    constructor
    · rintro ⟨a, b⟩; exact ⟨a, fun hk => b k hk rfl⟩
    · rintro ⟨a, b⟩; exact ⟨a, fun x hx e => b (e ▸ hx)⟩
  refine ⟨?_, ?_, fun q => ?_⟩
  · by_cases hk : ∃ w, (k, w) ∈ l
    · rw [hl.1 hk, List.length_append]; have := h.le; omega
    · rw [hl.2 hk, List.length_append]; have := h.le; simp; omega
  · rw [hnd, ← h.eq, ← h.mem k]
    by_cases hk : ∃ w, (k, w) ∈ l
    · rw [hl.1 hk]; have := h.le; simp [hk]; omega
    · rw [hl.2 hk]; simp [hk]
  · rw [hm, h.mem]; simp [or_comm]

/-! texts -/
theorem dec_ascii {s pre post : Str} {b : UInt8} (h : s = pre ++ b :: post) (hb : b.toNat < 128) : Utf8.decode ⟨s.toArray⟩ pre.length = (b.toNat, 1) := by
  rw [Lib.decode_N, Lib.decodeN_ascii]
  · subst h; simp
  · subst h; simpa using hb
theorem dec_high {s pre post : Str} {b : UInt8} (h : s = pre ++ b :: post) (hb : 128 ≤ b.toNat) : 128 ≤ (Utf8.decode ⟨s.toArray⟩ pre.length).1 := by
  rw [Lib.decode_N]
  have e : (⟨s.toArray⟩ : ByteArray).data.toList.getD pre.length 0 = b := by subst h; simp
  rw [e]
  have : b.toNat < 256 := UInt8.toNat_lt b
  unfold Lib.decodeN
  repeat' split
  all_goals (try omega)
end Go.Ab
