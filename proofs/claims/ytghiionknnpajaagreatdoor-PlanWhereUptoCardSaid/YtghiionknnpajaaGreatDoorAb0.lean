/- The layer Ab, part 0: the tables (package-level variables that are never written) that a seat's code reads: cells of blocks, with what they hold. -/
import Derived.WalkKit
import Derived.Shelf.Unicode.DecodeSlow
set_option linter.unusedVariables false
set_option linter.unusedSimpArgs false
namespace Go.Ab
/-- unicode/utf8.first (variable 0) and unicode/utf8.acceptRanges (variable 1). -/
def TB : List (Nat × Nat × Value) := (List.range 256).map (fun c => (0, c, .int .u8 (Lib.firstT c))) ++ (List.range 32).map (fun j => (1, j, .int .u8 (if j % 2 = 0 then Lib.accLo (j / 2) else Lib.accHi (j / 2))))
theorem TB_tabs {C : Nat → Nat → Prop} {w : World} (h : ∀ x ∈ TB, C x.1 x.2.1 ∧ w.cell? ⟨x.1, x.2.1, none⟩ = some x.2.2) : Lib.Utf8Tabs 0 1 w := by
  refine ⟨fun c hc => ?_, fun i hi => ⟨?_, ?_⟩⟩
  · exact (h (0, c, .int .u8 (Lib.firstT c)) (List.mem_append_left _ (List.mem_map.2 ⟨c, by simpa using hc, rfl⟩))).2
  · have := (h (1, 2 * i, .int .u8 (if (2 * i) % 2 = 0 then Lib.accLo (2 * i / 2) else Lib.accHi (2 * i / 2))) (List.mem_append_right _ (List.mem_map.2 ⟨2 * i, by simp; omega, rfl⟩))).2
    rw [if_pos (by omega), show 2 * i / 2 = i by omega] at this
    exact this
  · have := (h (1, 2 * i + 1, .int .u8 (if (2 * i + 1) % 2 = 0 then Lib.accLo ((2 * i + 1) / 2) else Lib.accHi ((2 * i + 1) / 2))) (List.mem_append_right _ (List.mem_map.2 ⟨2 * i + 1, by simp; omega, rfl⟩))).2
    rw [if_neg (by omega), show (2 * i + 1) / 2 = i by omega] at this
    exact this
end Go.Ab
