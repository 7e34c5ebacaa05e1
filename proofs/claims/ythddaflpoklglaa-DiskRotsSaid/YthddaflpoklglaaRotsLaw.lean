/-
  The statement on what rots: its parts together.
-/
import Derived.Test.YthddaflpoklglaaRotsA
import Derived.Test.YthddaflpoklglaaRotsB
import Derived.Test.YthddaflpoklglaaRotsC
import Derived.Test.YthddaflpoklglaaRotsD
namespace Go.Proofs.Ythddaflpoklglaa
open Go.RowKit Go.Cmp

theorem rots_at (a0 a1 a2 a3 a4 : Int) (a5 : Bool) (w0 : (Lit.int .u8 a0).wf = true) (w1 : (Lit.int .u8 a1).wf = true) (w : World) :
    Calls Try.prog 6 #[.int .u8 a0, .int .u8 a1, .int .i64 a2, .int .i64 a3, .int .i64 a4, .bool a5] w fun e w' => e = .returned (.bool true) ∧ St [] w w' [] := by
  obtain ⟨c0, rfl⟩ := lit_u8 w0
  obtain ⟨c1, rfl⟩ := lit_u8 w1
  by_cases hbad : (a2 < 0 ∨ 2 < a2) ∨ a3 < 0 ∨ 384 ≤ a3 ∨ a4 < 1 ∨ 255 < a4
  · exact law_rots_bad c0 c1 a2 a3 a4 a5 w hbad
  · by_cases h2 : a2 = 2
    · exact law_rots_two c0 c1 a2 a3 a4 a5 w hbad h2
    · by_cases h0 : a2 = 0
      · exact law_rots_zero c0 c1 a2 a3 a4 a5 w hbad h0
      · exact law_rots_one c0 c1 a2 a3 a4 a5 w hbad (by omega)
end Go.Proofs.Ythddaflpoklglaa
