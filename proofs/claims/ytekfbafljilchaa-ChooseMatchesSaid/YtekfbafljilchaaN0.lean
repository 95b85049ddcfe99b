/- ChooseMatches: the walk. -/
import Derived.Test.YtekfbafljilchaaM9
set_option linter.unusedVariables false
set_option linter.unusedSimpArgs false
namespace Go.Proofs.Ytekfbafljilchaa
open Go.RowKit Go.Lib

set_option maxHeartbeats 2000000 in
theorem matches_law (W : World) (d n : ByteArray) (hd : d.size ≤ 140737488351232) (hn : n.size ≤ 140737488351232) : Calls Try.prog 9 #[.string d, .string n] W (Yes W) := by
  have haw := awake15_any W
  go_enter Try.func9, Try.ntmps9
  go_wp2_with fail
  refine haw.mono ?_
  rintro e w1 ⟨rfl, f1⟩
  have HF1 := Lib.hid f1
  have m1 := match_any d n w1 hd
  have m2 := refmatch_any d n w1 hd hn
  clear f1 haw
  generalize matchB d.toList n.toList = z at *
  go_wp2_with fail
  refine m1.mono ?_
  rintro e w' ⟨rfl, rfl⟩
  go_wp2_with fail
  refine m2.mono ?_
  rintro e w' ⟨rfl, rfl⟩
  have hzz : (z == z) = true := by simp
  go_wp2
  go_ret
  exact ⟨by first | rfl | simp, HF1.out⟩
end Go.Proofs.Ytekfbafljilchaa
