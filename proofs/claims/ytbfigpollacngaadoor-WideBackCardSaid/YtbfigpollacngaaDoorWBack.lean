/- the walk over WideBack -/
import Derived.Test.YtbfigpollacngaaDoorWBack0
import Derived.Test.YtbfigpollacngaaDoorWBack1
import Derived.Test.YtbfigpollacngaaDoorWBack2
import Derived.Test.YtbfigpollacngaaDoorWBack3
import Derived.Deep.RegionHeld3
import Derived.Deep.DrawnRows
namespace Go.Proofs.YtbfigpollacngaaDoor
open Go.RowKit
open Rf
open Wide
attribute [local go_sem ↓] Go.wp_at_zero Go.wp_at_succ

theorem wideBack_any (x : WI) (ho : x.Ok) (y : WI) (hp : y.Ok) (w : World) :
    Calls Tryd.prog 8 #[wv x, wv y] w fun e w' => e = .returned (.bool true) ∧ Below w.heap.size w w' := by
  by_cases hb : x.form = true ∧ y.form = true
  · obtain ⟨hf, hg⟩ := hb
    have f03 : (subF x y).2 = 0 ∨ (subF x y).2 = 3 := by
      have e : subF x y = R (x.val - y.val) := by unfold subF; rw [hf, hg]; rfl
      rw [e]
      unfold R
      split
      · exact .inl rfl
      · exact .inr rfl
    rcases f03 with f0 | f0
    · by_cases e0 : x.n = y.n
      · by_cases e1 : x.h = y.h
        · by_cases e2 : x.l = y.l
          · obtain ⟨xn, xh, xl⟩ := x
            obtain ⟨yn, yh, yl⟩ := y
            dsimp only at e0 e1 e2
            subst e0 e1 e2
            exact wideBack_same_fits _ ho hf f0 w
          · exact wideBack_other2_fits x ho hf y hp hg e0 e1 e2 f0 w
        · exact wideBack_other1_fits x ho hf y hp hg e0 e1 f0 w
      · exact wideBack_other0_fits x ho hf y hp hg e0 f0 w
    · by_cases e0 : x.n = y.n
      · by_cases e1 : x.h = y.h
        · by_cases e2 : x.l = y.l
          · obtain ⟨xn, xh, xl⟩ := x
            obtain ⟨yn, yh, yl⟩ := y
            dsimp only at e0 e1 e2
            subst e0 e1 e2
            exact wideBack_same_over _ ho hf f0 w
          · exact wideBack_other2_over x ho hf y hp hg e0 e1 e2 f0 w
        · exact wideBack_other1_over x ho hf y hp hg e0 e1 f0 w
      · exact wideBack_other0_over x ho hf y hp hg e0 f0 w
  · exact wideBack_bad x ho y hp hb w
end Go.Proofs.YtbfigpollacngaaDoor
