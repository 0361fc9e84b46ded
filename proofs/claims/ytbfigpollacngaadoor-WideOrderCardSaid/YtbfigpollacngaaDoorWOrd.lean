/- the walk over WideOrder, whole -/
import Derived.Test.YtbfigpollacngaaDoorWOrd0
import Derived.Test.YtbfigpollacngaaDoorWOrd1
import Derived.Test.YtbfigpollacngaaDoorWOrd2
import Derived.Test.YtbfigpollacngaaDoorWOrd3
import Derived.Test.YtbfigpollacngaaDoorWOrd4
namespace Go.Proofs.YtbfigpollacngaaDoor
open Go.RowKit
open Rf
open Wide

theorem sgn_three (v : Int) : sgn v = 0 ∨ sgn v = 1 ∨ sgn v = -1 := by
  unfold sgn
  split
  · exact .inr (.inr rfl)
  · split
    · exact .inl rfl
    · exact .inr (.inl rfl)
theorem wideOrder_any (x : WI) (ho : x.Ok) (y : WI) (hp : y.Ok) (z : WI) (hq : z.Ok) (w : World) :
    Calls Tryd.prog 4 #[wv x, wv y, wv z] w fun e w' => e = .returned (.bool true) ∧ Below w.heap.size w w' := by
  by_cases hb : x.form = true ∧ y.form = true ∧ z.form = true
  · obtain ⟨hf, hg, hh⟩ := hb
    have h3 : cmpF x y = 0 ∨ cmpF x y = 1 ∨ cmpF x y = -1 := by rw [cmpF_forms hf hg]; exact sgn_three _
    have h0 := cmpF_zero ho hp hf hg
    by_cases e : x = y
    · have k1 : cmpF x y = 0 := h0.2 e
      by_cases k2 : cmpF y z ≤ 0
      · exact wideOrder_same_nil_le x ho hf y hp hg z hq hh e k1 k2 w
      · exact wideOrder_same_nil_gt x ho hf y hp hg z hq hh e k1 k2 w
    · have hne : cmpF x y = 1 ∨ cmpF x y = -1 := h3.resolve_left (fun h => e (h0.1 h))
      by_cases e0 : x.n = y.n
      · by_cases e1 : x.h = y.h
        · by_cases e2 : x.l = y.l
          · exact absurd (by obtain ⟨xn, xh, xl⟩ := x; obtain ⟨yn, yh, yl⟩ := y; dsimp only at e0 e1 e2; subst e0 e1 e2; rfl) e
          · rcases hne with k1 | k1
            · exact wideOrder_other2_pos_le x ho hf y hp hg z hq hh e0 e1 e2 k1 w
            · by_cases k2 : cmpF y z ≤ 0
              · exact wideOrder_other2_neg_le x ho hf y hp hg z hq hh e0 e1 e2 k1 k2 w
              · exact wideOrder_other2_neg_gt x ho hf y hp hg z hq hh e0 e1 e2 k1 k2 w
        · rcases hne with k1 | k1
          · exact wideOrder_other1_pos_le x ho hf y hp hg z hq hh e0 e1 k1 w
          · by_cases k2 : cmpF y z ≤ 0
            · exact wideOrder_other1_neg_le x ho hf y hp hg z hq hh e0 e1 k1 k2 w
            · exact wideOrder_other1_neg_gt x ho hf y hp hg z hq hh e0 e1 k1 k2 w
      · rcases hne with k1 | k1
        · exact wideOrder_other0_pos_le x ho hf y hp hg z hq hh e0 k1 w
        · by_cases k2 : cmpF y z ≤ 0
          · exact wideOrder_other0_neg_le x ho hf y hp hg z hq hh e0 k1 k2 w
          · exact wideOrder_other0_neg_gt x ho hf y hp hg z hq hh e0 k1 k2 w
  · exact wideOrder_bad x ho y hp z hq hb w
end Go.Proofs.YtbfigpollacngaaDoor
