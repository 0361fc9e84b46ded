/- the walk over WideParts, whole -/
import Derived.Test.YtbfigpollacngaaDoorWPart0
import Derived.Test.YtbfigpollacngaaDoorWPart1
import Derived.Test.YtbfigpollacngaaDoorWPart2
import Derived.Test.YtbfigpollacngaaDoorWPart3
import Derived.Test.YtbfigpollacngaaDoorWPart4
namespace Go.Proofs.YtbfigpollacngaaDoor
open Go.RowKit
open Rf
open Wide

theorem wideParts_any (x : WI) (ho : x.Ok) (y : WI) (hp : y.Ok) (w : World) :
    Calls Tryd.prog 7 #[wv x, wv y] w fun e w' => e = .returned (.bool true) ∧ Below w.heap.size w w' := by
  by_cases hb : x.form = true ∧ y.form = true
  · obtain ⟨hf, hg⟩ := hb
    have f03 := addF_err hf hg
    cases hz : nil2 y.h y.l with
    | true =>
      rcases f03 with f0 | f0
      · exact wideParts_fits_zero x ho hf y hp hg f0 hz w
      · exact wideParts_over_zero x ho hf y hp hg f0 hz w
    | false =>
      obtain ⟨-, -, -, -, -, hs, -, -⟩ := parts_law x y ho hp hf hg hz
      cases hm : y.n with
      | true =>
        rcases f03 with f0 | f0
        · rcases hs with ⟨h1, h2, h3⟩ | ⟨h1, h2⟩ | ⟨h1, h2, h3⟩
          · exact wideParts_fits_T_neg x ho hf y hp hg f0 hz hm h1 h2 h3 w
          · exact wideParts_fits_T_nil x ho hf y hp hg f0 hz hm h1 h2 w
          · exact wideParts_fits_T_pos x ho hf y hp hg f0 hz hm h1 h2 h3 w
        · rcases hs with ⟨h1, h2, h3⟩ | ⟨h1, h2⟩ | ⟨h1, h2, h3⟩
          · exact wideParts_over_T_neg x ho hf y hp hg f0 hz hm h1 h2 h3 w
          · exact wideParts_over_T_nil x ho hf y hp hg f0 hz hm h1 h2 w
          · exact wideParts_over_T_pos x ho hf y hp hg f0 hz hm h1 h2 h3 w
      | false =>
        rcases f03 with f0 | f0
        · rcases hs with ⟨h1, h2, h3⟩ | ⟨h1, h2⟩ | ⟨h1, h2, h3⟩
          · exact wideParts_fits_F_neg x ho hf y hp hg f0 hz hm h1 h2 h3 w
          · exact wideParts_fits_F_nil x ho hf y hp hg f0 hz hm h1 h2 w
          · exact wideParts_fits_F_pos x ho hf y hp hg f0 hz hm h1 h2 h3 w
        · rcases hs with ⟨h1, h2, h3⟩ | ⟨h1, h2⟩ | ⟨h1, h2, h3⟩
          · exact wideParts_over_F_neg x ho hf y hp hg f0 hz hm h1 h2 h3 w
          · exact wideParts_over_F_nil x ho hf y hp hg f0 hz hm h1 h2 w
          · exact wideParts_over_F_pos x ho hf y hp hg f0 hz hm h1 h2 h3 w
  · exact wideParts_bad x ho y hp hb w
end Go.Proofs.YtbfigpollacngaaDoor
