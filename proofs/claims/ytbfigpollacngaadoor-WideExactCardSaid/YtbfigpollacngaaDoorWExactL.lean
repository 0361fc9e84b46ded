/- WideExact: what it computes, and the law -/
import Derived.Test.YtbfigpollacngaaDoorWExact
import Derived.Test.YtbfigpollacngaaDoorWvL
namespace Go.Proofs.YtbfigpollacngaaDoor
open Go.RowKit
open Rf
open Wide

theorem refCmp_zero {x : WI} (ho : x.Ok) (hf : x.form = true) : refCmp x zero = signF x := by
  rw [refCmp_val ho zero_ok hf rfl]
  unfold signF
  rw [if_pos hf, show zero.val = 0 from rfl, Int.sub_zero]
theorem subF_zero {x : WI} (ho : x.Ok) (hf : x.form = true) : subF zero x = (negF x, 0) := by
  have h1 := val_in ho hf
  unfold subF negF
  rw [hf, if_pos rfl, show (zero.form && true) = true from rfl, if_pos rfl, show zero.val - x.val = - x.val by rw [show zero.val = 0 from rfl, Int.zero_sub]]
  exact R_in (In_iff.2 (by have := In_iff.1 h1; omega))
theorem wideExact_any (x : WI) (ho : x.Ok) (y : WI) (hp : y.Ok) (w : World) :
    Calls Tryd.prog 6 #[wv x, wv y] w fun e w' => e = .returned (.bool true) ∧ Below w.heap.size w w' := by
  have cA : Ret 10 #[wv x, wv y] _ := fun w => add_c x y ho hp w
  have cB : Ret 24 #[wv x, wv y] _ := fun w => sub_c x y ho hp w
  have cC : Ret 11 #[wv x, wv y] _ := fun w => mul_c x y ho hp w
  have cD : Ret 25 #[wv x, wv y] _ := fun w => quo_c x y ho hp w
  have cE : Ret 26 #[wv x, wv y] _ := fun w => rem_c x y ho hp w
  have dA := refAdd_c x y ho hp
  have dB := refSub_c x y ho hp
  have dC := refMul_c x y ho hp
  have dD := refQuo_c x y ho hp
  have dE := refRem_c x y ho hp
  have gX : Ret 19 #[wv x] (.bool x.form) := fun w => good_c x w
  have gY : Ret 19 #[wv y] (.bool y.form) := fun w => good_c y w
  have fX : Ret 12 #[wv x] (.bool x.form) := fun w => form_c x ho w
  have kC : Ret 13 #[wv x, wv y] _ := fun w => cmp_c x y ho hp w
  have kS : Ret 22 #[wv x] _ := fun w => sign_c x ho w
  have kN : Ret 29 #[wv x] _ := fun w => neg_c x ho w
  have rC := refCmp_c x y ho hp
  have rS := refCmp_c x zero ho zero_ok
  have rN := refSub_c zero x zero_ok ho
  generalize addF x y = A at *
  generalize subF x y = B at *
  generalize mulF x y = C at *
  generalize quoF x y = D at *
  generalize remF x y = E at *
  cases hf : x.form
  · rw [hf] at gX fX
    rw [show cmpF x y = 0 from cmpF_bad (fun h => by rw [hf] at h; cases h.1)] at kC
    rw [show signF x = 0 from if_neg (by rw [hf]; decide)] at kS
    rw [show negF x = zero from if_neg (by rw [hf]; decide)] at kN
    exact exact_F x.n y.n x.h x.l y.h y.l awake_c A.1.n A.1.h A.1.l A.2 cA dA B.1.n B.1.h B.1.l B.2 cB dB C.1.n C.1.h C.1.l C.2 cC dC D.1.n D.1.h D.1.l D.2 cD dD E.1.n E.1.h E.1.l E.2 cE dE gX fX kC kS kN w
  · rw [hf] at gX fX
    rw [refCmp_zero ho hf] at rS
    rw [subF_zero ho hf] at rN
    cases hg : y.form
    · rw [hg] at gY
      rw [show cmpF x y = 0 from cmpF_bad (fun h => by rw [hg] at h; cases h.2)] at kC
      exact exact_TF x.n y.n x.h x.l y.h y.l awake_c A.1.n A.1.h A.1.l A.2 cA dA B.1.n B.1.h B.1.l B.2 cB dB C.1.n C.1.h C.1.l C.2 cC dC D.1.n D.1.h D.1.l D.2 cD dD E.1.n E.1.h E.1.l E.2 cE dE gX fX gY (signF x) (negF x).n (negF x).h (negF x).l kC kS kN rS rN w
    · rw [hg] at gY
      rw [refCmp_val ho hp hf hg, ← cmpF_forms hf hg] at rC
      exact exact_TT x.n y.n x.h x.l y.h y.l awake_c A.1.n A.1.h A.1.l A.2 cA dA B.1.n B.1.h B.1.l B.2 cB dB C.1.n C.1.h C.1.l C.2 cC dC D.1.n D.1.h D.1.l D.2 cD dD E.1.n E.1.h E.1.l E.2 cE dE gX fX gY (cmpF x y) (signF x) (negF x).n (negF x).h (negF x).l kC kS kN rC rS rN w
end Go.Proofs.YtbfigpollacngaaDoor
