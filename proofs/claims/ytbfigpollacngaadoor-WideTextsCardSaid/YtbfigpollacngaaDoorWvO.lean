/- an argument that is a great whole number, opened -/
import Derived.Test.YtbfigpollacngaaDoorWvW
import Derived.Lib.SmallJoins
import Derived.ProofKit
namespace Go.Proofs.YtbfigpollacngaaDoor
open Go.ChangeShapes Go.WideShapes Go.ChangeAt Go.RowKit
open Rf
open Wide

theorem wf_u64_bd {n : Int} (h : (Lit.int .u64 n).wf = true) : 0 ≤ n ∧ n ≤ 18446744073709551615 := by
  have e1 : IntKind.u64.min = 0 := rfl
  have e2 : IntKind.u64.max = 18446744073709551615 := rfl
  simp [Lit.wf] at h
  omega
theorem open_wi {H : Type} {enc : TypeId × Value → H} {w : World} {base : Nat} {spare : Nat → Bool} {held : Bool} {r : Reach} {b0 : Nat} {v : Value} {d : DataW H} {p : List MemPlace}
    (hv : Value.okWide Tryd.prog w r b0 24 v) (h : DataW.Trod enc Tryd.prog w base spare held 24 v d p) : ∃ x : WI, x.Ok ∧ v = wv x := by
  obtain ⟨c0, c1, c2, y0, y1, y2, m, rfl, _, _, hy0, hy1, hy2⟩ := Go.Joins.open_agg3 Tryd.underlying24 (by kernel_rfl) (by kernel_rfl) hv h
  obtain ⟨n, e0, _⟩ := DataW.trod_bool Tryd.underlying4 hy0
  obtain ⟨a, e1, _, wa⟩ := DataW.trod_int Tryd.underlying22 hy1
  obtain ⟨b, e2, _, wb⟩ := DataW.trod_int Tryd.underlying22 hy2
  simp only [List.cons.injEq, and_true] at e0 e1 e2
  subst e0 e1 e2
  have h1 := wf_u64_bd wa
  have h2 := wf_u64_bd wb
  exact ⟨⟨n, a, b⟩, ⟨h1.1, h1.2, h2.1, h2.2⟩, rfl⟩
end Go.Proofs.YtbfigpollacngaaDoor
