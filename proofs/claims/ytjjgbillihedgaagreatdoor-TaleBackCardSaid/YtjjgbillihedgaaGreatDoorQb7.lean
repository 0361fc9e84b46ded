/- parts of the proof, merged: WvW7 -/
import Derived.Test.YtjjgbillihedgaaGreatDoorQb6
namespace Go.Proofs.YtjjgbillihedgaaGreatDoor
open Go.RowKit
open Rf
open Wide
attribute [local go_sem ↓] Go.wp_at_zero Go.wp_at_succ
theorem IsN.set12 {w : World} {b : Nat} {x : WI} (hx : IsN w b x) (h l : Int) : IsN ((w.setCell ⟨b, 1, none⟩ (.int .u64 h)).setCell ⟨b, 2, none⟩ (.int .u64 l)) b ⟨x.n, h, l⟩ :=
 block_set (block_set hx)
end Go.Proofs.YtjjgbillihedgaaGreatDoor
