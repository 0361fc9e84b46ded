/- the walk over the number of a text: what is digits, plain laws -/
import Derived.Test.YtbfigpollacngaaDoorWvB
namespace Go.Proofs.YtbfigpollacngaaDoor
open Go.RowKit
open Rf
open Wide

def tenDigits : List UInt8 := [48, 49, 50, 51, 52, 53, 54, 55, 56, 57]
set_option maxRecDepth 100000 in
theorem ten_isDig (c : UInt8) : tenDigits.contains c = isDig c := by
  have h : ∀ c : Fin 256, tenDigits.contains (UInt8.ofNat c.val) = isDig (UInt8.ofNat c.val) := by decide
  have := h ⟨c.toNat, c.toNat_lt⟩
  simpa using this
theorem dropWhile_nil {p : UInt8 → Bool} : ∀ l : List UInt8, (l.dropWhile p).isEmpty = l.all p
  | [] => rfl
  | c :: l => by
    rw [List.dropWhile_cons, List.all_cons]
    cases h : p c with
    | true => simpa using dropWhile_nil l
    | false => rfl
theorem trimS_digits (l : List UInt8) : (Lib.trimS l tenDigits).isEmpty = l.all isDig := by
  unfold Lib.trimS Lib.trimLeftS Lib.trimRightS
  rw [dropWhile_nil]
  have hf : (fun c => tenDigits.contains c) = isDig := funext ten_isDig
  rw [hf, List.all_reverse]
  cases h : l.all isDig with
  | true =>
    refine List.all_eq_true.2 fun c hc => ?_
    have h1 : c ∈ l.reverse := (List.dropWhile_sublist _).subset hc
    exact List.all_eq_true.1 h c (List.mem_reverse.1 h1)
  | false =>
    have hh : (l.reverse.dropWhile isDig).isEmpty = false := by rw [dropWhile_nil, List.all_reverse, h]
    cases hd : l.reverse.dropWhile isDig with
    | nil => rw [hd] at hh; cases hh
    | cons c r =>
      have h2 := List.head?_dropWhile_not isDig l.reverse
      rw [hd] at h2
      rw [List.all_cons]
      simp at h2
      rw [h2]; rfl
def isDigs (l : List UInt8) : Bool := !l.isEmpty && l.all isDig
theorem str_empty (s : ByteArray) : (s.toList == []) = (byts s).isEmpty := by
  rw [toList_byts]
  cases h : byts s <;> rfl

set_option maxHeartbeats 1000000 in
theorem isDigits_c (s : ByteArray) (hs : s.size ≤ maxLen) (w : World) : Calls Tryd.prog 37 #[.string s] w fun e w' => e = .returned (.bool (isDigs (byts s))) ∧ Below w.heap.size w w' := by
  have ct := fun w => Go.Proofs.Any.strings_Trim_laid Tryd.lays160 (by kernel_rfl) s ⟨#[48, 49, 50, 51, 52, 53, 54, 55, 56, 57]⟩ w hs (by decide) (ascii_of_all (by decide))
  have e1 := str_empty s
  have e2 := str_empty ⟨(Lib.trimS s.data.toList tenDigits).toArray⟩
  have e3 : byts ⟨(Lib.trimS s.data.toList tenDigits).toArray⟩ = Lib.trimS s.data.toList tenDigits := byts_text _
  rw [e3, trimS_digits] at e2
  unfold isDigs
  have e4 : byts s = s.data.toList := rfl
  rw [e4] at e1 ⊢
  change ∀ w, Calls Tryd.prog 49 #[.string s, .string ⟨#[48, 49, 50, 51, 52, 53, 54, 55, 56, 57]⟩] w fun e w' => e = .returned (.string ⟨(Lib.trimS s.data.toList tenDigits).toArray⟩) ∧ Below w.heap.size w w' at ct
  generalize (⟨(Lib.trimS s.data.toList tenDigits).toArray⟩ : ByteArray) = t at *
  generalize s.data.toList.all isDig = b at *
  generalize s.data.toList.isEmpty = z at *
  clear e3 e4
  replace ct := Lib.hid ct
  cases z with
  | true =>
    have e1' : (s.toList != []) = false := by rw [bne, e1]; rfl
    have e1'' : s.toList = [] := by simpa using e1
    go_enter Tryd.func37, Tryd.ntmps37
    go_wp2_with fail
    go_ret
    exact ⟨rfl, Below.refl _ _⟩
  | false =>
    have e1' : (s.toList != []) = true := by rw [bne, e1]; rfl
    have e1'' : ¬ s.toList = [] := by simpa using e1
    go_enter Tryd.func37, Tryd.ntmps37
    go_wp2_with fail
    refine (ct.out _).mono ?_
    rintro e w1 ⟨rfl, hb1⟩
    go_wp2_with fail
    go_ret
    exact ⟨rfl, hb1⟩
end Go.Proofs.YtbfigpollacngaaDoor
