/- the walk over a set's text -/
import Derived.Test.YtmikhngmclngiaaDoorSgD
import Derived.Test.YtmikhngmclngiaaDoorShelf
namespace Go.Proofs.YtmikhngmclngiaaDoor
open Go.RowKit
open Rf
open Sg
open Wide

namespace Sg
/-- an id's digits; a set's text -/
def dgt (i : Int) : List UInt8 := digs i.toNat
def textS (s : Nat) : List UInt8 := if (ids s).length = 0 then [45] else Lib.join ((ids s).map dgt) [43]
theorem dec_digs (n : Nat) : Lib.decDigits n = digs n := by
  induction n using Nat.strongRecOn with
  | _ n ih =>
    rw [Lib.decDigits, digs]
    by_cases h : n < 10
    · rw [dif_pos h, if_pos h]
    · rw [dif_neg h, if_neg h, ih (n / 10) (by omega)]
theorem ids_id {s : Nat} {i : Int} (h : i ∈ ids s) : 1 ≤ i ∧ i ≤ 24 := by
  have := (mem_ids s i).1 h
  unfold has isId at this
  simp at this
  omega
theorem dgt_len {i : Int} (h1 : 1 ≤ i) (h2 : i ≤ 24) : (dgt i).length ≤ 2 := digs_len 1 _ (by omega)
theorem lens_bd (l : List (List UInt8)) (h : ∀ x ∈ l, x.length ≤ 2) : Lib.lens l ≤ 2 * l.length := by
  induction l with
  | nil => exact Nat.le_refl 0
  | cons x r ih =>
    have h1 := h x (List.mem_cons_self ..)
    have h2 := ih (fun y hy => h y (List.mem_cons_of_mem _ hy))
    unfold Lib.lens at *
    rw [List.map_cons, List.sum_cons, List.length_cons]
    omega
theorem join_bd (l : List (List UInt8)) (h : ∀ x ∈ l, x.length ≤ 2) : (Lib.join l [43]).length ≤ 3 * l.length := by
  cases l with
  | nil => exact Nat.zero_le _
  | cons x r =>
    have h1 := h x (List.mem_cons_self ..)
    have h2 := lens_bd r (fun y hy => h y (List.mem_cons_of_mem _ hy))
    rw [Lib.join_cons, List.length_append, Lib.joinTail_length, List.length_cons]
    simp only [List.length_cons, List.length_nil]
    omega
theorem ids_le (s : Nat) : (ids s).length ≤ 24 := idsFrom_len s 1 24
end Sg
/-- texts as values -/
def sv (l : List (List UInt8)) : List Value := l.map fun x => .string (text x)
theorem infoStr : (Tryd.prog.info? 9).map (fun i => (i.zero, i.size, i.bytes)) = some (some (.string ⟨#[]⟩), 1, 16) := by kernel_rfl
theorem itoa_c (n : Nat) (hn : n < 100) : Still 30 #[.int .i64 (n : Int)] (.string (text (digs n))) := fun w => by
  have h := Go.Proofs.Any.strconv_Itoa_small Tryd.lays171 n hn w
  rw [dec_digs] at h
  exact h.mono fun e w' ⟨h1, h2⟩ => ⟨h1, h2.symm⟩
theorem src_str (w : World) (x : ByteArray) : Src Tryd.prog 1 55 (.slice (some ⟨w.heap.size, 0, none⟩) 1 1) 1 [.string x] (w.alloc (.cells #[.string x] 9)) :=
  Src.ofSlice _ Tryd.underlying55 ⟨w.heap.size, 0, none⟩ 1 1 _ rfl (cell_one_new _ _ _) (by intro u hu; simp at hu; subst hu; rfl)
theorem join_c (l : List (List UInt8)) (h0 : 0 < l.length) (hl : l.length ≤ 1000) (hj : (Lib.join l [43]).length ≤ 100000) (a : Option Addr) (c B : Nat) (w : World) (h : w.ownsRow B 9 1 (.slice a l.length c) l.length (sv l)) :
    Calls Tryd.prog 31 #[.slice a l.length c, .string ⟨#[43]⟩] w fun e w' => e = .returned (.string (text (Lib.join l [43]))) ∧ Below w.heap.size w w' := by
  rcases h.2 with ⟨_, hn⟩ | ⟨g, cap, cur, hv, hb, hg, hc⟩
  · omega
  · obtain ⟨rfl, rfl⟩ : a = some ⟨g, 0, none⟩ ∧ c = cap := by cases hv; exact ⟨rfl, rfl⟩
    have hcells : ∀ (j : Nat) x, (l.map text)[j]? = some x → w.cell? ⟨g, 0 + j, none⟩ = some (.string x) := fun j x hx => by
      have h1 := World.ownsRow.cells h (g := g) rfl j (.string x) (by
        unfold sv
        rw [List.getElem?_map] at hx ⊢
        cases hq : l[j]? with
        | none => rw [hq] at hx; cases hx
        | some y => rw [hq] at hx; cases hx; rfl)
      rw [show (⟨g, 0, none⟩ : Addr).add j = ⟨g, 0 + j, none⟩ by unfold Addr.add; split <;> simp_all] at h1
      exact h1
    have hm : ((l.map text).map (·.data.toList)) = l := by
      rw [List.map_map]
      have : ((fun x : ByteArray => x.data.toList) ∘ text) = id := by funext x; exact byts_text x
      rw [this, List.map_id]
    have hs : (⟨#[43]⟩ : ByteArray).data.toList = [43] := rfl
    have hJ := Go.Proofs.Any.strings_Join Tryd.lays156 Tryd.Builder_Extra_156 g 0 c (l.map text) ⟨#[43]⟩ w hcells (lt_of_block hg) (by rw [List.length_map]; omega) (by rw [List.length_map]; exact hc.1) (by rw [hm, hs]; omega)
    rw [hm, hs, List.length_map] at hJ
    exact hJ

set_option maxRecDepth 100000 in
set_option maxHeartbeats 4000000 in
theorem text_c (s : Nat) (hs : s < 4294967296) : Ret 14 #[.int .u32 (s : Int)] (.string (text (textS s))) := fun w => by
  obtain ⟨i0, hi, hz0, hz1, hz2⟩ := info_parts infoStr
  have cl := len_c s hs
  have ci := ids_c s hs
  have hid := fun (i : Int) (h : i ∈ ids s) => ids_id h
  have hle := ids_le s
  obtain ⟨res, hres⟩ : ∃ res, textS s = res := ⟨_, rfl⟩
  rw [hres]
  unfold textS at hres
  generalize ids s = L at *
  replace cl := Lib.hid cl
  replace ci := Lib.hid ci
  by_cases h0 : L.length = 0
  · rw [if_pos h0] at hres
    subst hres
    have e1 : ((L.length : Int) == 0) = true := by simp [h0]
    clear h0
    go_enter Tryd.func14, Tryd.ntmps14
    go_wp2_with fail
    refine (cl.out.on _).mono ?_
    rintro e w1 ⟨rfl, hb⟩
    go_wp2_with fail
    go_ret
    exact ⟨rfl, hb⟩
  · rw [if_neg h0] at hres
    have e1 : ((L.length : Int) == 0) = false := beq_eq_false_iff_ne.2 (by omega)
    replace hres := Lib.hid hres
    go_enter Tryd.func14, Tryd.ntmps14
    go_wp2_with fail
    refine (cl.out.on _).mono ?_
    rintro e w1 ⟨rfl, hb⟩
    replace hb := Lib.hid hb
    go_wp2_with fail
    refine (ci.out.on _).mono ?_
    rintro e w2 ⟨a, c, rfl, hown, hb2⟩
    have hin := hown.in
    replace hb2 := below_up hb.out hb.out.size hb2
    clear hb hown
    have hq := hb2.size
    replace hb2 := Lib.hid hb2
    replace hin := Lib.hid hin
    go_wp2_with fail
    go_loopw [3, 12] (fun b i wr => ∃ j : Nat, j ≤ L.length ∧ i = .int .i64 j ∧ (∃ a c, b = .slice a j c ∧ wr.ownsRow w2.heap.size 9 1 (.slice a j c) j (sv ((L.take j).map dgt))) ∧ Below w2.heap.size w2 wr) (fun _ i _ => L.length - (intOf i).toNat)
    case atStart => exact ⟨0, Nat.zero_le _, rfl, ⟨none, 0, rfl, World.ownsRow_nil w2 _ _ _⟩, Below.refl _ _⟩
    case round =>
      obtain ⟨j, hj, rfl, ⟨b, d, rfl, hown⟩, hbr⟩ := hrel
      by_cases hlt : j < L.length
      · obtain ⟨g, o, hga, hg, hc⟩ := (hin.out.below hbr).at j hlt
        subst hga
        have hst : (L.take (j + 1)).map dgt = (L.take j).map dgt ++ [dgt L[j]] := by
          rw [List.take_succ_eq_append_getElem hlt, List.map_append]
          rfl
        have hltI : (j : Int) < (L.length : Int) := by omega
        obtain ⟨x1, x2⟩ := hid L[j] (List.getElem_mem hlt)
        generalize L[j] = x at *
        obtain ⟨n, rfl⟩ : ∃ n : Nat, x = n := ⟨x.toNat, by omega⟩
        have cI := itoa_c n (by omega)
        unfold dgt at hst
        rw [Int.toNat_natCast] at hst
        have hsz := hbr.size
        obtain ⟨t, ht⟩ : ∃ t, digs n = t := ⟨_, rfl⟩
        rw [ht] at hst cI
        clear ht
        replace cI := Lib.hid cI
        replace hst := Lib.hid hst
        replace hown := Lib.hid hown
        replace hbr := Lib.hid hbr
        go_wp2_with fail
        refine (cI.out.on _).mono ?_
        rintro e w3 ⟨rfl, rfl⟩
        have hsrc := src_str wr (text t)
        go_wp2_with (at_builtin; refine wpList_append_own_src _ rfl (.tmp 16) (.tmp 19) 55 55 rfl w2.heap.size 9 i0 (.string ⟨#[]⟩) 1 16 Tryd.underlying55 hi hz0 hz1 hz2 rfl rfl (hown.out.alloc _) rfl hsrc ?_ ?_ ?_ ?_)
        · unfold maxLen; omega
        · omega
        · (try rw [size_alloc]); omega
        intro b' c' w4 hown2 hg1
        have hfin := Lib.hid (Below.grown (hbr.out.alloc hsz (.cells #[.string (text t)] 9)) hg1 (by rw [size_alloc]; omega) (fun q hq => by have := World.ownsRow.lt hown.out q hq; omega))
        replace hown2 := Lib.hid hown2
        clear hg1 hsrc hown hbr
        go_wp2_with fail
        go_roundw
        case rel => exact ⟨j + 1, by omega, by go_num, ⟨b', c', rfl, by
          have h1 := hown2.out
          have h2 := hst.out
          unfold dgt at *
          rw [h2]
          unfold sv at *
          rw [List.map_append]
          (try rw [← List.map_take] at h1)
          exact h1⟩, hfin.out⟩
        case measure => simp [intOf]; omega
      · obtain rfl : j = L.length := by omega
        rw [List.take_length] at hown
        have hlen : (L.map dgt).length = L.length := List.length_map _
        have hjl : (Lib.join (L.map dgt) [43]).length ≤ 100000 := by
          have := join_bd (L.map dgt) (fun x hx => by
            obtain ⟨i, hi, rfl⟩ := List.mem_map.1 hx
            exact dgt_len (hid i hi).1 (hid i hi).2)
          omega
        have cj := join_c (L.map dgt) (by omega) (by omega) hjl b d w2.heap.size wr (by rw [hlen]; exact hown)
        rw [hlen, hres.out] at cj
        have hfin := below_up hb2.out hq hbr
        clear hown
        replace cj := Lib.hid cj
        replace hfin := Lib.hid hfin
        go_wp2_with fail
        refine cj.out.mono ?_
        rintro e w5 ⟨rfl, hb5⟩
        have hfin2 := below_up hfin.out hfin.out.size hb5
        go_wp2_with fail
        go_ret
        exact ⟨rfl, hfin2⟩
end Go.Proofs.YtmikhngmclngiaaDoor
