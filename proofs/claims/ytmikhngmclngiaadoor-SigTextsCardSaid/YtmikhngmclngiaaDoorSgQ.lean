/- what the document takes a text for: plain laws -/
import Derived.Test.YtmikhngmclngiaaDoorSgBk
namespace Go.Proofs.YtmikhngmclngiaaDoor
open Go.RowKit
open Rf
open Wide
namespace Sg

/-- whether an id can't stand behind these -/
def badN (d : List Int) (n : Int) : Bool := decide (n < 1) || (decide (24 < n) || (match d.getLast? with
  | none => false
  | some m => decide (n ≤ m)))
/-- one byte: the ids so far, and the one that is being read -/
def rstep (p : List Int × Int) (c : UInt8) : Option (List Int × Int) :=
  if c = 43 then (if badN p.1 p.2 = true then none else some (p.1 ++ [p.2], -1))
  else if c.toNat < 48 ∨ 57 < c.toNat ∨ p.2 = 0 ∨ 99 < p.2 ∨ (p.2 < 0 ∧ c.toNat = 48) then none
  else some (p.1, (if p.2 < 0 then 0 else p.2) * 10 + ((c.toNat : Int) - 48))
def fold : List UInt8 → List Int × Int → Option (List Int × Int)
  | [], p => some p
  | c :: r, p => match rstep p c with
    | none => none
    | some q => fold r q
def refP (l : List UInt8) : Nat × Bool := if l = [45] then (0, true) else match fold (l ++ [43]) ([], -1) with
  | none => (0, false)
  | some p => (setOf p.1, true)
theorem fold_app (l m : List UInt8) (p : List Int × Int) : fold (l ++ m) p = (fold l p).bind (fold m) := by
  induction l generalizing p with
  | nil => rfl
  | cons c r ih =>
    rw [List.cons_append, fold, fold]
    cases h : rstep p c with
    | none => rfl
    | some q => exact ih q
theorem fold_one (c : UInt8) (p : List Int × Int) : fold [c] p = rstep p c := by
  rw [fold]
  cases h : rstep p c <;> rfl
theorem fold_take {l : List UInt8} {p q : List Int × Int} {j : Nat} (hj : j < l.length) (h : fold (l.take j) p = some q) : fold (l.take (j + 1)) p = rstep q l[j] := by
  rw [List.take_succ_eq_append_getElem hj, fold_app, h, Option.bind_some, fold_one]
theorem fold_none {l : List UInt8} {p q : List Int × Int} {j : Nat} (hj : j < l.length) (h : fold (l.take j) p = some q) (hn : rstep q l[j] = none) : fold l p = none := by
  have h1 := fold_take hj h
  rw [← List.take_append_drop (j + 1) l, fold_app, h1, hn]
  rfl
/-- what is read so far is the ids, and the digits of the next -/
def Inv (pre : List UInt8) (d : List Int) (n : Int) : Prop := pre = behind (d.map dgt) ++ (if n < 0 then [] else digs n.toNat) ∧ (n = -1 ∨ 1 ≤ n ∧ n ≤ 999) ∧ (∀ i ∈ d, 1 ≤ i ∧ i ≤ 24) ∧ d.Pairwise (· < ·)
theorem Inv.nil : Inv [] [] (-1) := ⟨rfl, .inl rfl, by simp, List.Pairwise.nil⟩
theorem last_lt {d : List Int} (h : d.Pairwise (· < ·)) {n : Int} (hl : ∀ m, d.getLast? = some m → m < n) : ∀ x ∈ d, x < n := by
  intro x hx
  cases hg : d.getLast? with
  | none => rw [List.getLast?_eq_none_iff.1 hg] at hx; cases hx
  | some m =>
    obtain ⟨ys, rfl⟩ := List.getLast?_eq_some_iff.1 hg
    have h1 := hl m hg
    rw [List.mem_append] at hx
    rcases hx with hx | hx
    · have := (List.pairwise_append.1 h).2.2 x hx m (by simp)
      omega
    · obtain rfl : x = m := by simpa using hx
      exact h1
theorem badN_false {d : List Int} {n : Int} : badN d n = false ↔ (1 ≤ n ∧ n ≤ 24 ∧ ∀ m, d.getLast? = some m → m < n) := by
  unfold badN
  rw [Bool.or_eq_false_iff, Bool.or_eq_false_iff, decide_eq_false_iff_not, decide_eq_false_iff_not]
  cases d.getLast? with
  | none => simp
  | some m => simp
theorem digs_ten (n k : Nat) (hn : 1 ≤ n) (hk : k < 10) : digs (n * 10 + k) = digs n ++ [UInt8.ofNat (48 + k)] := by
  rw [digs, if_neg (by omega), show (n * 10 + k) / 10 = n by omega, show (n * 10 + k) % 10 = k by omega]
theorem digs_lt (k : Nat) (hk : k < 10) : digs k = [UInt8.ofNat (48 + k)] := by rw [digs, if_pos hk]
theorem byte_dig {c : UInt8} (h1 : 48 ≤ c.toNat) : UInt8.ofNat (48 + (c.toNat - 48)) = c := by
  rw [show 48 + (c.toNat - 48) = c.toNat by omega]
  simp
theorem inv_step {pre : List UInt8} {d : List Int} {n : Int} {c : UInt8} {q : List Int × Int} (h : Inv pre d n) (hs : rstep (d, n) c = some q) : Inv (pre ++ [c]) q.1 q.2 := by
  obtain ⟨h1, h2, h3, h4⟩ := h
  unfold rstep at hs
  by_cases hc : c = 43
  · rw [if_pos hc] at hs
    dsimp only at hs
    cases hb : badN d n with
    | true => rw [hb, if_pos rfl] at hs; cases hs
    | false =>
      rw [hb, if_neg (by decide)] at hs
      cases hs
      obtain ⟨b1, b2, b3⟩ := badN_false.1 hb
      refine ⟨?_, .inl rfl, ?_, ?_⟩
      · dsimp only
        rw [if_pos (by decide), List.append_nil, List.map_append, List.map_cons, List.map_nil, behind_snoc, h1, if_neg (by omega), hc]
        rfl
      · intro i hi
        rw [List.mem_append] at hi
        rcases hi with hi | hi
        · exact h3 i hi
        · obtain rfl : i = n := by simpa using hi
          exact ⟨b1, b2⟩
      · refine List.pairwise_append.2 ⟨h4, by simp, fun a ha b hb => ?_⟩
        obtain rfl : b = n := by simpa using hb
        exact last_lt h4 b3 a ha
  · rw [if_neg hc] at hs
    dsimp only at hs
    by_cases hx : c.toNat < 48 ∨ 57 < c.toNat ∨ n = 0 ∨ 99 < n ∨ (n < 0 ∧ c.toNat = 48)
    · rw [if_pos hx] at hs
      cases hs
    · rw [if_neg hx] at hs
      cases hs
      rcases h2 with rfl | h2
      · refine ⟨?_, .inr (by dsimp only; rw [if_pos (by decide)]; omega), h3, h4⟩
        dsimp only
        rw [show (if (-1 : Int) < 0 then (0 : Int) else -1) = 0 by decide, if_neg (by omega), h1, if_pos (by decide), List.append_nil, show ((0 : Int) * 10 + ((c.toNat : Int) - 48)).toNat = c.toNat - 48 by omega, digs_lt _ (by omega), byte_dig (by omega)]
      · have hn0 : ¬ n < 0 := by omega
        refine ⟨?_, .inr (by dsimp only; rw [if_neg hn0]; omega), h3, h4⟩
        dsimp only
        rw [if_neg hn0, if_neg (by omega), h1, if_neg hn0, show (n * 10 + ((c.toNat : Int) - 48)).toNat = n.toNat * 10 + (c.toNat - 48) by omega, digs_ten _ _ (by omega) (by omega), byte_dig (by omega), List.append_assoc]
theorem inv_fold {pre l : List UInt8} {d : List Int} {n : Int} {q : List Int × Int} (h : Inv pre d n) (hs : fold l (d, n) = some q) : Inv (pre ++ l) q.1 q.2 := by
  induction l generalizing pre d n with
  | nil =>
    cases hs
    rw [List.append_nil]
    exact h
  | cons c r ih =>
    rw [fold] at hs
    cases hr : rstep (d, n) c with
    | none => rw [hr] at hs; cases hs
    | some p =>
      rw [hr] at hs
      have := ih (inv_step h hr) hs
      rw [List.append_assoc] at this
      exact this
theorem fold_dg (d : List Int) : ∀ x : Int, 1 ≤ x → x ≤ 24 → fold (dgt x) (d, -1) = some (d, x) := by
  intro x h1 h2
  rw [dgt_dg2 h1 h2]
  obtain ⟨k, rfl⟩ : ∃ k : Nat, x = k := ⟨x.toNat, by omega⟩
  rw [Int.toNat_natCast]
  have hk : k ≤ 24 := by omega
  unfold dg2
  by_cases h : k < 10
  · rw [if_pos h, fold_one]
    unfold rstep
    have e : (UInt8.ofNat (48 + k)).toNat = 48 + k := by simp; omega
    rw [if_neg (fun hh => by rw [hh] at e; simp at e; omega), e]
    dsimp only
    rw [if_neg (by omega), if_pos (by decide)]
    congr 2
    omega
  · have e : (UInt8.ofNat (48 + k / 10)).toNat = 48 + k / 10 := by simp; omega
    have e2 : (UInt8.ofNat (48 + k % 10)).toNat = 48 + k % 10 := by simp; omega
    rw [if_neg h, fold]
    have e3 : rstep (d, -1) (UInt8.ofNat (48 + k / 10)) = some (d, ((k / 10 : Nat) : Int)) := by
      unfold rstep
      rw [if_neg (fun hh => by rw [hh] at e; simp at e; omega), e]
      dsimp only
      rw [if_neg (by omega), if_pos (by decide)]
      congr 2
      omega
    rw [e3]
    dsimp only
    rw [fold_one]
    unfold rstep
    rw [if_neg (fun hh => by rw [hh] at e2; simp at e2; omega), e2]
    dsimp only
    rw [if_neg (by omega), if_neg (by omega)]
    congr 2
    omega
theorem fold_behind : ∀ (xs d : List Int), (∀ i ∈ xs, 1 ≤ i ∧ i ≤ 24) → (d ++ xs).Pairwise (· < ·) → fold (behind (xs.map dgt)) (d, -1) = some (d ++ xs, -1) := by
  intro xs
  induction xs with
  | nil =>
    intro d _ _
    rw [List.append_nil]
    rfl
  | cons x r ih =>
    intro d h1 h2
    have hx := h1 x (by simp)
    rw [List.map_cons, behind_cons, fold_app, fold_dg d x hx.1 hx.2, Option.bind_some, fold]
    have hb : badN d x = false := badN_false.2 ⟨hx.1, hx.2, fun m hm => by
      obtain ⟨ys, rfl⟩ := List.getLast?_eq_some_iff.1 hm
      exact (List.pairwise_append.1 h2).2.2 m (by simp) x (by simp)⟩
    have e : rstep (d, x) 43 = some (d ++ [x], -1) := by
      unfold rstep
      rw [if_pos rfl]
      dsimp only
      rw [hb, if_neg (by decide)]
    rw [e]
    dsimp only
    rw [ih (d ++ [x]) (fun i hi => h1 i (by simp [hi])) (by rw [List.append_assoc]; exact h2), List.append_assoc]
    rfl
theorem idsFrom_sorted (s : Nat) : ∀ (n k : Nat), (idsFrom s k n).Pairwise (· < ·) := by
  intro n
  induction n with
  | zero => intro k; exact List.Pairwise.nil
  | succ n ih =>
    intro k
    rw [idsFrom]
    refine List.pairwise_append.2 ⟨?_, ih (k + 1), fun a ha b hb => ?_⟩
    · split <;> simp
    · obtain ⟨j, rfl, h1, _, _⟩ := (mem_idsFrom s (k + 1) n b).1 hb
      by_cases ht : s.testBit k = true
      · rw [if_pos ht] at ha
        obtain rfl : a = k := by simpa using ha
        omega
      · rw [if_neg ht] at ha
        cases ha
theorem sorted_ext : ∀ {l m : List Int}, l.Pairwise (· < ·) → m.Pairwise (· < ·) → (∀ x, x ∈ l ↔ x ∈ m) → l = m := by
  intro l
  induction l with
  | nil =>
    intro m _ _ h
    cases m with
    | nil => rfl
    | cons y t => exact absurd ((h y).2 (by simp)) (by simp)
  | cons x r ih =>
    intro m h1 h2 h
    cases m with
    | nil => exact absurd ((h x).1 (by simp)) (by simp)
    | cons y t =>
      rw [List.pairwise_cons] at h1 h2
      have hxy : x = y := by
        have a := (h x).1 (by simp)
        have b := (h y).2 (by simp)
        rw [List.mem_cons] at a b
        rcases a with a | a
        · exact a
        · rcases b with b | b
          · exact b.symm
          · have := h1.1 y b
            have := h2.1 x a
            omega
      subst hxy
      congr 1
      refine ih h1.2 h2.2 fun z => ?_
      have hz := h z
      rw [List.mem_cons, List.mem_cons] at hz
      constructor
      · intro hh
        rcases hz.1 (.inr hh) with e | e
        · have := h1.1 z hh
          omega
        · exact e
      · intro hh
        rcases hz.2 (.inr hh) with e | e
        · have := h2.1 z hh
          omega
        · exact e
theorem ids_set {d : List Int} (h : d.Pairwise (· < ·)) (h1 : ∀ i ∈ d, 1 ≤ i ∧ i ≤ 24) : ids (setOf d) = d := by
  refine sorted_ext (idsFrom_sorted _ _ _) h fun x => ?_
  rw [mem_ids]
  unfold has
  rw [set_bit]
  constructor
  · intro hh
    simp at hh
    have : isId x = true := hh.1
    unfold isId at this
    simp at this
    have hx := hh.2.2
    rw [show max x 0 = x by omega] at hx
    exact hx
  · intro hh
    have hx := h1 x hh
    have e : ((x.toNat : Nat) : Int) = x := by omega
    have hi : isId x = true := by unfold isId; simp; omega
    rw [e, hi, decide_eq_true ⟨rfl, hh⟩]
    rfl
theorem refP_text {l : List UInt8} {p : List Int × Int} (h : fold (l ++ [43]) ([], -1) = some p) : l = textS (setOf p.1) := by
  have hI := inv_fold Inv.nil h
  rw [List.nil_append] at hI
  obtain ⟨h1, h2, h3, h4⟩ := hI
  have hn : p.2 = -1 := by
    rw [fold_app] at h
    cases hl : fold l ([], -1) with
    | none => rw [hl] at h; cases h
    | some q =>
      rw [hl, Option.bind_some, fold_one] at h
      unfold rstep at h
      rw [if_pos rfl] at h
      split at h
      · cases h
      · cases h
        rfl
  rw [hn, if_pos (by decide), List.append_nil] at h1
  have hid := ids_set h4 h3
  cases hd : p.1 with
  | nil =>
    rw [hd] at h1
    exact absurd h1 (by simp [behind])
  | cons x xs =>
    rw [hd, List.map_cons, ← join_behind] at h1
    rw [hd] at hid
    have h5 := List.append_cancel_right h1
    rw [h5, text_join (by rw [hid]; simp), hid, List.map_cons]
theorem parse_ref (s : ByteArray) : parseS s = ((refP (byts s)).1, if (refP (byts s)).2 = true then 0 else 4) := by
  unfold refP
  by_cases h0 : byts s = [45]
  · rw [if_pos h0]
    unfold parseS
    rw [out_segs, h0]
    decide +kernel
  · rw [if_neg h0]
    unfold parseS
    cases hf : fold (byts s ++ [43]) ([], -1) with
    | some p =>
      dsimp only
      have hI := inv_fold Inv.nil hf
      have ht := refP_text hf
      have hid := ids_set hI.2.2.2 hI.2.2.1
      have he : outOf s = setOf p.1 := by rw [out_segs, ht, out_text, hid]
      rw [he, ← ht, if_pos rfl]
      rfl
    | none =>
      dsimp only
      by_cases ht : textS (outOf s) = byts s
      · exfalso
        by_cases hn : ids (outOf s) = []
        · rw [text_nil hn] at ht
          exact h0 ht.symm
        · rw [text_join hn] at ht
          obtain ⟨x, xs, hx⟩ : ∃ x xs, ids (outOf s) = x :: xs := by
            cases hh : ids (outOf s) with
            | nil => exact absurd hh hn
            | cons x xs => exact ⟨x, xs, rfl⟩
          have hj : byts s ++ [43] = behind ((ids (outOf s)).map dgt) := by rw [← ht, hx, List.map_cons, join_behind]
          rw [hj, fold_behind _ [] (fun i hi => ids_id hi) (by rw [List.nil_append]; exact idsFrom_sorted _ _ _)] at hf
          cases hf
      · rw [if_neg ht]
        rfl
end Sg
end Go.Proofs.YtmikhngmclngiaaDoor
