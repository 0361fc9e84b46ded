/- the walk of SealTells -/
import Derived.Test.YtaddckdbhakgmaaSealLaw
import Derived.OpenShut
namespace Go.Proofs.Ytaddckdbhakgmaa
open Go.RowKit
open Rf

set_option maxHeartbeats 400000 in
theorem sealTells_big (s : ByteArray) (at_ c : Int) (hs : s.size ≤ maxLen) (h1 : 4096 < s.size) (w : World) :
    Calls Try.prog 5 #[.string s, .int .i64 at_, .int .u8 c] w fun e w' => e = .returned (.bool true) ∧ Below w.heap.size w w' := by
  unfold maxLen at hs
  go_enter Try.func5, Try.ntmps5
  go_wp2_with fail
  refine (awake3_c _).mono ?_
  rintro e w1 ⟨rfl, hb1⟩
  go_wp2_with fail
  go_ret
  exact ⟨rfl, hb1⟩

set_option maxHeartbeats 400000 in
theorem sealTells_empty (s : ByteArray) (at_ c : Int) (h1 : s.size = 0) (w : World) :
    Calls Try.prog 5 #[.string s, .int .i64 at_, .int .u8 c] w fun e w' => e = .returned (.bool true) ∧ Below w.heap.size w w' := by
  have h2 : s.size ≤ 0 := by omega
  have h3 : ((s.size : Int) == 0) = true := beq_iff_eq.2 (by omega)
  clear h1
  go_enter Try.func5, Try.ntmps5
  go_wp2_with fail
  refine (awake3_c _).mono ?_
  rintro e w1 ⟨rfl, hb1⟩
  go_wp2_with fail
  refine (stamp_c s (by omega) _).mono ?_
  rintro e w2 ⟨rfl, hb2⟩
  go_wp2_with fail
  refine (open_yes _ (byts s) (by rw [byts_text]) (by rw [text_size, stampF_length, byts_length]; omega) _).mono ?_
  rintro e w3 ⟨rfl, hb3⟩
  rw [text_byts]
  go_wp2_with fail
  go_ret
  exact ⟨rfl, hb1.trans ((hb2.mono hb1.size).trans (hb3.mono (Nat.le_trans hb1.size hb2.size)))⟩

/-- what '[]byte(text)' lays -/
theorem bytes_of_text (w : World) (l : List UInt8) : ∃ C cap, (convert 9 33 (.string (text l))).run Try.prog w = .ok (.slice (some ⟨w.heap.size, 0, none⟩) l.length cap) (w.alloc (.cells C 5 (C.size, C.size + 1))).drew ∧ l.length ≤ cap ∧ C.size = cap ∧
    ∀ j, j < l.length → C[j]? = (bv l)[j]? := by
  have h := run_bytes_of_string (P := Try.prog) w 9 33 5 (text l) Try.underlying9 Try.underlying33 Try.underlying5
  rw [text_size] at h
  have hge := grownCap_ge w l.length 0 5
  refine ⟨_, _, h, hge, ?_, fun j hj => ?_⟩
  · unfold bytesRow
    have : (text l).data.size = l.length := by simp [text]
    rw [Array.size_append, Array.size_map, Array.size_replicate, this, text_size]
    omega
  · rw [bytesRow_at (text l) _ j (by simpa [text] using hj)]
    simp [bv, text, hj]

/-- a row of bytes, as a text, in whatever world -/
theorem back_row (W : World) (g : Nat) (C : Array Value) (fr : Nat × Nat) (hg : W.heap[g]? = some (.cells C 5 fr)) (l : List UInt8) (n cap : Nat) (hC : ∀ j, j < l.length → C[j]? = (bv l)[j]?) (hn : n ≤ l.length) :
    (convert 33 9 (.slice (some ⟨g, 0, none⟩) n cap)).run Try.prog W = .ok (.string (text (l.take n))) W := by
  have hlen : (l.take n).length = n := by simp; omega
  have h := run_convert_bytes_back (P := Try.prog) W 33 9 5 ⟨g, 0, none⟩ cap (l.take n) Try.underlying33 Try.underlying5 Try.underlying9 (fun j hj => by
    have hj' : j < l.length := by omega
    rw [Addr.add_lit, Nat.zero_add, cell_of_row W g j C 5 fr hg, hC j hj']
    simp [bv, hj'])
  rw [hlen] at h
  exact h

/-- a byte stored into a row -/
theorem row_set (W : World) (g : Nat) (C : Array Value) (fr : Nat × Nat) (hg : W.heap[g]? = some (.cells C 5 fr)) (l : List UInt8) (k : Nat) (y : UInt8) (hl : l.length ≤ C.size) (hC : ∀ j, j < l.length → C[j]? = (bv l)[j]?) :
    ∃ C', ((W.setCell ⟨g, k, none⟩ (.int .u8 (y.toNat : Int))).drew).heap[g]? = some (.cells C' 5 fr) ∧ ∀ j, j < (l.set k y).length → C'[j]? = (bv (l.set k y))[j]? := by
  refine ⟨C.setIfInBounds k (.int .u8 (y.toNat : Int)), ?_, fun j hj => ?_⟩
  · show (W.heap.modify g _)[g]? = _
    rw [Array.getElem?_modify, if_pos rfl, hg]
    rfl
  · rw [List.length_set] at hj
    rw [Array.getElem?_setIfInBounds]
    by_cases e : k = j
    · subst e
      simp [bv, hj]; omega
    · rw [if_neg e, hC j hj]
      simp [bv, hj, List.getElem_set_ne e]

theorem xor_ne (x : UInt8) (c : Int) (c0 : 0 ≤ c) (c1 : c ≤ 255) : bits .xor .u8 (x.toNat : Int) c = ((x ^^^ UInt8.ofNat c.toNat).toNat : Int) ∧ (c ≠ 0 → x ^^^ UInt8.ofNat c.toNat ≠ x) ∧ (c = 0 → x ^^^ UInt8.ofNat c.toNat = x) := by
  obtain ⟨n, rfl⟩ := Int.eq_ofNat_of_zero_le c0
  have hx := x.toNat_lt
  refine ⟨?_, ?_, ?_⟩
  · rw [u8_xor_nat x.toNat n (by omega) (by omega), UInt8.toNat_xor, Int.toNat_natCast, UInt8.toNat_ofNat', Nat.mod_eq_of_lt (by omega)]
  · intro h e
    have e2 : x ^^^ (x ^^^ UInt8.ofNat n) = x ^^^ x := by rw [Int.toNat_natCast] at e; rw [e]
    rw [← UInt8.xor_assoc, UInt8.xor_self, UInt8.zero_xor] at e2
    have := congrArg UInt8.toNat e2
    rw [UInt8.toNat_ofNat'] at this
    simp at this
    omega
  · intro h
    have : n = 0 := by omega
    subst this
    simp

theorem le4_inj (a b : Int) (a0 : 0 ≤ a) (a1 : a ≤ 4294967295) (b0 : 0 ≤ b) (b1 : b ≤ 4294967295) (h : le 4 a = le 4 b) : a = b := by
  have ha := num_le 4 a a0
  have hb := num_le 4 b b0
  rw [h] at ha
  rw [sh4] at ha hb
  have e1 : a / 4294967296 = 0 := by omega
  have e2 : b / 4294967296 = 0 := by omega
  rw [e1] at ha
  rw [e2] at hb
  omega

theorem stamp_turned (l : List UInt8) (k : Nat) (hk : k < l.length) (y : UInt8) (hy : y ≠ l[k]) : ∀ m, stampF m ≠ (stampF l).set k y := by
  intro m h
  have hl := congrArg List.length h
  rw [stampF_length, List.length_set, stampF_length] at hl
  have e : (stampF l).set k y = l.set k y ++ le 4 (Adler.sum l) := by
    unfold stampF
    rw [List.set_append_left _ _ hk]
  rw [e] at h
  unfold stampF at h
  obtain ⟨h1, h2⟩ := List.append_inj h (by simp; omega)
  subst h1
  obtain ⟨p0, p1⟩ : 0 ≤ Adler.sum (l.set k y) ∧ Adler.sum (l.set k y) ≤ 4294967295 := Adler.more_bd 1 _
  obtain ⟨q0, q1⟩ : 0 ≤ Adler.sum l ∧ Adler.sum l ≤ 4294967295 := Adler.more_bd 1 l
  exact Adler.sum_set_ne l k hk y hy (le4_inj _ _ p0 p1 q0 q1 h2)

set_option maxHeartbeats 400000 in
theorem sealTells_some (s : ByteArray) (at_ c : Int) (h1 : 0 < s.size) (h4 : s.size ≤ 4096) (c0 : 0 ≤ c) (c1 : c ≤ 255) (w : World) :
    Calls Try.prog 5 #[.string s, .int .i64 at_, .int .u8 c] w fun e w' => e = .returned (.bool true) ∧ Below w.heap.size w w' := by
  have h3 : ((s.size : Int) == 0) = false := beq_eq_false_iff_ne.2 (by omega)
  go_enter Try.func5, Try.ntmps5
  go_wp2_with fail
  refine (awake3_c _).mono ?_
  rintro e w1 ⟨rfl, hb1⟩
  go_wp2_with fail
  refine (stamp_c s (by omega) _).mono ?_
  rintro e w2 ⟨rfl, hb2⟩
  go_wp2_with fail
  refine (open_yes _ (byts s) (by rw [byts_text]) (by rw [text_size, stampF_length, byts_length]; omega) _).mono ?_
  rintro e w3 ⟨rfl, hb3⟩
  rw [text_byts]
  obtain ⟨C, cap, hconv, hcap, hCs, hC⟩ := bytes_of_text w3 (stampF (byts s))
  obtain ⟨k, hk, hks⟩ : ∃ k : Nat, wrap64 ((IntKind.u64.wrap at_).tmod (s.size : Int)) = (k : Int) ∧ k < s.size := by
    have h0 : 0 ≤ IntKind.u64.wrap at_ := by rw [IntKind.wrap_u64]; omega
    rw [Int.tmod_eq_emod_of_nonneg h0]
    have h1' := Int.emod_nonneg (IntKind.u64.wrap at_) (show (s.size : Int) ≠ 0 by omega)
    have h2' := Int.emod_lt_of_pos (IntKind.u64.wrap at_) (show (0 : Int) < s.size by omega)
    generalize IntKind.u64.wrap at_ % (s.size : Int) = q at *
    refine ⟨q.toNat, ?_, by omega⟩
    rw [IntWalk.wrap64_in _ (by omega)]
    omega
  have hsl : (stampF (byts s)).length = s.size + 4 := by rw [stampF_length, byts_length]
  have hkl : k < (byts s).length := by rw [byts_length]; exact hks
  obtain ⟨x, hx⟩ : ∃ x, (byts s)[k] = x := ⟨_, rfl⟩
  have hx2 : (stampF (byts s))[k]'(by omega) = x := by
    have : (stampF (byts s))[k]'(by omega) = (byts s)[k] := by unfold stampF; exact List.getElem_append_left hkl
    rw [this, hx]
  obtain ⟨hxor, hne, heq⟩ := xor_ne x c c0 c1
  obtain ⟨y, hy⟩ : ∃ y, x ^^^ UInt8.ofNat c.toNat = y := ⟨_, rfl⟩
  rw [hy] at hxor hne heq
  have hcell : (w3.alloc (.cells C 5 (C.size, C.size + 1))).cell? ⟨w3.heap.size, k, none⟩ = some (.int .u8 (x.toNat : Int)) := by
    rw [World.cell?_alloc_mark, hC k (by omega)]
    simp [bv, show k < (stampF (byts s)).length by omega, hx2]
  have hfroz : (w3.alloc (.cells C 5 (C.size, C.size + 1))).frozen? ⟨w3.heap.size, k, none⟩ = false := by
    rw [World.frozen?_alloc_mark]
    simp; omega
  obtain ⟨C', hg', hC'⟩ := row_set (w3.alloc (.cells C 5 (C.size, C.size + 1))) w3.heap.size C _ (heap_alloc_new w3 _) (stampF (byts s)) k y (by omega) hC
  have hl' : ((stampF (byts s)).set k y).length = s.size + 4 := by rw [List.length_set, hsl]
  have hback1 := back_row _ _ C' _ hg' _ (s.size + 4) cap hC' (by omega)
  rw [hsl] at hconv hcap
  have hall : ((stampF (byts s)).set k y).take (s.size + 4) = (stampF (byts s)).set k y := List.take_of_length_le (by rw [hl']; exact Nat.le_refl _)
  have hfst : ((stampF (byts s)).set k y).take s.size = (byts s).set k y := by
    unfold stampF
    rw [List.set_append_left _ _ hkl, List.take_left' (by rw [List.length_set, byts_length])]
  rw [hall] at hback1
  have hback2 : Hid (∀ W : World, Below ((w3.alloc (.cells C 5 (C.size, C.size + 1))).setCell ⟨w3.heap.size, k, none⟩ (.int .u8 (y.toNat : Int))).drew.heap.size ((w3.alloc (.cells C 5 (C.size, C.size + 1))).setCell ⟨w3.heap.size, k, none⟩ (.int .u8 (y.toNat : Int))).drew W →
      (convert 33 9 (.slice (some ⟨w3.heap.size, 0, none⟩) s.size cap)).run Try.prog W = .ok (.string (text ((byts s).set k y))) W) := by
    intro W hW
    have := back_row W w3.heap.size C' _ ((hW.block _ (lt_of_block hg')).trans hg') _ s.size cap hC' (by omega)
    rwa [hfst] at this
  have hyne : c ≠ 0 → y ≠ (byts s)[k] := fun h => by rw [hx]; exact hne h
  have hyeq : c = 0 → y = (byts s)[k] := fun h => by rw [hx]; exact heq h
  have hb : Below w.heap.size w ((w3.alloc (.cells C 5 (C.size, C.size + 1))).setCell ⟨w3.heap.size, k, none⟩ (.int .u8 (y.toNat : Int))).drew := by
    have s1 := hb1.size; have s2 := hb2.size; have s3 := hb3.size
    exact (((hb1.trans ((hb2.mono s1).trans (hb3.mono (by omega)))).alloc (by omega) _).setCell (by simp; omega) _).drew
  clear hall hfst hC hCs hne heq hx hx2 hy hsl hg' hC'
  have hkI : (k : Int) < (s.size : Int) + 4 := by omega
  have hkcap : s.size ≤ cap := by omega
  have hsz : s.size ≤ maxLen := by unfold maxLen; omega
  by_cases hc : c = 0
  · subst hc
    have hsame : (byts s).set k y = byts s := by rw [hyeq rfl]; exact List.set_getElem_self hkl
    have hsame2 : (stampF (byts s)).set k y = stampF (byts s) := by unfold stampF; rw [List.set_append_left _ _ hkl, hsame]
    rw [hsame, text_byts] at hback2
    rw [hsame2] at hback1
    clear hsame hsame2 hyne hyeq hl'
    go_wp2_with fail
    refine (open_yes _ (byts s) (by rw [byts_text]) (by rw [text_size, stampF_length, byts_length]; omega) _).mono ?_
    rintro e w4 ⟨rfl, hb4⟩
    have hb2' := hback2.out w4 hb4
    rw [text_byts]
    go_wp2_with fail
    refine (of_c s hsz _).mono ?_
    rintro e w' ⟨rfl, rfl⟩
    go_wp2_with fail
    refine (of_c s hsz _).mono ?_
    rintro e w' ⟨rfl, rfl⟩
    go_wp2_with fail
    go_ret
    exact ⟨rfl, hb.trans (hb4.mono hb.size)⟩
  · have hturn := stamp_turned (byts s) k hkl y (hyne hc)
    have hsum := Adler.sum_set_ne (byts s) k hkl y (hyne hc)
    have hsum' : (Adler.sum ((byts s).set k y) == Adler.sum (byts s)) = false := beq_eq_false_iff_ne.2 hsum
    have hcz : (c == 0) = false := beq_eq_false_iff_ne.2 hc
    have hlen2 : ((byts s).set k y).length = s.size := by rw [List.length_set, byts_length]
    replace hturn := Lib.hid hturn
    replace hl' := Lib.hid hl'
    replace hlen2 := Lib.hid hlen2
    clear hyne hyeq hsum hc
    go_wp2_with fail
    refine (open_no _ (by rw [byts_text]; exact hturn.out) (by rw [text_size, hl'.out]; omega) _).mono ?_
    rintro e w4 ⟨rfl, hb4⟩
    have hb2' := hback2.out w4 hb4
    go_wp2_with fail
    refine (of_is _ (Adler.sum ((byts s).set k y)) (by rw [byts_text]) (by rw [text_size, hlen2.out]; exact hsz) _).mono ?_
    rintro e w' ⟨rfl, rfl⟩
    go_wp2_with fail
    refine (of_c s hsz _).mono ?_
    rintro e w' ⟨rfl, rfl⟩
    go_wp2_with fail
    go_ret
    exact ⟨rfl, hb.trans (hb4.mono hb.size)⟩

theorem sealTells_any (s : ByteArray) (hs : s.size ≤ maxLen) (at_ : Int) (_ : (Lit.int .i64 at_).wf = true) (c : Int) (hc : (Lit.int .u8 c).wf = true) (w : World) :
    Calls Try.prog 5 #[.string s, .int .i64 at_, .int .u8 c] w fun e w' => e = .returned (.bool true) ∧ Below w.heap.size w w' := by
  have hc := bounds_u8 hc
  by_cases h : 4096 < s.size
  · exact sealTells_big s at_ c hs h w
  · by_cases h0 : s.size = 0
    · exact sealTells_empty s at_ c h0 w
    · exact sealTells_some s at_ c (by omega) (by omega) hc.1 hc.2 w
end Go.Proofs.Ytaddckdbhakgmaa
