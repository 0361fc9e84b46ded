/- a row of acts that came in: opened -/
import Derived.Test.YtaddckdbhakgmaaRows
import Derived.Test.YtaddckdbhakgmaaActs
import Derived.Lib.SmallJoins
import Derived.WalkKit
import Derived.OpenShut
namespace Go.Proofs.Ytaddckdbhakgmaa
open Go.ChangeShapes Go.WideShapes Go.RowKit Go.Deep

theorem act_one : oneCellFields Try.prog (match Try.prog.underlying 45 with | some (.struct fs) => fs | _ => #[]) = true := by kernel_rfl
theorem act_types : (match Try.prog.underlying 45 with | some (.struct fs) => fs | _ => #[]).map Field.type = #[3, 3, 43, 9] := by kernel_rfl
theorem act_struct : ∃ fs, Try.prog.underlying 45 = some (.struct fs) ∧ oneCellFields Try.prog fs = true ∧ fs.map Field.type = #[3, 3, 43, 9] := by
  have h0 : (match Try.prog.underlying 45 with | some (.struct _) => true | _ => false) = true := by kernel_rfl
  have h1 := act_one
  have h2 := act_types
  generalize Try.prog.underlying 45 = u at h0 h1 h2
  cases u with
  | none => simp at h0
  | some d => cases d <;> simp at h0; exact ⟨_, rfl, h1, h2⟩
theorem act_row : Try.prog.underlying 39 = some (.slice 45) := by kernel_rfl
theorem act_cells : Try.prog.cellsOf 45 = 4 := by kernel_rfl

theorem open_acts {H : Type} {enc : TypeId × Value → H} {w : World} {base : Nat} {spare : Nat → Bool} {held : Bool} {a : Option Addr} {len cap : Nat} {d : DataW H} {p : List MemPlace}
    (h : DataW.Trod enc Try.prog w base spare held 39 (.slice a len cap) d p) : ∃ z : Nat → ActD, len ≤ maxLen ∧ RowAct w a len z := by
  obtain ⟨fuel, hf⟩ := h
  rcases open_slice act_row hf with ⟨hcs, _⟩ | ⟨x, l, c, m, n, D, Pl, hcs, _, hl, hm, hmm, _, hi⟩
  · simp [Value.cells] at hcs
    obtain ⟨rfl, rfl, rfl⟩ := hcs
    exact ⟨fun _ => ⟨0, 0, 0, .empty⟩, by unfold maxLen; omega, fun i hi => absurd hi (by omega)⟩
  · simp [Value.cells] at hcs
    obtain ⟨rfl, rfl, rfl⟩ := hcs
    have hlm : len ≤ m := by rw [hmm]; split <;> omega
    have key : ∀ i, i < len → ∃ y : ActD, y.Ok ∧ w.cell? (x.add (i * 4)) = some (.int .i64 y.K) ∧ w.cell? ((x.add (i * 4)).add 1) = some (.int .i64 y.W) ∧ w.cell? ((x.add (i * 4)).add 2) = some (.int .u64 y.N) ∧ w.cell? ((x.add (i * 4)).add 3) = some (.string y.S) := by
      intro i hil
      obtain ⟨cs', hc, ht'⟩ := hi i (by omega)
      rw [act_cells] at hc
      obtain ⟨fs, he, hone, hty⟩ := act_struct
      obtain ⟨ys, n', _, _, hlen, hyl, hg⟩ := DataW.trod_struct he ht'
      rw [act_cells] at hlen
      obtain ⟨_, _, hat⟩ := World.cells?_some hc
      have hfs : fs.size = 4 := by have := congrArg Array.size hty; simpa using this
      have e0 := hat 0 (by omega)
      have e1 := hat 1 (by omega)
      have e2 := hat 2 (by omega)
      have e3 := hat 3 (by omega)
      obtain ⟨o0, k0⟩ := hone_of hone 0 fs[0] (by simp [hfs])
      obtain ⟨o1, k1⟩ := hone_of hone 1 fs[1] (by simp [hfs])
      obtain ⟨o2, k2⟩ := hone_of hone 2 fs[2] (by simp [hfs])
      obtain ⟨o3, k3⟩ := hone_of hone 3 fs[3] (by simp [hfs])
      have g0 := hg 0 fs[0] (by simp [hfs])
      have g1 := hg 1 fs[1] (by simp [hfs])
      have g2 := hg 2 fs[2] (by simp [hfs])
      have g3 := hg 3 fs[3] (by simp [hfs])
      rw [o0, k0] at g0
      rw [o1, k1] at g1
      rw [o2, k2] at g2
      rw [o3, k3] at g3
      have t0 : fs[0].type = 3 := by have := congrArg (·[0]?) hty; simpa [hfs] using this
      have t1 : fs[1].type = 3 := by have := congrArg (·[1]?) hty; simpa [hfs] using this
      have t2 : fs[2].type = 43 := by have := congrArg (·[2]?) hty; simpa [hfs] using this
      have t3 : fs[3].type = 9 := by have := congrArg (·[3]?) hty; simpa [hfs] using this
      rw [t0] at g0
      rw [t1] at g1
      rw [t2] at g2
      rw [t3] at g3
      obtain ⟨v0, v1, v2, v3, rfl⟩ : ∃ v0 v1 v2 v3, cs' = [v0, v1, v2, v3] := by
        match cs', hlen with
        | [v0, v1, v2, v3], _ => exact ⟨_, _, _, _, rfl⟩
      change DataW.trod enc _ w base spare held n' _ [v0] = _ at g0
      change DataW.trod enc _ w base spare held n' _ [v1] = _ at g1
      change DataW.trod enc _ w base spare held n' _ [v2] = _ at g2
      change DataW.trod enc _ w base spare held n' _ [v3] = _ at g3
      have y0 : ys[0]? = some (ys[0]'(by omega)) := List.getElem?_eq_getElem _
      have y1 : ys[1]? = some (ys[1]'(by omega)) := List.getElem?_eq_getElem _
      have y2 : ys[2]? = some (ys[2]'(by omega)) := List.getElem?_eq_getElem _
      have y3 : ys[3]? = some (ys[3]'(by omega)) := List.getElem?_eq_getElem _
      obtain ⟨n0, q0, _, b0⟩ := DataW.trod_int (k := .i64) (by kernel_rfl) (g0.trans y0)
      obtain ⟨n1, q1, _, b1⟩ := DataW.trod_int (k := .i64) (by kernel_rfl) (g1.trans y1)
      obtain ⟨n2, q2, _, b2⟩ := DataW.trod_int (k := .u64) (by kernel_rfl) (g2.trans y2)
      obtain ⟨n3, q3, _, b3⟩ := DataW.trod_string (by kernel_rfl) (g3.trans y3)
      obtain rfl := (List.cons.inj q0).1
      obtain rfl := (List.cons.inj q1).1
      obtain rfl := (List.cons.inj q2).1
      obtain rfl := (List.cons.inj q3).1
      have c0 := bounds_i64 b0
      have c1 := bounds_i64 b1
      have c2 := bounds_u64 b2
      refine ⟨⟨n0, n1, n2, n3⟩, ⟨c0.1, c0.2, c1.1, c1.2, c2.1, c2.2, b3⟩, ?_, ?_, ?_, ?_⟩
      · simpa [Addr.add] using e0
      · simpa using e1
      · simpa using e2
      · simpa using e3
    by_cases h0 : len = 0
    · subst h0
      exact ⟨fun _ => ⟨0, 0, 0, .empty⟩, by unfold maxLen; omega, fun i hi => absurd hi (by omega)⟩
    obtain ⟨b, off, spot⟩ := x
    obtain ⟨y, _, hc0, _⟩ := key 0 (by omega)
    have hspot : spot = none := by simpa [Addr.add] using World.cell?_spot hc0
    subst hspot
    refine ⟨fun i => if hi : i < len then (key i hi).choose else ⟨0, 0, 0, .empty⟩, Nat.le_trans hl hm, fun i hi => ?_⟩
    have hk := (key i hi).choose_spec
    dsimp only
    rw [dif_pos hi]
    generalize (key i hi).choose = y at hk
    obtain ⟨ho, f0, f1, f2, f3⟩ := hk
    simp only [Addr.add_lit] at f0 f1 f2 f3
    exact ⟨b, off, rfl, World.block_lt_of_cell? _ _ f0, ho, f0, f1, f2, f3⟩
end Go.Proofs.Ytaddckdbhakgmaa
