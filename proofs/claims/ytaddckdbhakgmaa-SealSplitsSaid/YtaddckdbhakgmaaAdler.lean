/- Plain laws on Adler-32 (no program in sight). -/
namespace Rf.Adler

def st (p : Int × Int) (c : UInt8) : Int × Int := ((p.1 + (c.toNat : Int)) % 65521, (p.2 + (p.1 + (c.toNat : Int)) % 65521) % 65521)
def run (p : Int × Int) (l : List UInt8) : Int × Int := l.foldl st p
def pack (a b : Int) : Int := b % 65521 * 65536 + a % 65521
def lo (s : Int) : Int := s % 65536 % 65521
def hi (s : Int) : Int := s / 65536 % 65521
def more (s : Int) (l : List UInt8) : Int := pack (run (lo s, hi s) l).1 (run (lo s, hi s) l).2
def sum (l : List UInt8) : Int := more 1 l

theorem run_snoc (p : Int × Int) (l : List UInt8) (c : UInt8) : run p (l ++ [c]) = st (run p l) c := by simp [run, List.foldl_append]
theorem run_append (p : Int × Int) (l m : List UInt8) : run p (l ++ m) = run (run p l) m := by simp [run, List.foldl_append]

def Ok (p : Int × Int) : Prop := 0 ≤ p.1 ∧ p.1 ≤ 65520 ∧ 0 ≤ p.2 ∧ p.2 ≤ 65520
theorem st_ok (p : Int × Int) (c : UInt8) : Ok (st p c) := by unfold Ok st; dsimp only; omega
theorem run_ok (p : Int × Int) (h : Ok p) (l : List UInt8) : Ok (run p l) := by
  induction l generalizing p with
  | nil => exact h
  | cons c l ih => exact ih (st p c) (st_ok p c)
theorem start_ok (s : Int) : Ok (lo s, hi s) := by unfold Ok lo hi; dsimp only; omega
theorem pack_bd (a b : Int) : 0 ≤ pack a b ∧ pack a b ≤ 4294901760 + 65520 := by unfold pack; omega
theorem pack_nice (a b : Int) : lo (pack a b) = a % 65521 ∧ hi (pack a b) = b % 65521 := by unfold lo hi pack; omega
theorem more_bd (s : Int) (l : List UInt8) : 0 ≤ more s l ∧ more s l ≤ 4294967295 := by unfold more; have := pack_bd (run (lo s, hi s) l).1 (run (lo s, hi s) l).2; omega
theorem start_more (s : Int) (l : List UInt8) : (lo (more s l), hi (more s l)) = run (lo s, hi s) l := by
  unfold more
  obtain ⟨h1, h2⟩ := pack_nice (run (lo s, hi s) l).1 (run (lo s, hi s) l).2
  obtain ⟨a, b, c, d⟩ := run_ok _ (start_ok s) l
  rw [h1, h2]
  exact Prod.ext (by show (run (lo s, hi s) l).1 % 65521 = _; omega) (by show (run (lo s, hi s) l).2 % 65521 = _; omega)
theorem more_more (s : Int) (l m : List UInt8) : more (more s l) m = more s (l ++ m) := by
  have h := start_more s l
  show pack (run (lo (more s l), hi (more s l)) m).1 (run (lo (more s l), hi (more s l)) m).2 = _
  rw [h, ← run_append]; rfl
theorem sum_append (l m : List UInt8) : more (sum l) m = sum (l ++ m) := more_more 1 l m
theorem sum_eq (l : List UInt8) : sum l = (run (1, 0) l).2 * 65536 + (run (1, 0) l).1 := by
  have h : (lo 1, hi 1) = ((1 : Int), (0 : Int)) := by decide
  obtain ⟨a, b, c, d⟩ := run_ok _ (start_ok 1) l
  unfold sum more pack
  rw [h] at *
  omega

/-! ### the closed forms -/
def tot (l : List UInt8) : Int := (l.map fun c => (c.toNat : Int)).sum
/-- the bytes, each counted as often as it stands from the end -/
def wt : List UInt8 → Int
  | [] => 0
  | c :: l => ((l.length : Int) + 1) * (c.toNat : Int) + wt l

theorem tot_cons (c : UInt8) (l : List UInt8) : tot (c :: l) = (c.toNat : Int) + tot l := by simp [tot]
theorem tot_append (l m : List UInt8) : tot (l ++ m) = tot l + tot m := by
  induction l with
  | nil => simp [tot]
  | cons c l ih => rw [List.cons_append, tot_cons, tot_cons, ih]; omega
theorem wt_append (l m : List UInt8) : wt (l ++ m) = wt l + (m.length : Int) * tot l + wt m := by
  induction l with
  | nil => simp [wt, tot]
  | cons c l ih =>
    rw [List.cons_append, wt, wt, ih, tot_cons, List.length_append, Int.natCast_add]
    simp only [Int.add_mul, Int.mul_add]
    omega

theorem run_closed (a b : Int) (l : List UInt8) : ((run (a, b) l).1 - (a + tot l)) % 65521 = 0 ∧ ((run (a, b) l).2 - (b + (l.length : Int) * a + wt l)) % 65521 = 0 := by
  induction l generalizing a b with
  | nil => simp [run, tot, wt]
  | cons c l ih =>
    have h := ih (st (a, b) c).1 (st (a, b) c).2
    have e : run (a, b) (c :: l) = run ((st (a, b) c).1, (st (a, b) c).2) l := rfl
    rw [e, tot_cons, wt]
    obtain ⟨h1, h2⟩ := h
    have s1 : (st (a, b) c).1 = (a + (c.toNat : Int)) % 65521 := rfl
    have s2 : (st (a, b) c).2 = (b + (a + (c.toNat : Int)) % 65521) % 65521 := rfl
    refine ⟨by omega, ?_⟩
    generalize (run ((st (a, b) c).1, (st (a, b) c).2) l) = r at *
    have hl : ((c :: l).length : Int) = (l.length : Int) + 1 := by simp
    rw [hl]
    generalize (l.length : Int) = n at *
    generalize (c.toNat : Int) = x at *
    obtain ⟨k, hk⟩ : ∃ k, (st (a, b) c).1 = a + x - 65521 * k := ⟨(a + x) / 65521, by rw [s1]; omega⟩
    have h3 : (st (a, b) c).2 = (b + (st (a, b) c).1) % 65521 := by rw [s2, s1]
    rw [hk] at h2 h3
    have e1 : n * (a + x - 65521 * k) = n * a + n * x - 65521 * (n * k) := by
      rw [Int.mul_sub, Int.mul_add, ← Int.mul_assoc, Int.mul_comm n 65521, Int.mul_assoc]
    have e2 : (n + 1) * a = n * a + a := by rw [Int.add_mul, Int.one_mul]
    have e3 : (n + 1) * x = n * x + x := by rw [Int.add_mul, Int.one_mul]
    rw [e1] at h2
    rw [e2, e3]
    omega

theorem pack_congr {a a' b b' : Int} (h1 : (a - a') % 65521 = 0) (h2 : (b - b') % 65521 = 0) : pack a b = pack a' b' := by
  unfold pack
  have e1 : a % 65521 = a' % 65521 := by omega
  have e2 : b % 65521 = b' % 65521 := by omega
  rw [e1, e2]
theorem sum_closed (l : List UInt8) : sum l = pack (1 + tot l) ((l.length : Int) + wt l) := by
  have h : (lo 1, hi 1) = ((1 : Int), (0 : Int)) := by decide
  obtain ⟨h1, h2⟩ := run_closed 1 0 l
  unfold sum more
  rw [h]
  exact pack_congr h1 (by rw [Int.mul_one] at h2; omega)
theorem lo_sum (l : List UInt8) : lo (sum l) = (1 + tot l) % 65521 := by rw [sum_closed]; exact (pack_nice _ _).1
theorem hi_sum (l : List UInt8) : hi (sum l) = ((l.length : Int) + wt l) % 65521 := by rw [sum_closed]; exact (pack_nice _ _).2

/-- products count modulo 65521 too -/
theorem mul_mod (n t : Int) : (n % 65521 * (t % 65521) - n * t) % 65521 = 0 := by
  have := Int.mul_emod n t 65521
  omega

def rollF (s n out inn : Int) : Int := pack ((lo s + 65521 - out + inn) % 65521) ((hi s + 65521 - n % 65521 * out % 65521 + (lo s + 65521 - out + inn) % 65521 + 65521 - 1) % 65521)
def joinF (x y n : Int) : Int := pack (lo x + lo y + 65521 - 1) (hi x + hi y + n % 65521 * ((lo x + 65521 - 1) % 65521))

theorem join_sum (a b : List UInt8) : joinF (sum a) (sum b) (b.length : Int) = sum (a ++ b) := by
  unfold joinF
  rw [sum_closed (a ++ b), lo_sum, lo_sum, hi_sum, hi_sum, tot_append, wt_append, List.length_append]
  refine pack_congr (by omega) ?_
  have e : ((1 + tot a) % 65521 + 65521 - 1) % 65521 = tot a % 65521 := by omega
  have h := mul_mod (b.length : Int) (tot a)
  rw [e, Int.natCast_add]
  omega

theorem roll_sum (c d : UInt8) (l : List UInt8) : rollF (sum (c :: l)) ((c :: l).length : Int) (c.toNat : Int) (d.toNat : Int) = sum (l ++ [d]) := by
  unfold rollF
  rw [sum_closed (l ++ [d]), lo_sum, hi_sum, tot_append, wt_append, List.length_append, tot_cons, wt]
  have hc := c.toNat_lt
  have hd := d.toNat_lt
  have e1 : ((c :: l).length : Int) = (l.length : Int) + 1 := by simp
  have e2 : tot [d] = (d.toNat : Int) := by simp [tot]
  have e3 : wt [d] = (d.toNat : Int) := by simp [wt]
  have e4 : (([d] : List UInt8).length : Int) = 1 := rfl
  have h := mul_mod ((l.length : Int) + 1) (c.toNat : Int)
  have hcm : (c.toNat : Int) % 65521 = (c.toNat : Int) := by omega
  rw [hcm] at h
  rw [e1, e2, e3, Int.natCast_add, e4, Int.one_mul]
  refine pack_congr (by omega) ?_
  omega

theorem tot_set (l : List UInt8) (k : Nat) (h : k < l.length) (c : UInt8) : tot (l.set k c) = tot l - ((l[k]).toNat : Int) + (c.toNat : Int) := by
  induction l generalizing k with
  | nil => simp at h
  | cons x l ih =>
    cases k with
    | zero => simp only [List.set_cons_zero, tot_cons, List.getElem_cons_zero]; omega
    | succ k => simp only [List.set_cons_succ, tot_cons, List.getElem_cons_succ]; rw [ih k (by simpa using h)]; omega

/-- one byte that is turned turns the sum -/
theorem sum_set_ne (l : List UInt8) (k : Nat) (h : k < l.length) (c : UInt8) (hc : c ≠ l[k]) : sum (l.set k c) ≠ sum l := by
  intro e
  have e1 := congrArg lo e
  rw [lo_sum, lo_sum, tot_set l k h c] at e1
  have h1 := c.toNat_lt
  have h2 := (l[k]).toNat_lt
  have : c.toNat ≠ (l[k]).toNat := fun h => hc (UInt8.toNat_inj.1 h)
  omega
end Rf.Adler
