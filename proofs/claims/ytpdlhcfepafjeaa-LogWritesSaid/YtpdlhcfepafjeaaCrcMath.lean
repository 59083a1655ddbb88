/- Plain law of the sums of package crc: the register as a number, its step, that it is linear, and that what isn't nothing stays so. No program in sight. -/
import Derived.WalkKit
namespace Go.Proofs.Ytpdlhcfepafjeaa

def crcP : Nat := 2197175160
def crcM : Nat := 4294967295
/-- One step of the register. -/
def cstep (v : Nat) : Nat := if v % 2 = 1 then (v / 2) ^^^ crcP else v / 2
def csteps : Nat → Nat → Nat
  | 0, v => v
  | n + 1, v => csteps n (cstep v)
/-- A byte more. -/
def cupd (v c : Nat) : Nat := csteps 8 (v ^^^ c)
def cfold (v : Nat) (l : List Nat) : Nat := l.foldl cupd v
def crc (l : List Nat) : Nat := crcM - cfold crcM l

theorem csteps_succ' (n v : Nat) : csteps (n + 1) v = cstep (csteps n v) := by
  induction n generalizing v with
  | zero => rfl
  | succ n ih => rw [csteps, ih (cstep v)]; rfl
theorem csteps_add (m n v : Nat) : csteps (m + n) v = csteps m (csteps n v) := by
  induction m with
  | zero => simp [csteps]
  | succ m ih => rw [show m + 1 + n = (m + n) + 1 by omega, csteps_succ', ih, csteps_succ']

theorem xor_mod_two (a b : Nat) : (a ^^^ b) % 2 = (a + b) % 2 := by
  have h := @Nat.xor_mod_two_eq_one a b
  have h2 := Nat.mod_two_eq_zero_or_one (a ^^^ b)
  generalize (a ^^^ b) % 2 = c at *
  omega
theorem xor_div_two' (a b : Nat) : (a ^^^ b) / 2 = (a / 2) ^^^ (b / 2) := Nat.xor_div_two
theorem cstep_xor (a b : Nat) : cstep (a ^^^ b) = cstep a ^^^ cstep b := by
  unfold cstep
  rw [xor_mod_two, xor_div_two']
  have ha : a % 2 = 0 ∨ a % 2 = 1 := by omega
  have hb : b % 2 = 0 ∨ b % 2 = 1 := by omega
  rcases ha with ha | ha <;> rcases hb with hb | hb
  · rw [if_neg (by omega), if_neg (by omega), if_neg (by omega)]
  · rw [if_pos (by omega), if_neg (by omega), if_pos (by omega), Nat.xor_assoc]
  · rw [if_pos (by omega), if_pos (by omega), if_neg (by omega), Nat.xor_assoc, Nat.xor_assoc, Nat.xor_comm crcP]
  · rw [if_neg (by omega), if_pos (by omega), if_pos (by omega)]
    rw [Nat.xor_assoc, Nat.xor_comm crcP, Nat.xor_assoc, Nat.xor_self, Nat.xor_zero]
theorem csteps_xor (n a b : Nat) : csteps n (a ^^^ b) = csteps n a ^^^ csteps n b := by
  induction n generalizing a b with
  | zero => rfl
  | succ n ih => simp only [csteps, cstep_xor, ih]
theorem cstep_double (v : Nat) : cstep (2 * v) = v := by
  unfold cstep; rw [if_neg (by omega)]; omega
theorem csteps_shift (n v : Nat) : csteps n (2 ^ n * v) = v := by
  induction n generalizing v with
  | zero => simp [csteps]
  | succ n ih =>
    rw [csteps, show 2 ^ (n + 1) * v = 2 * (2 ^ n * v) by rw [Nat.pow_succ, Nat.mul_comm (2 ^ n) 2, Nat.mul_assoc], cstep_double, ih]
theorem split_xor (n v : Nat) : v = (2 ^ n * (v / 2 ^ n)) ^^^ (v % 2 ^ n) := by
  apply Nat.eq_of_testBit_eq
  intro i
  simp [Nat.testBit_xor, Nat.testBit_mod_two_pow, Nat.testBit_two_pow_mul, Nat.testBit_div_two_pow]
  by_cases h : n ≤ i
  · simp [h, Nat.not_lt.2 h, Nat.sub_add_cancel h]
  · simp [h, Nat.lt_of_not_le h]
theorem csteps_split (n v : Nat) : csteps n v = (v / 2 ^ n) ^^^ csteps n (v % 2 ^ n) := by
  conv => lhs; rw [split_xor n v]
  rw [csteps_xor, csteps_shift]
theorem cstep_lt {v : Nat} (h : v < 2 ^ 32) : cstep v < 2 ^ 32 := by
  unfold cstep
  split
  · exact Nat.xor_lt_two_pow (by omega) (by decide)
  · omega
theorem csteps_lt (n : Nat) {v : Nat} (h : v < 2 ^ 32) : csteps n v < 2 ^ 32 := by
  induction n generalizing v with
  | zero => exact h
  | succ n ih => exact ih (cstep_lt h)
theorem cstep_ne {v : Nat} (h : v < 2 ^ 32) (hv : v ≠ 0) : cstep v ≠ 0 := by
  unfold cstep
  split
  · intro h0
    have : v / 2 = crcP := by
      have h1 := congrArg (· ^^^ crcP) h0
      simpa [Nat.xor_assoc] using h1
    simp only [crcP] at this
    omega
  · omega
theorem csteps_ne (n : Nat) {v : Nat} (h : v < 2 ^ 32) (hv : v ≠ 0) : csteps n v ≠ 0 := by
  induction n generalizing v with
  | zero => exact hv
  | succ n ih => exact ih (cstep_lt h) (cstep_ne h hv)

/-- The remainders of the half bytes. -/
def ctab (x : Nat) : Nat := csteps 4 x
theorem csteps_four (v : Nat) : csteps 4 v = (v / 16) ^^^ ctab (v % 16) := csteps_split 4 v
/-- The two turns of a byte, by half bytes. -/
def chalf (v : Nat) : Nat := (v / 16) ^^^ ctab (v % 16)
theorem cupd_halves (v c : Nat) : cupd v c = chalf (chalf (v ^^^ c)) := by
  unfold cupd chalf
  rw [show (8 : Nat) = 4 + 4 from rfl, csteps_add, csteps_four, csteps_four]
theorem ctab_lt {x : Nat} (h : x < 16) : ctab x < 2 ^ 32 := csteps_lt 4 (by omega)
theorem chalf_lt {v : Nat} (h : v < 2 ^ 32) : chalf v < 2 ^ 32 := by
  unfold chalf; exact Nat.xor_lt_two_pow (by omega) (ctab_lt (by omega))
theorem cupd_lt {v c : Nat} (h : v < 2 ^ 32) (hc : c < 256) : cupd v c < 2 ^ 32 := csteps_lt 8 (Nat.xor_lt_two_pow h (by omega))
theorem cfold_lt (l : List Nat) (hl : ∀ c ∈ l, c < 256) {v : Nat} (h : v < 2 ^ 32) : cfold v l < 2 ^ 32 := by
  induction l generalizing v with
  | nil => exact h
  | cons c l ih => exact ih (fun x hx => hl x (by simp [hx])) (cupd_lt h (hl c (by simp)))
theorem cfold_append (v : Nat) (a b : List Nat) : cfold v (a ++ b) = cfold (cfold v a) b := by simp [cfold]
theorem cfold_snoc (v : Nat) (a : List Nat) (c : Nat) : cfold v (a ++ [c]) = cupd (cfold v a) c := by simp [cfold]

/-- The document's way: bit by bit, the byte beside the register. -/
def rstep (p : Nat × Nat) : Nat × Nat := (if p.1 % 2 ≠ p.2 % 2 then (p.1 / 2) ^^^ crcP else p.1 / 2, p.2 / 2)
def rsteps : Nat → Nat × Nat → Nat × Nat
  | 0, p => p
  | n + 1, p => rsteps n (rstep p)
theorem rstep_xor (v c : Nat) : (rstep (v, c)).1 ^^^ (rstep (v, c)).2 = cstep (v ^^^ c) := by
  unfold rstep cstep
  rw [xor_mod_two, xor_div_two']
  by_cases h : v % 2 = c % 2
  · simp [h, show (v + c) % 2 ≠ 1 by omega]
  · simp [h, show (v + c) % 2 = 1 by omega]
    rw [Nat.xor_assoc, Nat.xor_assoc, Nat.xor_comm crcP]
theorem rsteps_xor (n : Nat) (p : Nat × Nat) : (rsteps n p).1 ^^^ (rsteps n p).2 = csteps n (p.1 ^^^ p.2) := by
  induction n generalizing p with
  | zero => rfl
  | succ n ih => rw [rsteps, ih, rstep_xor]; rfl
theorem rsteps_snd (n : Nat) (p : Nat × Nat) : (rsteps n p).2 = p.2 / 2 ^ n := by
  induction n generalizing p with
  | zero => simp [rsteps]
  | succ n ih => rw [rsteps, ih, rstep, Nat.div_div_eq_div_mul, Nat.pow_succ, Nat.mul_comm]
theorem rsteps_succ' (n : Nat) (p : Nat × Nat) : rsteps (n + 1) p = rstep (rsteps n p) := by
  induction n generalizing p with
  | zero => rfl
  | succ n ih => rw [rsteps, ih]; rfl
theorem rsteps_eight (v c : Nat) (hc : c < 256) : (rsteps 8 (v, c)).1 = cupd v c := by
  have h := rsteps_xor 8 (v, c)
  have h2 := rsteps_snd 8 (v, c)
  simp only at h h2
  rw [show c / 2 ^ 8 = 0 by omega] at h2
  rw [h2, Nat.xor_zero] at h
  exact h
end Go.Proofs.Ytpdlhcfepafjeaa
