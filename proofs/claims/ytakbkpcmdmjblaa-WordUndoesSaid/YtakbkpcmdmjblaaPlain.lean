/- Plain numbers: what is cut, added, shifted. No Go program in sight. -/
import Derived.Test.YtakbkpcmdmjblaaAwake
namespace Go.Proofs.Ytakbkpcmdmjblaa

theorem cut_pow {b : Int} (h : may b = true) (v : Nat) : cut v b = v % 2 ^ b.toNat := by unfold cut; rw [if_pos h]
theorem cut_no {b : Int} (h : may b = false) (v : Nat) : cut v b = 0 := by unfold cut; rw [h]; rfl
theorem cut_idem (v : Nat) (b : Int) : cut (cut v b) b = cut v b := by
  cases h : may b
  · rw [cut_no h, cut_no h]
  · rw [cut_pow h, cut_pow h, Nat.mod_mod]
theorem cut_of_lt {v : Nat} {b : Int} (h : may b = true) (hv : v < 2 ^ b.toNat) : cut v b = v := by rw [cut_pow h, Nat.mod_eq_of_lt hv]
theorem dvd_64 {b : Int} (h : may b = true) : 2 ^ b.toNat ∣ 18446744073709551616 := by
  rcases may_cases h with rfl | rfl | rfl | rfl | rfl <;> decide
theorem pow_le {b : Int} (h : may b = true) : 2 ^ b.toNat ≤ 18446744073709551616 := Nat.le_of_dvd (by decide) (dvd_64 h)
theorem cut_64mod {b : Int} (h : may b = true) (v : Nat) : cut (v % 18446744073709551616) b = cut v b := by
  rw [cut_pow h, cut_pow h, Nat.mod_mod_of_dvd _ (dvd_64 h)]
theorem cut_add {b : Int} (h : may b = true) (x y : Nat) : cut (cut x b + cut y b) b = cut (x + y) b := by
  simp only [cut_pow h]; rw [← Nat.add_mod]
theorem cut_mul {b : Int} (h : may b = true) (x y : Nat) : cut (cut x b * cut y b) b = cut (x * y) b := by
  simp only [cut_pow h]; rw [← Nat.mul_mod]
theorem cut_mul_left {b : Int} (h : may b = true) (x y : Nat) : cut (cut x b * y) b = cut (x * y) b := by
  simp only [cut_pow h]; rw [Nat.mod_mul_mod]

theorem two_of {k b : Int} (h : may b = true) (h1 : 1 ≤ k) (h2 : k ≤ 12) : two k b = true := by simp [two, h, h1, h2]
theorem doV_of {k b : Int} (h : may b = true) (h1 : 1 ≤ k) (h2 : k ≤ 12) (h4 : k ≠ 4) (x y : Nat) : doV k b x y = cut (way k.toNat b (cut x b) (cut y b)) b := by
  simp [doV, two_of h h1 h2, traps, h4]
theorem doC_of {k b : Int} (h : may b = true) (h1 : 1 ≤ k) (h2 : k ≤ 12) (h4 : k ≠ 4) (y : Nat) : doC k b y = 0 := by
  simp [doC, two_of h h1 h2, traps, h4]
theorem doV_add {b : Int} (h : may b = true) (x y : Nat) : doV 1 b x y = cut (x + y) b := by
  rw [doV_of h (by decide) (by decide) (by decide)]
  show cut ((cut x b + cut y b) % 18446744073709551616) b = _
  rw [cut_64mod h, cut_add h]
theorem doV_mul {b : Int} (h : may b = true) (x y : Nat) : doV 3 b x y = cut (x * y) b := by
  rw [doV_of h (by decide) (by decide) (by decide)]
  show cut ((cut x b * cut y b) % 18446744073709551616) b = _
  rw [cut_64mod h, cut_mul h]
theorem doV_sub {b : Int} (h : may b = true) (x y : Nat) : doV 2 b x y = cut (cut x b + (18446744073709551616 - cut y b)) b := by
  rw [doV_of h (by decide) (by decide) (by decide)]
  show cut ((cut x b + (18446744073709551616 - cut y b)) % 18446744073709551616) b = _
  rw [cut_64mod h]

/-- shifted up -/
theorem doV_shl {b : Int} (h : may b = true) (x y : Nat) : doV 8 b x y = cut (cut x b * 2 ^ cut y b) b := by
  rw [doV_of h (by decide) (by decide) (by decide)]
  show cut (if ((cut y b : Nat) : Int) < b then (cut x b * 2 ^ cut y b) % 18446744073709551616 else 0) b = _
  split
  · rw [cut_64mod h]
  · next hn =>
    have hb := may_bd h
    have e : cut y b = (cut y b - b.toNat) + b.toNat := by omega
    rw [cut_pow h, cut_pow h (cut x b * _), e, Nat.pow_add, ← Nat.mul_assoc, Nat.mul_mod_left]
    simp
/-- shifted down -/
theorem doV_shr {b : Int} (h : may b = true) (x y : Nat) : doV 9 b x y = cut x b / 2 ^ cut y b := by
  rw [doV_of h (by decide) (by decide) (by decide)]
  show cut (if ((cut y b : Nat) : Int) < b then cut x b / 2 ^ cut y b else 0) b = _
  have hx : cut x b < 2 ^ b.toNat := cut_lt_pow h
  split
  · exact cut_of_lt h (Nat.lt_of_le_of_lt (Nat.div_le_self _ _) hx)
  · next hn =>
    have hb := may_bd h
    have hp : 2 ^ b.toNat ≤ 2 ^ cut y b := Nat.pow_le_pow_right (by decide) (by omega)
    rw [Nat.div_eq_of_lt (Nat.lt_of_lt_of_le hx hp)]
    exact cut_of_lt h (by exact Nat.two_pow_pos _)

theorem shl_step {b : Int} (h : may b = true) (c k : Nat) : cut (cut (c * 2 ^ k) b * 2 % 18446744073709551616) b = cut (c * 2 ^ (k + 1)) b := by
  rw [cut_64mod h, cut_mul_left h, Nat.mul_assoc, ← Nat.pow_succ]
theorem shl_zero {b : Int} (h : may b = true) (c k d : Nat) (hk : k ≤ d) (h0 : cut (c * 2 ^ k) b = 0) : cut (c * 2 ^ d) b = 0 := by
  have e : d = k + (d - k) := by omega
  rw [e, Nat.pow_add, ← Nat.mul_assoc, ← cut_mul_left h, h0, Nat.zero_mul]
  rw [cut_pow h, Nat.zero_mod]
theorem shr_step (c k : Nat) : c / 2 ^ k / 2 = c / 2 ^ (k + 1) := by
  rw [Nat.div_div_eq_div_mul, ← Nat.pow_succ]
theorem shr_zero (c k d : Nat) (hk : k ≤ d) (h0 : c / 2 ^ k = 0) : c / 2 ^ d = 0 := by
  have e : d = k + (d - k) := by omega
  rw [e, Nat.pow_add, ← Nat.div_div_eq_div_mul, h0, Nat.zero_div]
end Go.Proofs.Ytakbkpcmdmjblaa
