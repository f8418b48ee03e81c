/- What each of the functions of 'ways' gives. -/
import Derived.Test.YtakbkpcmdmjblaaLeaf
namespace Go.Proofs.Ytakbkpcmdmjblaa
open Go.RowKit

/-- what a kind does, of numbers that are cut -/
def way (k : Nat) (n : Int) (a b : Nat) : Nat :=
  match k with
  | 1 => (a + b) % 18446744073709551616
  | 2 => (a + (18446744073709551616 - b)) % 18446744073709551616
  | 3 => (a * b) % 18446744073709551616
  | 4 => a / b
  | 5 => a &&& b
  | 6 => a ||| b
  | 7 => a ^^^ b
  | 8 => if (b : Int) < n then (a * 2 ^ b) % 18446744073709551616 else 0
  | 9 => if (b : Int) < n then a / 2 ^ b else 0
  | 10 => one (decide (a = b))
  | 11 => one (decide (a < b))
  | 12 => one (decide (sgn a n < sgn b n))
  | _ => 0

def Gives (r : Nat) (w : World) (e : Ending) (w' : World) : Prop := e = .returned (.int .u64 r) ∧ w = w'

theorem u64_in {n : Nat} (h : n < 18446744073709551616) : IntKind.u64.wrap (n : Int) = n := by rw [u64_wrap]; omega

section
variable (a b r : Nat) (w : World)
theorem w_add (hr : way 1 0 a b = r) : Calls Try.prog 25 #[.int .u64 a, .int .u64 b] w (Gives r w) := by
  have HR := Lib.hid hr
  clear hr
  go_enter Try.func25, Try.ntmps25
  go_wp2
  go_ret
  refine ⟨ret_u64 ?_, rfl⟩
  rw [← HR.out, u64_wrap]
  simp only [way]
  omega
theorem w_sub (hb : b < 18446744073709551616) (hr : way 2 0 a b = r) : Calls Try.prog 26 #[.int .u64 a, .int .u64 b] w (Gives r w) := by
  have HR := Lib.hid hr
  have HB := Lib.hid hb
  clear hr hb
  go_enter Try.func26, Try.ntmps26
  go_wp2
  go_ret
  refine ⟨ret_u64 ?_, rfl⟩
  have hb := HB.out
  rw [← HR.out, u64_wrap]
  simp only [way]
  omega
theorem w_mul (hr : way 3 0 a b = r) : Calls Try.prog 27 #[.int .u64 a, .int .u64 b] w (Gives r w) := by
  have HR := Lib.hid hr
  clear hr
  go_enter Try.func27, Try.ntmps27
  go_wp2
  go_ret
  refine ⟨ret_u64 ?_, rfl⟩
  rw [← HR.out, u64_wrap]
  simp only [way]
  rw [Int.natCast_emod, Int.natCast_mul]; simp only [Int.cast_ofNat_Int]
theorem w_div (h0 : 0 < b) (ha : a < 18446744073709551616) (hr : way 4 0 a b = r) : Calls Try.prog 28 #[.int .u64 a, .int .u64 b] w (Gives r w) := by
  have HR := Lib.hid hr
  have HA := Lib.hid ha
  have h1 : (1 : Int) ≤ b := by omega
  clear hr ha h0
  go_enter Try.func28, Try.ntmps28
  go_wp2
  go_ret
  refine ⟨ret_u64 ?_, rfl⟩
  rw [← HR.out, ← Int.natCast_ediv]
  exact u64_in (Nat.lt_of_le_of_lt (Nat.div_le_self _ _) HA.out)
theorem w_and (ha : a < 18446744073709551616) (hb : b < 18446744073709551616) (hr : way 5 0 a b = r) : Calls Try.prog 29 #[.int .u64 a, .int .u64 b] w (Gives r w) := by
  have HR := Lib.hid hr
  have HA := Lib.hid ha
  have HB := Lib.hid hb
  clear hr ha hb
  go_enter Try.func29, Try.ntmps29
  go_wp2
  go_ret
  refine ⟨ret_u64 ?_, rfl⟩
  rw [← HR.out]
  exact u64_and_nat a b HA.out HB.out
theorem w_or (ha : a < 18446744073709551616) (hb : b < 18446744073709551616) (hr : way 6 0 a b = r) : Calls Try.prog 30 #[.int .u64 a, .int .u64 b] w (Gives r w) := by
  have HR := Lib.hid hr
  have HA := Lib.hid ha
  have HB := Lib.hid hb
  clear hr ha hb
  go_enter Try.func30, Try.ntmps30
  go_wp2
  go_ret
  refine ⟨ret_u64 ?_, rfl⟩
  rw [← HR.out]
  exact u64_or_nat a b HA.out HB.out
theorem w_xor (ha : a < 18446744073709551616) (hb : b < 18446744073709551616) (hr : way 7 0 a b = r) : Calls Try.prog 31 #[.int .u64 a, .int .u64 b] w (Gives r w) := by
  have HR := Lib.hid hr
  have HA := Lib.hid ha
  have HB := Lib.hid hb
  clear hr ha hb
  go_enter Try.func31, Try.ntmps31
  go_wp2
  go_ret
  refine ⟨ret_u64 ?_, rfl⟩
  rw [← HR.out]
  exact u64_xor_nat a b HA.out HB.out
theorem w_eq (hr : way 10 0 a b = r) : Calls Try.prog 35 #[.int .u64 a, .int .u64 b] w (Gives r w) := by
  have HR := Lib.hid hr
  clear hr
  go_enter Try.func35, Try.ntmps35
  go_wp2_with fail
  refine (one_any _ _ rfl _).mono ?_
  rintro e w' ⟨rfl, rfl⟩
  go_wp2_with fail
  go_ret
  refine ⟨ret_u64 ?_, rfl⟩
  rw [← HR.out]
  simp only [way]
  congr 2
  rw [Bool.eq_iff_iff]; simp; omega
theorem w_ult (hr : way 11 0 a b = r) : Calls Try.prog 36 #[.int .u64 a, .int .u64 b] w (Gives r w) := by
  have HR := Lib.hid hr
  clear hr
  go_enter Try.func36, Try.ntmps36
  go_wp2_with fail
  refine (one_any _ _ rfl _).mono ?_
  rintro e w' ⟨rfl, rfl⟩
  go_wp2_with fail
  go_ret
  refine ⟨ret_u64 ?_, rfl⟩
  rw [← HR.out]
  simp only [way]
end

section
variable (a b r : Nat) (n : Int) (p : Addr) (w : World)
theorem and63 (hb : b < 18446744073709551616) : bits .and .u64 b 63 = ((b % 64 : Nat) : Int) := by
  rw [show (63 : Int) = ((63 : Nat) : Int) from rfl, u64_and_nat b 63 hb (by decide), show (63 : Nat) = 2 ^ 6 - 1 from rfl, Nat.and_two_pow_sub_one_eq_mod]
theorem w_shl (hp : w.cell? p = some (.int .i64 n)) (hn : 1 ≤ n) (hn' : n ≤ 64) (hb : b < 18446744073709551616) (hr : way 8 n a b = r) : Calls Try.prog 32 #[.int .u64 a, .int .u64 b, .pointer (some p)] w (Gives r w) := by
  have hm := and63 b hb
  have HR := Lib.hid hr
  have HB := Lib.hid hb
  clear hr hb
  go_enter Try.func32, Try.ntmps32
  go_wp2_with fail
  refine (one_any _ _ rfl _).mono ?_
  rintro e w' ⟨rfl, rfl⟩
  go_wp2_with fail
  go_ret
  refine ⟨ret_u64 ?_, rfl⟩
  rw [← HR.out]
  simp only [way, u64_wrap]
  by_cases h : (b : Int) < n
  · have hb64 : b % 64 = b := Nat.mod_eq_of_lt (by omega)
    rw [hb64]
    simp only [h, decide_true, if_true, one]
    rw [Int.natCast_emod, Int.natCast_mul, Int.natCast_pow]
    simp
  · simp only [h, decide_false, if_false, one]
    simp
theorem w_shr (hp : w.cell? p = some (.int .i64 n)) (hn : 1 ≤ n) (hn' : n ≤ 64) (ha : a < 18446744073709551616) (hb : b < 18446744073709551616) (hr : way 9 n a b = r) : Calls Try.prog 34 #[.int .u64 a, .int .u64 b, .pointer (some p)] w (Gives r w) := by
  have hm := and63 b hb
  have HR := Lib.hid hr
  have HA := Lib.hid ha
  have HB := Lib.hid hb
  clear hr ha hb
  go_enter Try.func34, Try.ntmps34
  go_wp2_with fail
  refine (one_any _ _ rfl _).mono ?_
  rintro e w' ⟨rfl, rfl⟩
  go_wp2_with fail
  go_ret
  refine ⟨ret_u64 ?_, rfl⟩
  rw [← HR.out]
  simp only [way, u64_wrap]
  by_cases h : (b : Int) < n
  · have hb64 : b % 64 = b := Nat.mod_eq_of_lt (by omega)
    rw [hb64]
    simp only [h, decide_true, if_true, one]
    have h3 := Nat.lt_of_le_of_lt (Nat.div_le_self a (2 ^ b)) HA.out
    have e : ((1 : Nat) : Int) * ((a : Int) / 2 ^ b) = ((a / 2 ^ b : Nat) : Int) := by
      rw [Int.natCast_ediv, Int.natCast_pow]; simp
    rw [e]
    generalize a / 2 ^ b = q at h3
    omega
  · simp only [h, decide_false, if_false, one]
    simp
theorem w_slt (hp : w.cell? p = some (.int .i64 n)) (ha : a < 18446744073709551616) (hb : b < 18446744073709551616) (hr : way 12 n a b = r) : Calls Try.prog 37 #[.int .u64 a, .int .u64 b, .pointer (some p)] w fun e w' => e = .returned (.int .u64 r) ∧ ∃ m, w' = w.drewN m := by
  have HR := Lib.hid hr
  have HA := Lib.hid ha
  have HB := Lib.hid hb
  clear hr ha hb
  obtain ⟨x, hx⟩ : ∃ x, sgn a n = x := ⟨_, rfl⟩
  obtain ⟨y, hy⟩ : ∃ y, sgn b n = y := ⟨_, rfl⟩
  have HX := Lib.hid hx
  have HY := Lib.hid hy
  clear hx hy
  go_enter Try.func37, Try.ntmps37
  go_wp2_with fail
  go_quiet ((first | (go_at_call 18; with_reducible exact Calls.quiet_of_same ((sgn_any a HA.out n x HX.out _).mono fun _ _ h => ⟨h.1, h.2.symm⟩)) | (go_at_call 18; with_reducible exact Calls.quiet_of_same ((sgn_any b HB.out n y HY.out _).mono fun _ _ h => ⟨h.1, h.2.symm⟩)) | (go_at_call 33; with_reducible exact Calls.quiet_of_same ((one_any _ _ rfl _).mono fun _ _ h => ⟨h.1, h.2.symm⟩))))
  go_wp2_with fail
  go_ret
  refine ⟨ret_u64 ?_, _, rfl⟩
  rw [← HR.out]
  simp only [way]
  rw [HX.out, HY.out]
end
end Go.Proofs.Ytakbkpcmdmjblaa
