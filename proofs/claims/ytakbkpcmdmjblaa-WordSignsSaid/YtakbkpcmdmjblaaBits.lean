/- The walk of WordBits: it gives true. -/
import Derived.Test.YtakbkpcmdmjblaaLaws
namespace Go.Proofs.Ytakbkpcmdmjblaa
open Go.RowKit

theorem doV_and {b : Int} (h : may b = true) (x y : Nat) : doV 5 b x y = cut x b &&& cut y b := by
  rw [doV_of h (by decide) (by decide) (by decide)]
  exact cut_of_lt h (Nat.lt_of_le_of_lt Nat.and_le_left (cut_lt_pow h))
theorem doV_or {b : Int} (h : may b = true) (x y : Nat) : doV 6 b x y = cut x b ||| cut y b := by
  rw [doV_of h (by decide) (by decide) (by decide)]
  exact cut_of_lt h (Nat.or_lt_two_pow (cut_lt_pow h) (cut_lt_pow h))
theorem doV_xor {b : Int} (h : may b = true) (x y : Nat) : doV 7 b x y = cut x b ^^^ cut y b := by
  rw [doV_of h (by decide) (by decide) (by decide)]
  exact cut_of_lt h (Nat.xor_lt_two_pow (cut_lt_pow h) (cut_lt_pow h))
theorem cut_all {b : Int} (h : may b = true) : cut 18446744073709551615 b = 2 ^ b.toNat - 1 := by
  rcases may_cases h with rfl | rfl | rfl | rfl | rfl <;> decide
theorem bit_hi {c n i : Nat} (h : c < 2 ^ n) (hi : ¬ i < n) : c.testBit i = false :=
  Nat.testBit_lt_two_pow (Nat.lt_of_lt_of_le h (Nat.pow_le_pow_right (by decide) (by omega)))
theorem not_and {c n : Nat} (h : c < 2 ^ n) : c &&& (c ^^^ (2 ^ n - 1)) = 0 := by
  apply Nat.eq_of_testBit_eq
  intro i
  simp only [Nat.testBit_and, Nat.testBit_xor, Nat.testBit_two_pow_sub_one, Nat.zero_testBit]
  by_cases hi : i < n
  · simp [hi]
  · simp [bit_hi h hi]
theorem not_or {c n : Nat} (h : c < 2 ^ n) : c ||| (c ^^^ (2 ^ n - 1)) = 2 ^ n - 1 := by
  apply Nat.eq_of_testBit_eq
  intro i
  simp only [Nat.testBit_or, Nat.testBit_xor, Nat.testBit_two_pow_sub_one]
  by_cases hi : i < n
  · simp [hi]
  · simp [bit_hi h hi, hi]
theorem not_xor {c n : Nat} : c ^^^ (c ^^^ (2 ^ n - 1)) = 2 ^ n - 1 := by
  rw [← Nat.xor_assoc, Nat.xor_self, Nat.zero_xor]

section
variable {b : Int} (h : may b = true) (v : Nat)
include h
theorem cut_not : cut (doV 7 b v (cut 18446744073709551615 b)) b = cut v b ^^^ (2 ^ b.toNat - 1) := by
  rw [doV_cut, doV_xor h, cut_idem, cut_all h]
theorem bits_1 : doV 5 b v (doV 7 b v (cut 18446744073709551615 b)) = 0 := by
  rw [doV_and h, cut_not h]; exact not_and (cut_lt_pow h)
theorem bits_2 : doV 6 b v (doV 7 b v (cut 18446744073709551615 b)) = cut 18446744073709551615 b := by
  rw [doV_or h, cut_not h, cut_all h]; exact not_or (cut_lt_pow h)
theorem bits_3 : doV 7 b v (doV 7 b v (cut 18446744073709551615 b)) = cut 18446744073709551615 b := by
  rw [doV_xor h, cut_not h, cut_all h]; exact not_xor
theorem bits_4 : doV 7 b v v = 0 := by rw [doV_xor h, Nat.xor_self]
theorem bits_5 : doV 5 b v v = cut v b := by rw [doV_and h, Nat.and_self]
theorem bits_6 : doV 6 b v v = cut v b := by rw [doV_or h, Nat.or_self]
end

set_option maxHeartbeats 2000000 in
set_option maxRecDepth 100000 in
theorem bits_any (x : Nat) (hx : x < 18446744073709551616) (w : World) :
    Calls Try.prog 8 #[.int .u64 x] w (GrownTrue w) := by
  have HX := Lib.hid hx
  clear hx
  go_enter Try.func8, Try.ntmps8
  go_wp2_with fail
  refine (awake_any _).mono ?_
  rintro e w1 ⟨rfl, hb1⟩
  go_wp2_with fail
  go_loopw [24] (fun i wr => AtList w1.heap.size 5 (fun K => may K = true) w i wr) (fun i _ => 5 - (intOf i).toNat)
  case atStart =>
    refine ⟨0, by omega, rfl, hb1.alloc hb1.size _, by simp, hb1.size, fun t ht => ?_⟩
    match t, ht with
    | 0, _ => exact ⟨1, by decide, by go_simp⟩
    | 1, _ => exact ⟨8, by decide, by go_simp⟩
    | 2, _ => exact ⟨16, by decide, by go_simp⟩
    | 3, _ => exact ⟨32, by decide, by go_simp⟩
    | 4, _ => exact ⟨64, by decide, by go_simp⟩
  case round =>
    have HAT := Lib.hid hrel
    obtain ⟨j, hj, rfl, hbw, hB, hBw, hcells⟩ := hrel
    have HB := Lib.hid hbw
    have HCS := Lib.hid hcells
    clear hbw hb1 hcells hB hBw
    by_cases hlt : j < 5
    · obtain ⟨K, hQ, hcell⟩ := HCS.out j hlt
      obtain ⟨t, ht⟩ : ∃ t, cut 18446744073709551615 K = t := ⟨_, rfl⟩
      obtain ⟨n, hn⟩ : ∃ n, doV 7 K x t = n := ⟨_, rfl⟩
      obtain ⟨c, hc⟩ : ∃ c, cut x K = c := ⟨_, rfl⟩
      have HT := Lib.hid ht
      have HN := Lib.hid hn
      have HC := Lib.hid hc
      have HTL : Hid (t < 18446744073709551616) := Lib.hid (by rw [← ht]; exact cut_lt _ (by decide))
      have HNL : Hid (n < 18446744073709551616) := Lib.hid (by rw [← hn]; exact doV_lt _ _ _ _)
      have B1 : Hid (doV 5 K x n = 0) := Lib.hid (by rw [← hn, ← ht]; exact bits_1 hQ x)
      have B2 : Hid (doV 6 K x n = t) := Lib.hid (by rw [← hn, ← ht]; exact bits_2 hQ x)
      have B3 : Hid (doV 7 K x n = t) := Lib.hid (by rw [← hn, ← ht]; exact bits_3 hQ x)
      have B4 : Hid (doV 7 K x x = 0) := Lib.hid (bits_4 hQ x)
      have B5 : Hid (doV 5 K x x = c) := Lib.hid (by rw [← hc]; exact bits_5 hQ x)
      have B6 : Hid (doV 6 K x x = c) := Lib.hid (by rw [← hc]; exact bits_6 hQ x)
      have C : Hid (∀ y, doC 5 K y = 0 ∧ doC 6 K y = 0 ∧ doC 7 K y = 0) := Lib.hid (fun y => ⟨doC_of hQ (by decide) (by decide) (by decide) _, doC_of hQ (by decide) (by decide) (by decide) _, doC_of hQ (by decide) (by decide) (by decide) _⟩)
      clear ht hn hc hQ
      have hj0 : (0 : Int) ≤ (j : Int) := by omega
      have hj1 : (j : Int) < 5 := by omega
      go_wp2_with fail
      refine (cut_at 18446744073709551615 (by decide) _ _ HT.out _ rfl _).mono ?_
      rintro e w' ⟨rfl, rfl⟩
      go_wp2_with fail
      refine (do_any _ _ _ _ HX.out HTL.out _ _ HN.out (C.out _).2.2 _).mono ?_
      rintro e w2 ⟨rfl, hb2⟩
      have HAT2 := Lib.hid (HAT.out.next hb2 (j + 1) (by omega))
      clear hb2
      go_wp2_with fail
      refine (do_any _ _ _ _ HX.out HNL.out _ _ B1.out (C.out _).1 _).mono ?_
      rintro e w3 ⟨rfl, hb3⟩
      have HAT3 := Lib.hid (HAT2.out.next hb3 (j + 1) (by omega))
      clear hb3 HAT2
      go_wp2_with fail
      refine (do_any _ _ _ _ HX.out HNL.out _ _ B2.out (C.out _).2.1 _).mono ?_
      rintro e w4 ⟨rfl, hb4⟩
      have HAT4 := Lib.hid (HAT3.out.next hb4 (j + 1) (by omega))
      clear hb4 HAT3
      go_wp2_with fail
      refine (do_any _ _ _ _ HX.out HNL.out _ _ B3.out (C.out _).2.2 _).mono ?_
      rintro e w5 ⟨rfl, hb5⟩
      have HAT5 := Lib.hid (HAT4.out.next hb5 (j + 1) (by omega))
      clear hb5 HAT4
      go_wp2_with fail
      refine (do_any _ _ _ _ HX.out HX.out _ _ B4.out (C.out _).2.2 _).mono ?_
      rintro e w6 ⟨rfl, hb6⟩
      have HAT6 := Lib.hid (HAT5.out.next hb6 (j + 1) (by omega))
      clear hb6 HAT5
      go_wp2_with fail
      refine (do_any _ _ _ _ HX.out HX.out _ _ B5.out (C.out _).1 _).mono ?_
      rintro e w7 ⟨rfl, hb7⟩
      have HAT7 := Lib.hid (HAT6.out.next hb7 (j + 1) (by omega))
      clear hb7 HAT6
      go_wp2_with fail
      refine (do_any _ _ _ _ HX.out HX.out _ _ B6.out (C.out _).2.1 _).mono ?_
      rintro e w8 ⟨rfl, hb8⟩
      have HAT8 := Lib.hid (HAT7.out.next hb8 (j + 1) (by omega))
      clear hb8 HAT7
      go_wp2_with fail
      refine (cut_any _ HX.out _ _ HC.out _).mono ?_
      rintro e w' ⟨rfl, rfl⟩
      go_wp2_with fail
      refine (cut_any _ HX.out _ _ HC.out _).mono ?_
      rintro e w' ⟨rfl, rfl⟩
      go_wp2_with fail
      go_roundw
      case rel => exact HAT8.out
      case measure => simp [intOf]; omega
    · obtain rfl : j = 5 := by omega
      go_wp2_with fail
      go_ret
      exact ⟨rfl, HB.out⟩
end Go.Proofs.Ytakbkpcmdmjblaa
