/- The walk of WordShifts: it gives true. -/
import Derived.Test.YtakbkpcmdmjblaaMuls
namespace Go.Proofs.Ytakbkpcmdmjblaa
open Go.RowKit

/-- shifted up, and down again -/
theorem back {b : Int} (h : may b = true) (x n : Nat) : doV 9 b (doV 8 b x n) n = (cut x b * 2 ^ cut n b % 2 ^ b.toNat) / 2 ^ cut n b := by
  rw [doV_shr h, doV_shl h, cut_idem, cut_pow h (_ * _)]
theorem shl_out {b : Int} (h : may b = true) (x n : Nat) (hk : b ≤ (cut n b : Nat)) : doV 8 b x n = 0 := by
  have hb := may_bd h
  have e : cut n b = (cut n b - b.toNat) + b.toNat := by omega
  rw [doV_shl h, cut_pow h, e, Nat.pow_add, ← Nat.mul_assoc, Nat.mul_mod_left]
theorem back_out {b : Int} (h : may b = true) (x n : Nat) (hk : b ≤ (cut n b : Nat)) : doV 9 b (doV 8 b x n) n = 0 := by
  rw [shl_out h x n hk, doV_shr h, cut_pow h, Nat.zero_mod, Nat.zero_div]
theorem back_mask (N c k : Nat) (hk : k ≤ N) : (c * 2 ^ k % 2 ^ N) / 2 ^ k = c &&& ((2 ^ N - 1) / 2 ^ k) := by
  have e : 2 ^ N = 2 ^ (N - k) * 2 ^ k := by rw [← Nat.pow_add]; congr 1; omega
  have hp := Nat.two_pow_pos k
  have e2 : (2 ^ N - 1) / 2 ^ k = 2 ^ (N - k) - 1 := by
    rw [e]
    have hq := Nat.two_pow_pos (N - k)
    have e3 : 2 ^ (N - k) * 2 ^ k - 1 = (2 ^ k - 1) + (2 ^ (N - k) - 1) * 2 ^ k := by
      rw [Nat.sub_mul, Nat.one_mul]
      have : 2 ^ k ≤ 2 ^ (N - k) * 2 ^ k := Nat.le_mul_of_pos_left _ hq
      omega
    rw [e3, Nat.add_mul_div_right _ _ hp, Nat.div_eq_of_lt (by omega), Nat.zero_add]
  rw [e2, Nat.and_two_pow_sub_one_eq_mod, e, Nat.mul_mod_mul_right, Nat.mul_div_cancel _ hp]
theorem mask_int (c N k r : Nat) (hN : N ≤ 64) (hc : c < 18446744073709551616) (h : c &&& ((2 ^ N - 1) / 2 ^ k) = r) : bits .and .u64 (c : Int) (((2 ^ N - 1 : Nat) : Int) / 2 ^ k) = r := by
  rw [← h]
  have e : (((2 ^ N - 1 : Nat) : Int) / 2 ^ k) = (((2 ^ N - 1) / 2 ^ k : Nat) : Int) := by
    rw [Int.natCast_ediv, Int.natCast_pow]; rfl
  rw [e]
  refine u64_and_nat _ _ hc (Nat.lt_of_le_of_lt (Nat.div_le_self _ _) ?_)
  have := Nat.pow_le_pow_right (n := 2) (by decide) hN
  have h64 : 2 ^ 64 = 18446744073709551616 := by decide
  omega

set_option maxHeartbeats 1000000 in
theorem shifts_no (b : Int) (x y : Nat) (hb : may b = false) (w : World) :
    Calls Try.prog 7 #[.int .i64 b, .int .u64 x, .int .u64 y] w (GrownTrue w) := by
  have HM := Lib.hid hb
  clear hb
  go_enter Try.func7, Try.ntmps7
  go_wp2_with fail
  refine (awake_any _).mono ?_
  rintro e w1 ⟨rfl, hb1⟩
  go_wp2_with fail
  refine (rmay_as _ _ HM.out _).mono ?_
  rintro e w' ⟨rfl, rfl⟩
  go_wp2_with fail
  go_ret
  exact ⟨rfl, hb1⟩


set_option maxHeartbeats 2000000 in
set_option maxRecDepth 100000 in
theorem shifts_1 (x y : Nat) (hx : x < 18446744073709551616) (hy : y < 18446744073709551616) (w : World) :
    Calls Try.prog 7 #[.int .i64 1, .int .u64 x, .int .u64 y] w (GrownTrue w) := by
  have hb : may 1 = true := by decide
  have HM := Lib.hid hb
  have HX := Lib.hid hx
  have HY := Lib.hid hy
  obtain ⟨c, hc⟩ : ∃ c, cut x 1 = c := ⟨_, rfl⟩
  obtain ⟨k, hk⟩ : ∃ k, cut y 1 = k := ⟨_, rfl⟩
  obtain ⟨a, ha⟩ : ∃ a, doV 8 1 x y = a := ⟨_, rfl⟩
  obtain ⟨r, hr⟩ : ∃ r, doV 9 1 a y = r := ⟨_, rfl⟩
  have HC := Lib.hid hc
  have HK := Lib.hid hk
  have HA := Lib.hid ha
  have HR := Lib.hid hr
  have HAL : Hid (a < 18446744073709551616) := Lib.hid (by rw [← ha]; exact doV_lt _ _ _ _)
  have HAC : Hid (cut a 1 = a) := Lib.hid (by rw [← ha]; exact doV_cut _ _ _ _)
  have C : Hid (∀ y, doC 8 1 y = 0 ∧ doC 9 1 y = 0) := Lib.hid (fun y => ⟨doC_of hb (by decide) (by decide) (by decide) _, doC_of hb (by decide) (by decide) (by decide) _⟩)
  by_cases hkb : (1 : Int) ≤ k
  · have ha0 : a = 0 := by rw [← ha]; exact shl_out hb x y (by rw [hk]; exact hkb)
    have hr0 : r = 0 := by rw [← hr, ← ha]; exact back_out hb x y (by rw [hk]; exact hkb)
    have d : decide ((1 : Int) ≤ (k : Int)) = true := by simpa using hkb
    clear hx hy hb hc hk ha hr hkb
    subst ha0 hr0
    go_enter Try.func7, Try.ntmps7
    go_wp2_with fail
    refine (awake_any _).mono ?_
    rintro e w1 ⟨rfl, hb1⟩
    go_wp2_with fail
    refine (rmay_as _ _ HM.out _).mono ?_
    rintro e w' ⟨rfl, rfl⟩
    go_wp2_with fail
    refine (do_any _ _ _ _ HX.out HY.out _ _ HA.out (C.out _).1 _).mono ?_
    rintro e w2 ⟨rfl, hb2⟩
    have HB2 := Lib.hid (hb1.trans (hb2.mono hb1.size))
    clear hb1 hb2
    go_wp2_with fail
    refine (do_at 9 1 0 y 0 0 HAL.out HY.out HR.out (C.out _).2 _ _ rfl rfl _).mono ?_
    rintro e w3 ⟨rfl, hb3⟩
    have HB3 := Lib.hid (HB2.out.trans (hb3.mono HB2.out.size))
    clear hb3 HB2
    go_wp2_with fail
    refine (cut_any _ HY.out _ _ HK.out _).mono ?_
    rintro e w' ⟨rfl, rfl⟩
    go_wp2_with fail
    go_ret
    exact ⟨rfl, HB3.out⟩
  · have hm : bits .and .u64 (c : Int) (1 / 2 ^ k) = (r : Int) := mask_int c 1 k r (by decide) (by rw [← hc]; exact cut_lt _ hx) (by
      rw [← hr, ← ha, back hb x y, hc, hk]
      exact (back_mask 1 c k (by omega)).symm)
    have d : decide ((1 : Int) ≤ (k : Int)) = false := by simpa using hkb
    have hk1 : (k : Int) < 1 := by omega
    have hk0 : (0 : Int) ≤ k := by omega
    clear hx hy hb hc hk ha hr hkb
    go_enter Try.func7, Try.ntmps7
    go_wp2_with fail
    refine (awake_any _).mono ?_
    rintro e w1 ⟨rfl, hb1⟩
    go_wp2_with fail
    refine (rmay_as _ _ HM.out _).mono ?_
    rintro e w' ⟨rfl, rfl⟩
    go_wp2_with fail
    refine (do_any _ _ _ _ HX.out HY.out _ _ HA.out (C.out _).1 _).mono ?_
    rintro e w2 ⟨rfl, hb2⟩
    have HB2 := Lib.hid (hb1.trans (hb2.mono hb1.size))
    clear hb1 hb2
    go_wp2_with fail
    refine (do_any _ _ _ _ HAL.out HY.out _ _ HR.out (C.out _).2 _).mono ?_
    rintro e w3 ⟨rfl, hb3⟩
    have HB3 := Lib.hid (HB2.out.trans (hb3.mono HB2.out.size))
    clear hb3 HB2
    go_wp2_with fail
    refine (cut_any _ HY.out _ _ HK.out _).mono ?_
    rintro e w' ⟨rfl, rfl⟩
    go_wp2_with fail
    refine (cut_any _ HX.out _ _ HC.out _).mono ?_
    rintro e w' ⟨rfl, rfl⟩
    go_wp2_with fail
    refine (cut_any _ HAL.out _ _ HAC.out _).mono ?_
    rintro e w' ⟨rfl, rfl⟩
    go_wp2_with fail
    go_ret
    exact ⟨rfl, HB3.out⟩

set_option maxHeartbeats 2000000 in
set_option maxRecDepth 100000 in
theorem shifts_8 (x y : Nat) (hx : x < 18446744073709551616) (hy : y < 18446744073709551616) (w : World) :
    Calls Try.prog 7 #[.int .i64 8, .int .u64 x, .int .u64 y] w (GrownTrue w) := by
  have hb : may 8 = true := by decide
  have HM := Lib.hid hb
  have HX := Lib.hid hx
  have HY := Lib.hid hy
  obtain ⟨c, hc⟩ : ∃ c, cut x 8 = c := ⟨_, rfl⟩
  obtain ⟨k, hk⟩ : ∃ k, cut y 8 = k := ⟨_, rfl⟩
  obtain ⟨a, ha⟩ : ∃ a, doV 8 8 x y = a := ⟨_, rfl⟩
  obtain ⟨r, hr⟩ : ∃ r, doV 9 8 a y = r := ⟨_, rfl⟩
  have HC := Lib.hid hc
  have HK := Lib.hid hk
  have HA := Lib.hid ha
  have HR := Lib.hid hr
  have HAL : Hid (a < 18446744073709551616) := Lib.hid (by rw [← ha]; exact doV_lt _ _ _ _)
  have HAC : Hid (cut a 8 = a) := Lib.hid (by rw [← ha]; exact doV_cut _ _ _ _)
  have C : Hid (∀ y, doC 8 8 y = 0 ∧ doC 9 8 y = 0) := Lib.hid (fun y => ⟨doC_of hb (by decide) (by decide) (by decide) _, doC_of hb (by decide) (by decide) (by decide) _⟩)
  by_cases hkb : (8 : Int) ≤ k
  · have ha0 : a = 0 := by rw [← ha]; exact shl_out hb x y (by rw [hk]; exact hkb)
    have hr0 : r = 0 := by rw [← hr, ← ha]; exact back_out hb x y (by rw [hk]; exact hkb)
    have d : decide ((8 : Int) ≤ (k : Int)) = true := by simpa using hkb
    clear hx hy hb hc hk ha hr hkb
    subst ha0 hr0
    go_enter Try.func7, Try.ntmps7
    go_wp2_with fail
    refine (awake_any _).mono ?_
    rintro e w1 ⟨rfl, hb1⟩
    go_wp2_with fail
    refine (rmay_as _ _ HM.out _).mono ?_
    rintro e w' ⟨rfl, rfl⟩
    go_wp2_with fail
    refine (do_any _ _ _ _ HX.out HY.out _ _ HA.out (C.out _).1 _).mono ?_
    rintro e w2 ⟨rfl, hb2⟩
    have HB2 := Lib.hid (hb1.trans (hb2.mono hb1.size))
    clear hb1 hb2
    go_wp2_with fail
    refine (do_at 9 8 0 y 0 0 HAL.out HY.out HR.out (C.out _).2 _ _ rfl rfl _).mono ?_
    rintro e w3 ⟨rfl, hb3⟩
    have HB3 := Lib.hid (HB2.out.trans (hb3.mono HB2.out.size))
    clear hb3 HB2
    go_wp2_with fail
    refine (cut_any _ HY.out _ _ HK.out _).mono ?_
    rintro e w' ⟨rfl, rfl⟩
    go_wp2_with fail
    go_ret
    exact ⟨rfl, HB3.out⟩
  · have hm : bits .and .u64 (c : Int) (255 / 2 ^ k) = (r : Int) := mask_int c 8 k r (by decide) (by rw [← hc]; exact cut_lt _ hx) (by
      rw [← hr, ← ha, back hb x y, hc, hk]
      exact (back_mask 8 c k (by omega)).symm)
    have d : decide ((8 : Int) ≤ (k : Int)) = false := by simpa using hkb
    have hk1 : (k : Int) < 8 := by omega
    have hk0 : (0 : Int) ≤ k := by omega
    clear hx hy hb hc hk ha hr hkb
    go_enter Try.func7, Try.ntmps7
    go_wp2_with fail
    refine (awake_any _).mono ?_
    rintro e w1 ⟨rfl, hb1⟩
    go_wp2_with fail
    refine (rmay_as _ _ HM.out _).mono ?_
    rintro e w' ⟨rfl, rfl⟩
    go_wp2_with fail
    refine (do_any _ _ _ _ HX.out HY.out _ _ HA.out (C.out _).1 _).mono ?_
    rintro e w2 ⟨rfl, hb2⟩
    have HB2 := Lib.hid (hb1.trans (hb2.mono hb1.size))
    clear hb1 hb2
    go_wp2_with fail
    refine (do_any _ _ _ _ HAL.out HY.out _ _ HR.out (C.out _).2 _).mono ?_
    rintro e w3 ⟨rfl, hb3⟩
    have HB3 := Lib.hid (HB2.out.trans (hb3.mono HB2.out.size))
    clear hb3 HB2
    go_wp2_with fail
    refine (cut_any _ HY.out _ _ HK.out _).mono ?_
    rintro e w' ⟨rfl, rfl⟩
    go_wp2_with fail
    refine (cut_any _ HX.out _ _ HC.out _).mono ?_
    rintro e w' ⟨rfl, rfl⟩
    go_wp2_with fail
    refine (cut_any _ HAL.out _ _ HAC.out _).mono ?_
    rintro e w' ⟨rfl, rfl⟩
    go_wp2_with fail
    go_ret
    exact ⟨rfl, HB3.out⟩

set_option maxHeartbeats 2000000 in
set_option maxRecDepth 100000 in
theorem shifts_16 (x y : Nat) (hx : x < 18446744073709551616) (hy : y < 18446744073709551616) (w : World) :
    Calls Try.prog 7 #[.int .i64 16, .int .u64 x, .int .u64 y] w (GrownTrue w) := by
  have hb : may 16 = true := by decide
  have HM := Lib.hid hb
  have HX := Lib.hid hx
  have HY := Lib.hid hy
  obtain ⟨c, hc⟩ : ∃ c, cut x 16 = c := ⟨_, rfl⟩
  obtain ⟨k, hk⟩ : ∃ k, cut y 16 = k := ⟨_, rfl⟩
  obtain ⟨a, ha⟩ : ∃ a, doV 8 16 x y = a := ⟨_, rfl⟩
  obtain ⟨r, hr⟩ : ∃ r, doV 9 16 a y = r := ⟨_, rfl⟩
  have HC := Lib.hid hc
  have HK := Lib.hid hk
  have HA := Lib.hid ha
  have HR := Lib.hid hr
  have HAL : Hid (a < 18446744073709551616) := Lib.hid (by rw [← ha]; exact doV_lt _ _ _ _)
  have HAC : Hid (cut a 16 = a) := Lib.hid (by rw [← ha]; exact doV_cut _ _ _ _)
  have C : Hid (∀ y, doC 8 16 y = 0 ∧ doC 9 16 y = 0) := Lib.hid (fun y => ⟨doC_of hb (by decide) (by decide) (by decide) _, doC_of hb (by decide) (by decide) (by decide) _⟩)
  by_cases hkb : (16 : Int) ≤ k
  · have ha0 : a = 0 := by rw [← ha]; exact shl_out hb x y (by rw [hk]; exact hkb)
    have hr0 : r = 0 := by rw [← hr, ← ha]; exact back_out hb x y (by rw [hk]; exact hkb)
    have d : decide ((16 : Int) ≤ (k : Int)) = true := by simpa using hkb
    clear hx hy hb hc hk ha hr hkb
    subst ha0 hr0
    go_enter Try.func7, Try.ntmps7
    go_wp2_with fail
    refine (awake_any _).mono ?_
    rintro e w1 ⟨rfl, hb1⟩
    go_wp2_with fail
    refine (rmay_as _ _ HM.out _).mono ?_
    rintro e w' ⟨rfl, rfl⟩
    go_wp2_with fail
    refine (do_any _ _ _ _ HX.out HY.out _ _ HA.out (C.out _).1 _).mono ?_
    rintro e w2 ⟨rfl, hb2⟩
    have HB2 := Lib.hid (hb1.trans (hb2.mono hb1.size))
    clear hb1 hb2
    go_wp2_with fail
    refine (do_at 9 16 0 y 0 0 HAL.out HY.out HR.out (C.out _).2 _ _ rfl rfl _).mono ?_
    rintro e w3 ⟨rfl, hb3⟩
    have HB3 := Lib.hid (HB2.out.trans (hb3.mono HB2.out.size))
    clear hb3 HB2
    go_wp2_with fail
    refine (cut_any _ HY.out _ _ HK.out _).mono ?_
    rintro e w' ⟨rfl, rfl⟩
    go_wp2_with fail
    go_ret
    exact ⟨rfl, HB3.out⟩
  · have hm : bits .and .u64 (c : Int) (65535 / 2 ^ k) = (r : Int) := mask_int c 16 k r (by decide) (by rw [← hc]; exact cut_lt _ hx) (by
      rw [← hr, ← ha, back hb x y, hc, hk]
      exact (back_mask 16 c k (by omega)).symm)
    have d : decide ((16 : Int) ≤ (k : Int)) = false := by simpa using hkb
    have hk1 : (k : Int) < 16 := by omega
    have hk0 : (0 : Int) ≤ k := by omega
    clear hx hy hb hc hk ha hr hkb
    go_enter Try.func7, Try.ntmps7
    go_wp2_with fail
    refine (awake_any _).mono ?_
    rintro e w1 ⟨rfl, hb1⟩
    go_wp2_with fail
    refine (rmay_as _ _ HM.out _).mono ?_
    rintro e w' ⟨rfl, rfl⟩
    go_wp2_with fail
    refine (do_any _ _ _ _ HX.out HY.out _ _ HA.out (C.out _).1 _).mono ?_
    rintro e w2 ⟨rfl, hb2⟩
    have HB2 := Lib.hid (hb1.trans (hb2.mono hb1.size))
    clear hb1 hb2
    go_wp2_with fail
    refine (do_any _ _ _ _ HAL.out HY.out _ _ HR.out (C.out _).2 _).mono ?_
    rintro e w3 ⟨rfl, hb3⟩
    have HB3 := Lib.hid (HB2.out.trans (hb3.mono HB2.out.size))
    clear hb3 HB2
    go_wp2_with fail
    refine (cut_any _ HY.out _ _ HK.out _).mono ?_
    rintro e w' ⟨rfl, rfl⟩
    go_wp2_with fail
    refine (cut_any _ HX.out _ _ HC.out _).mono ?_
    rintro e w' ⟨rfl, rfl⟩
    go_wp2_with fail
    refine (cut_any _ HAL.out _ _ HAC.out _).mono ?_
    rintro e w' ⟨rfl, rfl⟩
    go_wp2_with fail
    go_ret
    exact ⟨rfl, HB3.out⟩

set_option maxHeartbeats 2000000 in
set_option maxRecDepth 100000 in
theorem shifts_32 (x y : Nat) (hx : x < 18446744073709551616) (hy : y < 18446744073709551616) (w : World) :
    Calls Try.prog 7 #[.int .i64 32, .int .u64 x, .int .u64 y] w (GrownTrue w) := by
  have hb : may 32 = true := by decide
  have HM := Lib.hid hb
  have HX := Lib.hid hx
  have HY := Lib.hid hy
  obtain ⟨c, hc⟩ : ∃ c, cut x 32 = c := ⟨_, rfl⟩
  obtain ⟨k, hk⟩ : ∃ k, cut y 32 = k := ⟨_, rfl⟩
  obtain ⟨a, ha⟩ : ∃ a, doV 8 32 x y = a := ⟨_, rfl⟩
  obtain ⟨r, hr⟩ : ∃ r, doV 9 32 a y = r := ⟨_, rfl⟩
  have HC := Lib.hid hc
  have HK := Lib.hid hk
  have HA := Lib.hid ha
  have HR := Lib.hid hr
  have HAL : Hid (a < 18446744073709551616) := Lib.hid (by rw [← ha]; exact doV_lt _ _ _ _)
  have HAC : Hid (cut a 32 = a) := Lib.hid (by rw [← ha]; exact doV_cut _ _ _ _)
  have C : Hid (∀ y, doC 8 32 y = 0 ∧ doC 9 32 y = 0) := Lib.hid (fun y => ⟨doC_of hb (by decide) (by decide) (by decide) _, doC_of hb (by decide) (by decide) (by decide) _⟩)
  by_cases hkb : (32 : Int) ≤ k
  · have ha0 : a = 0 := by rw [← ha]; exact shl_out hb x y (by rw [hk]; exact hkb)
    have hr0 : r = 0 := by rw [← hr, ← ha]; exact back_out hb x y (by rw [hk]; exact hkb)
    have d : decide ((32 : Int) ≤ (k : Int)) = true := by simpa using hkb
    clear hx hy hb hc hk ha hr hkb
    subst ha0 hr0
    go_enter Try.func7, Try.ntmps7
    go_wp2_with fail
    refine (awake_any _).mono ?_
    rintro e w1 ⟨rfl, hb1⟩
    go_wp2_with fail
    refine (rmay_as _ _ HM.out _).mono ?_
    rintro e w' ⟨rfl, rfl⟩
    go_wp2_with fail
    refine (do_any _ _ _ _ HX.out HY.out _ _ HA.out (C.out _).1 _).mono ?_
    rintro e w2 ⟨rfl, hb2⟩
    have HB2 := Lib.hid (hb1.trans (hb2.mono hb1.size))
    clear hb1 hb2
    go_wp2_with fail
    refine (do_at 9 32 0 y 0 0 HAL.out HY.out HR.out (C.out _).2 _ _ rfl rfl _).mono ?_
    rintro e w3 ⟨rfl, hb3⟩
    have HB3 := Lib.hid (HB2.out.trans (hb3.mono HB2.out.size))
    clear hb3 HB2
    go_wp2_with fail
    refine (cut_any _ HY.out _ _ HK.out _).mono ?_
    rintro e w' ⟨rfl, rfl⟩
    go_wp2_with fail
    go_ret
    exact ⟨rfl, HB3.out⟩
  · have hm : bits .and .u64 (c : Int) (4294967295 / 2 ^ k) = (r : Int) := mask_int c 32 k r (by decide) (by rw [← hc]; exact cut_lt _ hx) (by
      rw [← hr, ← ha, back hb x y, hc, hk]
      exact (back_mask 32 c k (by omega)).symm)
    have d : decide ((32 : Int) ≤ (k : Int)) = false := by simpa using hkb
    have hk1 : (k : Int) < 32 := by omega
    have hk0 : (0 : Int) ≤ k := by omega
    clear hx hy hb hc hk ha hr hkb
    go_enter Try.func7, Try.ntmps7
    go_wp2_with fail
    refine (awake_any _).mono ?_
    rintro e w1 ⟨rfl, hb1⟩
    go_wp2_with fail
    refine (rmay_as _ _ HM.out _).mono ?_
    rintro e w' ⟨rfl, rfl⟩
    go_wp2_with fail
    refine (do_any _ _ _ _ HX.out HY.out _ _ HA.out (C.out _).1 _).mono ?_
    rintro e w2 ⟨rfl, hb2⟩
    have HB2 := Lib.hid (hb1.trans (hb2.mono hb1.size))
    clear hb1 hb2
    go_wp2_with fail
    refine (do_any _ _ _ _ HAL.out HY.out _ _ HR.out (C.out _).2 _).mono ?_
    rintro e w3 ⟨rfl, hb3⟩
    have HB3 := Lib.hid (HB2.out.trans (hb3.mono HB2.out.size))
    clear hb3 HB2
    go_wp2_with fail
    refine (cut_any _ HY.out _ _ HK.out _).mono ?_
    rintro e w' ⟨rfl, rfl⟩
    go_wp2_with fail
    refine (cut_any _ HX.out _ _ HC.out _).mono ?_
    rintro e w' ⟨rfl, rfl⟩
    go_wp2_with fail
    refine (cut_any _ HAL.out _ _ HAC.out _).mono ?_
    rintro e w' ⟨rfl, rfl⟩
    go_wp2_with fail
    go_ret
    exact ⟨rfl, HB3.out⟩

set_option maxHeartbeats 2000000 in
set_option maxRecDepth 100000 in
theorem shifts_64 (x y : Nat) (hx : x < 18446744073709551616) (hy : y < 18446744073709551616) (w : World) :
    Calls Try.prog 7 #[.int .i64 64, .int .u64 x, .int .u64 y] w (GrownTrue w) := by
  have hb : may 64 = true := by decide
  have HM := Lib.hid hb
  have HX := Lib.hid hx
  have HY := Lib.hid hy
  obtain ⟨c, hc⟩ : ∃ c, cut x 64 = c := ⟨_, rfl⟩
  obtain ⟨k, hk⟩ : ∃ k, cut y 64 = k := ⟨_, rfl⟩
  obtain ⟨a, ha⟩ : ∃ a, doV 8 64 x y = a := ⟨_, rfl⟩
  obtain ⟨r, hr⟩ : ∃ r, doV 9 64 a y = r := ⟨_, rfl⟩
  have HC := Lib.hid hc
  have HK := Lib.hid hk
  have HA := Lib.hid ha
  have HR := Lib.hid hr
  have HAL : Hid (a < 18446744073709551616) := Lib.hid (by rw [← ha]; exact doV_lt _ _ _ _)
  have HAC : Hid (cut a 64 = a) := Lib.hid (by rw [← ha]; exact doV_cut _ _ _ _)
  have C : Hid (∀ y, doC 8 64 y = 0 ∧ doC 9 64 y = 0) := Lib.hid (fun y => ⟨doC_of hb (by decide) (by decide) (by decide) _, doC_of hb (by decide) (by decide) (by decide) _⟩)
  by_cases hkb : (64 : Int) ≤ k
  · have ha0 : a = 0 := by rw [← ha]; exact shl_out hb x y (by rw [hk]; exact hkb)
    have hr0 : r = 0 := by rw [← hr, ← ha]; exact back_out hb x y (by rw [hk]; exact hkb)
    have d : decide ((64 : Int) ≤ (k : Int)) = true := by simpa using hkb
    clear hx hy hb hc hk ha hr hkb
    subst ha0 hr0
    go_enter Try.func7, Try.ntmps7
    go_wp2_with fail
    refine (awake_any _).mono ?_
    rintro e w1 ⟨rfl, hb1⟩
    go_wp2_with fail
    refine (rmay_as _ _ HM.out _).mono ?_
    rintro e w' ⟨rfl, rfl⟩
    go_wp2_with fail
    refine (do_any _ _ _ _ HX.out HY.out _ _ HA.out (C.out _).1 _).mono ?_
    rintro e w2 ⟨rfl, hb2⟩
    have HB2 := Lib.hid (hb1.trans (hb2.mono hb1.size))
    clear hb1 hb2
    go_wp2_with fail
    refine (do_at 9 64 0 y 0 0 HAL.out HY.out HR.out (C.out _).2 _ _ rfl rfl _).mono ?_
    rintro e w3 ⟨rfl, hb3⟩
    have HB3 := Lib.hid (HB2.out.trans (hb3.mono HB2.out.size))
    clear hb3 HB2
    go_wp2_with fail
    refine (cut_any _ HY.out _ _ HK.out _).mono ?_
    rintro e w' ⟨rfl, rfl⟩
    go_wp2_with fail
    go_ret
    exact ⟨rfl, HB3.out⟩
  · have hm : bits .and .u64 (c : Int) (18446744073709551615 / 2 ^ k) = (r : Int) := mask_int c 64 k r (by decide) (by rw [← hc]; exact cut_lt _ hx) (by
      rw [← hr, ← ha, back hb x y, hc, hk]
      exact (back_mask 64 c k (by omega)).symm)
    have d : decide ((64 : Int) ≤ (k : Int)) = false := by simpa using hkb
    have hk1 : (k : Int) < 64 := by omega
    have hk0 : (0 : Int) ≤ k := by omega
    clear hx hy hb hc hk ha hr hkb
    go_enter Try.func7, Try.ntmps7
    go_wp2_with fail
    refine (awake_any _).mono ?_
    rintro e w1 ⟨rfl, hb1⟩
    go_wp2_with fail
    refine (rmay_as _ _ HM.out _).mono ?_
    rintro e w' ⟨rfl, rfl⟩
    go_wp2_with fail
    refine (do_any _ _ _ _ HX.out HY.out _ _ HA.out (C.out _).1 _).mono ?_
    rintro e w2 ⟨rfl, hb2⟩
    have HB2 := Lib.hid (hb1.trans (hb2.mono hb1.size))
    clear hb1 hb2
    go_wp2_with fail
    refine (do_any _ _ _ _ HAL.out HY.out _ _ HR.out (C.out _).2 _).mono ?_
    rintro e w3 ⟨rfl, hb3⟩
    have HB3 := Lib.hid (HB2.out.trans (hb3.mono HB2.out.size))
    clear hb3 HB2
    go_wp2_with fail
    refine (cut_any _ HY.out _ _ HK.out _).mono ?_
    rintro e w' ⟨rfl, rfl⟩
    go_wp2_with fail
    refine (cut_any _ HX.out _ _ HC.out _).mono ?_
    rintro e w' ⟨rfl, rfl⟩
    go_wp2_with fail
    refine (cut_any _ HAL.out _ _ HAC.out _).mono ?_
    rintro e w' ⟨rfl, rfl⟩
    go_wp2_with fail
    go_ret
    exact ⟨rfl, HB3.out⟩

theorem shifts_any (b : Int) (x y : Nat) (hx : x < 18446744073709551616) (hy : y < 18446744073709551616) (w : World) :
    Calls Try.prog 7 #[.int .i64 b, .int .u64 x, .int .u64 y] w (GrownTrue w) := by
  cases hb : may b
  · exact shifts_no b x y hb w
  · rcases may_cases hb with rfl | rfl | rfl | rfl | rfl
    · exact shifts_1 x y hx hy w
    · exact shifts_8 x y hx hy w
    · exact shifts_16 x y hx hy w
    · exact shifts_32 x y hx hy w
    · exact shifts_64 x y hx hy w
end Go.Proofs.Ytakbkpcmdmjblaa
