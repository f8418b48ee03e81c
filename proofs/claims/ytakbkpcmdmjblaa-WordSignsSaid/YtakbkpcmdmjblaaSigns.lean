/- The walk of WordSigns: it gives true. -/
import Derived.Test.YtakbkpcmdmjblaaShifts
namespace Go.Proofs.Ytakbkpcmdmjblaa
open Go.RowKit

theorem sgn_no {b : Int} (h : may b = false) (v : Nat) : sgn v b = 0 := by unfold sgn; rw [h]; rfl
theorem sgn_cut {b : Int} (h : may b = true) (v : Nat) : sgn (cut v b) b = sgn v b := by
  unfold sgn
  simp only [h, if_true]
  rw [cut_pow h, Nat.mod_mod]
theorem slt_as {b : Int} (h : may b = true) (x y : Nat) : doV 12 b x y = one (decide (sgn x b < sgn y b)) := by
  rw [doV_slt h, sgn_cut h, sgn_cut h]

set_option maxHeartbeats 1000000 in
theorem signs_no (b : Int) (x y : Nat) (hx : x < 18446744073709551616) (hb : may b = false) (w : World) :
    Calls Try.prog 6 #[.int .i64 b, .int .u64 x, .int .u64 y] w (GrownTrue w) := by
  have HM := Lib.hid hb
  have HX := Lib.hid hx
  have HS : Hid (sgn x b = 0) := Lib.hid (sgn_no hb x)
  have HC : Hid (cut x b = 0) := Lib.hid (cut_no hb x)
  clear hb hx
  go_enter Try.func6, Try.ntmps6
  go_wp2_with fail
  refine (awake_any _).mono ?_
  rintro e w1 ⟨rfl, hb1⟩
  go_wp2_with fail
  refine (rmay_as _ _ HM.out _).mono ?_
  rintro e w' ⟨rfl, rfl⟩
  go_wp2_with fail
  refine (sgn_any _ HX.out _ _ HS.out _).mono ?_
  rintro e w' ⟨rfl, rfl⟩
  go_wp2_with fail
  refine (cut_any _ HX.out _ _ HC.out _).mono ?_
  rintro e w' ⟨rfl, rfl⟩
  go_wp2_with fail
  go_ret
  exact ⟨rfl, hb1⟩


theorem sign_bd_1 (x : Nat) : -1 ≤ sgn x 1 ∧ sgn x 1 ≤ 1 - 1 := by
  rw [sgn_1]
  split <;> omega
theorem sign_top_1 (x : Nat) : doV 9 1 x 0 = one (decide (sgn x 1 < 0)) := by
  rw [doV_shr (by decide), show cut 0 1 = 0 by decide, cut_1, sgn_1]
  by_cases h : x % 2 < 1
  · rw [if_pos h]
    have e : decide (((x % 2 : Nat) : Int) < 0) = false := by simp only [decide_eq_false_iff_not]; omega
    rw [e]
    simp only [Nat.reducePow, one]
    have e0 : x % 2 / 1 = 0 := by omega
    rw [e0]; rfl
  · rw [if_neg h]
    have e : decide (((x % 2 : Nat) : Int) - 2 < 0) = true := by simp; omega
    rw [e]
    simp only [Nat.reducePow, one]
    simp; omega
theorem sign_back_1 (x : Nat) : ∃ u : Nat, u < 18446744073709551616 ∧ IntKind.u64.wrap (sgn x 1) = u ∧ cut u 1 = cut x 1 := by
  have hb := sign_bd_1 x
  refine ⟨(sgn x 1 % 18446744073709551616).toNat, by omega, by rw [u64_wrap]; omega, ?_⟩
  rw [cut_1, cut_1, sgn_1]
  split <;> omega

set_option maxHeartbeats 2000000 in
set_option maxRecDepth 100000 in
theorem signs_1 (x y : Nat) (hx : x < 18446744073709551616) (hy : y < 18446744073709551616) (w : World) :
    Calls Try.prog 6 #[.int .i64 1, .int .u64 x, .int .u64 y] w (GrownTrue w) := by
  have hb : may 1 = true := by decide
  have HM := Lib.hid hb
  have HX := Lib.hid hx
  have HY := Lib.hid hy
  obtain ⟨u, hu1, hu2, hu3⟩ := sign_back_1 x
  have bd := sign_bd_1 x
  have top := sign_top_1 x
  have slt := slt_as hb x y
  obtain ⟨s, hs⟩ : ∃ s, sgn x 1 = s := ⟨_, rfl⟩
  obtain ⟨t, ht⟩ : ∃ t, sgn y 1 = t := ⟨_, rfl⟩
  obtain ⟨c, hc⟩ : ∃ c, cut x 1 = c := ⟨_, rfl⟩
  rw [hs] at bd top slt hu2
  rw [ht] at slt
  rw [hc] at hu3
  have HS := Lib.hid hs
  have HT := Lib.hid ht
  have HC := Lib.hid hc
  have HU1 := Lib.hid hu1
  have HU2 := Lib.hid hu2
  have HU3 := Lib.hid hu3
  have b1 : decide ((-1 : Int) ≤ s) = true := by simp only [decide_eq_true_eq]; omega
  have b2 : decide (s ≤ (0 : Int)) = true := by simp only [decide_eq_true_eq]; omega
  have C : Hid (∀ y, doC 12 1 y = 0 ∧ doC 9 1 y = 0) := Lib.hid (fun y => ⟨doC_of hb (by decide) (by decide) (by decide) _, doC_of hb (by decide) (by decide) (by decide) _⟩)
  clear hx hy hb hs ht hc hu1 hu2 hu3 bd
  cases d1 : decide (s < t)
  all_goals
    cases d2 : decide (s < 0)
    all_goals
      rw [d1] at slt
      rw [d2] at top
      have SLT := Lib.hid slt
      have TOP := Lib.hid top
      clear slt top
      go_enter Try.func6, Try.ntmps6
      go_wp2_with fail
      refine (awake_any _).mono ?_
      rintro e w1 ⟨rfl, hb1⟩
      go_wp2_with fail
      refine (rmay_as _ _ HM.out _).mono ?_
      rintro e w' ⟨rfl, rfl⟩
      go_wp2_with fail
      refine (sgn_any _ HX.out _ _ HS.out _).mono ?_
      rintro e w' ⟨rfl, rfl⟩
      go_wp2_with fail
      refine (sgn_any _ HY.out _ _ HT.out _).mono ?_
      rintro e w' ⟨rfl, rfl⟩
      go_wp2_with fail
      first
        | refine (do_any _ _ _ _ HX.out HY.out 0 _ SLT.out (C.out _).1 _).mono ?_
        | refine (do_any _ _ _ _ HX.out HY.out 1 _ SLT.out (C.out _).1 _).mono ?_
      rintro e w2 ⟨rfl, hb2⟩
      have HB2 := Lib.hid (hb1.trans (hb2.mono hb1.size))
      clear hb1 hb2
      go_wp2_with fail
      first
        | refine (do_at 9 1 x 0 0 0 HX.out (by decide) TOP.out (C.out _).2 _ _ rfl rfl _).mono ?_
        | refine (do_at 9 1 x 0 1 0 HX.out (by decide) TOP.out (C.out _).2 _ _ rfl rfl _).mono ?_
      rintro e w3 ⟨rfl, hb3⟩
      have HB3 := Lib.hid (HB2.out.trans (hb3.mono HB2.out.size))
      clear hb3 HB2
      go_wp2_with fail
      refine (cut_at u HU1.out _ _ HU3.out _ HU2.out _).mono ?_
      rintro e w' ⟨rfl, rfl⟩
      go_wp2_with fail
      refine (cut_any _ HX.out _ _ HC.out _).mono ?_
      rintro e w' ⟨rfl, rfl⟩
      go_wp2_with fail
      go_ret
      exact ⟨rfl, HB3.out⟩

theorem sign_bd_8 (x : Nat) : -128 ≤ sgn x 8 ∧ sgn x 8 ≤ 128 - 1 := by
  rw [sgn_8]
  split <;> omega
theorem sign_top_8 (x : Nat) : doV 9 8 x 7 = one (decide (sgn x 8 < 0)) := by
  rw [doV_shr (by decide), show cut 7 8 = 7 by decide, cut_8, sgn_8]
  by_cases h : x % 256 < 128
  · rw [if_pos h]
    have e : decide (((x % 256 : Nat) : Int) < 0) = false := by simp only [decide_eq_false_iff_not]; omega
    rw [e]
    simp only [Nat.reducePow, one]
    have e0 : x % 256 / 128 = 0 := by omega
    rw [e0]; rfl
  · rw [if_neg h]
    have e : decide (((x % 256 : Nat) : Int) - 256 < 0) = true := by simp; omega
    rw [e]
    simp only [Nat.reducePow, one]
    simp; omega
theorem sign_back_8 (x : Nat) : ∃ u : Nat, u < 18446744073709551616 ∧ IntKind.u64.wrap (sgn x 8) = u ∧ cut u 8 = cut x 8 := by
  have hb := sign_bd_8 x
  refine ⟨(sgn x 8 % 18446744073709551616).toNat, by omega, by rw [u64_wrap]; omega, ?_⟩
  rw [cut_8, cut_8, sgn_8]
  split <;> omega

set_option maxHeartbeats 2000000 in
set_option maxRecDepth 100000 in
theorem signs_8 (x y : Nat) (hx : x < 18446744073709551616) (hy : y < 18446744073709551616) (w : World) :
    Calls Try.prog 6 #[.int .i64 8, .int .u64 x, .int .u64 y] w (GrownTrue w) := by
  have hb : may 8 = true := by decide
  have HM := Lib.hid hb
  have HX := Lib.hid hx
  have HY := Lib.hid hy
  obtain ⟨u, hu1, hu2, hu3⟩ := sign_back_8 x
  have bd := sign_bd_8 x
  have top := sign_top_8 x
  have slt := slt_as hb x y
  obtain ⟨s, hs⟩ : ∃ s, sgn x 8 = s := ⟨_, rfl⟩
  obtain ⟨t, ht⟩ : ∃ t, sgn y 8 = t := ⟨_, rfl⟩
  obtain ⟨c, hc⟩ : ∃ c, cut x 8 = c := ⟨_, rfl⟩
  rw [hs] at bd top slt hu2
  rw [ht] at slt
  rw [hc] at hu3
  have HS := Lib.hid hs
  have HT := Lib.hid ht
  have HC := Lib.hid hc
  have HU1 := Lib.hid hu1
  have HU2 := Lib.hid hu2
  have HU3 := Lib.hid hu3
  have b1 : decide ((-128 : Int) ≤ s) = true := by simp only [decide_eq_true_eq]; omega
  have b2 : decide (s ≤ (127 : Int)) = true := by simp only [decide_eq_true_eq]; omega
  have C : Hid (∀ y, doC 12 8 y = 0 ∧ doC 9 8 y = 0) := Lib.hid (fun y => ⟨doC_of hb (by decide) (by decide) (by decide) _, doC_of hb (by decide) (by decide) (by decide) _⟩)
  clear hx hy hb hs ht hc hu1 hu2 hu3 bd
  cases d1 : decide (s < t)
  all_goals
    cases d2 : decide (s < 0)
    all_goals
      rw [d1] at slt
      rw [d2] at top
      have SLT := Lib.hid slt
      have TOP := Lib.hid top
      clear slt top
      go_enter Try.func6, Try.ntmps6
      go_wp2_with fail
      refine (awake_any _).mono ?_
      rintro e w1 ⟨rfl, hb1⟩
      go_wp2_with fail
      refine (rmay_as _ _ HM.out _).mono ?_
      rintro e w' ⟨rfl, rfl⟩
      go_wp2_with fail
      refine (sgn_any _ HX.out _ _ HS.out _).mono ?_
      rintro e w' ⟨rfl, rfl⟩
      go_wp2_with fail
      refine (sgn_any _ HY.out _ _ HT.out _).mono ?_
      rintro e w' ⟨rfl, rfl⟩
      go_wp2_with fail
      first
        | refine (do_any _ _ _ _ HX.out HY.out 0 _ SLT.out (C.out _).1 _).mono ?_
        | refine (do_any _ _ _ _ HX.out HY.out 1 _ SLT.out (C.out _).1 _).mono ?_
      rintro e w2 ⟨rfl, hb2⟩
      have HB2 := Lib.hid (hb1.trans (hb2.mono hb1.size))
      clear hb1 hb2
      go_wp2_with fail
      first
        | refine (do_at 9 8 x 7 0 0 HX.out (by decide) TOP.out (C.out _).2 _ _ rfl rfl _).mono ?_
        | refine (do_at 9 8 x 7 1 0 HX.out (by decide) TOP.out (C.out _).2 _ _ rfl rfl _).mono ?_
      rintro e w3 ⟨rfl, hb3⟩
      have HB3 := Lib.hid (HB2.out.trans (hb3.mono HB2.out.size))
      clear hb3 HB2
      go_wp2_with fail
      refine (cut_at u HU1.out _ _ HU3.out _ HU2.out _).mono ?_
      rintro e w' ⟨rfl, rfl⟩
      go_wp2_with fail
      refine (cut_any _ HX.out _ _ HC.out _).mono ?_
      rintro e w' ⟨rfl, rfl⟩
      go_wp2_with fail
      go_ret
      exact ⟨rfl, HB3.out⟩

theorem sign_bd_16 (x : Nat) : -32768 ≤ sgn x 16 ∧ sgn x 16 ≤ 32768 - 1 := by
  rw [sgn_16]
  split <;> omega
theorem sign_top_16 (x : Nat) : doV 9 16 x 15 = one (decide (sgn x 16 < 0)) := by
  rw [doV_shr (by decide), show cut 15 16 = 15 by decide, cut_16, sgn_16]
  by_cases h : x % 65536 < 32768
  · rw [if_pos h]
    have e : decide (((x % 65536 : Nat) : Int) < 0) = false := by simp only [decide_eq_false_iff_not]; omega
    rw [e]
    simp only [Nat.reducePow, one]
    have e0 : x % 65536 / 32768 = 0 := by omega
    rw [e0]; rfl
  · rw [if_neg h]
    have e : decide (((x % 65536 : Nat) : Int) - 65536 < 0) = true := by simp; omega
    rw [e]
    simp only [Nat.reducePow, one]
    simp; omega
theorem sign_back_16 (x : Nat) : ∃ u : Nat, u < 18446744073709551616 ∧ IntKind.u64.wrap (sgn x 16) = u ∧ cut u 16 = cut x 16 := by
  have hb := sign_bd_16 x
  refine ⟨(sgn x 16 % 18446744073709551616).toNat, by omega, by rw [u64_wrap]; omega, ?_⟩
  rw [cut_16, cut_16, sgn_16]
  split <;> omega

set_option maxHeartbeats 2000000 in
set_option maxRecDepth 100000 in
theorem signs_16 (x y : Nat) (hx : x < 18446744073709551616) (hy : y < 18446744073709551616) (w : World) :
    Calls Try.prog 6 #[.int .i64 16, .int .u64 x, .int .u64 y] w (GrownTrue w) := by
  have hb : may 16 = true := by decide
  have HM := Lib.hid hb
  have HX := Lib.hid hx
  have HY := Lib.hid hy
  obtain ⟨u, hu1, hu2, hu3⟩ := sign_back_16 x
  have bd := sign_bd_16 x
  have top := sign_top_16 x
  have slt := slt_as hb x y
  obtain ⟨s, hs⟩ : ∃ s, sgn x 16 = s := ⟨_, rfl⟩
  obtain ⟨t, ht⟩ : ∃ t, sgn y 16 = t := ⟨_, rfl⟩
  obtain ⟨c, hc⟩ : ∃ c, cut x 16 = c := ⟨_, rfl⟩
  rw [hs] at bd top slt hu2
  rw [ht] at slt
  rw [hc] at hu3
  have HS := Lib.hid hs
  have HT := Lib.hid ht
  have HC := Lib.hid hc
  have HU1 := Lib.hid hu1
  have HU2 := Lib.hid hu2
  have HU3 := Lib.hid hu3
  have b1 : decide ((-32768 : Int) ≤ s) = true := by simp only [decide_eq_true_eq]; omega
  have b2 : decide (s ≤ (32767 : Int)) = true := by simp only [decide_eq_true_eq]; omega
  have C : Hid (∀ y, doC 12 16 y = 0 ∧ doC 9 16 y = 0) := Lib.hid (fun y => ⟨doC_of hb (by decide) (by decide) (by decide) _, doC_of hb (by decide) (by decide) (by decide) _⟩)
  clear hx hy hb hs ht hc hu1 hu2 hu3 bd
  cases d1 : decide (s < t)
  all_goals
    cases d2 : decide (s < 0)
    all_goals
      rw [d1] at slt
      rw [d2] at top
      have SLT := Lib.hid slt
      have TOP := Lib.hid top
      clear slt top
      go_enter Try.func6, Try.ntmps6
      go_wp2_with fail
      refine (awake_any _).mono ?_
      rintro e w1 ⟨rfl, hb1⟩
      go_wp2_with fail
      refine (rmay_as _ _ HM.out _).mono ?_
      rintro e w' ⟨rfl, rfl⟩
      go_wp2_with fail
      refine (sgn_any _ HX.out _ _ HS.out _).mono ?_
      rintro e w' ⟨rfl, rfl⟩
      go_wp2_with fail
      refine (sgn_any _ HY.out _ _ HT.out _).mono ?_
      rintro e w' ⟨rfl, rfl⟩
      go_wp2_with fail
      first
        | refine (do_any _ _ _ _ HX.out HY.out 0 _ SLT.out (C.out _).1 _).mono ?_
        | refine (do_any _ _ _ _ HX.out HY.out 1 _ SLT.out (C.out _).1 _).mono ?_
      rintro e w2 ⟨rfl, hb2⟩
      have HB2 := Lib.hid (hb1.trans (hb2.mono hb1.size))
      clear hb1 hb2
      go_wp2_with fail
      first
        | refine (do_at 9 16 x 15 0 0 HX.out (by decide) TOP.out (C.out _).2 _ _ rfl rfl _).mono ?_
        | refine (do_at 9 16 x 15 1 0 HX.out (by decide) TOP.out (C.out _).2 _ _ rfl rfl _).mono ?_
      rintro e w3 ⟨rfl, hb3⟩
      have HB3 := Lib.hid (HB2.out.trans (hb3.mono HB2.out.size))
      clear hb3 HB2
      go_wp2_with fail
      refine (cut_at u HU1.out _ _ HU3.out _ HU2.out _).mono ?_
      rintro e w' ⟨rfl, rfl⟩
      go_wp2_with fail
      refine (cut_any _ HX.out _ _ HC.out _).mono ?_
      rintro e w' ⟨rfl, rfl⟩
      go_wp2_with fail
      go_ret
      exact ⟨rfl, HB3.out⟩

theorem sign_bd_32 (x : Nat) : -2147483648 ≤ sgn x 32 ∧ sgn x 32 ≤ 2147483648 - 1 := by
  rw [sgn_32]
  split <;> omega
theorem sign_top_32 (x : Nat) : doV 9 32 x 31 = one (decide (sgn x 32 < 0)) := by
  rw [doV_shr (by decide), show cut 31 32 = 31 by decide, cut_32, sgn_32]
  by_cases h : x % 4294967296 < 2147483648
  · rw [if_pos h]
    have e : decide (((x % 4294967296 : Nat) : Int) < 0) = false := by simp only [decide_eq_false_iff_not]; omega
    rw [e]
    simp only [Nat.reducePow, one]
    have e0 : x % 4294967296 / 2147483648 = 0 := by omega
    rw [e0]; rfl
  · rw [if_neg h]
    have e : decide (((x % 4294967296 : Nat) : Int) - 4294967296 < 0) = true := by simp; omega
    rw [e]
    simp only [Nat.reducePow, one]
    simp; omega
theorem sign_back_32 (x : Nat) : ∃ u : Nat, u < 18446744073709551616 ∧ IntKind.u64.wrap (sgn x 32) = u ∧ cut u 32 = cut x 32 := by
  have hb := sign_bd_32 x
  refine ⟨(sgn x 32 % 18446744073709551616).toNat, by omega, by rw [u64_wrap]; omega, ?_⟩
  rw [cut_32, cut_32, sgn_32]
  split <;> omega

set_option maxHeartbeats 2000000 in
set_option maxRecDepth 100000 in
theorem signs_32 (x y : Nat) (hx : x < 18446744073709551616) (hy : y < 18446744073709551616) (w : World) :
    Calls Try.prog 6 #[.int .i64 32, .int .u64 x, .int .u64 y] w (GrownTrue w) := by
  have hb : may 32 = true := by decide
  have HM := Lib.hid hb
  have HX := Lib.hid hx
  have HY := Lib.hid hy
  obtain ⟨u, hu1, hu2, hu3⟩ := sign_back_32 x
  have bd := sign_bd_32 x
  have top := sign_top_32 x
  have slt := slt_as hb x y
  obtain ⟨s, hs⟩ : ∃ s, sgn x 32 = s := ⟨_, rfl⟩
  obtain ⟨t, ht⟩ : ∃ t, sgn y 32 = t := ⟨_, rfl⟩
  obtain ⟨c, hc⟩ : ∃ c, cut x 32 = c := ⟨_, rfl⟩
  rw [hs] at bd top slt hu2
  rw [ht] at slt
  rw [hc] at hu3
  have HS := Lib.hid hs
  have HT := Lib.hid ht
  have HC := Lib.hid hc
  have HU1 := Lib.hid hu1
  have HU2 := Lib.hid hu2
  have HU3 := Lib.hid hu3
  have b1 : decide ((-2147483648 : Int) ≤ s) = true := by simp only [decide_eq_true_eq]; omega
  have b2 : decide (s ≤ (2147483647 : Int)) = true := by simp only [decide_eq_true_eq]; omega
  have C : Hid (∀ y, doC 12 32 y = 0 ∧ doC 9 32 y = 0) := Lib.hid (fun y => ⟨doC_of hb (by decide) (by decide) (by decide) _, doC_of hb (by decide) (by decide) (by decide) _⟩)
  clear hx hy hb hs ht hc hu1 hu2 hu3 bd
  cases d1 : decide (s < t)
  all_goals
    cases d2 : decide (s < 0)
    all_goals
      rw [d1] at slt
      rw [d2] at top
      have SLT := Lib.hid slt
      have TOP := Lib.hid top
      clear slt top
      go_enter Try.func6, Try.ntmps6
      go_wp2_with fail
      refine (awake_any _).mono ?_
      rintro e w1 ⟨rfl, hb1⟩
      go_wp2_with fail
      refine (rmay_as _ _ HM.out _).mono ?_
      rintro e w' ⟨rfl, rfl⟩
      go_wp2_with fail
      refine (sgn_any _ HX.out _ _ HS.out _).mono ?_
      rintro e w' ⟨rfl, rfl⟩
      go_wp2_with fail
      refine (sgn_any _ HY.out _ _ HT.out _).mono ?_
      rintro e w' ⟨rfl, rfl⟩
      go_wp2_with fail
      first
        | refine (do_any _ _ _ _ HX.out HY.out 0 _ SLT.out (C.out _).1 _).mono ?_
        | refine (do_any _ _ _ _ HX.out HY.out 1 _ SLT.out (C.out _).1 _).mono ?_
      rintro e w2 ⟨rfl, hb2⟩
      have HB2 := Lib.hid (hb1.trans (hb2.mono hb1.size))
      clear hb1 hb2
      go_wp2_with fail
      first
        | refine (do_at 9 32 x 31 0 0 HX.out (by decide) TOP.out (C.out _).2 _ _ rfl rfl _).mono ?_
        | refine (do_at 9 32 x 31 1 0 HX.out (by decide) TOP.out (C.out _).2 _ _ rfl rfl _).mono ?_
      rintro e w3 ⟨rfl, hb3⟩
      have HB3 := Lib.hid (HB2.out.trans (hb3.mono HB2.out.size))
      clear hb3 HB2
      go_wp2_with fail
      refine (cut_at u HU1.out _ _ HU3.out _ HU2.out _).mono ?_
      rintro e w' ⟨rfl, rfl⟩
      go_wp2_with fail
      refine (cut_any _ HX.out _ _ HC.out _).mono ?_
      rintro e w' ⟨rfl, rfl⟩
      go_wp2_with fail
      go_ret
      exact ⟨rfl, HB3.out⟩

theorem sign_bd_64 (x : Nat) : -9223372036854775808 ≤ sgn x 64 ∧ sgn x 64 ≤ 9223372036854775808 - 1 := by
  rw [sgn_64]
  split <;> omega
theorem sign_top_64 (x : Nat) : doV 9 64 x 63 = one (decide (sgn x 64 < 0)) := by
  rw [doV_shr (by decide), show cut 63 64 = 63 by decide, cut_64, sgn_64]
  by_cases h : x % 18446744073709551616 < 9223372036854775808
  · rw [if_pos h]
    have e : decide (((x % 18446744073709551616 : Nat) : Int) < 0) = false := by simp only [decide_eq_false_iff_not]; omega
    rw [e]
    simp only [Nat.reducePow, one]
    have e0 : x % 18446744073709551616 / 9223372036854775808 = 0 := by omega
    rw [e0]; rfl
  · rw [if_neg h]
    have e : decide (((x % 18446744073709551616 : Nat) : Int) - 18446744073709551616 < 0) = true := by simp; omega
    rw [e]
    simp only [Nat.reducePow, one]
    simp; omega
theorem sign_back_64 (x : Nat) : ∃ u : Nat, u < 18446744073709551616 ∧ IntKind.u64.wrap (sgn x 64) = u ∧ cut u 64 = cut x 64 := by
  have hb := sign_bd_64 x
  refine ⟨(sgn x 64 % 18446744073709551616).toNat, by omega, by rw [u64_wrap]; omega, ?_⟩
  rw [cut_64, cut_64, sgn_64]
  split <;> omega

set_option maxHeartbeats 2000000 in
set_option maxRecDepth 100000 in
theorem signs_64 (x y : Nat) (hx : x < 18446744073709551616) (hy : y < 18446744073709551616) (w : World) :
    Calls Try.prog 6 #[.int .i64 64, .int .u64 x, .int .u64 y] w (GrownTrue w) := by
  have hb : may 64 = true := by decide
  have HM := Lib.hid hb
  have HX := Lib.hid hx
  have HY := Lib.hid hy
  obtain ⟨u, hu1, hu2, hu3⟩ := sign_back_64 x
  have bd := sign_bd_64 x
  have top := sign_top_64 x
  have slt := slt_as hb x y
  obtain ⟨s, hs⟩ : ∃ s, sgn x 64 = s := ⟨_, rfl⟩
  obtain ⟨t, ht⟩ : ∃ t, sgn y 64 = t := ⟨_, rfl⟩
  obtain ⟨c, hc⟩ : ∃ c, cut x 64 = c := ⟨_, rfl⟩
  rw [hs] at bd top slt hu2
  rw [ht] at slt
  rw [hc] at hu3
  have HS := Lib.hid hs
  have HT := Lib.hid ht
  have HC := Lib.hid hc
  have HU1 := Lib.hid hu1
  have HU2 := Lib.hid hu2
  have HU3 := Lib.hid hu3
  have b1 : decide ((-9223372036854775808 : Int) ≤ s) = true := by simp only [decide_eq_true_eq]; omega
  have b2 : decide (s ≤ (9223372036854775807 : Int)) = true := by simp only [decide_eq_true_eq]; omega
  have C : Hid (∀ y, doC 12 64 y = 0 ∧ doC 9 64 y = 0) := Lib.hid (fun y => ⟨doC_of hb (by decide) (by decide) (by decide) _, doC_of hb (by decide) (by decide) (by decide) _⟩)
  clear hx hy hb hs ht hc hu1 hu2 hu3 bd
  cases d1 : decide (s < t)
  all_goals
    cases d2 : decide (s < 0)
    all_goals
      rw [d1] at slt
      rw [d2] at top
      have SLT := Lib.hid slt
      have TOP := Lib.hid top
      clear slt top
      go_enter Try.func6, Try.ntmps6
      go_wp2_with fail
      refine (awake_any _).mono ?_
      rintro e w1 ⟨rfl, hb1⟩
      go_wp2_with fail
      refine (rmay_as _ _ HM.out _).mono ?_
      rintro e w' ⟨rfl, rfl⟩
      go_wp2_with fail
      refine (sgn_any _ HX.out _ _ HS.out _).mono ?_
      rintro e w' ⟨rfl, rfl⟩
      go_wp2_with fail
      refine (sgn_any _ HY.out _ _ HT.out _).mono ?_
      rintro e w' ⟨rfl, rfl⟩
      go_wp2_with fail
      first
        | refine (do_any _ _ _ _ HX.out HY.out 0 _ SLT.out (C.out _).1 _).mono ?_
        | refine (do_any _ _ _ _ HX.out HY.out 1 _ SLT.out (C.out _).1 _).mono ?_
      rintro e w2 ⟨rfl, hb2⟩
      have HB2 := Lib.hid (hb1.trans (hb2.mono hb1.size))
      clear hb1 hb2
      go_wp2_with fail
      first
        | refine (do_at 9 64 x 63 0 0 HX.out (by decide) TOP.out (C.out _).2 _ _ rfl rfl _).mono ?_
        | refine (do_at 9 64 x 63 1 0 HX.out (by decide) TOP.out (C.out _).2 _ _ rfl rfl _).mono ?_
      rintro e w3 ⟨rfl, hb3⟩
      have HB3 := Lib.hid (HB2.out.trans (hb3.mono HB2.out.size))
      clear hb3 HB2
      go_wp2_with fail
      refine (cut_at u HU1.out _ _ HU3.out _ HU2.out _).mono ?_
      rintro e w' ⟨rfl, rfl⟩
      go_wp2_with fail
      refine (cut_any _ HX.out _ _ HC.out _).mono ?_
      rintro e w' ⟨rfl, rfl⟩
      go_wp2_with fail
      go_ret
      exact ⟨rfl, HB3.out⟩

theorem signs_any (b : Int) (x y : Nat) (hx : x < 18446744073709551616) (hy : y < 18446744073709551616) (w : World) :
    Calls Try.prog 6 #[.int .i64 b, .int .u64 x, .int .u64 y] w (GrownTrue w) := by
  cases hb : may b
  · exact signs_no b x y hx hb w
  · rcases may_cases hb with rfl | rfl | rfl | rfl | rfl
    · exact signs_1 x y hx hy w
    · exact signs_8 x y hx hy w
    · exact signs_16 x y hx hy w
    · exact signs_32 x y hx hy w
    · exact signs_64 x y hx hy w
end Go.Proofs.Ytakbkpcmdmjblaa
