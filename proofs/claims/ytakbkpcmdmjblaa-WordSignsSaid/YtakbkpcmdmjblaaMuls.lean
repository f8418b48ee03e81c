/- The walk of WordMuls: it gives true. -/
import Derived.Test.YtakbkpcmdmjblaaBits
namespace Go.Proofs.Ytakbkpcmdmjblaa
open Go.RowKit

theorem cut_lit1 {b : Int} (h : may b = true) : cut 1 b = 1 := by rcases may_cases h with rfl | rfl | rfl | rfl | rfl <;> decide
theorem cut_mul_right {b : Int} (h : may b = true) (x y : Nat) : cut (x * cut y b) b = cut (x * y) b := by
  rw [Nat.mul_comm, cut_mul_left h, Nat.mul_comm]
theorem cut_add_left {b : Int} (h : may b = true) (x y : Nat) : cut (cut x b + y) b = cut (x + y) b := by
  rw [← cut_add h, cut_idem, cut_add h]
theorem muls_two {b : Int} (h : may b = true) (x : Nat) : doV 3 b x (cut 2 b) = doV 1 b x x := by
  rw [doV_mul h, doV_add h, cut_mul_right h, Nat.mul_two]
theorem muls_shl {b : Int} (h : may b = true) (x : Nat) : doV 8 b x (cut 1 b) = doV 1 b x x := by
  rw [doV_shl h, doV_add h, cut_idem, cut_lit1 h, cut_mul_left h, Nat.pow_one, Nat.mul_two]
theorem muls_sum {b : Int} (h : may b = true) (x y : Nat) : doV 3 b x (doV 1 b y (cut 1 b)) = doV 1 b (doV 3 b x y) x := by
  rw [doV_mul h, doV_add h, doV_add h, doV_mul h, cut_mul_right h, cut_add_left h, cut_lit1 h, Nat.mul_add, Nat.mul_one]

set_option maxHeartbeats 1000000 in
theorem muls_no (b : Int) (x y : Nat) (hb : may b = false) (w : World) :
    Calls Try.prog 9 #[.int .i64 b, .int .u64 x, .int .u64 y] w (GrownTrue w) := by
  have HM := Lib.hid hb
  clear hb
  go_enter Try.func9, Try.ntmps9
  go_wp2_with fail
  refine (awake_any _).mono ?_
  rintro e w1 ⟨rfl, hb1⟩
  go_wp2_with fail
  refine (rmay_as _ _ HM.out _).mono ?_
  rintro e w' ⟨rfl, rfl⟩
  go_wp2_with fail
  go_ret
  exact ⟨rfl, hb1⟩

set_option maxHeartbeats 2000000 in
set_option maxRecDepth 100000 in
theorem muls_yes (b : Int) (x y : Nat) (hx : x < 18446744073709551616) (hy : y < 18446744073709551616) (hb : may b = true) (w : World) :
    Calls Try.prog 9 #[.int .i64 b, .int .u64 x, .int .u64 y] w (GrownTrue w) := by
  have HM := Lib.hid hb
  have HX := Lib.hid hx
  have HY := Lib.hid hy
  obtain ⟨t, ht⟩ : ∃ t, doV 1 b x x = t := ⟨_, rfl⟩
  obtain ⟨o, ho⟩ : ∃ o, cut 1 b = o := ⟨_, rfl⟩
  obtain ⟨z, hz⟩ : ∃ z, cut 2 b = z := ⟨_, rfl⟩
  obtain ⟨u, hu⟩ : ∃ u, doV 1 b y o = u := ⟨_, rfl⟩
  obtain ⟨p, hp⟩ : ∃ p, doV 3 b x y = p := ⟨_, rfl⟩
  obtain ⟨r, hr⟩ : ∃ r, doV 3 b x u = r := ⟨_, rfl⟩
  have HT := Lib.hid ht
  have HO := Lib.hid ho
  have HZ := Lib.hid hz
  have HU := Lib.hid hu
  have HP := Lib.hid hp
  have HR := Lib.hid hr
  have HOL : Hid (o < 18446744073709551616) := Lib.hid (by rw [← ho]; exact cut_lt _ (by decide))
  have HZL : Hid (z < 18446744073709551616) := Lib.hid (by rw [← hz]; exact cut_lt _ (by decide))
  have HUL : Hid (u < 18446744073709551616) := Lib.hid (by rw [← hu]; exact doV_lt _ _ _ _)
  have HPL : Hid (p < 18446744073709551616) := Lib.hid (by rw [← hp]; exact doV_lt _ _ _ _)
  have HM2 : Hid (doV 3 b x z = t) := Lib.hid (by rw [← hz, ← ht]; exact muls_two hb x)
  have HS2 : Hid (doV 8 b x o = t) := Lib.hid (by rw [← ho, ← ht]; exact muls_shl hb x)
  have HR2 : Hid (doV 1 b p x = r) := Lib.hid (by rw [← hr, ← hp, ← hu, ← ho]; exact (muls_sum hb x y).symm)
  have C : Hid (∀ y, doC 1 b y = 0 ∧ doC 3 b y = 0 ∧ doC 8 b y = 0) := Lib.hid (fun y => ⟨doC_of hb (by decide) (by decide) (by decide) _, doC_of hb (by decide) (by decide) (by decide) _, doC_of hb (by decide) (by decide) (by decide) _⟩)
  clear hx hy hb ht ho hz hu hp hr
  cases d : decide (1 < b)
  all_goals
    go_enter Try.func9, Try.ntmps9
    go_wp2_with fail
    refine (awake_any _).mono ?_
    rintro e w1 ⟨rfl, hb1⟩
    go_wp2_with fail
    refine (rmay_as _ _ HM.out _).mono ?_
    rintro e w' ⟨rfl, rfl⟩
    go_wp2_with fail
    refine (do_any _ _ _ _ HX.out HX.out _ _ HT.out (C.out _).1 _).mono ?_
    rintro e w2 ⟨rfl, hb2⟩
    have HB2 := Lib.hid (hb1.trans (hb2.mono hb1.size))
    clear hb1 hb2
    go_wp2_with fail
    refine (cut_at 1 (by decide) _ _ HO.out _ rfl _).mono ?_
    rintro e w' ⟨rfl, rfl⟩
    go_wp2_with fail
    refine (cut_at 2 (by decide) _ _ HZ.out _ rfl _).mono ?_
    rintro e w' ⟨rfl, rfl⟩
    go_wp2_with fail
    refine (do_any _ _ _ _ HX.out HZL.out _ _ HM2.out (C.out _).2.1 _).mono ?_
    rintro e w3 ⟨rfl, hb3⟩
    have HB3 := Lib.hid (HB2.out.trans (hb3.mono HB2.out.size))
    clear hb3 HB2
    go_wp2_with fail
    refine (do_any _ _ _ _ HX.out HOL.out _ _ HS2.out (C.out _).2.2 _).mono ?_
    rintro e w4 ⟨rfl, hb4⟩
    have HB4 := Lib.hid (HB3.out.trans (hb4.mono HB3.out.size))
    clear hb4 HB3
    go_wp2_with fail
    refine (do_any _ _ _ _ HY.out HOL.out _ _ HU.out (C.out _).1 _).mono ?_
    rintro e w5 ⟨rfl, hb5⟩
    have HB5 := Lib.hid (HB4.out.trans (hb5.mono HB4.out.size))
    clear hb5 HB4
    go_wp2_with fail
    refine (do_any _ _ _ _ HX.out HUL.out _ _ HR.out (C.out _).2.1 _).mono ?_
    rintro e w6 ⟨rfl, hb6⟩
    have HB6 := Lib.hid (HB5.out.trans (hb6.mono HB5.out.size))
    clear hb6 HB5
    go_wp2_with fail
    refine (do_any _ _ _ _ HX.out HY.out _ _ HP.out (C.out _).2.1 _).mono ?_
    rintro e w7 ⟨rfl, hb7⟩
    have HB7 := Lib.hid (HB6.out.trans (hb7.mono HB6.out.size))
    clear hb7 HB6
    go_wp2_with fail
    refine (do_any _ _ _ _ HPL.out HX.out _ _ HR2.out (C.out _).1 _).mono ?_
    rintro e w8 ⟨rfl, hb8⟩
    have HB8 := Lib.hid (HB7.out.trans (hb8.mono HB7.out.size))
    clear hb8 HB7
    go_wp2_with fail
    go_ret
    exact ⟨rfl, HB8.out⟩

theorem muls_any (b : Int) (x y : Nat) (hx : x < 18446744073709551616) (hy : y < 18446744073709551616) (w : World) :
    Calls Try.prog 9 #[.int .i64 b, .int .u64 x, .int .u64 y] w (GrownTrue w) := by
  cases hb : may b
  · exact muls_no b x y hb w
  · exact muls_yes b x y hx hy hb w
end Go.Proofs.Ytakbkpcmdmjblaa
