/- The walk of WordUndoes: it gives true. -/
import Derived.Test.YtakbkpcmdmjblaaWidthsWalk
namespace Go.Proofs.Ytakbkpcmdmjblaa
open Go.RowKit

theorem undo_sub {b : Int} (h : may b = true) (x y : Nat) : doV 2 b (doV 1 b x y) y = cut x b := by
  rw [doV_sub h, doV_add h, cut_idem]
  rcases may_cases h with rfl | rfl | rfl | rfl | rfl
  all_goals
    simp only [cut_1, cut_8, cut_16, cut_32, cut_64]
    omega
theorem doV_div {b : Int} (h : may b = true) (x y : Nat) (h0 : cut y b ≠ 0) : doV 4 b x y = cut x b / cut y b := by
  have ht : traps 4 b y = false := by simp [traps, h0]
  have e : doV 4 b x y = cut (cut x b / cut y b) b := by simp [doV, two_of h, ht, way]
  rw [e]
  exact cut_of_lt h (Nat.lt_of_le_of_lt (Nat.div_le_self _ _) (cut_lt_pow h))
theorem doC_div {b : Int} (h : may b = true) (y : Nat) (h0 : cut y b ≠ 0) : doC 4 b y = 0 := by
  simp [doC, two_of h, traps, h0]
theorem doC_div0 {b : Int} (h : may b = true) (y : Nat) (h0 : cut y b = 0) : doC 4 b y = 8 := by
  simp [doC, two_of h, traps, h0]
theorem doV_div0 {b : Int} (h : may b = true) (x y : Nat) (h0 : cut y b = 0) : doV 4 b x y = 0 := by
  simp [doV, two_of h, traps, h0]
theorem sub_le {b : Int} (h : may b = true) (x p : Nat) (hp : p ≤ cut x b) : doV 2 b x p = cut x b - p := by
  have hx : cut x b < 2 ^ b.toNat := cut_lt_pow h
  rw [doV_sub h, cut_of_lt h (Nat.lt_of_le_of_lt hp hx)]
  generalize cut x b = c at hp hx
  rcases may_cases h with rfl | rfl | rfl | rfl | rfl
  all_goals
    simp only [cut_1, cut_8, cut_16, cut_32, cut_64]
    simp only [Int.reduceToNat, Nat.reducePow] at hx
    omega
theorem rest_less {b : Int} (h : may b = true) (x y : Nat) (h0 : cut y b ≠ 0) : doV 2 b x (doV 3 b (doV 4 b x y) y) < cut y b := by
  have hp : doV 3 b (doV 4 b x y) y = cut x b / cut y b * cut y b := by
    have hx : cut x b < 2 ^ b.toNat := cut_lt_pow h
    have hl := Nat.div_mul_le_self (cut x b) (cut y b)
    have hq : cut x b / cut y b < 2 ^ b.toNat := Nat.lt_of_le_of_lt (Nat.div_le_self _ _) hx
    rw [doV_div h x y h0, doV_mul h, ← cut_mul h, cut_of_lt h hq]
    exact cut_of_lt h (Nat.lt_of_le_of_lt hl hx)
  rw [hp, sub_le h x _ (Nat.div_mul_le_self _ _)]
  have := Nat.mod_lt (cut x b) (Nat.pos_of_ne_zero h0)
  have e := Nat.div_add_mod (cut x b) (cut y b)
  rw [Nat.mul_comm] at e
  omega

theorem doV_cut (k b : Int) (x y : Nat) : cut (doV k b x y) b = doV k b x y := by
  unfold doV
  split
  · exact cut_idem _ _
  · cases h : may b
    · exact cut_no h _
    · rw [cut_pow h, Nat.zero_mod]
theorem doV_lt (k b : Int) (x y : Nat) : doV k b x y < 18446744073709551616 := by
  cases h : may b
  · rw [← doV_cut, cut_no h]; decide
  · rw [← doV_cut]; exact Nat.lt_of_lt_of_le (cut_lt_pow h) (pow_le h)
theorem doC_or {k b : Int} (h : may b = true) (h1 : 1 ≤ k) (h2 : k ≤ 12) (y : Nat) : doC k b y = 0 ∨ doC k b y = 8 := by
  unfold doC
  rw [two_of h h1 h2]
  cases traps k b y <;> simp
theorem doV_one {k b : Int} (h1 : 10 ≤ k) (h2 : k ≤ 12) (x y : Nat) : doV k b x y ≤ 1 := by
  unfold doV
  split
  · refine Nat.le_trans (cut_le _ _) ?_
    have ho : ∀ p, one p ≤ 1 := by intro p; cases p <;> decide
    rcases (show k = 10 ∨ k = 11 ∨ k = 12 by omega) with rfl | rfl | rfl
    · exact ho _
    · exact ho _
    · exact ho _
  · decide

set_option maxHeartbeats 1000000 in
theorem undoes_no (b : Int) (x y : Nat) (hb : may b = false) (w : World) :
    Calls Try.prog 4 #[.int .i64 b, .int .u64 x, .int .u64 y] w (GrownTrue w) := by
  have HM := Lib.hid hb
  have HT : Hid (two 1 b = false) := Lib.hid (by simp [two, hb])
  clear hb
  go_enter Try.func4, Try.ntmps4
  go_wp2_with fail
  refine (awake_any _).mono ?_
  rintro e w1 ⟨rfl, hb1⟩
  go_wp2_with fail
  refine (rmay_as _ _ HM.out _).mono ?_
  rintro e w' ⟨rfl, rfl⟩
  go_wp2_with fail
  refine (two_as _ _ _ HT.out _).mono ?_
  rintro e w' ⟨rfl, rfl⟩
  go_wp2_with fail
  go_ret
  exact ⟨rfl, hb1⟩

/-- at the head of a round: a kind from 1 to 13 -/
def AtKind (w : World) (i : Value) (wr : World) : Prop := ∃ k : Int, 1 ≤ k ∧ k ≤ 13 ∧ i = .int .i64 k ∧ Below w.heap.size w wr

set_option maxHeartbeats 2000000 in
theorem undoes_yes (b : Int) (x y : Nat) (hx : x < 18446744073709551616) (hy : y < 18446744073709551616) (hb : may b = true) (w : World) :
    Calls Try.prog 4 #[.int .i64 b, .int .u64 x, .int .u64 y] w (GrownTrue w) := by
  have HM := Lib.hid hb
  have HX := Lib.hid hx
  have HY := Lib.hid hy
  obtain ⟨s, hs⟩ : ∃ s, doV 1 b x y = s := ⟨_, rfl⟩
  obtain ⟨u, hu⟩ : ∃ u, cut x b = u := ⟨_, rfl⟩
  obtain ⟨q, hq⟩ : ∃ q, doV 4 b x y = q := ⟨_, rfl⟩
  obtain ⟨p, hp⟩ : ∃ p, doV 3 b q y = p := ⟨_, rfl⟩
  obtain ⟨r, hr⟩ : ∃ r, doV 2 b x p = r := ⟨_, rfl⟩
  obtain ⟨d, hd⟩ : ∃ d, cut y b = d := ⟨_, rfl⟩
  have HSL : Hid (s < 18446744073709551616) := Lib.hid (by rw [← hs]; exact doV_lt _ _ _ _)
  have HQL : Hid (q < 18446744073709551616) := Lib.hid (by rw [← hq]; exact doV_lt _ _ _ _)
  have HPL : Hid (p < 18446744073709551616) := Lib.hid (by rw [← hp]; exact doV_lt _ _ _ _)
  have HS2 : Hid (doV 2 b s y = u) := Lib.hid (by rw [← hs, ← hu]; exact undo_sub hb x y)
  have HS := Lib.hid hs
  have HU := Lib.hid hu
  have HQ := Lib.hid hq
  have HP := Lib.hid hp
  have HR := Lib.hid hr
  have HD := Lib.hid hd
  have C1 : Hid (doC 1 b y = 0) := Lib.hid (doC_of hb (by decide) (by decide) (by decide) _)
  have C2 : Hid (doC 2 b y = 0) := Lib.hid (doC_of hb (by decide) (by decide) (by decide) _)
  have C3 : Hid (doC 3 b y = 0) := Lib.hid (doC_of hb (by decide) (by decide) (by decide) _)
  have C2p : Hid (doC 2 b p = 0) := Lib.hid (doC_of hb (by decide) (by decide) (by decide) _)
  have hor : (Hid (doC 4 b y = 8) ∧ d = 0) ∨ (Hid (doC 4 b y = 0) ∧ ((d : Int) == 0) = false ∧ decide (d ≤ r) = false) := by
    by_cases h0 : cut y b = 0
    · exact .inl ⟨Lib.hid (doC_div0 hb y h0), by rw [← hd, h0]⟩
    · refine .inr ⟨Lib.hid (doC_div hb y h0), by rw [← hd]; simp; omega, ?_⟩
      have := rest_less hb x y h0
      rw [hq, hp, hr, hd] at this
      simp; omega
  clear hx hy hb hs hu hq hp hr hd
  rcases hor with ⟨C4, rfl⟩ | ⟨C4, d1, d2⟩
  all_goals
    go_enter Try.func4, Try.ntmps4
    go_wp2_with fail
    refine (awake_any _).mono ?_
    rintro e w1 ⟨rfl, hb1⟩
    go_wp2_with fail
    refine (rmay_as _ _ HM.out _).mono ?_
    rintro e w' ⟨rfl, rfl⟩
    go_wp2_with fail
    refine (do_any _ _ _ _ HX.out HY.out _ _ HS.out C1.out _).mono ?_
    rintro e w2 ⟨rfl, hb2⟩
    have HB2 := Lib.hid (hb1.trans (hb2.mono hb1.size))
    clear hb1 hb2
    go_wp2_with fail
    refine (do_any _ _ _ _ HSL.out HY.out _ _ HS2.out C2.out _).mono ?_
    rintro e w3 ⟨rfl, hb3⟩
    have HB3 := Lib.hid (HB2.out.trans (hb3.mono HB2.out.size))
    clear hb3 HB2
    go_wp2_with fail
    refine (do_any _ _ _ _ HX.out HY.out _ _ HQ.out C4.out _).mono ?_
    rintro e w4 ⟨rfl, hb4⟩
    have HB4 := Lib.hid (HB3.out.trans (hb4.mono HB3.out.size))
    clear hb4 HB3
    go_wp2_with fail
    refine (do_any _ _ _ _ HQL.out HY.out _ _ HP.out C3.out _).mono ?_
    rintro e w5 ⟨rfl, hb5⟩
    have HB5 := Lib.hid (HB4.out.trans (hb5.mono HB4.out.size))
    clear hb5 HB4
    go_wp2_with fail
    refine (do_any _ _ _ _ HX.out HPL.out _ _ HR.out C2p.out _).mono ?_
    rintro e w6 ⟨rfl, hb6⟩
    have HB6 := Lib.hid (HB5.out.trans (hb6.mono HB5.out.size))
    clear hb6 HB5
    go_wp2_with (first | (go_at_call 17; with_reducible refine (rcut_any x HX.out b _ HU.out _).mono ?_; rintro e w' ⟨rfl, rfl⟩) | (go_at_call 17; with_reducible refine (rcut_any y HY.out b _ HD.out _).mono ?_; rintro e w' ⟨rfl, rfl⟩))
    go_loopw [17] (fun i wr => AtKind w i wr) (fun i _ => (13 - intOf i).toNat)
    case atStart => exact ⟨1, by omega, by omega, rfl, HB6.out⟩
    case round =>
      clear HB6
      obtain ⟨k, hk1, hk13, rfl, hbw⟩ := hrel
      have HB := Lib.hid hbw
      clear hbw
      by_cases hk : k ≤ 12
      · obtain ⟨v, hv⟩ : ∃ v, doV k b x y = v := ⟨_, rfl⟩
        obtain ⟨c, hc⟩ : ∃ c, doC k b y = c := ⟨_, rfl⟩
        have hor := doC_or HM.out hk1 hk y
        rw [hc] at hor
        have HV := Lib.hid hv
        have HC := Lib.hid hc
        have HVL : Hid (v < 18446744073709551616) := Lib.hid (by rw [← hv]; exact doV_lt _ _ _ _)
        have HVC : Hid (cut v b = v) := Lib.hid (by rw [← hv]; exact doV_cut _ _ _ _)
        have hone : (decide (10 ≤ k) = false) ∨ (decide (10 ≤ k) = true ∧ decide ((1 : Int) < (v : Int)) = false) := by
          by_cases h : 10 ≤ k
          · have := doV_one (b := b) h hk x y
            rw [hv] at this
            exact .inr ⟨by simpa using h, by simp; omega⟩
          · exact .inl (by simpa using h)
        clear hv hc
        rcases hor with rfl | rfl
        all_goals
          rcases hone with e1 | ⟨e1, e2⟩
          all_goals
            go_wp2_with fail
            refine (do_any _ _ _ _ HX.out HY.out _ _ HV.out HC.out _).mono ?_
            rintro e w7 ⟨rfl, hb7⟩
            have HB7 := Lib.hid (HB.out.trans (hb7.mono HB.out.size))
            clear hb7
            go_wp2_with fail
            refine (rcut_any v HVL.out b _ HVC.out _).mono ?_
            rintro e w' ⟨rfl, rfl⟩
            go_wp2_with fail
            go_roundw
            case rel => exact ⟨k + 1, by omega, by omega, rfl, HB7.out⟩
            case measure => simp [intOf]; omega
      · go_wp2_with fail
        go_ret
        exact ⟨rfl, HB.out⟩

theorem undoes_any (b : Int) (x y : Nat) (hx : x < 18446744073709551616) (hy : y < 18446744073709551616) (w : World) :
    Calls Try.prog 4 #[.int .i64 b, .int .u64 x, .int .u64 y] w (GrownTrue w) := by
  cases hb : may b
  · exact undoes_no b x y hb w
  · exact undoes_yes b x y hx hy hb w
end Go.Proofs.Ytakbkpcmdmjblaa
