/- The reference's Do at the shifts: bit by bit, the same. -/
import Derived.Test.YtakbkpcmdmjblaaRefDo
namespace Go.Proofs.Ytakbkpcmdmjblaa
open Go.RowKit


set_option maxHeartbeats 1000000 in
theorem rdo_shl (b : Int) (hb : may b = true) (x y : Nat) (hx : x < 18446744073709551616) (hy : y < 18446744073709551616) (c d r v : Nat) (hc : cut x b = c) (hd : cut y b = d) (hr : cut (c * 2 ^ d) b = r) (hv : cut r b = v) (hr' : r < 18446744073709551616) (w : World) :
    Calls Try.prog 13 #[.int .i64 8, .int .i64 b, .int .u64 x, .int .u64 y] w (Just v 0 w) := by
  have T := Lib.hid hb
  have HX := Lib.hid hx
  have HY := Lib.hid hy
  have HC' : Hid (c < 18446744073709551616) := Lib.hid (by rw [← hc]; exact cut_lt b hx)
  have HD' : Hid (d < 18446744073709551616) := Lib.hid (by rw [← hd]; exact cut_lt b hy)
  have HC := Lib.hid hc
  have HD := Lib.hid hd
  have HR := Lib.hid hr
  have HR' := Lib.hid hr'
  have HV := Lib.hid hv
  clear hb hx hy hc hd hr hv hr'
  go_enter Try.func13, Try.ntmps13
  go_wp2_with fail
  refine (rmay_yes _ T.out _).mono ?_
  rintro e w' ⟨rfl, rfl⟩
  go_wp2_with fail
  refine (rcut_any _ HX.out _ _ HC.out _).mono ?_
  rintro e w' ⟨rfl, rfl⟩
  go_wp2_with fail
  refine (rcut_any _ HY.out _ _ HD.out _).mono ?_
  rintro e w' ⟨rfl, rfl⟩
  go_wp2_with fail
  go_loopw [10, 11] (fun v i wr => ∃ (k t : Nat), k ≤ d ∧ i = .int .u64 k ∧ cut (c * 2 ^ k) b = t ∧ v = .int .u64 t ∧ w = wr) (fun _ i _ => d - (intOf i).toNat)
  case atStart => exact ⟨0, c, Nat.zero_le _, rfl, by rw [Nat.pow_zero, Nat.mul_one, ← HC.out, cut_idem], rfl, rfl⟩
  case round =>
    obtain ⟨k, t, hk, rfl, ht, rfl, rfl⟩ := hrel
    have HT := Lib.hid ht
    clear ht
    by_cases hlt : k < d
    · have d1 : decide (k < d) = true := by simpa using hlt
      by_cases h0 : t = 0
      · have d2 : ((t : Int) != 0) = false := by simp [h0]
        have HZ : Hid (r = 0) := Lib.hid (by rw [← HR.out]; exact shl_zero T.out c k d (by omega) (by rw [HT.out, h0]))
        have H0 := Lib.hid h0
        clear h0
        go_wp2_with fail
        refine (rcut_at r HR'.out _ v HV.out _ (by rw [HZ.out, H0.out]) _).mono ?_
        rintro e w' ⟨rfl, rfl⟩
        go_wp2_with fail
        go_ret2
        exact ⟨rfl, rfl⟩
      · have d2 : ((t : Int) != 0) = true := by simp; omega
        clear h0
        have HNX : Hid (cut (t * 2 % 18446744073709551616) b = cut (c * 2 ^ (k + 1)) b) := Lib.hid (by rw [← HT.out]; exact shl_step T.out c k)
        have HW : Hid (IntKind.u64.wrap ((t : Int) * 2) = ((t * 2 % 18446744073709551616 : Nat) : Int)) := Lib.hid (by rw [u64_wrap]; omega)
        go_wp2_with fail
        refine (rcut_at _ (Nat.mod_lt _ (by decide)) _ _ HNX.out _ HW.out _).mono ?_
        rintro e w' ⟨rfl, rfl⟩
        have HI : Hid (IntKind.u64.wrap ((k : Int) + 1) = ((k + 1 : Nat) : Int)) := Lib.hid (by have := HD'.out; rw [u64_wrap]; omega)
        go_wp2_with fail
        go_roundw
        case rel => exact ⟨k + 1, cut (c * 2 ^ (k + 1)) b, by omega, by rw [HI.out], rfl, rfl, trivial⟩
        case measure => simp only [intOf]; rw [HI.out]; simp; omega
    · have d1 : decide (k < d) = false := by simpa using hlt
      have HK : Hid (k = d) := Lib.hid (by omega)
      have HTR : Hid ((t : Int) = r) := Lib.hid (by rw [← HR.out, ← HK.out, HT.out])
      go_wp2_with fail
      refine (rcut_at r HR'.out _ v HV.out _ HTR.out _).mono ?_
      rintro e w' ⟨rfl, rfl⟩
      go_wp2_with fail
      go_ret2
      exact ⟨rfl, rfl⟩

set_option maxHeartbeats 1000000 in
theorem rdo_shr (b : Int) (hb : may b = true) (x y : Nat) (hx : x < 18446744073709551616) (hy : y < 18446744073709551616) (c d r v : Nat) (hc : cut x b = c) (hd : cut y b = d) (hr : c / 2 ^ d = r) (hv : cut r b = v) (hr' : r < 18446744073709551616) (w : World) :
    Calls Try.prog 13 #[.int .i64 9, .int .i64 b, .int .u64 x, .int .u64 y] w (Just v 0 w) := by
  have T := Lib.hid hb
  have HX := Lib.hid hx
  have HY := Lib.hid hy
  have HC' : Hid (c < 18446744073709551616) := Lib.hid (by rw [← hc]; exact cut_lt b hx)
  have HD' : Hid (d < 18446744073709551616) := Lib.hid (by rw [← hd]; exact cut_lt b hy)
  have HC := Lib.hid hc
  have HD := Lib.hid hd
  have HR := Lib.hid hr
  have HR' := Lib.hid hr'
  have HV := Lib.hid hv
  clear hb hx hy hc hd hr hv hr'
  go_enter Try.func13, Try.ntmps13
  go_wp2_with fail
  refine (rmay_yes _ T.out _).mono ?_
  rintro e w' ⟨rfl, rfl⟩
  go_wp2_with fail
  refine (rcut_any _ HX.out _ _ HC.out _).mono ?_
  rintro e w' ⟨rfl, rfl⟩
  go_wp2_with fail
  refine (rcut_any _ HY.out _ _ HD.out _).mono ?_
  rintro e w' ⟨rfl, rfl⟩
  go_wp2_with fail
  go_loopw [10, 12] (fun v i wr => ∃ (k t : Nat), k ≤ d ∧ i = .int .u64 k ∧ c / 2 ^ k = t ∧ v = .int .u64 t ∧ w = wr) (fun _ i _ => d - (intOf i).toNat)
  case atStart => exact ⟨0, c, Nat.zero_le _, rfl, by rw [Nat.pow_zero, Nat.div_one], rfl, rfl⟩
  case round =>
    obtain ⟨k, t, hk, rfl, ht, rfl, rfl⟩ := hrel
    have HT := Lib.hid ht
    clear ht
    by_cases hlt : k < d
    · have d1 : decide (k < d) = true := by simpa using hlt
      by_cases h0 : t = 0
      · have d2 : ((t : Int) != 0) = false := by simp [h0]
        have HZ : Hid (r = 0) := Lib.hid (by rw [← HR.out]; exact shr_zero c k d (by omega) (by rw [HT.out, h0]))
        have H0 := Lib.hid h0
        clear h0
        go_wp2_with fail
        refine (rcut_at r HR'.out _ v HV.out _ (by rw [HZ.out, H0.out]) _).mono ?_
        rintro e w' ⟨rfl, rfl⟩
        go_wp2_with fail
        go_ret2
        exact ⟨rfl, rfl⟩
      · have d2 : ((t : Int) != 0) = true := by simp; omega
        clear h0
        have HI : Hid (IntKind.u64.wrap ((k : Int) + 1) = ((k + 1 : Nat) : Int)) := Lib.hid (by have := HD'.out; rw [u64_wrap]; omega)
        have HW : Hid (IntKind.u64.wrap ((t : Int) / 2) = ((c / 2 ^ (k + 1) : Nat) : Int)) := Lib.hid (by
          have h3 := Nat.lt_of_le_of_lt (Nat.div_le_self c (2 ^ k)) HC'.out
          rw [HT.out] at h3
          rw [← shr_step, HT.out, u64_wrap]; omega)
        go_wp2_with fail
        go_roundw
        case rel => exact ⟨k + 1, c / 2 ^ (k + 1), by omega, by rw [HI.out], rfl, by first | rw [HW.out] | (rw [← HW.out, u64_wrap]; congr 1; have := HW.out; rw [u64_wrap] at this; omega), trivial⟩
        case measure => simp only [intOf]; rw [HI.out]; simp; omega
    · have d1 : decide (k < d) = false := by simpa using hlt
      have HK : Hid (k = d) := Lib.hid (by omega)
      have HTR : Hid ((t : Int) = r) := Lib.hid (by rw [← HR.out, ← HK.out, HT.out])
      go_wp2_with fail
      refine (rcut_at r HR'.out _ v HV.out _ HTR.out _).mono ?_
      rintro e w' ⟨rfl, rfl⟩
      go_wp2_with fail
      go_ret2
      exact ⟨rfl, rfl⟩

/-- the reference's Do -/
theorem rdo_any (k b : Int) (x y : Nat) (hx : x < 18446744073709551616) (hy : y < 18446744073709551616) (v : Nat) (c : Int) (hv : doV k b x y = v) (hc : doC k b y = c) (w : World) :
    Calls Try.prog 13 #[.int .i64 k, .int .i64 b, .int .u64 x, .int .u64 y] w (Just v c w) := by
  subst hv hc
  cases h : two k b with
  | false =>
    have e1 : doV k b x y = 0 := by simp [doV, h]
    have e2 : doC k b y = 1 := by simp [doC, h]
    rw [e1, e2]
    exact rdo_arg k b h x y w
  | true =>
    have hb : may b = true := by simp [two] at h; exact h.2
    have hk : 1 ≤ k ∧ k ≤ 12 := by simp [two] at h; exact h.1
    have bx := cut_lt b hx
    have bw := way_lt k.toNat b (cut x b) (cut y b) bx (cut_lt b hy)
    cases ht : traps k b y with
    | true =>
      have e1 : doV k b x y = 0 := by simp [doV, ht]
      have e2 : doC k b y = 8 := by simp [doC, h, ht]
      rw [e1, e2]
      simp [traps, h] at ht
      obtain ⟨rfl, h0⟩ := ht
      exact rdo_trap b hb x y hx hy h0 w
    | false =>
      have e1 : doV k b x y = cut (way k.toNat b (cut x b) (cut y b)) b := by simp [doV, h, ht]
      have e2 : doC k b y = 0 := by simp [doC, h, ht]
      rw [e2]
      rcases (show k = 1 ∨ k = 2 ∨ k = 3 ∨ k = 4 ∨ k = 5 ∨ k = 6 ∨ k = 7 ∨ k = 8 ∨ k = 9 ∨ k = 10 ∨ k = 11 ∨ k = 12 by omega) with rfl | rfl | rfl | rfl | rfl | rfl | rfl | rfl | rfl | rfl | rfl | rfl
      · rw [e1]
        exact rdo_add b hb x y hx hy _ _ _ _ rfl rfl rfl rfl bw w
      · rw [e1]
        exact rdo_sub b hb x y hx hy _ _ _ _ rfl rfl rfl rfl bw w
      · rw [e1]
        exact rdo_mul b hb x y hx hy _ _ _ _ rfl rfl rfl rfl bw w
      · have h0 : 0 < cut y b := by simp [traps, h] at ht; omega
        rw [e1]
        exact rdo_div b hb x y hx hy _ _ _ _ rfl rfl h0 rfl rfl bw w
      · rw [e1]
        exact rdo_and b hb x y hx hy _ _ _ _ rfl rfl rfl rfl bw w
      · rw [e1]
        exact rdo_or b hb x y hx hy _ _ _ _ rfl rfl rfl rfl bw w
      · rw [e1]
        exact rdo_xor b hb x y hx hy _ _ _ _ rfl rfl rfl rfl bw w
      · rw [doV_shl hb]
        exact rdo_shl b hb x y hx hy _ _ _ _ rfl rfl rfl (cut_idem _ _) (Nat.lt_of_lt_of_le (cut_lt_pow hb) (pow_le hb)) w
      · rw [doV_shr hb]
        have hq := Nat.lt_of_le_of_lt (Nat.div_le_self (cut x b) (2 ^ cut y b)) (cut_lt_pow (v := x) hb)
        exact rdo_shr b hb x y hx hy _ _ _ _ rfl rfl rfl (cut_of_lt hb hq) (Nat.lt_of_lt_of_le hq (pow_le hb)) w
      · rw [e1]
        exact rdo_eq b hb x y hx hy _ _ _ _ rfl rfl rfl rfl bw w
      · rw [e1]
        exact rdo_ult b hb x y hx hy _ _ _ _ rfl rfl rfl rfl bw w
      · rw [e1]
        exact rdo_slt b hb x y hx hy _ _ _ _ rfl rfl rfl rfl bw w
end Go.Proofs.Ytakbkpcmdmjblaa
