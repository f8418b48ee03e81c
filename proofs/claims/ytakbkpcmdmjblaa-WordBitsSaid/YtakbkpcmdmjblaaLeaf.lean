/- What the small functions of package word, and of the reference, give: May, Cut, Signed, one, Two. -/
import Derived.Test.YtakbkpcmdmjblaaRows
import Derived.WalkKit
import Derived.WalkSpells
import Derived.WalkLawsBesides
import Derived.Deep.QuietTactic
import Derived.BigQuiet
import Derived.Lib.Hide
import Derived.Laws.BitsAllLaws
namespace Go.Proofs.Ytakbkpcmdmjblaa
open Go.RowKit

/-- whether it is a width -/
def may (b : Int) : Bool := b == 1 || b == 8 || b == 16 || b == 32 || b == 64

theorem may_cases {b : Int} (h : may b = true) : b = 1 ∨ b = 8 ∨ b = 16 ∨ b = 32 ∨ b = 64 := by
  simp [may] at h; omega
theorem may_not {b : Int} (h : may b = false) : b ≠ 1 ∧ b ≠ 8 ∧ b ≠ 16 ∧ b ≠ 32 ∧ b ≠ 64 := by
  simp [may] at h; omega

/-- a number modulo 2^width -/
def cut (v : Nat) (b : Int) : Nat := if may b then v % 2 ^ b.toNat else 0
/-- a number as a signed one -/
def sgn (v : Nat) (b : Int) : Int := if may b then (if v % 2 ^ b.toNat < 2 ^ (b.toNat - 1) then ((v % 2 ^ b.toNat : Nat) : Int) else ((v % 2 ^ b.toNat : Nat) : Int) - ((2 ^ b.toNat : Nat) : Int)) else 0
/-- 1, if something is so -/
def one (p : Bool) : Nat := if p then 1 else 0
/-- whether it is an operation of two -/
def two (k b : Int) : Bool := decide (1 ≤ k ∧ k ≤ 12) && may b

theorem cut_1 (v : Nat) : cut v 1 = v % 2 := rfl
theorem cut_8 (v : Nat) : cut v 8 = v % 256 := rfl
theorem cut_16 (v : Nat) : cut v 16 = v % 65536 := rfl
theorem cut_32 (v : Nat) : cut v 32 = v % 4294967296 := rfl
theorem cut_64 (v : Nat) : cut v 64 = v % 18446744073709551616 := rfl
theorem sgn_1 (v : Nat) : sgn v 1 = if v % 2 < 1 then ((v % 2 : Nat) : Int) else ((v % 2 : Nat) : Int) - 2 := rfl
theorem sgn_8 (v : Nat) : sgn v 8 = if v % 256 < 128 then ((v % 256 : Nat) : Int) else ((v % 256 : Nat) : Int) - 256 := rfl
theorem sgn_16 (v : Nat) : sgn v 16 = if v % 65536 < 32768 then ((v % 65536 : Nat) : Int) else ((v % 65536 : Nat) : Int) - 65536 := rfl
theorem sgn_32 (v : Nat) : sgn v 32 = if v % 4294967296 < 2147483648 then ((v % 4294967296 : Nat) : Int) else ((v % 4294967296 : Nat) : Int) - 4294967296 := rfl
theorem sgn_64 (v : Nat) : sgn v 64 = if v % 18446744073709551616 < 9223372036854775808 then ((v % 18446744073709551616 : Nat) : Int) else ((v % 18446744073709551616 : Nat) : Int) - 18446744073709551616 := rfl

theorem ret_u64 {a b : Int} (h : a = b) : Ending.returned (.int .u64 a) = .returned (.int .u64 b) := by rw [h]
theorem ret_i64 {a b : Int} (h : a = b) : Ending.returned (.int .i64 a) = .returned (.int .i64 b) := by rw [h]
theorem ret_bool {a b : Bool} (h : a = b) : Ending.returned (.bool a) = .returned (.bool b) := by rw [h]
theorem u64_wrap (n : Int) : IntKind.u64.wrap n = n % 18446744073709551616 := IntKind.wrap_u64 n

theorem may_yes (b : Int) (h : may b = true) (w : World) : Calls Try.prog 14 #[.int .i64 b] w fun e w' => e = .returned (.bool true) ∧ w = w' := by
  rcases may_cases h with rfl | rfl | rfl | rfl | rfl
  all_goals
    go_enter Try.func14, Try.ntmps14
    go_wp2
    go_ret
    exact ⟨rfl, rfl⟩
theorem may_no (b : Int) (h : may b = false) (w : World) : Calls Try.prog 14 #[.int .i64 b] w fun e w' => e = .returned (.bool false) ∧ w = w' := by
  obtain ⟨h1, h2, h3, h4, h5⟩ := may_not h
  clear h
  go_enter Try.func14, Try.ntmps14
  go_wp2
  go_ret
  exact ⟨rfl, rfl⟩
theorem rmay_yes (b : Int) (h : may b = true) (w : World) : Calls Try.prog 15 #[.int .i64 b] w fun e w' => e = .returned (.bool true) ∧ w = w' := by
  rcases may_cases h with rfl | rfl | rfl | rfl | rfl
  all_goals
    go_enter Try.func15, Try.ntmps15
    go_wp2
    go_ret
    exact ⟨rfl, rfl⟩
theorem rmay_no (b : Int) (h : may b = false) (w : World) : Calls Try.prog 15 #[.int .i64 b] w fun e w' => e = .returned (.bool false) ∧ w = w' := by
  obtain ⟨h1, h2, h3, h4, h5⟩ := may_not h
  clear h
  have e1 : (b == 1) = false := by simpa using h1
  have e2 : (b == 8) = false := by simpa using h2
  have e3 : (b == 16) = false := by simpa using h3
  have e4 : (b == 32) = false := by simpa using h4
  have e5 : (b == 64) = false := by simpa using h5
  clear h1 h2 h3 h4 h5
  go_enter Try.func15, Try.ntmps15
  go_wp2
  go_ret
  exact ⟨rfl, rfl⟩
theorem may_any (b : Int) (w : World) : Calls Try.prog 14 #[.int .i64 b] w fun e w' => e = .returned (.bool (may b)) ∧ w = w' := by
  cases h : may b
  · exact may_no b h w
  · exact may_yes b h w
theorem rmay_any (b : Int) (w : World) : Calls Try.prog 15 #[.int .i64 b] w fun e w' => e = .returned (.bool (may b)) ∧ w = w' := by
  cases h : may b
  · exact rmay_no b h w
  · exact rmay_yes b h w

/-- Cut -/
theorem cut_any (v : Nat) (hv : v < 18446744073709551616) (b : Int) (c : Nat) (hc : cut v b = c) (w : World) : Calls Try.prog 16 #[.int .u64 v, .int .i64 b] w fun e w' => e = .returned (.int .u64 c) ∧ w = w' := by
  subst hc
  have HV := Lib.hid hv
  clear hv
  cases h : may b with
  | false =>
    have H := Lib.hid h
    clear h
    go_enter Try.func16, Try.ntmps16
    go_wp2_with (go_at_call 14; refine (may_no _ H.out _).mono ?_; rintro e w' ⟨rfl, rfl⟩)
    go_ret
    exact ⟨ret_u64 (by simp [cut, H.out]), rfl⟩
  | true =>
    rcases may_cases h with rfl | rfl | rfl | rfl | rfl
    all_goals
      clear h
      go_enter Try.func16, Try.ntmps16
      go_wp2_with (go_at_call 14; refine (may_yes _ (by decide) _).mono ?_; rintro e w' ⟨rfl, rfl⟩)
      go_ret
      refine ⟨ret_u64 ?_, rfl⟩
      have hv := HV.out
      simp only [u64_wrap, cut_1, cut_8, cut_16, cut_32, cut_64]
      omega

/-- the reference's Cut -/
theorem rcut_any (v : Nat) (hv : v < 18446744073709551616) (b : Int) (c : Nat) (hc : cut v b = c) (w : World) : Calls Try.prog 17 #[.int .u64 v, .int .i64 b] w fun e w' => e = .returned (.int .u64 c) ∧ w = w' := by
  subst hc
  have HV := Lib.hid hv
  clear hv
  cases h : may b with
  | false =>
    have H := Lib.hid h
    clear h
    go_enter Try.func17, Try.ntmps17
    go_wp2_with (go_at_call 15; refine (rmay_no _ H.out _).mono ?_; rintro e w' ⟨rfl, rfl⟩)
    go_ret
    exact ⟨ret_u64 (by simp [cut, H.out]), rfl⟩
  | true =>
    rcases may_cases h with rfl | rfl | rfl | rfl | rfl
    all_goals
      clear h
      go_enter Try.func17, Try.ntmps17
      go_wp2_with (go_at_call 15; refine (rmay_yes _ (by decide) _).mono ?_; rintro e w' ⟨rfl, rfl⟩)
      go_ret
      refine ⟨ret_u64 ?_, rfl⟩
      have hv := HV.out
      simp only [cut_1, cut_8, cut_16, cut_32, cut_64]
      omega

/-- Signed -/
theorem sgn_any (v : Nat) (hv : v < 18446744073709551616) (b : Int) (c : Int) (hc : sgn v b = c) (w : World) : Calls Try.prog 18 #[.int .u64 v, .int .i64 b] w fun e w' => e = .returned (.int .i64 c) ∧ w = w' := by
  subst hc
  have HV := Lib.hid hv
  clear hv
  cases h : may b with
  | false =>
    have H := Lib.hid h
    clear h
    go_enter Try.func18, Try.ntmps18
    go_wp2_with (go_at_call 14; refine (may_no _ H.out _).mono ?_; rintro e w' ⟨rfl, rfl⟩)
    go_ret
    exact ⟨ret_i64 (by simp [sgn, H.out]), rfl⟩
  | true =>
    rcases may_cases h with rfl | rfl | rfl | rfl | rfl
    all_goals
      clear h
      go_enter Try.func18, Try.ntmps18
      go_wp2_with (go_at_call 14; refine (may_yes _ (by decide) _).mono ?_; rintro e w' ⟨rfl, rfl⟩)
      go_ret
      refine ⟨ret_i64 ?_, rfl⟩
      have hv := HV.out
      simp only [u64_wrap, sgn_1, sgn_8, sgn_16, sgn_32, sgn_64]
      unfold wrap64
      split <;> omega

theorem rsg_1 (v : Nat) (HV : Hid (v < 18446744073709551616)) (c : Nat) (HC : Hid (cut v 1 = c)) (r : Int) (HR : Hid (sgn v 1 = r)) (w : World) : Calls Try.prog 19 #[.int .u64 v, .int .i64 1] w fun e w' => e = .returned (.int .i64 r) ∧ w = w' := by
  have hcc : c < 2 := by have := HC.out; rw [cut_1] at this; omega
  cases hlo : decide ((c : Int) < 1)
  all_goals
    go_enter Try.func19, Try.ntmps19
    go_wp2_with fail
    refine (rmay_yes _ (by decide) _).mono ?_
    rintro e w' ⟨rfl, rfl⟩
    go_wp2_with fail
    refine (rcut_any v HV.out _ c HC.out _).mono ?_
    rintro e w' ⟨rfl, rfl⟩
    go_wp2_with fail
    go_ret
    refine ⟨ret_i64 ?_, rfl⟩
    have hv := HV.out
    rw [← HR.out]
    have hc := HC.out
    simp only [cut_1] at hc
    simp only [sgn_1]
    simp at hlo
    (try unfold wrap64)
    split <;> omega
theorem rsg_8 (v : Nat) (HV : Hid (v < 18446744073709551616)) (c : Nat) (HC : Hid (cut v 8 = c)) (r : Int) (HR : Hid (sgn v 8 = r)) (w : World) : Calls Try.prog 19 #[.int .u64 v, .int .i64 8] w fun e w' => e = .returned (.int .i64 r) ∧ w = w' := by
  have hcc : c < 256 := by have := HC.out; rw [cut_8] at this; omega
  cases hlo : decide ((c : Int) < 128)
  all_goals
    go_enter Try.func19, Try.ntmps19
    go_wp2_with fail
    refine (rmay_yes _ (by decide) _).mono ?_
    rintro e w' ⟨rfl, rfl⟩
    go_wp2_with fail
    refine (rcut_any v HV.out _ c HC.out _).mono ?_
    rintro e w' ⟨rfl, rfl⟩
    go_wp2_with fail
    go_ret
    refine ⟨ret_i64 ?_, rfl⟩
    have hv := HV.out
    rw [← HR.out]
    have hc := HC.out
    simp only [cut_8] at hc
    simp only [sgn_8]
    simp at hlo
    (try unfold wrap64)
    split <;> omega
theorem rsg_16 (v : Nat) (HV : Hid (v < 18446744073709551616)) (c : Nat) (HC : Hid (cut v 16 = c)) (r : Int) (HR : Hid (sgn v 16 = r)) (w : World) : Calls Try.prog 19 #[.int .u64 v, .int .i64 16] w fun e w' => e = .returned (.int .i64 r) ∧ w = w' := by
  have hcc : c < 65536 := by have := HC.out; rw [cut_16] at this; omega
  cases hlo : decide ((c : Int) < 32768)
  all_goals
    go_enter Try.func19, Try.ntmps19
    go_wp2_with fail
    refine (rmay_yes _ (by decide) _).mono ?_
    rintro e w' ⟨rfl, rfl⟩
    go_wp2_with fail
    refine (rcut_any v HV.out _ c HC.out _).mono ?_
    rintro e w' ⟨rfl, rfl⟩
    go_wp2_with fail
    go_ret
    refine ⟨ret_i64 ?_, rfl⟩
    have hv := HV.out
    rw [← HR.out]
    have hc := HC.out
    simp only [cut_16] at hc
    simp only [sgn_16]
    simp at hlo
    (try unfold wrap64)
    split <;> omega
theorem rsg_32 (v : Nat) (HV : Hid (v < 18446744073709551616)) (c : Nat) (HC : Hid (cut v 32 = c)) (r : Int) (HR : Hid (sgn v 32 = r)) (w : World) : Calls Try.prog 19 #[.int .u64 v, .int .i64 32] w fun e w' => e = .returned (.int .i64 r) ∧ w = w' := by
  have hcc : c < 4294967296 := by have := HC.out; rw [cut_32] at this; omega
  cases hlo : decide ((c : Int) < 2147483648)
  all_goals
    go_enter Try.func19, Try.ntmps19
    go_wp2_with fail
    refine (rmay_yes _ (by decide) _).mono ?_
    rintro e w' ⟨rfl, rfl⟩
    go_wp2_with fail
    refine (rcut_any v HV.out _ c HC.out _).mono ?_
    rintro e w' ⟨rfl, rfl⟩
    go_wp2_with fail
    go_ret
    refine ⟨ret_i64 ?_, rfl⟩
    have hv := HV.out
    rw [← HR.out]
    have hc := HC.out
    simp only [cut_32] at hc
    simp only [sgn_32]
    simp at hlo
    (try unfold wrap64)
    split <;> omega
theorem rsg_64 (v : Nat) (HV : Hid (v < 18446744073709551616)) (c : Nat) (HC : Hid (cut v 64 = c)) (r : Int) (HR : Hid (sgn v 64 = r)) (w : World) : Calls Try.prog 19 #[.int .u64 v, .int .i64 64] w fun e w' => e = .returned (.int .i64 r) ∧ w = w' := by
  all_goals
    go_enter Try.func19, Try.ntmps19
    go_wp2_with fail
    refine (rmay_yes _ (by decide) _).mono ?_
    rintro e w' ⟨rfl, rfl⟩
    go_wp2_with fail
    refine (rcut_any v HV.out _ c HC.out _).mono ?_
    rintro e w' ⟨rfl, rfl⟩
    go_wp2_with fail
    go_ret
    refine ⟨ret_i64 ?_, rfl⟩
    have hv := HV.out
    rw [← HR.out]
    have hc := HC.out
    simp only [cut_64] at hc
    simp only [sgn_64]
    (try unfold wrap64)
    split <;> omega
/-- the reference's Signed -/
theorem rsgn_any (v : Nat) (hv : v < 18446744073709551616) (b : Int) (r : Int) (hr : sgn v b = r) (w : World) : Calls Try.prog 19 #[.int .u64 v, .int .i64 b] w fun e w' => e = .returned (.int .i64 r) ∧ w = w' := by
  cases h : may b with
  | false =>
    have H := Lib.hid h
    have HR := Lib.hid hr
    clear h hr
    go_enter Try.func19, Try.ntmps19
    go_wp2_with (go_at_call 15; refine (rmay_no _ H.out _).mono ?_; rintro e w' ⟨rfl, rfl⟩)
    go_ret
    exact ⟨ret_i64 (by rw [← HR.out]; simp [sgn, H.out]), rfl⟩
  | true =>
    rcases may_cases h with rfl | rfl | rfl | rfl | rfl
    · exact rsg_1 v hv _ rfl r hr w
    · exact rsg_8 v hv _ rfl r hr w
    · exact rsg_16 v hv _ rfl r hr w
    · exact rsg_32 v hv _ rfl r hr w
    · exact rsg_64 v hv _ rfl r hr w

theorem one_any (p : Bool) (n : Nat) (hn : one p = n) (w : World) : Calls Try.prog 33 #[.bool p] w fun e w' => e = .returned (.int .u64 n) ∧ w = w' := by
  subst hn
  cases p
  all_goals
    go_enter Try.func33, Try.ntmps33
    go_wp2
    go_ret
    exact ⟨rfl, rfl⟩
theorem truth_any (p : Bool) (n : Nat) (hn : one p = n) (w : World) : Calls Try.prog 24 #[.bool p] w fun e w' => e = .returned (.int .u64 n) ∧ w = w' := by
  subst hn
  cases p
  all_goals
    go_enter Try.func24, Try.ntmps24
    go_wp2
    go_ret
    exact ⟨rfl, rfl⟩

theorem two_any (k b : Int) (w : World) : Calls Try.prog 20 #[.int .i64 k, .int .i64 b] w fun e w' => e = .returned (.bool (two k b)) ∧ w = w' := by
  by_cases h1 : 1 ≤ k
  · by_cases h2 : k ≤ 12
    · have e : two k b = may b := by simp [two, h1, h2]
      rw [e]
      clear e
      go_enter Try.func20, Try.ntmps20
      go_wp2_with (go_at_call 14; refine (may_any _ _).mono ?_; rintro e w' ⟨rfl, rfl⟩)
      go_ret
      exact ⟨rfl, rfl⟩
    · have e : two k b = false := by simp [two, h1, h2]
      rw [e]
      clear e
      have d : decide (k ≤ 12) = false := by simpa using h2
      clear h2
      go_enter Try.func20, Try.ntmps20
      go_wp2
      go_ret
      exact ⟨rfl, rfl⟩
  · have e : two k b = false := by simp [two, h1]
    rw [e]
    clear e
    have d : decide (1 ≤ k) = false := by simpa using h1
    clear h1
    go_enter Try.func20, Try.ntmps20
    go_wp2
    go_ret
    exact ⟨rfl, rfl⟩
end Go.Proofs.Ytakbkpcmdmjblaa
