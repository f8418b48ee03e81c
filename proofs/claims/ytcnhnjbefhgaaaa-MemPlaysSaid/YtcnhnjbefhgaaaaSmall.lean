/- The small functions: whether a width may be, whether bytes are there. -/
import Derived.Test.YtcnhnjbefhgaaaaState
import Derived.Deep.QuietTactic
import Derived.BigQuiet
import Derived.Outline
import Derived.Laws.BitsAllLaws
namespace Go.Proofs.Ytcnhnjbefhgaaaa
open Go.RowKit

theorem ret_bool {a b : Bool} (h : a = b) : Ending.returned (.bool a) = .returned (.bool b) := by rw [h]
theorem u64_wrap (n : Int) : IntKind.u64.wrap n = n % 18446744073709551616 := IntKind.wrap_u64 n

/-- a width of memory's -/
def wid (b : Int) : Bool := b == 8 || b == 16 || b == 32 || b == 64
def mayM (b n : Int) : Bool := wid b && decide (0 ≤ n ∧ n ≤ 16)
theorem wid_cases {b : Int} (h : wid b = true) : b = 8 ∨ b = 16 ∨ b = 32 ∨ b = 64 := by simp [wid] at h; omega
theorem wid_not {b : Int} (h : wid b = false) : b ≠ 8 ∧ b ≠ 16 ∧ b ≠ 32 ∧ b ≠ 64 := by simp [wid] at h; omega

theorem may_any (b n : Int) (w : World) : Calls Try.prog 25 #[.int .i64 b, .int .i64 n] w fun e w' => e = .returned (.bool (mayM b n)) ∧ w = w' := by
  cases hb : wid b with
  | false =>
    have e : mayM b n = false := by simp [mayM, hb]
    rw [e]
    obtain ⟨h1, h2, h3, h4⟩ := wid_not hb
    clear hb e
    go_enter Try.func25, Try.ntmps25
    go_wp2
    go_ret
    exact ⟨rfl, rfl⟩
  | true =>
    obtain ⟨r, hr⟩ : ∃ r, mayM b n = r := ⟨_, rfl⟩
    rw [hr]
    have HR := Lib.hid hr
    clear hr
    cases d1 : decide (0 ≤ n)
    all_goals
      cases d2 : decide (n ≤ 16)
      all_goals
        rcases wid_cases hb with rfl | rfl | rfl | rfl
        all_goals
          clear hb
          go_enter Try.func25, Try.ntmps25
          go_wp2
          go_ret
          refine ⟨ret_bool ?_, rfl⟩
          rw [← HR.out]
          simp only [decide_eq_true_eq, decide_eq_false_iff_not] at d1 d2
          simp [mayM, wid]
          try omega
theorem rmay_any (b n : Int) (w : World) : Calls Try.prog 22 #[.int .i64 b, .int .i64 n] w fun e w' => e = .returned (.bool (mayM b n)) ∧ w = w' := by
  cases hb : wid b with
  | false =>
    have e : mayM b n = false := by simp [mayM, hb]
    rw [e]
    obtain ⟨h1, h2, h3, h4⟩ := wid_not hb
    have e1 : (b == 8) = false := by simpa using h1
    have e2 : (b == 16) = false := by simpa using h2
    have e3 : (b == 32) = false := by simpa using h3
    have e4 : (b == 64) = false := by simpa using h4
    clear hb e h1 h2 h3 h4
    go_enter Try.func22, Try.ntmps22
    go_wp2
    go_ret
    exact ⟨rfl, rfl⟩
  | true =>
    obtain ⟨r, hr⟩ : ∃ r, mayM b n = r := ⟨_, rfl⟩
    rw [hr]
    have HR := Lib.hid hr
    clear hr
    cases d1 : decide (0 ≤ n)
    all_goals
      cases d2 : decide (n ≤ 16)
      all_goals
        rcases wid_cases hb with rfl | rfl | rfl | rfl
        all_goals
          clear hb
          go_enter Try.func22, Try.ntmps22
          go_wp2
          go_ret
          refine ⟨ret_bool ?_, rfl⟩
          rw [← HR.out]
          simp only [decide_eq_true_eq, decide_eq_false_iff_not] at d1 d2
          simp [mayM, wid]
          try omega

/-- whether k bytes are there, of n, from a on -/
def thereB (n a : Nat) (k : Int) : Bool := decide (1 ≤ k ∧ (a : Int) + k ≤ n)

theorem there_any {w : World} {base P : Nat} {F : Nat → Prop} {A T : Option Addr} {ca ct : Nat} {bs : List Nat} {ts : List Tch} (h : MemAt 63 w base P F A ca T ct bs ts) (hn : bs.length ≤ 5000) (a : Nat) (ha : a < 18446744073709551616) (k : Int) (r : Bool) (hr : thereB bs.length a k = r) :
    Calls Try.prog 16 #[.pointer (some ⟨P, 0, none⟩), .int .u64 a, .int .i64 k] w fun e w' => e = .returned (.bool r) ∧ w = w' := by
  have h0 := h.cell0
  have HR := Lib.hid hr
  have HA := Lib.hid ha
  clear hr ha h
  by_cases h1 : 1 ≤ k
  · by_cases h2 : k ≤ bs.length
    · go_enter Try.func16, Try.ntmps16
      go_wp2
      go_ret
      refine ⟨ret_bool ?_, rfl⟩
      rw [← HR.out]
      unfold thereB
      rw [decide_eq_decide]
      omega
    · have d1 : decide (k ≤ (bs.length : Int)) = false := by simpa using h2
      have HF : Hid (r = false) := Lib.hid (by rw [← HR.out]; unfold thereB; simp; omega)
      clear h2
      go_enter Try.func16, Try.ntmps16
      go_wp2
      go_ret
      exact ⟨ret_bool HF.out.symm, rfl⟩
  · have d1 : decide (1 ≤ k) = false := by simpa using h1
    have HF : Hid (r = false) := Lib.hid (by rw [← HR.out]; unfold thereB; simp; omega)
    clear h1
    go_enter Try.func16, Try.ntmps16
    go_wp2
    go_ret
    exact ⟨ret_bool HF.out.symm, rfl⟩

theorem rthere_any {w : World} {base P : Nat} {F : Nat → Prop} {A T : Option Addr} {ca ct : Nat} {bs : List Nat} {ts : List Tch} (h : MemAt 32 w base P F A ca T ct bs ts) (hn : bs.length ≤ 5000) (a : Nat) (ha : a < 18446744073709551616) (k : Int) (r : Bool) (hr : thereB bs.length a k = r) :
    Calls Try.prog 17 #[.pointer (some ⟨P, 0, none⟩), .int .u64 a, .int .i64 k] w fun e w' => e = .returned (.bool r) ∧ w = w' := by
  have h0 := h.cell0
  have HR := Lib.hid hr
  have HA := Lib.hid ha
  clear hr ha h
  by_cases h1 : 1 ≤ k
  · by_cases h2 : k ≤ bs.length
    · obtain ⟨K, rfl⟩ : ∃ K : Nat, k = K := ⟨k.toNat, by omega⟩
      have hK1 : 1 ≤ K := by omega
      have hK2 : K ≤ bs.length := by omega
      clear h1 h2
      have d1 : decide ((K : Int) < 1) = false := by simp; omega
      have d2 : decide (bs.length < K) = false := by simp; omega
      go_enter Try.func17, Try.ntmps17
      go_wp2
      go_loop [7] (fun i => ∃ j : Nat, j ≤ K ∧ i = .int .i64 j ∧ (j = 0 ∨ a + j ≤ bs.length)) (fun i => K - (intOf i).toNat)
      case atStart => exact ⟨0, Nat.zero_le _, rfl, .inl rfl⟩
      case round =>
        obtain ⟨j, hj, rfl, hprev⟩ := hrel
        have HP := Lib.hid hprev
        clear hprev
        by_cases hlt : j < K
        · obtain ⟨x, hx⟩ : ∃ x : Nat, (a + j) % 18446744073709551616 = x := ⟨_, rfl⟩
          have e1 : IntKind.u64.wrap ((a : Int) + (j : Int)) = (x : Int) := by rw [u64_wrap]; omega
          by_cases hfit : a + j < bs.length
          · have t1 : decide (x < a) = false := by simp; have := HA.out; omega
            have t2 : decide (bs.length ≤ x) = false := by simp; omega
            have HF := Lib.hid hfit
            clear hx hfit
            go_wp2
            go_round
            case rel => exact ⟨j + 1, by omega, by go_num, .inr (by have := HF.out; omega)⟩
            case measure => simp [intOf]; omega
          · have HF : Hid (r = false) := Lib.hid (by rw [← HR.out]; unfold thereB; simp; omega)
            by_cases hov : a + j < 18446744073709551616
            · have t1 : decide (x < a) = false := by simp; omega
              have t2 : decide (bs.length ≤ x) = true := by simp; omega
              clear hx hfit hov
              go_wp2
              go_ret
              exact ⟨ret_bool HF.out.symm, rfl⟩
            · have t1 : decide (x < a) = true := by simp; have := HA.out; omega
              clear hx hfit hov
              go_wp2
              go_ret
              exact ⟨ret_bool HF.out.symm, rfl⟩
        · obtain rfl : j = K := by omega
          have HF : Hid (r = true) := Lib.hid (by rw [← HR.out]; unfold thereB; simp; have := HP.out; omega)
          go_wp2
          go_ret
          exact ⟨ret_bool HF.out.symm, rfl⟩
    · have d1 : decide (k < 1) = false := by simp; omega
      have d2 : decide ((bs.length : Int) < k) = true := by simp; omega
      have HF : Hid (r = false) := Lib.hid (by rw [← HR.out]; unfold thereB; simp; omega)
      clear h1 h2
      go_enter Try.func17, Try.ntmps17
      go_wp2
      go_ret
      exact ⟨ret_bool HF.out.symm, rfl⟩
  · have d1 : decide (k < 1) = true := by simp; omega
    have HF : Hid (r = false) := Lib.hid (by rw [← HR.out]; unfold thereB; simp; omega)
    clear h1
    go_enter Try.func17, Try.ntmps17
    go_wp2
    go_ret
    exact ⟨ret_bool HF.out.symm, rfl⟩
end Go.Proofs.Ytcnhnjbefhgaaaa
namespace Go.Proofs.Ytcnhnjbefhgaaaa
open Go.RowKit
theorem wrap_mul (i s p : Nat) (hp : i * s = p) (h : p ≤ 1000000) : wrap64 ((i : Int) * (s : Int)) = (p : Int) := by
  rw [← Int.natCast_mul, hp]; unfold wrap64; omega

theorem fits_any {w : World} {base P : Nat} {F : Nat → Prop} {A T : Option Addr} {ca ct : Nat} {bs : List Nat} {ts : List Tch} (h : MemAt 32 w base P F A ca T ct bs ts) (hn : bs.length ≤ 5000) (a : Nat) (ha : a < 18446744073709551616) (s i : Nat) (hs1 : 1 ≤ s) (hs8 : s ≤ 8) (hi : i ≤ 16) (r : Bool) (hr : decide (a + (i + 1) * s ≤ bs.length) = r) :
    Calls Try.prog 26 #[.pointer (some ⟨P, 0, none⟩), .int .u64 a, .int .i64 s, .int .i64 i] w fun e w' => e = .returned (.bool r) ∧ w = w' := by
  obtain ⟨p, hp⟩ : ∃ p, i * s = p := ⟨_, rfl⟩
  have hp8 : p ≤ 128 := by rw [← hp]; have := Nat.mul_le_mul hi hs8; omega
  have e0 := wrap_mul i s p hp (by omega)
  obtain ⟨x, hx⟩ : ∃ x : Nat, (a + p) % 18446744073709551616 = x := ⟨_, rfl⟩
  have e1 : IntKind.u64.wrap ((a : Int) + (p : Int)) = (x : Int) := by rw [u64_wrap]; omega
  have hr' : decide (a + p + s ≤ bs.length) = r := by rw [← hr, Nat.add_mul, hp]; congr 1; rw [Nat.one_mul, Nat.add_assoc]
  have HM := Lib.hid h
  have HA := Lib.hid ha
  have HR := Lib.hid hr'
  have HXL : Hid (x < 18446744073709551616) := Lib.hid (by omega)
  clear h hr hr'
  by_cases hov : a + p < 18446744073709551616
  · have t1 : decide (a ≤ x) = true := by simp; omega
    have HT : Hid (thereB bs.length x s = r) := Lib.hid (by rw [← HR.out]; unfold thereB; rw [decide_eq_decide]; omega)
    clear hp hx hov ha
    go_enter Try.func26, Try.ntmps26
    go_wp2_with fail
    refine (rthere_any HM.out hn x HXL.out s r HT.out).mono ?_
    rintro e w' ⟨rfl, rfl⟩
    go_wp2_with fail
    go_ret
    exact ⟨rfl, rfl⟩
  · have t1 : decide (a ≤ x) = false := by simp; omega
    have HF : Hid (r = false) := Lib.hid (by rw [← HR.out]; simp; omega)
    clear hp hx hov ha
    go_enter Try.func26, Try.ntmps26
    go_wp2_with fail
    go_ret
    exact ⟨ret_bool HF.out.symm, rfl⟩
end Go.Proofs.Ytcnhnjbefhgaaaa
