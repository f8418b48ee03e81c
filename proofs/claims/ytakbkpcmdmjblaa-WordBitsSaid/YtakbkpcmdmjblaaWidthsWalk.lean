/- The walk of WordWidths: it gives true. -/
import Derived.Test.YtakbkpcmdmjblaaDoesWalk
namespace Go.Proofs.Ytakbkpcmdmjblaa
open Go.RowKit

theorem zext_yes (v : Nat) (hv : v < 18446744073709551616) (f t : Int) (hf : may f = true) (ht : may t = true) (h : f < t) (c : Nat) (hc : cut v f = c) (w : World) :
    Calls Try.prog 21 #[.int .u64 v, .int .i64 f, .int .i64 t] w (Just c 0 w) := by
  have d : decide (t ≤ f) = false := by simp; omega
  have HV := Lib.hid hv
  have HF := Lib.hid hf
  have HT := Lib.hid ht
  have HC := Lib.hid hc
  clear hv hf ht hc h
  go_enter Try.func21, Try.ntmps21
  go_wp2_with fail
  refine (may_as _ _ HF.out _).mono ?_
  rintro e w' ⟨rfl, rfl⟩
  go_wp2_with fail
  refine (may_as _ _ HT.out _).mono ?_
  rintro e w' ⟨rfl, rfl⟩
  go_wp2_with fail
  refine (cut_any _ HV.out _ _ HC.out _).mono ?_
  rintro e w' ⟨rfl, rfl⟩
  go_wp2_with fail
  go_ret2
  exact ⟨rfl, rfl⟩
theorem zext_no (v : Nat) (f t : Int) (h : may f = false ∨ may t = false ∨ t ≤ f) (w : World) :
    Calls Try.prog 21 #[.int .u64 v, .int .i64 f, .int .i64 t] w (Just 0 1 w) := by
  cases hf : may f with
  | false =>
    have HF := Lib.hid hf
    clear hf h
    go_enter Try.func21, Try.ntmps21
    go_wp2_with fail
    refine (may_as _ _ HF.out _).mono ?_
    rintro e w' ⟨rfl, rfl⟩
    go_wp2_with fail
    go_ret2
    exact ⟨rfl, rfl⟩
  | true =>
    cases ht : may t with
    | false =>
      have HF := Lib.hid hf
      have HT := Lib.hid ht
      clear hf ht h
      go_enter Try.func21, Try.ntmps21
      go_wp2_with fail
      refine (may_as _ _ HF.out _).mono ?_
      rintro e w' ⟨rfl, rfl⟩
      go_wp2_with fail
      refine (may_as _ _ HT.out _).mono ?_
      rintro e w' ⟨rfl, rfl⟩
      go_wp2_with fail
      go_ret2
      exact ⟨rfl, rfl⟩
    | true =>
      have d : decide (t ≤ f) = true := by
        rw [hf, ht] at h; simp at h; simpa using h
      have HF := Lib.hid hf
      have HT := Lib.hid ht
      clear hf ht h
      go_enter Try.func21, Try.ntmps21
      go_wp2_with fail
      refine (may_as _ _ HF.out _).mono ?_
      rintro e w' ⟨rfl, rfl⟩
      go_wp2_with fail
      refine (may_as _ _ HT.out _).mono ?_
      rintro e w' ⟨rfl, rfl⟩
      go_wp2_with fail
      go_ret2
      exact ⟨rfl, rfl⟩
theorem trunc_yes (v : Nat) (hv : v < 18446744073709551616) (f t : Int) (hf : may f = true) (ht : may t = true) (h : t < f) (c : Nat) (hc : cut v t = c) (w : World) :
    Calls Try.prog 22 #[.int .u64 v, .int .i64 f, .int .i64 t] w (Just c 0 w) := by
  have d : decide (f ≤ t) = false := by simp; omega
  have HV := Lib.hid hv
  have HF := Lib.hid hf
  have HT := Lib.hid ht
  have HC := Lib.hid hc
  clear hv hf ht hc h
  go_enter Try.func22, Try.ntmps22
  go_wp2_with fail
  refine (may_as _ _ HF.out _).mono ?_
  rintro e w' ⟨rfl, rfl⟩
  go_wp2_with fail
  refine (may_as _ _ HT.out _).mono ?_
  rintro e w' ⟨rfl, rfl⟩
  go_wp2_with fail
  refine (cut_any _ HV.out _ _ HC.out _).mono ?_
  rintro e w' ⟨rfl, rfl⟩
  go_wp2_with fail
  go_ret2
  exact ⟨rfl, rfl⟩
theorem trunc_no (v : Nat) (f t : Int) (h : may f = false ∨ may t = false ∨ f ≤ t) (w : World) :
    Calls Try.prog 22 #[.int .u64 v, .int .i64 f, .int .i64 t] w (Just 0 1 w) := by
  cases hf : may f with
  | false =>
    have HF := Lib.hid hf
    clear hf h
    go_enter Try.func22, Try.ntmps22
    go_wp2_with fail
    refine (may_as _ _ HF.out _).mono ?_
    rintro e w' ⟨rfl, rfl⟩
    go_wp2_with fail
    go_ret2
    exact ⟨rfl, rfl⟩
  | true =>
    cases ht : may t with
    | false =>
      have HF := Lib.hid hf
      have HT := Lib.hid ht
      clear hf ht h
      go_enter Try.func22, Try.ntmps22
      go_wp2_with fail
      refine (may_as _ _ HF.out _).mono ?_
      rintro e w' ⟨rfl, rfl⟩
      go_wp2_with fail
      refine (may_as _ _ HT.out _).mono ?_
      rintro e w' ⟨rfl, rfl⟩
      go_wp2_with fail
      go_ret2
      exact ⟨rfl, rfl⟩
    | true =>
      have d : decide (f ≤ t) = true := by
        rw [hf, ht] at h; simp at h; simpa using h
      have HF := Lib.hid hf
      have HT := Lib.hid ht
      clear hf ht h
      go_enter Try.func22, Try.ntmps22
      go_wp2_with fail
      refine (may_as _ _ HF.out _).mono ?_
      rintro e w' ⟨rfl, rfl⟩
      go_wp2_with fail
      refine (may_as _ _ HT.out _).mono ?_
      rintro e w' ⟨rfl, rfl⟩
      go_wp2_with fail
      go_ret2
      exact ⟨rfl, rfl⟩

set_option maxHeartbeats 1000000 in
/-- neither is: a width that is none, or twice the same -/
theorem widths_no (v : Nat) (f t : Int) (hno : may f = false ∨ may t = false ∨ f = t) (w : World) :
    Calls Try.prog 10 #[.int .u64 v, .int .i64 f, .int .i64 t] w (GrownTrue w) := by
  have H1 : Hid (may f = false ∨ may t = false ∨ t ≤ f) := Lib.hid (by rcases hno with h | h | h <;> simp [h])
  have H2 : Hid (may f = false ∨ may t = false ∨ f ≤ t) := Lib.hid (by rcases hno with h | h | h <;> simp [h])
  cases hf : may f with
  | false =>
    have HF := Lib.hid hf
    clear hf hno
    go_enter Try.func10, Try.ntmps10
    simp only [List.append]
    go_wp2_with fail
    refine (awake_any _).mono ?_
    rintro e w1 ⟨rfl, hb1⟩
    go_wp2_with fail
    refine (zext_no _ _ _ H1.out _).mono ?_
    rintro e w' ⟨rfl, rfl⟩
    go_wp2_with fail
    refine (trunc_no _ _ _ H2.out _).mono ?_
    rintro e w' ⟨rfl, rfl⟩
    go_wp2_with fail
    refine (rmay_as _ _ HF.out _).mono ?_
    rintro e w' ⟨rfl, rfl⟩
    go_wp2_with fail
    go_ret
    exact ⟨rfl, hb1⟩
  | true =>
    cases ht : may t with
    | false =>
      have HF := Lib.hid hf
      have HT := Lib.hid ht
      clear hf ht hno
      go_enter Try.func10, Try.ntmps10
      simp only [List.append]
      go_wp2_with fail
      refine (awake_any _).mono ?_
      rintro e w1 ⟨rfl, hb1⟩
      go_wp2_with fail
      refine (zext_no _ _ _ H1.out _).mono ?_
      rintro e w' ⟨rfl, rfl⟩
      go_wp2_with fail
      refine (trunc_no _ _ _ H2.out _).mono ?_
      rintro e w' ⟨rfl, rfl⟩
      go_wp2_with fail
      refine (rmay_as _ _ HF.out _).mono ?_
      rintro e w' ⟨rfl, rfl⟩
      go_wp2_with fail
      refine (rmay_as _ _ HT.out _).mono ?_
      rintro e w' ⟨rfl, rfl⟩
      go_wp2_with fail
      go_ret
      exact ⟨rfl, hb1⟩
    | true =>
      rw [hf, ht] at hno
      simp at hno
      subst hno
      have HF := Lib.hid hf
      have HT := Lib.hid ht
      clear hf ht
      go_enter Try.func10, Try.ntmps10
      simp only [List.append]
      go_wp2_with fail
      refine (awake_any _).mono ?_
      rintro e w1 ⟨rfl, hb1⟩
      go_wp2_with fail
      refine (zext_no _ _ _ H1.out _).mono ?_
      rintro e w' ⟨rfl, rfl⟩
      go_wp2_with fail
      refine (trunc_no _ _ _ H2.out _).mono ?_
      rintro e w' ⟨rfl, rfl⟩
      go_wp2_with fail
      refine (rmay_as _ _ HF.out _).mono ?_
      rintro e w' ⟨rfl, rfl⟩
      go_wp2_with fail
      refine (rmay_as _ _ HT.out _).mono ?_
      rintro e w' ⟨rfl, rfl⟩
      go_wp2_with fail
      go_ret
      exact ⟨rfl, hb1⟩

set_option maxHeartbeats 1000000 in
theorem widths_up (v : Nat) (hv : v < 18446744073709551616) (f t : Int) (hf : may f = true) (ht : may t = true) (h : f < t) (w : World) :
    Calls Try.prog 10 #[.int .u64 v, .int .i64 f, .int .i64 t] w (GrownTrue w) := by
  obtain ⟨c, hc⟩ : ∃ c, cut v f = c := ⟨_, rfl⟩
  have H2 : Hid (may f = false ∨ may t = false ∨ f ≤ t) := Lib.hid (.inr (.inr (by omega)))
  have HLT := Lib.hid h
  have HV := Lib.hid hv
  have HF := Lib.hid hf
  have HT := Lib.hid ht
  have HC := Lib.hid hc
  have HC' : Hid (c < 18446744073709551616) := Lib.hid (by rw [← hc]; exact cut_lt f hv)
  have HCC : Hid (cut c f = c) := Lib.hid (by rw [← hc]; exact cut_idem v f)
  have d1 : decide (f < t) = true := by simpa using h
  have d2 : decide (t < f) = false := by simp; omega
  clear hf ht h hc hv
  go_enter Try.func10, Try.ntmps10
  simp only [List.append]
  go_wp2_with fail
  refine (awake_any _).mono ?_
  rintro e w1 ⟨rfl, hb1⟩
  go_wp2_with fail
  refine (zext_yes _ HV.out _ _ HF.out HT.out HLT.out _ HC.out _).mono ?_
  rintro e w' ⟨rfl, rfl⟩
  go_wp2_with fail
  refine (trunc_no _ _ _ H2.out _).mono ?_
  rintro e w' ⟨rfl, rfl⟩
  go_wp2_with fail
  refine (rmay_as _ _ HF.out _).mono ?_
  rintro e w' ⟨rfl, rfl⟩
  go_wp2_with fail
  refine (rmay_as _ _ HT.out _).mono ?_
  rintro e w' ⟨rfl, rfl⟩
  go_wp2_with fail
  refine (rcut_any _ HV.out _ _ HC.out _).mono ?_
  rintro e w' ⟨rfl, rfl⟩
  go_wp2_with fail
  refine (trunc_yes _ HC'.out _ _ HT.out HF.out HLT.out _ HCC.out _).mono ?_
  rintro e w' ⟨rfl, rfl⟩
  go_wp2_with fail
  refine (rcut_any _ HV.out _ _ HC.out _).mono ?_
  rintro e w' ⟨rfl, rfl⟩
  go_wp2_with fail
  go_ret
  exact ⟨rfl, hb1⟩

set_option maxHeartbeats 1000000 in
theorem widths_down (v : Nat) (hv : v < 18446744073709551616) (f t : Int) (hf : may f = true) (ht : may t = true) (h : t < f) (w : World) :
    Calls Try.prog 10 #[.int .u64 v, .int .i64 f, .int .i64 t] w (GrownTrue w) := by
  obtain ⟨c, hc⟩ : ∃ c, cut v t = c := ⟨_, rfl⟩
  have H1 : Hid (may f = false ∨ may t = false ∨ t ≤ f) := Lib.hid (.inr (.inr (by omega)))
  have HLT := Lib.hid h
  have HV := Lib.hid hv
  have HF := Lib.hid hf
  have HT := Lib.hid ht
  have HC := Lib.hid hc
  have d1 : decide (t < f) = true := by simpa using h
  have d2 : decide (f < t) = false := by simp; omega
  clear hf ht h hc hv
  go_enter Try.func10, Try.ntmps10
  simp only [List.append]
  go_wp2_with fail
  refine (awake_any _).mono ?_
  rintro e w1 ⟨rfl, hb1⟩
  go_wp2_with fail
  refine (zext_no _ _ _ H1.out _).mono ?_
  rintro e w' ⟨rfl, rfl⟩
  go_wp2_with fail
  refine (trunc_yes _ HV.out _ _ HF.out HT.out HLT.out _ HC.out _).mono ?_
  rintro e w' ⟨rfl, rfl⟩
  go_wp2_with fail
  refine (rmay_as _ _ HF.out _).mono ?_
  rintro e w' ⟨rfl, rfl⟩
  go_wp2_with fail
  refine (rmay_as _ _ HT.out _).mono ?_
  rintro e w' ⟨rfl, rfl⟩
  go_wp2_with fail
  refine (rcut_any _ HV.out _ _ HC.out _).mono ?_
  rintro e w' ⟨rfl, rfl⟩
  go_wp2_with fail
  go_ret
  exact ⟨rfl, hb1⟩

theorem widths_any (v : Nat) (hv : v < 18446744073709551616) (f t : Int) (w : World) :
    Calls Try.prog 10 #[.int .u64 v, .int .i64 f, .int .i64 t] w (GrownTrue w) := by
  cases hf : may f
  · exact widths_no v f t (.inl hf) w
  · cases ht : may t
    · exact widths_no v f t (.inr (.inl ht)) w
    · rcases Int.lt_trichotomy f t with h | h | h
      · exact widths_up v hv f t hf ht h w
      · exact widths_no v f t (.inr (.inr h)) w
      · exact widths_down v hv f t hf ht h w
end Go.Proofs.Ytakbkpcmdmjblaa
