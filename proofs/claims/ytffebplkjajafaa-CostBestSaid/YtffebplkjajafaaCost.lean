/- What the functions of package cost give: 'in', 'Gain', 'Turn' and 'pair' at floats that stand for whole numbers. -/
import Derived.Test.YtffebplkjajafaaRows
import Derived.Test.YtffebplkjajafaaFloat
import Derived.WalkKit
import Derived.WalkSpells
import Derived.WalkLawsBesides
import Derived.Deep.QuietTactic
import Derived.BigQuiet
import Derived.Lib.Hide
namespace Go.Proofs.Ytffebplkjajafaa
open Go.RowKit

theorem fi_lo : FI 13970166044103278592 (-2147483648) := ⟨true, 4503599627370496, -21, by decide, by decide⟩
theorem fi_hi : FI 4746794007248502784 2147483648 := ⟨false, 4503599627370496, -21, by decide, by decide⟩
theorem fi_0 : FI 0 0 := ⟨false, 0, -1074, by decide, by rw [signed_eq, Nat.zero_mul, Int.zero_mul]; rfl⟩
theorem fi_1 : FI 4607182418800017408 1 := ⟨false, 4503599627370496, -52, by decide, by decide⟩

theorem geq_of {a b : Nat} {x y : Int} (ha : FI a x) (hb : FI b y) : (FloatKind.f64.format.order a b == some .gt || FloatKind.f64.format.order a b == some .eq) = decide (y ≤ x) := by
  rw [fi_order ha hb]
  simp only [compare, compareOfLessAndEq]
  by_cases h1 : x < y
  · simp [h1]
  · by_cases h2 : x = y
    · simp [h2]
    · simp [h1, h2]; omega
theorem leq_of {a b : Nat} {x y : Int} (ha : FI a x) (hb : FI b y) : (FloatKind.f64.format.order a b == some .lt || FloatKind.f64.format.order a b == some .eq) = decide (x ≤ y) := by
  rw [fi_order ha hb]
  simp only [compare, compareOfLessAndEq]
  by_cases h1 : x < y
  · simp [h1]; omega
  · by_cases h2 : x = y
    · simp [h2]
    · simp [h1, h2]; omega
theorem eql_of {a b : Nat} {x y : Int} (ha : FI a x) (hb : FI b y) : (FloatKind.f64.format.order a b == some .eq) = decide (x = y) := by
  rw [fi_order ha hb]
  simp only [compare, compareOfLessAndEq]
  by_cases h1 : x < y
  · simp [h1]; omega
  · by_cases h2 : x = y
    · simp [h2]
    · simp [h1, h2]


theorem ret_bool {a b : Bool} (h : a = b) : Ending.returned (.bool a) = .returned (.bool b) := by rw [h]
theorem ret_int {k : IntKind} {a b : Int} (h : a = b) : Ending.returned (.int k a) = .returned (.int k b) := by rw [h]

theorem order_lt {a b : Nat} {x y : Int} (ha : FI a x) (hb : FI b y) (h : x < y) : FloatKind.f64.format.order a b = some .lt := by
  rw [fi_order ha hb]; simp [compare, compareOfLessAndEq, h]
theorem order_eq {a b : Nat} {x y : Int} (ha : FI a x) (hb : FI b y) (h : x = y) : FloatKind.f64.format.order a b = some .eq := by
  rw [fi_order ha hb]; simp [compare, compareOfLessAndEq, h]
theorem order_gt {a b : Nat} {x y : Int} (ha : FI a x) (hb : FI b y) (h : y < x) : FloatKind.f64.format.order a b = some .gt := by
  rw [fi_order ha hb]; simp [compare, compareOfLessAndEq, show ¬ x < y by omega, show ¬ x = y by omega]

set_option maxHeartbeats 400000 in
/-- 'in': both bounds are met. -/
theorem in_yes (a : Nat) (x : Int) (ha : FI a x) (h1 : -2147483648 ≤ x) (h2 : x ≤ 2147483648) (w : World) :
    Calls Try.prog 19 #[.float .f64 a] w fun e w' => e = .returned (.bool true) ∧ w = w' := by
  have o1 : FloatKind.f64.format.order a 13970166044103278592 = some .gt ∨ FloatKind.f64.format.order a 13970166044103278592 = some .eq := by
    by_cases h : x = -2147483648
    · exact .inr (order_eq ha fi_lo h)
    · exact .inl (order_gt ha fi_lo (by omega))
  have o2 : FloatKind.f64.format.order a 4746794007248502784 = some .lt ∨ FloatKind.f64.format.order a 4746794007248502784 = some .eq := by
    by_cases h : x = 2147483648
    · exact .inr (order_eq ha fi_hi h)
    · exact .inl (order_lt ha fi_hi (by omega))
  clear ha h1 h2
  rcases o1 with o1 | o1 <;> rcases o2 with o2 | o2
  all_goals
    go_enter Try.func19, Try.ntmps19
    go_wp2
    go_ret
    exact ⟨rfl, rfl⟩

theorem i64_fits {x : Int} (h1 : -4294967296 ≤ x) (h2 : x ≤ 4294967296) : IntKind.i64.min ≤ x ∧ x ≤ IntKind.i64.max := by
  have e1 : IntKind.i64.min = -9223372036854775808 := by decide
  have e2 : IntKind.i64.max = 9223372036854775807 := by decide
  rw [e1, e2]; omega

set_option maxHeartbeats 400000 in
/-- 'Gain': of parts within the bounds: the one less the other. -/
theorem gain_any (a b : Nat) (x y : Int) (ha : FI a x) (hb : FI b y) (h1 : -2147483648 ≤ x) (h2 : x ≤ 2147483648) (h3 : -2147483648 ≤ y) (h4 : y ≤ 2147483648) (w : World) :
    Calls Try.prog 16 #[.complex .f64 a b] w fun e w' => e = .returned (.int .i64 (x - y)) ∧ w = w' := by
  obtain ⟨r, hr, hfr⟩ := fi_sub ha hb (by omega)
  have hb64 := i64_fits (x := x - y) (by omega) (by omega)
  have hc := fi_toInt hfr hb64.1 hb64.2
  have hop := fun t w => run_float_arith (P := Try.prog) w .sub t .f64 a b r hr
  have hcv := fun w => run_convert_float_int (P := Try.prog) w 40 3 .f64 .i64 r (x - y) (by rw [Try.underlying40]; rfl) Try.underlying3 hc
  clear hr hc hb64
  go_enter Try.func16, Try.ntmps16
  go_wp2_with fail
  refine (in_yes _ _ ha h1 h2 _).mono ?_
  rintro e w' ⟨rfl, rfl⟩
  go_wp2_with fail
  refine (in_yes _ _ hb h3 h4 _).mono ?_
  rintro e w' ⟨rfl, rfl⟩
  go_wp2
  go_ret
  exact ⟨rfl, rfl⟩

set_option maxHeartbeats 400000 in
/-- 'Turn'. -/
theorem turn_any (a b : Nat) (w : World) :
    Calls Try.prog 17 #[.complex .f64 a b] w fun e w' => e = .returned (.complex .f64 (Op.negFloat .f64 b) a) ∧ w = w' := by
  have hn : ∀ w, (Op.unary .neg (.float .f64 b)).run Try.prog w = .ok (.float .f64 (Op.negFloat .f64 b)) w := fun w => rfl
  go_enter Try.func17, Try.ntmps17
  go_wp2
  go_ret
  exact ⟨rfl, rfl⟩

set_option maxHeartbeats 400000 in
/-- 'pair'. -/
theorem pair_any (a b : Int) (w : World) :
    Calls Try.prog 12 #[.int .i64 a, .int .i64 b] w fun e w' => e = .returned (.complex .f64 (floatOfInt .f64 a) (floatOfInt .f64 b)) ∧ w = w' := by
  go_enter Try.func12, Try.ntmps12
  go_wp2
  go_ret
  exact ⟨rfl, rfl⟩
end Go.Proofs.Ytffebplkjajafaa
