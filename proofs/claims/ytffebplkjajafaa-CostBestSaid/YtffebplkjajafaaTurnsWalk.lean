/- The walk of CostTurns: it gives true. -/
import Derived.Test.YtffebplkjajafaaAwake
namespace Go.Proofs.Ytffebplkjajafaa
open Go.RowKit

theorem i32_bd {x : Int} (h : (Lit.int .i32 x).wf = true) : -2147483648 ≤ x ∧ x ≤ 2147483647 := by
  have e1 : IntKind.i32.min = -2147483648 := by decide
  have e2 : IntKind.i32.max = 2147483647 := by decide
  simp [Lit.wf, e1, e2] at h
  exact h

theorem half (x : Int) (h1 : -2147483648 ≤ x) (h2 : x ≤ 2147483647) : ∃ y, wrap32 (x.tdiv 2) = y ∧ -1073741824 ≤ y ∧ y ≤ 1073741824 := by
  refine ⟨_, rfl, ?_⟩
  have e : -1073741824 ≤ x.tdiv 2 ∧ x.tdiv 2 ≤ 1073741824 := by
    rcases Int.le_total 0 x with h | h
    · rw [Int.tdiv_eq_ediv_of_nonneg h]; omega
    · have hx : x = -(-x) := by omega
      rw [hx, Int.neg_tdiv, Int.tdiv_eq_ediv_of_nonneg (by omega)]; omega
  have : wrap32 (x.tdiv 2) = x.tdiv 2 := by unfold wrap32; omega
  rw [this]; exact e

theorem gain_as (a b : Nat) (x y z : Int) (hz : z = x - y) (ha : FI a x) (hb : FI b y) (h1 : -2147483648 ≤ x) (h2 : x ≤ 2147483648) (h3 : -2147483648 ≤ y) (h4 : y ≤ 2147483648) (w : World) :
    Calls Try.prog 16 #[.complex .f64 a b] w fun e w' => e = .returned (.int .i64 z) ∧ w = w' := by
  subst hz
  exact gain_any a b x y ha hb h1 h2 h3 h4 w

set_option maxHeartbeats 1000000 in
theorem turns_any (a0 a1 b0 b1 : Int) (v1 : -2147483648 ≤ a0 ∧ a0 ≤ 2147483647) (v2 : -2147483648 ≤ a1 ∧ a1 ≤ 2147483647) (v3 : -2147483648 ≤ b0 ∧ b0 ≤ 2147483647) (v4 : -2147483648 ≤ b1 ∧ b1 ≤ 2147483647) (w : World) :
    Calls Try.prog 6 #[.agg #[.int .i32 a0, .int .i32 a1], .agg #[.int .i32 b0, .int .i32 b1]] w (GrownTrue w) := by
  obtain ⟨v1, u1⟩ := v1
  obtain ⟨v2, u2⟩ := v2
  obtain ⟨v3, u3⟩ := v3
  obtain ⟨v4, u4⟩ := v4
  obtain ⟨g0, e0, l0, m0⟩ := half a0 v1 u1
  obtain ⟨g1, e1, l1, m1⟩ := half a1 v2 u2
  obtain ⟨g2, e2, l2, m2⟩ := half b0 v3 u3
  obtain ⟨g3, e3, l3, m3⟩ := half b1 v4 u4
  have f0 := fi_int g0 (by omega)
  have f1 := fi_int g1 (by omega)
  have f2 := fi_int g2 (by omega)
  have f3 := fi_int g3 (by omega)
  go_enter Try.func6, Try.ntmps6
  go_wp2_with fail
  refine (awake_any _).mono ?_
  rintro e w1 ⟨rfl, hb1⟩
  have c0 : w1.cell? ⟨w.heap.size, 0, none⟩ = some (.int .i32 a0) := (hb1.cell (by simp; omega)).trans (by go_simp)
  have c1 : w1.cell? ⟨w.heap.size, 1, none⟩ = some (.int .i32 a1) := (hb1.cell (by simp; omega)).trans (by go_simp)
  have c2 : w1.cell? ⟨w.heap.size + 1, 0, none⟩ = some (.int .i32 b0) := (hb1.cell (by simp)).trans (by go_simp)
  have c3 : w1.cell? ⟨w.heap.size + 1, 1, none⟩ = some (.int .i32 b1) := (hb1.cell (by simp)).trans (by go_simp)
  go_wp2_with fail
  refine (gain_any _ _ _ _ f0 f1 (by omega) (by omega) (by omega) (by omega) _).mono ?_
  rintro e w2 ⟨rfl, rfl⟩
  go_wp2_with fail
  refine (gain_any _ _ _ _ f2 f3 (by omega) (by omega) (by omega) (by omega) _).mono ?_
  rintro e w2 ⟨rfl, rfl⟩
  go_wp2_with fail
  refine (turn_any _ _ _).mono ?_
  rintro e w2 ⟨rfl, rfl⟩
  go_wp2_with fail
  refine (turn_any _ _ _).mono ?_
  rintro e w2 ⟨rfl, rfl⟩
  go_wp2_with fail
  refine (gain_as _ _ _ _ (-(g0 - g1)) (by omega) (fi_neg f0) (fi_neg f1) (by omega) (by omega) (by omega) (by omega) _).mono ?_
  rintro e w2 ⟨rfl, rfl⟩
  obtain ⟨r, t, hrs, fr, ft⟩ := csum_some f0 f1 f2 f3 (by omega) (by omega)
  have hop := fun t' w => run_complex_sum (P := Try.prog) w .add (Or.inl rfl) t' .f64 _ _ _ _ r t hrs
  obtain ⟨r', t', hrs', fr', ft'⟩ := csum_some (fi_neg f1) f0 (fi_neg f3) f2 (by omega) (by omega)
  have hop' := fun t'' w => run_complex_sum (P := Try.prog) w .add (Or.inl rfl) t'' .f64 _ _ _ _ r' t' hrs'
  have o1 := order_eq (fi_neg ft) fr' (by omega)
  have o2 := order_eq fr ft' rfl
  clear hrs hrs'
  go_wp2_with fail
  refine (turn_any _ _ _).mono ?_
  rintro e w2 ⟨rfl, rfl⟩
  go_wp2_with fail
  refine (turn_any _ _ _).mono ?_
  rintro e w2 ⟨rfl, rfl⟩
  go_wp2_with fail
  refine (turn_any _ _ _).mono ?_
  rintro e w2 ⟨rfl, rfl⟩
  go_wp2_with fail
  refine (gain_as _ _ _ _ (g0 - g1 + (g2 - g3)) (by omega) fr ft (by omega) (by omega) (by omega) (by omega) _).mono ?_
  rintro e w2 ⟨rfl, rfl⟩
  go_wp2
  go_ret
  exact ⟨rfl, (((Below.refl _ _).alloc (Nat.le_refl _) _).alloc (by simp) _).trans (hb1.mono (by simp; omega))⟩
end Go.Proofs.Ytffebplkjajafaa
