/- The walk of WordDoes: it gives true. -/
import Derived.Test.YtakbkpcmdmjblaaRefSh
namespace Go.Proofs.Ytakbkpcmdmjblaa
open Go.RowKit

theorem may_as (b : Int) (r : Bool) (h : may b = r) (w : World) : Calls Try.prog 14 #[.int .i64 b] w fun e w' => e = .returned (.bool r) ∧ w = w' := by
  subst h; exact may_any b w
theorem rmay_as (b : Int) (r : Bool) (h : may b = r) (w : World) : Calls Try.prog 15 #[.int .i64 b] w fun e w' => e = .returned (.bool r) ∧ w = w' := by
  subst h; exact rmay_any b w

set_option maxHeartbeats 1000000 in
theorem does_any (k b : Int) (x y : Nat) (hx : x < 18446744073709551616) (hy : y < 18446744073709551616) (w : World) :
    Calls Try.prog 3 #[.agg #[.int .i64 k, .int .i64 b, .int .u64 x], .int .u64 y] w (GrownTrue w) := by
  have HX := Lib.hid hx
  have HY := Lib.hid hy
  clear hx hy
  obtain ⟨v, hv⟩ : ∃ v, doV k b x y = v := ⟨_, rfl⟩
  obtain ⟨c, hc⟩ : ∃ c, doC k b y = c := ⟨_, rfl⟩
  obtain ⟨u, hu⟩ : ∃ u, cut x b = u := ⟨_, rfl⟩
  obtain ⟨s, hs⟩ : ∃ s, sgn x b = s := ⟨_, rfl⟩
  have HV := Lib.hid hv
  have HC := Lib.hid hc
  have HU := Lib.hid hu
  have HS := Lib.hid hs
  clear hv hc hu hs
  rcases (show (decide (1 ≤ k) = false ∧ two k b = false) ∨ (decide (1 ≤ k) = true ∧ decide (k ≤ 12) = false ∧ two k b = false) ∨ (decide (1 ≤ k) = true ∧ decide (k ≤ 12) = true ∧ two k b = may b) by
    by_cases h1 : 1 ≤ k
    · by_cases h2 : k ≤ 12
      · exact .inr (.inr ⟨by simpa using h1, by simpa using h2, by simp [two, h1, h2]⟩)
      · exact .inr (.inl ⟨by simpa using h1, by simpa using h2, by simp [two, h2]⟩)
    · exact .inl ⟨by simpa using h1, by simp [two, h1]⟩) with ⟨d1, ht⟩ | ⟨d1, d2, ht⟩ | ⟨d1, d2, ht⟩
  all_goals
    cases hm : may b
    all_goals
      (try rw [hm] at ht)
      have HT := Lib.hid ht
      have HM := Lib.hid hm
      clear ht hm
      go_enter Try.func3, Try.ntmps3
      go_wp2_with fail
      refine (awake_any _).mono ?_
      rintro e w1 ⟨rfl, hb1⟩
      have c0 : w1.cell? ⟨w.heap.size, 0, none⟩ = some (.int .i64 k) := (hb1.cell (by simp)).trans (by go_simp)
      have c1 : w1.cell? ⟨w.heap.size, 1, none⟩ = some (.int .i64 b) := (hb1.cell (by simp)).trans (by go_simp)
      have c2 : w1.cell? ⟨w.heap.size, 2, none⟩ = some (.int .u64 x) := (hb1.cell (by simp)).trans (by go_simp)
      go_wp2_with fail
      refine (do_any _ _ _ _ HX.out HY.out _ _ HV.out HC.out _).mono ?_
      rintro e w2 ⟨rfl, hb2⟩
      go_wp2_with fail
      refine (rdo_any _ _ _ _ HX.out HY.out _ _ HV.out HC.out _).mono ?_
      rintro e w' ⟨rfl, rfl⟩
      go_wp2_with fail
      refine (may_as _ _ HM.out _).mono ?_
      rintro e w' ⟨rfl, rfl⟩
      go_wp2_with fail
      refine (rmay_as _ _ HM.out _).mono ?_
      rintro e w' ⟨rfl, rfl⟩
      go_wp2_with fail
      refine (cut_any _ HX.out _ _ HU.out _).mono ?_
      rintro e w' ⟨rfl, rfl⟩
      go_wp2_with fail
      refine (rcut_any _ HX.out _ _ HU.out _).mono ?_
      rintro e w' ⟨rfl, rfl⟩
      go_wp2_with fail
      refine (sgn_any _ HX.out _ _ HS.out _).mono ?_
      rintro e w' ⟨rfl, rfl⟩
      go_wp2_with fail
      refine (rsgn_any _ HX.out _ _ HS.out _).mono ?_
      rintro e w' ⟨rfl, rfl⟩
      go_wp2_with fail
      refine (two_as _ _ _ HT.out _).mono ?_
      rintro e w' ⟨rfl, rfl⟩
      go_wp2_with (go_at_call 15; refine (rmay_as _ _ HM.out _).mono ?_; rintro e w' ⟨rfl, rfl⟩)
      go_ret
      exact ⟨rfl, ((Below.refl _ _).alloc (Nat.le_refl _) _).trans ((hb1.trans (hb2.mono hb1.size)).mono (by simp))⟩
end Go.Proofs.Ytakbkpcmdmjblaa
