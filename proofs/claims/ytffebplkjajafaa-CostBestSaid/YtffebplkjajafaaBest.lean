/- 'Best': the place of the first of the greatest gain. -/
import Derived.Test.YtffebplkjajafaaTellsWalk
namespace Go.Proofs.Ytffebplkjajafaa
open Go.RowKit

/-- a slice's address A holds the costs ps, as floats -/
def Cxs (w : World) (B : Nat) (A : Option Addr) (ps : List (Int × Int)) : Prop :=
  0 < ps.length → ∃ b off, A = some ⟨b, off, none⟩ ∧ b < B ∧ ∀ i, i < ps.length →
    w.cell? ⟨b, off + i, none⟩ = some (.complex .f64 (floatOfInt .f64 (ps.getD i (0, 0)).1) (floatOfInt .f64 (ps.getD i (0, 0)).2))
theorem Cxs.at_ {w : World} {B : Nat} {A : Option Addr} {ps : List (Int × Int)} (h : Cxs w B A ps) {i : Nat} (hi : i < ps.length) :
    ∃ b off X Y, A = some ⟨b, off, none⟩ ∧ b < B ∧ Hid (ps.getD i (0, 0) = (X, Y)) ∧ w.cell? ⟨b, off + i, none⟩ = some (.complex .f64 (floatOfInt .f64 X) (floatOfInt .f64 Y)) := by
  obtain ⟨b, off, hA, hb, hc⟩ := h (by omega)
  exact ⟨b, off, _, _, hA, hb, Lib.hid rfl, hc i hi⟩
theorem Cxs.below {w w' : World} {B : Nat} {A : Option Addr} {ps : List (Int × Int)} (h : Cxs w B A ps) (hb : Below B w w') : Cxs w' B A ps := by
  intro hl
  obtain ⟨b, off, hA, hlt, hc⟩ := h hl
  exact ⟨b, off, hA, hlt, fun i hi => (hb.cell hlt).trans (hc i hi)⟩

/-- whole numbers of 32 bits -/
def In32 (ps : List (Int × Int)) : Prop := ∀ i, i < ps.length → -2147483648 ≤ (ps.getD i (0, 0)).1 ∧ (ps.getD i (0, 0)).1 ≤ 2147483647 ∧ -2147483648 ≤ (ps.getD i (0, 0)).2 ∧ (ps.getD i (0, 0)).2 ≤ 2147483647

def gn (ps : List (Int × Int)) (i : Nat) : Int := (ps.getD i (0, 0)).1 - (ps.getD i (0, 0)).2

/-- among the first k the first of the greatest -/
def IsBest (ps : List (Int × Int)) (k j : Nat) : Prop := j < k ∧ ∀ i, i < k → gn ps i ≤ gn ps j ∧ (i < j → gn ps i < gn ps j)

theorem IsBest.one (ps : List (Int × Int)) : IsBest ps 1 0 := by
  refine ⟨by omega, fun i hi => ?_⟩
  obtain rfl : i = 0 := by omega
  exact ⟨Int.le_refl _, fun h => absurd h (by omega)⟩
theorem IsBest.stay {ps : List (Int × Int)} {k j : Nat} (h : IsBest ps k j) (hle : gn ps k ≤ gn ps j) : IsBest ps (k + 1) j := by
  refine ⟨by have := h.1; omega, fun i hi => ?_⟩
  by_cases c : i < k
  · exact h.2 i c
  · obtain rfl : i = k := by omega
    exact ⟨hle, fun hj => by have := h.1; omega⟩
theorem IsBest.turn {ps : List (Int × Int)} {k j : Nat} (h : IsBest ps k j) (hlt : gn ps j < gn ps k) : IsBest ps (k + 1) k := by
  refine ⟨by omega, fun i hi => ?_⟩
  by_cases c : i < k
  · have := (h.2 i c).1
    exact ⟨by omega, fun _ => by omega⟩
  · obtain rfl : i = k := by omega
    exact ⟨Int.le_refl _, fun hj => absurd hj (by omega)⟩

theorem gain_back (a b : Nat) (x y : Int) (ha : FI a x) (hb : FI b y) (h1 : -2147483648 ≤ x) (h2 : x ≤ 2147483648) (h3 : -2147483648 ≤ y) (h4 : y ≤ 2147483648) (w : World) :
    Calls Try.prog 16 #[.complex .f64 a b] w fun e w' => e = .returned (.int .i64 (x - y)) ∧ w' = w :=
  (gain_any a b x y ha hb h1 h2 h3 h4 w).mono fun _ _ ⟨h1, h2⟩ => ⟨h1, h2.symm⟩
theorem gain_int (x y : Int) (h1 : -2147483648 ≤ x) (h2 : x ≤ 2147483647) (h3 : -2147483648 ≤ y) (h4 : y ≤ 2147483647) (w : World) :
    Calls Try.prog 16 #[.complex .f64 (floatOfInt .f64 x) (floatOfInt .f64 y)] w fun e w' => e = .returned (.int .i64 (x - y)) ∧ w' = w :=
  gain_back _ _ x y (fi_int x (by omega)) (fi_int y (by omega)) h1 (by omega) h3 (by omega) w

def BestIs (ps : List (Int × Int)) (w : World) (e : Ending) (w' : World) : Prop :=
  Below w.heap.size w w' ∧ ((ps.length = 0 ∧ e = .returned (.int .i64 (-1))) ∨ ∃ j : Nat, IsBest ps ps.length j ∧ e = .returned (.int .i64 j))

set_option maxHeartbeats 1000000 in
theorem best_any (A : Option Addr) (cap : Nat) (ps : List (Int × Int)) (hn : ps.length ≤ 1000) (h32 : In32 ps) (w : World) (hl : Cxs w w.heap.size A ps) :
    Calls Try.prog 18 #[.slice A ps.length cap] w (BestIs ps w) := by
  have HL := Lib.hid hl
  have H32 := Lib.hid h32
  clear hl h32
  go_enter Try.func18, Try.ntmps18
  go_wp2
  go_loopw [3, 8] (fun s i wr => ∃ k : Nat, k ≤ ps.length ∧ i = .int .i64 k ∧ ((k = 0 ∧ s = .int .i64 (-1)) ∨ ∃ j : Nat, IsBest ps k j ∧ s = .int .i64 j) ∧ Below w.heap.size w wr) (fun _ i _ => ps.length - (intOf i).toNat)
  case atStart => exact ⟨0, Nat.zero_le _, rfl, .inl ⟨rfl, rfl⟩, Below.refl _ _⟩
  case round =>
    obtain ⟨k, hk, rfl, hs, hbw⟩ := hrel
    have HB := Lib.hid hbw
    clear hbw
    by_cases hlt : k < ps.length
    · have hl' := HL.out.below HB.out
      obtain ⟨b, off, X, Y, rfl, hb, HE, h1⟩ := hl'.at_ hlt
      have bd := H32.out k hlt
      rw [HE.out] at bd
      obtain ⟨bd1, bd2, bd3, bd4⟩ := bd
      simp only [] at bd1 bd2 bd3 bd4
      rcases hs with ⟨hk0, rfl⟩ | ⟨j, hj, rfl⟩
      · subst hk0
        have HC := Lib.hid hl'
        clear hl'
        rw [Nat.add_zero] at h1
        go_wp2
        go_quiet (fail)
        go_wp2
        go_roundw
        case rel => exact ⟨1, by omega, by go_num, .inr ⟨0, IsBest.one ps, rfl⟩, below_drewN HB.out _⟩
        case measure => simp [intOf]; omega
      · have hj1 := hj.1
        obtain ⟨b', off', X', Y', hA', hb', HE', h2⟩ := hl'.at_ (show j < ps.length by omega)
        injection hA' with hA'
        injection hA' with e1 e2
        subst e1 e2
        have bd := H32.out j (by omega)
        rw [HE'.out] at bd
        obtain ⟨ad1, ad2, ad3, ad4⟩ := bd
        simp only [] at ad1 ad2 ad3 ad4
        have G1 : Hid (gn ps k = X - Y) := Lib.hid (by unfold gn; rw [HE.out])
        have G2 : Hid (gn ps j = X' - Y') := Lib.hid (by unfold gn; rw [HE'.out])
        have HJ := Lib.hid hj
        clear hj hl'
        have hd : decide ((j : Int) < 0) = false := by simp
        have hj0 : (0 : Int) ≤ (j : Int) := by omega
        have hj2 : (j : Int) < (ps.length : Int) := by omega
        by_cases hgt : X' - Y' < X - Y
        · go_wp2
          go_quiet ((first | (with_reducible exact Calls.quiet_of_same (gain_int X Y bd1 bd2 bd3 bd4 _)) | (with_reducible exact Calls.quiet_of_same (gain_int X' Y' ad1 ad2 ad3 ad4 _))))
          go_wp2
          go_roundw
          case rel => exact ⟨k + 1, by omega, by go_num, .inr ⟨k, HJ.out.turn (by rw [G1.out, G2.out]; exact hgt), rfl⟩, below_drewN HB.out _⟩
          case measure => simp [intOf]; omega
        · go_wp2
          go_quiet ((first | (with_reducible exact Calls.quiet_of_same (gain_int X Y bd1 bd2 bd3 bd4 _)) | (with_reducible exact Calls.quiet_of_same (gain_int X' Y' ad1 ad2 ad3 ad4 _))))
          go_wp2
          go_roundw
          case rel => exact ⟨k + 1, by omega, by go_num, .inr ⟨j, HJ.out.stay (by rw [G1.out, G2.out]; omega), rfl⟩, below_drewN HB.out _⟩
          case measure => simp [intOf]; omega
    · obtain rfl : k = ps.length := by omega
      rcases hs with ⟨h0, rfl⟩ | ⟨j, hj, rfl⟩
      · have H0 := Lib.hid h0
        clear h0
        go_wp2
        go_ret
        exact ⟨HB.out, .inl ⟨H0.out, rfl⟩⟩
      · have HJ := Lib.hid hj
        clear hj
        go_wp2
        go_ret
        exact ⟨HB.out, .inr ⟨j, HJ.out, rfl⟩⟩
end Go.Proofs.Ytffebplkjajafaa
