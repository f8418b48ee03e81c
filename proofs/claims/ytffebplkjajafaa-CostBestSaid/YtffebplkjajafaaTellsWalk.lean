/- The walk of CostTells: it gives true. -/
import Derived.Test.YtffebplkjajafaaAwake
namespace Go.Proofs.Ytffebplkjajafaa
open Go.RowKit

theorem small_yes (A : Option Addr) (cap : Nat) (l : List (Int × Nat)) (hs : smallB l = true) (hn : l.length ≤ 9223372036854775807) (w : World) (hl : Nds w w.heap.size A l) :
    Calls Try.prog 9 #[.slice A l.length cap] w fun e w' => e = .returned (.bool true) ∧ w = w' := by
  have := small_any A cap l hn w hl
  rw [hs] at this; exact this
theorem small_no (A : Option Addr) (cap : Nat) (l : List (Int × Nat)) (hs : smallB l = false) (hn : l.length ≤ 9223372036854775807) (w : World) (hl : Nds w w.heap.size A l) :
    Calls Try.prog 9 #[.slice A l.length cap] w fun e w' => e = .returned (.bool false) ∧ w = w' := by
  have := small_any A cap l hn w hl
  rw [hs] at this; exact this

theorem gain_is (a b : Nat) (x y z : Int) (hz : z = x - y) (ha : FI a x) (hb : FI b y) (h1 : -2147483648 ≤ x) (h2 : x ≤ 2147483648) (h3 : -2147483648 ≤ y) (h4 : y ≤ 2147483648) (w : World) :
    Calls Try.prog 16 #[.complex .f64 a b] w fun e w' => e = .returned (.int .i64 z) ∧ w = w' := by
  subst hz
  exact gain_any a b x y ha hb h1 h2 h3 h4 w

theorem fits_of {l : List (Int × Nat)} (hs : smallB l = true) : Fits l ∧ l.length ≤ 1000 := by
  unfold smallB at hs
  simp only [Bool.and_eq_true, List.all_eq_true, decide_eq_true_eq] at hs
  refine ⟨⟨by omega, fun j hj => ?_⟩, hs.2⟩
  have := hs.1 l[j] (List.getElem_mem hj)
  simpa [List.getD, List.getElem?_eq_getElem hj] using this

set_option maxHeartbeats 2000000 in
theorem tells_any (A : Option Addr) (cap : Nat) (l : List (Int × Nat)) (n : Int) (hn0 : 0 ≤ n) (hn1 : n ≤ 65535) (hlen : l.length ≤ 9223372036854775807) (w : World) (hl : Nds w w.heap.size A l) :
    Calls Try.prog 3 #[.slice A l.length cap, .int .u16 n] w (GrownTrue w) := by
  have HL := Lib.hid hl
  clear hl
  cases hs : smallB l with
  | false =>
    have HS := Lib.hid hs
    clear hs
    go_enter Try.func3, Try.ntmps3
    go_wp2_with fail
    refine (awake_any _).mono ?_
    rintro e w1 ⟨rfl, hb1⟩
    go_wp2_with fail
    refine (small_no _ _ _ HS.out hlen _ (HL.out.next hb1)).mono ?_
    rintro e w2 ⟨rfl, rfl⟩
    go_wp2
    go_ret
    exact ⟨rfl, hb1⟩
  | true =>
    have HS := Lib.hid hs
    clear hs
    go_enter Try.func3, Try.ntmps3
    go_wp2_with fail
    refine (awake_any _).mono ?_
    rintro e w1 ⟨rfl, hb1⟩
    go_wp2_with fail
    refine (small_yes _ _ _ HS.out hlen _ (HL.out.next hb1)).mono ?_
    rintro e w2 ⟨rfl, rfl⟩
    go_wp2_with fail
    go_loopw [5] (fun i wr => ∃ k : Nat, k ≤ l.length ∧ i = .int .i64 k ∧ Below w.heap.size w wr) (fun i _ => l.length - (intOf i).toNat)
    case atStart => exact ⟨0, Nat.zero_le _, rfl, hb1⟩
    case round =>
      clear hb1
      obtain ⟨k, hk, rfl, hbw⟩ := hrel
      have HB := Lib.hid hbw
      clear hbw
      by_cases hlt : k < l.length
      · obtain ⟨b, off, K, N, p, c, q, m, d, rfl, hb, HE, h1, h2, h3⟩ := (HL.out.next HB.out).at_ hlt
        have hN : N ≤ 1000 := by have := (fits_of HS.out).1.2 k hlt; rw [HE.out] at this; exact this
        go_wp2_with fail
        refine (rnode_any _ _ _ _ _ _ _ _).mono ?_
        rintro e w3 ⟨rfl, hb3⟩
        have g1 : w3.cell? ⟨b, off + k * 3, none⟩ = some (.int .i64 K) := (hb3.cell hb).trans h1
        have g2 : w3.cell? ⟨b, off + k * 3 + 1, none⟩ = some (.slice p N c) := (hb3.cell hb).trans h2
        have g3 : w3.cell? ⟨b, off + k * 3 + 2, none⟩ = some (.slice q m d) := (hb3.cell hb).trans h3
        clear h1 h2 h3
        have b1 := spared_bd K N hN
        have b2 := there_bd K N hN
        go_wp2_with fail
        refine (cnode_any _ _ _ _ _ _ _ (by omega) _).mono ?_
        rintro e w4 ⟨r1, t1, rfl, f1, f2, hb4⟩
        go_wp2_with fail
        refine (pair_any _ _ _).mono ?_
        rintro e w5 ⟨rfl, rfl⟩
        have o1 := order_eq f1 (fi_int (spared K N) (by omega)) rfl
        have o2 := order_eq f2 (fi_int (there K N) (by omega)) rfl
        have HB4 := Lib.hid (HB.out.trans ((hb3.trans (hb4.mono hb3.size)).mono HB.out.size))
        clear hb3 hb4 f1 f2 g1 g2 g3
        go_wp2
        go_roundw
        case rel => exact ⟨k + 1, by omega, by go_num, HB4.out⟩
        case measure => simp [intOf]; omega
      · obtain rfl : k = l.length := by omega
        have fit := (fits_of HS.out).1
        have bd := tree_bd l fit.2 l.length (Nat.le_refl _)
        rw [List.take_length] at bd
        have hll := (fits_of HS.out).2
        have FIT := Lib.hid fit
        clear fit
        go_wp2_with fail
        refine (rtree_any _ _ _ FIT.out _ (HL.out.next HB.out)).mono ?_
        rintro e w3 ⟨rfl, hb3⟩
        have HB3 := Lib.hid (HB.out.trans (hb3.mono HB.out.size))
        clear hb3
        go_wp2_with fail
        refine (ctree_any _ _ _ FIT.out _ (HL.out.next HB3.out)).mono ?_
        rintro e w4 ⟨r1, t1, rfl, f1, f2, hb4⟩
        have HB4 := Lib.hid (HB3.out.trans (hb4.mono HB3.out.size))
        clear hb4
        go_wp2_with fail
        refine (pair_any _ _ _).mono ?_
        rintro e w5 ⟨rfl, rfl⟩
        have o1 := order_eq f1 (fi_int (tsp l) (by omega)) rfl
        have o2 := order_eq f2 (fi_int (tth l) (by omega)) rfl
        clear f1 f2
        go_wp2_with fail
        refine (seed_any _ _ _ _ FIT.out hn0 hn1 _ (HL.out.next HB4.out)).mono ?_
        rintro e w5 ⟨r2, t2, rfl, f3, f4, hb5⟩
        have HB5 := Lib.hid (HB4.out.trans (hb5.mono HB4.out.size))
        clear hb5
        go_wp2_with fail
        refine (pair_any _ _ _).mono ?_
        rintro e w6 ⟨rfl, rfl⟩
        have o3 := order_eq f3 (fi_int (tsp l + n) (by omega)) rfl
        have o4 := order_eq f4 (fi_int (tth l + 1) (by omega)) rfl
        clear f3 f4
        go_wp2_with fail
        refine (ctree_any _ _ _ FIT.out _ (HL.out.next HB5.out)).mono ?_
        rintro e w6 ⟨r3, t3, rfl, f5, f6, hb6⟩
        have HB6 := Lib.hid (HB5.out.trans (hb6.mono HB5.out.size))
        clear hb6
        go_wp2_with fail
        refine (gain_is _ _ _ _ (tsp l - tth l) rfl f5 f6 (by omega) (by omega) (by omega) (by omega) _).mono ?_
        rintro e w7 ⟨rfl, rfl⟩
        clear f5 f6
        go_wp2_with fail
        refine (seed_any _ _ _ _ FIT.out hn0 hn1 _ (HL.out.next HB6.out)).mono ?_
        rintro e w7 ⟨r4, t4, rfl, f7, f8, hb7⟩
        have HB7 := Lib.hid (HB6.out.trans (hb7.mono HB6.out.size))
        clear hb7
        go_wp2_with fail
        refine (gain_is _ _ _ _ (tsp l - tth l + n - 1) (by omega) f7 f8 (by omega) (by omega) (by omega) (by omega) _).mono ?_
        rintro e w8 ⟨rfl, rfl⟩
        clear f7 f8
        go_wp2
        go_ret
        exact ⟨rfl, HB7.out⟩
end Go.Proofs.Ytffebplkjajafaa
