/- The walk of WordLaws: it gives true. -/
import Derived.Test.YtakbkpcmdmjblaaUndoes
namespace Go.Proofs.Ytakbkpcmdmjblaa
open Go.RowKit

/-- a kind to which order doesn't matter -/
def Comm (b K : Int) : Prop := 1 ≤ K ∧ K ≤ 12 ∧ K ≠ 4 ∧ ∀ x y, doV K b x y = doV K b y x
theorem comm_of {b : Int} (h : may b = true) (K : Int) (h1 : 1 ≤ K) (h2 : K ≤ 12) (h4 : K ≠ 4) (hc : ∀ c d, way K.toNat b c d = way K.toNat b d c) : Comm b K :=
  ⟨h1, h2, h4, fun x y => by rw [doV_of h h1 h2 h4, doV_of h h1 h2 h4, hc]⟩
theorem comm_1 {b : Int} (h : may b = true) : Comm b 1 := comm_of h 1 (by decide) (by decide) (by decide) fun c d => by
  show (c + d) % 18446744073709551616 = (d + c) % 18446744073709551616
  rw [Nat.add_comm]
theorem comm_3 {b : Int} (h : may b = true) : Comm b 3 := comm_of h 3 (by decide) (by decide) (by decide) fun c d => by
  show (c * d) % 18446744073709551616 = (d * c) % 18446744073709551616
  rw [Nat.mul_comm]
theorem comm_5 {b : Int} (h : may b = true) : Comm b 5 := comm_of h 5 (by decide) (by decide) (by decide) fun c d => Nat.and_comm c d
theorem comm_6 {b : Int} (h : may b = true) : Comm b 6 := comm_of h 6 (by decide) (by decide) (by decide) fun c d => Nat.or_comm c d
theorem comm_7 {b : Int} (h : may b = true) : Comm b 7 := comm_of h 7 (by decide) (by decide) (by decide) fun c d => Nat.xor_comm c d
theorem comm_10 {b : Int} (h : may b = true) : Comm b 10 := comm_of h 10 (by decide) (by decide) (by decide) fun c d => by
  show one (decide (c = d)) = one (decide (d = c))
  congr 1
  rw [Bool.eq_iff_iff]; simp; exact eq_comm

theorem cut_one {b : Int} (h : may b = true) (p : Bool) : cut (one p) b = one p := by
  apply cut_of_lt h
  rcases may_cases h with rfl | rfl | rfl | rfl | rfl <;> cases p <;> decide
theorem doV_eq {b : Int} (h : may b = true) (x y : Nat) : doV 10 b x y = one (decide (cut x b = cut y b)) := by
  rw [doV_of h (by decide) (by decide) (by decide)]; exact cut_one h _
theorem doV_ult {b : Int} (h : may b = true) (x y : Nat) : doV 11 b x y = one (decide (cut x b < cut y b)) := by
  rw [doV_of h (by decide) (by decide) (by decide)]; exact cut_one h _
theorem doV_slt {b : Int} (h : may b = true) (x y : Nat) : doV 12 b x y = one (decide (sgn (cut x b) b < sgn (cut y b) b)) := by
  rw [doV_of h (by decide) (by decide) (by decide)]; exact cut_one h _
theorem sgn_inj {b : Int} (h : may b = true) (x y : Nat) : sgn (cut x b) b = sgn (cut y b) b ↔ cut x b = cut y b := by
  have e1 := cut_lt_pow (v := x) h
  have e2 := cut_lt_pow (v := y) h
  generalize cut x b = c at *
  generalize cut y b = d at *
  rcases may_cases h with rfl | rfl | rfl | rfl | rfl
  all_goals
    simp only [Int.reduceToNat, Nat.reducePow] at e1 e2
    simp only [sgn_1, sgn_8, sgn_16, sgn_32, sgn_64]
    split <;> split <;> omega

/-- a kind of which, and of alike, exactly one holds -/
def Tri (b K : Int) : Prop := 1 ≤ K ∧ K ≤ 12 ∧ K ≠ 4 ∧ ∀ x y, (doV K b x y = 1 ∧ doV K b y x = 0 ∧ doV 10 b x y = 0) ∨ (doV K b x y = 0 ∧ doV K b y x = 1 ∧ doV 10 b x y = 0) ∨ (doV K b x y = 0 ∧ doV K b y x = 0 ∧ doV 10 b x y = 1)
theorem tri_11 {b : Int} (h : may b = true) : Tri b 11 := ⟨by decide, by decide, by decide, fun x y => by
  rw [doV_ult h, doV_ult h, doV_eq h]
  rcases Nat.lt_trichotomy (cut x b) (cut y b) with hl | hl | hl
  · left; refine ⟨?_, ?_, ?_⟩ <;> simp [one] <;> omega
  · right; right; refine ⟨?_, ?_, ?_⟩ <;> simp [one] <;> omega
  · right; left; refine ⟨?_, ?_, ?_⟩ <;> simp [one] <;> omega⟩
theorem tri_12 {b : Int} (h : may b = true) : Tri b 12 := ⟨by decide, by decide, by decide, fun x y => by
  rw [doV_slt h, doV_slt h, doV_eq h]
  have hi := sgn_inj h x y
  rcases Int.lt_trichotomy (sgn (cut x b) b) (sgn (cut y b) b) with hl | hl | hl
  · have hn : ¬ cut x b = cut y b := fun e => by rw [← hi] at e; omega
    left; refine ⟨?_, ?_, ?_⟩ <;> simp [one] <;> omega
  · have hn := hi.1 hl
    right; right; refine ⟨?_, ?_, ?_⟩ <;> simp [one] <;> omega
  · have hn : ¬ cut x b = cut y b := fun e => by rw [← hi] at e; omega
    right; left; refine ⟨?_, ?_, ?_⟩ <;> simp [one] <;> omega⟩

set_option maxHeartbeats 1000000 in
theorem laws_no (b : Int) (x y : Nat) (hb : may b = false) (w : World) :
    Calls Try.prog 5 #[.int .i64 b, .int .u64 x, .int .u64 y] w (GrownTrue w) := by
  have HM := Lib.hid hb
  clear hb
  go_enter Try.func5, Try.ntmps5
  go_wp2_with fail
  refine (awake_any _).mono ?_
  rintro e w1 ⟨rfl, hb1⟩
  go_wp2_with fail
  refine (rmay_as _ _ HM.out _).mono ?_
  rintro e w' ⟨rfl, rfl⟩
  go_wp2_with fail
  go_ret
  exact ⟨rfl, hb1⟩

/-- at the head of a round: the j-th of n, and the list's cells are there -/
def AtList (B n : Nat) (Q : Int → Prop) (w : World) (i : Value) (wr : World) : Prop :=
  ∃ j : Nat, j ≤ n ∧ i = .int .i64 j ∧ Below w.heap.size w wr ∧ B < wr.heap.size ∧ w.heap.size ≤ B ∧ ∀ t, t < n → ∃ K, Q K ∧ wr.cell? ⟨B, t, none⟩ = some (.int .i64 K)
theorem AtList.next {B n : Nat} {Q : Int → Prop} {w wr w' : World} {i : Value} (h : AtList B n Q w i wr) (hb : Below wr.heap.size wr w') (j : Nat) (hj : j ≤ n) : AtList B n Q w (.int .i64 j) w' := by
  obtain ⟨_, _, _, h1, h2, h3, h4⟩ := h
  refine ⟨j, hj, rfl, h1.trans (hb.mono h1.size), Nat.lt_of_lt_of_le h2 hb.size, h3, fun t ht => ?_⟩
  obtain ⟨K, hQ, hc⟩ := h4 t ht
  exact ⟨K, hQ, (hb.cell h2).trans hc⟩

set_option maxHeartbeats 2000000 in
theorem laws_yes (b : Int) (x y : Nat) (hx : x < 18446744073709551616) (hy : y < 18446744073709551616) (hb : may b = true) (w : World) :
    Calls Try.prog 5 #[.int .i64 b, .int .u64 x, .int .u64 y] w (GrownTrue w) := by
  have HM := Lib.hid hb
  have HX := Lib.hid hx
  have HY := Lib.hid hy
  clear hb hx hy
  go_enter Try.func5, Try.ntmps5
  go_wp2_with fail
  refine (awake_any _).mono ?_
  rintro e w1 ⟨rfl, hb1⟩
  go_wp2_with fail
  refine (rmay_as _ _ HM.out _).mono ?_
  rintro e w' ⟨rfl, rfl⟩
  go_wp2_with fail
  go_loopw [28] (fun i wr => AtList w1.heap.size 6 (Comm b) w i wr) (fun i _ => 6 - (intOf i).toNat)
  case atStart =>
    refine ⟨0, by omega, rfl, hb1.alloc hb1.size _, by simp, hb1.size, fun t ht => ?_⟩
    match t, ht with
    | 0, _ => exact ⟨1, comm_1 HM.out, by go_simp⟩
    | 1, _ => exact ⟨3, comm_3 HM.out, by go_simp⟩
    | 2, _ => exact ⟨5, comm_5 HM.out, by go_simp⟩
    | 3, _ => exact ⟨6, comm_6 HM.out, by go_simp⟩
    | 4, _ => exact ⟨7, comm_7 HM.out, by go_simp⟩
    | 5, _ => exact ⟨10, comm_10 HM.out, by go_simp⟩
  case round =>
    have HAT := Lib.hid hrel
    obtain ⟨j, hj, rfl, hbw, hB, hBw, hcells⟩ := hrel
    have HB := Lib.hid hbw
    have HCS := Lib.hid hcells
    clear hbw hb1 hcells hB hBw
    by_cases hlt : j < 6
    · obtain ⟨K, hQ, hcell⟩ := HCS.out j hlt
      obtain ⟨v, hv⟩ : ∃ v, doV K b x y = v := ⟨_, rfl⟩
      have HV := Lib.hid hv
      have HV' : Hid (doV K b y x = v) := Lib.hid (by rw [← hv]; exact (hQ.2.2.2 x y).symm)
      have C1 : Hid (doC K b y = 0) := Lib.hid (doC_of HM.out hQ.1 hQ.2.1 hQ.2.2.1 _)
      have C2 : Hid (doC K b x = 0) := Lib.hid (doC_of HM.out hQ.1 hQ.2.1 hQ.2.2.1 _)
      clear hv hQ
      have hj0 : (0 : Int) ≤ (j : Int) := by omega
      have hj1 : (j : Int) < 6 := by omega
      go_wp2_with fail
      refine (do_any _ _ _ _ HX.out HY.out _ _ HV.out C1.out _).mono ?_
      rintro e w2 ⟨rfl, hb2⟩
      have HAT2 := Lib.hid (HAT.out.next hb2 (j + 1) (by omega))
      have HZ := Lib.hid hb2.size
      clear hb2
      go_wp2_with fail
      refine (do_any _ _ _ _ HY.out HX.out _ _ HV'.out C2.out _).mono ?_
      rintro e w3 ⟨rfl, hb3⟩
      have HAT3 := Lib.hid (HAT2.out.next hb3 (j + 1) (by omega))
      clear hb3
      go_wp2_with fail
      go_roundw
      case rel => exact HAT3.out
      case measure => simp [intOf]; omega
    · obtain rfl : j = 6 := by omega
      clear hlt hj
      have CE : Hid (doC 10 b y = 0) := Lib.hid (doC_of HM.out (by decide) (by decide) (by decide) _)
      clear HAT HCS
      have hE : doV 10 b x y = 0 ∨ doV 10 b x y = 1 := by
        rw [doV_eq HM.out]
        cases decide (cut x b = cut y b)
        · exact .inl rfl
        · exact .inr rfl
      rcases hE with hE | hE
      all_goals
       have HE := Lib.hid hE
       clear hE
       go_wp2_with fail
       refine (do_any _ _ _ _ HX.out HY.out _ _ HE.out CE.out _).mono ?_
       rintro e w2 ⟨rfl, hb2⟩
       have HB2 := Lib.hid (HB.out.trans (hb2.mono HB.out.size))
       clear hb2
       go_wp2_with fail
       go_loopw [61] (fun i wr => AtList w2.heap.size 2 (Tri b) w i wr) (fun i _ => 2 - (intOf i).toNat)
       case atStart =>
         refine ⟨0, by omega, rfl, HB2.out.alloc HB2.out.size _, by simp, HB2.out.size, fun t ht => ?_⟩
         match t, ht with
         | 0, _ => exact ⟨11, tri_11 HM.out, by go_simp⟩
         | 1, _ => exact ⟨12, tri_12 HM.out, by go_simp⟩
       case round =>
         have HAT := Lib.hid hrel
         obtain ⟨j, hj, rfl, hbw, hB, hBw, hcells⟩ := hrel
         have HB4 := Lib.hid hbw
         have HCS := Lib.hid hcells
         clear hbw hcells hB hBw HB HB2
         by_cases hlt : j < 2
         · obtain ⟨K, hQ, hcell⟩ := HCS.out j hlt
           have C1 : Hid (doC K b y = 0) := Lib.hid (doC_of HM.out hQ.1 hQ.2.1 hQ.2.2.1 _)
           have C2 : Hid (doC K b x = 0) := Lib.hid (doC_of HM.out hQ.1 hQ.2.1 hQ.2.2.1 _)
           have hj0 : (0 : Int) ≤ (j : Int) := by omega
           have hj1 : (j : Int) < 2 := by omega
           have htri := hQ.2.2.2 x y
           rw [HE.out] at htri
           clear hQ
           rcases htri with ⟨hv, hv', h0⟩ | ⟨hv, hv', h0⟩ | ⟨hv, hv', h0⟩
           all_goals first
             | exact absurd h0 (by decide)
             | skip
           all_goals
             clear h0
             have HV := Lib.hid hv
             have HV' := Lib.hid hv'
             clear hv hv'
             go_wp2_with fail
             refine (do_any _ _ _ _ HX.out HY.out _ _ HV.out C1.out _).mono ?_
             rintro e w3 ⟨rfl, hb3⟩
             have HAT2 := Lib.hid (HAT.out.next hb3 (j + 1) (by omega))
             clear hb3
             go_wp2_with fail
             refine (do_any _ _ _ _ HY.out HX.out _ _ HV'.out C2.out _).mono ?_
             rintro e w4 ⟨rfl, hb4⟩
             have HAT3 := Lib.hid (HAT2.out.next hb4 (j + 1) (by omega))
             clear hb4
             go_wp2_with fail
             go_roundw
             case rel => exact HAT3.out
             case measure => simp [intOf]; omega
         · obtain rfl : j = 2 := by omega
           go_wp2_with fail
           go_ret
           exact ⟨rfl, HB4.out⟩

theorem laws_any (b : Int) (x y : Nat) (hx : x < 18446744073709551616) (hy : y < 18446744073709551616) (w : World) :
    Calls Try.prog 5 #[.int .i64 b, .int .u64 x, .int .u64 y] w (GrownTrue w) := by
  cases hb : may b
  · exact laws_no b x y hb w
  · exact laws_yes b x y hx hy hb w
end Go.Proofs.Ytakbkpcmdmjblaa
