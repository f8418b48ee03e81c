/- MemThere: true for every input. -/
import Derived.Test.YtcnhnjbefhgaaaaAwake
namespace Go.Proofs.Ytcnhnjbefhgaaaa
open Go.RowKit

theorem tmod_4097 (n k : Nat) (hn : n < 65536) (h : n % 4097 = k) : Int.tmod (wrap64 (n : Int)) 4097 = (k : Int) := by subst h; rw [show wrap64 (n : Int) = n by unfold wrap64; omega]; rw [Int.tmod_eq_emod_of_nonneg (by omega)]; omega


theorem new_is (A : Option Addr) (n cap : Nat) (bs : List Nat) (hvn : bs.length = n) (hlen : n ≤ 4096) (hA : A = none → n = 0 ∧ cap = 0) (ho : Octets bs) (N : Nat → Prop) (w : World) (hl : Lies w N A (bs.map bv)) (hN : ∀ i, N i → i < w.heap.size) :
    Calls Try.prog 10 #[.slice A n cap] w (NewIs bs w) := by
  subst hvn
  exact new_any A cap bs hlen hA ho N w hl hN
theorem made_zero (k : Nat) : (madeCells (Value.int IntKind.u8 0).cells (k * 1)).toList = (List.replicate k 0).map bv := by
  rw [Nat.mul_one, List.map_replicate]
  exact toList_madeCells_one _ _
theorem made_own {w : World} {base k : Nat} {v : Value} (h : w.ownsRow base 5 1 v k (madeCells (Value.int IntKind.u8 0).cells (k * 1)).toList) : w.ownsRow base 5 1 v k ((List.replicate k 0).map bv) := by
  rw [made_zero] at h; exact h

theorem there_cases {k a x y : Nat} {r1 r2 : Bool} (h1 : thereB k a x = r1) (h2 : thereB k a ((x : Int) + (y : Int)) = r2) :
    (r1 = true ∧ 1 ≤ x ∧ a + x ≤ k) ∨ (r1 = false ∧ x = 0) ∨ (r1 = false ∧ r2 = false ∧ 1 ≤ x) := by
  subst h1 h2
  simp only [thereB, decide_eq_true_eq, decide_eq_false_iff_not]
  omega
theorem there_whole {k : Nat} {r3 : Bool} (h : thereB k 0 k = r3) : decide (0 < k) = r3 := by
  subst h
  simp only [thereB, decide_eq_decide]
  omega

set_option maxHeartbeats 2000000 in
set_option maxRecDepth 100000 in
set_option pp.deepTerms true in
set_option pp.maxSteps 100000 in
theorem there_law (n a x y : Nat) (hn : n < 65536) (ha : a < 18446744073709551616) (hx : x < 256) (hy : y < 256) (w : World) : Calls Try.prog 8 #[.int .u16 n, .int .u64 a, .agg #[.int .u8 x, .int .u8 y]] w (GrownTrue w) := by
  obtain ⟨k, hk⟩ : ∃ k, n % 4097 = k := ⟨_, rfl⟩
  have hk4 : k ≤ 4096 := by omega
  have e1 := tmod_4097 n k hn hk
  obtain ⟨i0, hi0, hz0, hz1, hz2⟩ := info_parts info5
  obtain ⟨r1, hr1⟩ : ∃ r, thereB k a x = r := ⟨_, rfl⟩
  obtain ⟨r2, hr2⟩ : ∃ r, thereB k a ((x : Int) + (y : Int)) = r := ⟨_, rfl⟩
  obtain ⟨r3, hr3⟩ : ∃ r, thereB k 0 k = r := ⟨_, rfl⟩
  have HR1 := Lib.hid hr1
  have HR2 := Lib.hid hr2
  have HR3 := Lib.hid hr3
  have HA := Lib.hid ha
  clear hk hr1 hr2 hr3 ha hn
  go_enter Try.func8, Try.ntmps8
  go_wp2_with fail
  refine (awake_any _).mono ?_
  rintro e w1 ⟨rfl, hb1⟩
  have c0 : w1.cell? ⟨w.heap.size, 0, none⟩ = some (.int .u8 x) := by rw [hb1.cell (by simp)]; simp
  have c1 : w1.cell? ⟨w.heap.size, 1, none⟩ = some (.int .u8 y) := by rw [hb1.cell (by simp)]; simp
  have HB1 : Hid (Below w.heap.size w w1) := Lib.hid (((Below.refl w.heap.size w).alloc (Nat.le_refl _) _).trans (hb1.mono (by simp)))
  clear hb1
  go_wp2_with (at_make; refine wpList_make_full _ rfl _ _ 22 rfl w1.heap.size 5 i0 (.int .u8 0) 1 Try.underlying22 hi0 hz0 hz1 .i64 .i64 _ _ k rfl rfl rfl rfl (by rw [hz2]; omega) (by unfold maxLen; omega) (Nat.le_refl _) ?_; intro w2 hown hgrow)
  have hb2 := (Below.refl w1.heap.size w1).grown hgrow (Nat.le_refl _) (fun _ h => by cases h)
  refine (new_is _ _ k (List.replicate k 0) (by simp) hk4 (fun h => by cases h) (by intro c hc; rw [List.eq_of_mem_replicate hc]; decide) _ _ (lies_own (made_own hown)) (fun i hi => hi.2)).mono ?_
  have HB2 := Lib.hid (HB1.out.trans (hb2.mono HB1.out.size))
  clear hown hgrow hb2
  rintro e w3 ⟨P, F, rfl, hmem, hb3⟩
  have H1 : Hid (Held 63 w2 P F (List.replicate k 0) [] w3) := Lib.hid ⟨hmem, hb3⟩
  have HLEN : Hid ((List.replicate k 0).length ≤ 5000) := Lib.hid (by simp; omega)
  clear hmem hb3
  go_wp2_with fail
  refine (there_held H1.out HLEN.out a HA.out x r1 a (by simpa using HR1.out) rfl).mono ?_
  rintro e w' ⟨rfl, rfl⟩
  go_wp2_with fail
  refine (there_held H1.out HLEN.out a HA.out (x + y) r2 a (by simpa using HR2.out) rfl).mono ?_
  rintro e w' ⟨rfl, rfl⟩
  have HX := Lib.hid hx
  clear c0 c1 hx
  have t6 := there_whole HR3.out
  rcases there_cases HR1.out HR2.out with ⟨rfl, h1, h2⟩ | ⟨rfl, h1⟩ | ⟨rfl, rfl, h1⟩
  · have t1 : decide (k ≤ a) = false := by simp; omega
    have t2 : decide ((k : Int) < (a : Int) + (x : Int)) = false := by simp; omega
    have t3 : IntKind.u64.wrap ((a : Int) + (x : Int)) = (a : Int) + (x : Int) := by have := HX.out; rw [u64_wrap]; omega
    have t7 : IntKind.u64.wrap (x : Int) = (x : Int) := by have := HX.out; rw [u64_wrap]; omega
    have t4 : ((x : Int) == 0) = false := by simp; omega
    clear h1 h2
    cases r2
    all_goals
      go_wp2_with fail
      refine (there_held H1.out HLEN.out 0 (by decide) k r3 0 (by simpa using HR3.out) rfl).mono ?_
      rintro e w' ⟨rfl, rfl⟩
      go_wp2_with fail
      refine (there_held H1.out HLEN.out 0 (by decide) (k + 1) false 0 (by simp [thereB]; omega) rfl).mono ?_
      rintro e w' ⟨rfl, rfl⟩
      go_wp2_with fail
      refine (there_held H1.out HLEN.out a HA.out 0 false a (by simp [thereB]) rfl).mono ?_
      rintro e w' ⟨rfl, rfl⟩
      go_wp2_with fail
      refine (bytes_any H1.out.mem HLEN.out).mono ?_
      rintro e w4 ⟨Y, cy, rfl, hown, hb4⟩
      have H4 := Lib.hid (H1.out.grown hb4)
      rw [show (List.replicate k 0).length = k by simp]
      clear hown hb4
      go_wp2_with fail
      refine (trace_any H4.out.mem (by decide)).mono ?_
      rintro e w5 ⟨Z, cz, rfl, _, hb5⟩
      have H5 := Lib.hid (H4.out.grown hb5)
      clear hb5
      go_wp2_with fail
      go_ret
      exact ⟨rfl, HB2.out.trans (H5.out.below.mono HB2.out.size)⟩
  · have t4 : ((x : Int) == 0) = true := by simp; omega
    have t5 : decide (0 < x) = false := by simp; omega
    clear h1
    cases r2
    all_goals
      go_wp2_with fail
      refine (there_held H1.out HLEN.out 0 (by decide) k r3 0 (by simpa using HR3.out) rfl).mono ?_
      rintro e w' ⟨rfl, rfl⟩
      go_wp2_with fail
      refine (there_held H1.out HLEN.out 0 (by decide) (k + 1) false 0 (by simp [thereB]; omega) rfl).mono ?_
      rintro e w' ⟨rfl, rfl⟩
      go_wp2_with fail
      refine (there_held H1.out HLEN.out a HA.out 0 false a (by simp [thereB]) rfl).mono ?_
      rintro e w' ⟨rfl, rfl⟩
      go_wp2_with fail
      refine (bytes_any H1.out.mem HLEN.out).mono ?_
      rintro e w4 ⟨Y, cy, rfl, hown, hb4⟩
      have H4 := Lib.hid (H1.out.grown hb4)
      rw [show (List.replicate k 0).length = k by simp]
      clear hown hb4
      go_wp2_with fail
      refine (trace_any H4.out.mem (by decide)).mono ?_
      rintro e w5 ⟨Z, cz, rfl, _, hb5⟩
      have H5 := Lib.hid (H4.out.grown hb5)
      clear hb5
      go_wp2_with fail
      go_ret
      exact ⟨rfl, HB2.out.trans (H5.out.below.mono HB2.out.size)⟩
  · have t4 : ((x : Int) == 0) = false := by simp; omega
    clear h1
    go_wp2_with fail
    refine (there_held H1.out HLEN.out 0 (by decide) k r3 0 (by simpa using HR3.out) rfl).mono ?_
    rintro e w' ⟨rfl, rfl⟩
    go_wp2_with fail
    refine (there_held H1.out HLEN.out 0 (by decide) (k + 1) false 0 (by simp [thereB]; omega) rfl).mono ?_
    rintro e w' ⟨rfl, rfl⟩
    go_wp2_with fail
    refine (there_held H1.out HLEN.out a HA.out 0 false a (by simp [thereB]) rfl).mono ?_
    rintro e w' ⟨rfl, rfl⟩
    go_wp2_with fail
    refine (bytes_any H1.out.mem HLEN.out).mono ?_
    rintro e w4 ⟨Y, cy, rfl, hown, hb4⟩
    have H4 := Lib.hid (H1.out.grown hb4)
    rw [show (List.replicate k 0).length = k by simp]
    clear hown hb4
    go_wp2_with fail
    refine (trace_any H4.out.mem (by decide)).mono ?_
    rintro e w5 ⟨Z, cz, rfl, _, hb5⟩
    have H5 := Lib.hid (H4.out.grown hb5)
    clear hb5
    go_wp2_with fail
    go_ret
    exact ⟨rfl, HB2.out.trans (H5.out.below.mono HB2.out.size)⟩
end Go.Proofs.Ytcnhnjbefhgaaaa
