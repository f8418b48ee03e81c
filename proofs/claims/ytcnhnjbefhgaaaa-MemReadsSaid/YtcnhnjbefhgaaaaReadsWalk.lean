/- MemReads: true for every input. -/
import Derived.Test.YtcnhnjbefhgaaaaApartWalk
import Derived.Deep.RegionHeld3
namespace Go.Proofs.Ytcnhnjbefhgaaaa
open Go.RowKit

theorem tget_add (bs : List Nat) (f h k : Nat) : tget bs f (h + k) = tget bs f h ++ tget bs (f + h) k := by
  induction k with
  | zero => simp [tget]
  | succ k ih => rw [← Nat.add_assoc, tget, ih, tget, List.append_assoc, Nat.add_assoc]
theorem word_add (bs : List Nat) (f h k : Nat) : word bs f (h + k) = word bs f h + word bs (f + h) k * 2 ^ (8 * h) := by
  induction k with
  | zero => simp [word]
  | succ k ih =>
    rw [← Nat.add_assoc, word, ih, word, Nat.add_mul, Nat.mul_add, Nat.pow_add, ← Nat.add_assoc f h k, Nat.add_assoc (word bs f h), Nat.mul_assoc (bs.getD (f + h + k) 0), Nat.mul_comm (2 ^ (8 * k))]

theorem touches_is (A B : Option Addr) (ca cb : Nat) (xs : List Tch) (n : Nat) (hn : xs.length = n) (hlen : n ≤ 4000000) (M N : Nat → Prop) (w : World) (ha : Lies w M A (tvs xs)) (hb : Lies w N B (tvs xs)) :
    Calls Try.prog 20 #[.slice A n ca, .slice B n cb] w (IsTrue w) := by
  subst hn; exact touches_any A B ca cb xs hlen M N w ha hb
theorem reads_big (A : Option Addr) (cap : Nat) (bs : List Nat) (a b : Nat) (hbig : 4096 < bs.length) (w : World) :
    Calls Try.prog 5 #[.slice A bs.length cap, .int .u16 a, .int .u8 b] w (GrownTrue w) := by
  have t1 : decide ((4096 : Int) < (bs.length : Int)) = true := by simp; omega
  have HBIG := Lib.hid hbig
  clear hbig
  go_enter Try.func5, Try.ntmps5
  go_wp2_with fail
  refine (awake_any _).mono ?_
  rintro e w1 ⟨rfl, hb1⟩
  have HB1 := Lib.hid hb1
  clear hb1
  go_wp2_with fail
  refine (new_big _ _ _ HBIG.out _).mono ?_
  rintro e w' ⟨rfl, rfl⟩
  go_wp2_with fail
  refine (new_big _ _ _ HBIG.out _).mono ?_
  rintro e w' ⟨rfl, rfl⟩
  go_wp2_with fail
  go_ret
  exact ⟨rfl, HB1.out⟩


theorem rd16_in {bs : List Nat} {a : Nat} (hin : a + 2 ≤ bs.length) : rdV bs a 16 1 = [word bs a 2] ∧ rdC bs.length a 16 1 = 0 ∧ rdT bs [] a 16 1 = tget bs a 2 ∧
    rdV bs a 8 2 = [word bs a 1, word bs (a + 1) 1] ∧ rdC bs.length a 8 2 = 0 ∧ rdT bs [] a 8 2 = tget bs a 2 := by
  have e1 : fit bs.length a 2 1 = 1 := by unfold fit; have : 1 ≤ (bs.length - a) / 2 := (by omega); omega
  have e2 : fit bs.length a 1 2 = 2 := by unfold fit; have : 2 ≤ (bs.length - a) / 1 := (by omega); omega
  have m1 : mayM 16 1 = true := by decide
  have m2 : mayM 8 2 = true := by decide
  have k1 : (1 : Int).toNat = 1 := rfl
  have k2 : (2 : Int).toNat = 2 := rfl
  refine ⟨?_, ?_, ?_, ?_, ?_, ?_⟩
  · simp [rdV, m1, k1, e1, rV]
  · simp [rdC, m1, k1, e1]
  · simp [rdT, m1, k1, e1, rT]
  · simp [rdV, m2, k2, e2, rV]
  · simp [rdC, m2, k2, e2]
  · simp [rdT, m2, k2, e2, rT]; exact (tget_add bs a 1 1).symm
theorem rd16_out {bs : List Nat} {a : Nat} (hin : ¬ a + 2 ≤ bs.length) : rdV bs a 16 1 = [] ∧ rdC bs.length a 16 1 = 8 ∧ rdT bs [] a 16 1 = [] ∧ rdV bs a 8 2 = [] ∧ rdC bs.length a 8 2 = 8 := by
  have e1 : fit bs.length a 2 1 = 0 := by unfold fit; have : (bs.length - a) / 2 = 0 := (by omega); omega
  have e2 : fit bs.length a 1 2 ≠ 2 := by unfold fit; have : (bs.length - a) / 1 < 2 := (by omega); omega
  have m1 : mayM 16 1 = true := by decide
  have m2 : mayM 8 2 = true := by decide
  have k1 : (1 : Int).toNat = 1 := rfl
  have k2 : (2 : Int).toNat = 2 := rfl
  refine ⟨?_, ?_, ?_, ?_, ?_⟩
  · simp [rdV, m1, k1, e1]
  · simp [rdC, m1, k1, e1]
  · simp [rdT, m1, k1, e1, rT]
  · simp [rdV, m2, k2, e2]
  · simp [rdC, m2, k2, e2]

theorem rd32_in {bs : List Nat} {a : Nat} (hin : a + 4 ≤ bs.length) : rdV bs a 32 1 = [word bs a 4] ∧ rdC bs.length a 32 1 = 0 ∧ rdT bs [] a 32 1 = tget bs a 4 ∧
    rdV bs a 16 2 = [word bs a 2, word bs (a + 2) 2] ∧ rdC bs.length a 16 2 = 0 ∧ rdT bs [] a 16 2 = tget bs a 4 := by
  have e1 : fit bs.length a 4 1 = 1 := by unfold fit; have : 1 ≤ (bs.length - a) / 4 := (by omega); omega
  have e2 : fit bs.length a 2 2 = 2 := by unfold fit; have : 2 ≤ (bs.length - a) / 2 := (by omega); omega
  have m1 : mayM 32 1 = true := by decide
  have m2 : mayM 16 2 = true := by decide
  have k1 : (1 : Int).toNat = 1 := rfl
  have k2 : (2 : Int).toNat = 2 := rfl
  refine ⟨?_, ?_, ?_, ?_, ?_, ?_⟩
  · simp [rdV, m1, k1, e1, rV]
  · simp [rdC, m1, k1, e1]
  · simp [rdT, m1, k1, e1, rT]
  · simp [rdV, m2, k2, e2, rV]
  · simp [rdC, m2, k2, e2]
  · simp [rdT, m2, k2, e2, rT]; exact (tget_add bs a 2 2).symm
theorem rd32_out {bs : List Nat} {a : Nat} (hin : ¬ a + 4 ≤ bs.length) : rdV bs a 32 1 = [] ∧ rdC bs.length a 32 1 = 8 ∧ rdT bs [] a 32 1 = [] ∧ rdV bs a 16 2 = [] ∧ rdC bs.length a 16 2 = 8 := by
  have e1 : fit bs.length a 4 1 = 0 := by unfold fit; have : (bs.length - a) / 4 = 0 := (by omega); omega
  have e2 : fit bs.length a 2 2 ≠ 2 := by unfold fit; have : (bs.length - a) / 2 < 2 := (by omega); omega
  have m1 : mayM 32 1 = true := by decide
  have m2 : mayM 16 2 = true := by decide
  have k1 : (1 : Int).toNat = 1 := rfl
  have k2 : (2 : Int).toNat = 2 := rfl
  refine ⟨?_, ?_, ?_, ?_, ?_⟩
  · simp [rdV, m1, k1, e1]
  · simp [rdC, m1, k1, e1]
  · simp [rdT, m1, k1, e1, rT]
  · simp [rdV, m2, k2, e2]
  · simp [rdC, m2, k2, e2]

theorem rd64_in {bs : List Nat} {a : Nat} (hin : a + 8 ≤ bs.length) : rdV bs a 64 1 = [word bs a 8] ∧ rdC bs.length a 64 1 = 0 ∧ rdT bs [] a 64 1 = tget bs a 8 ∧
    rdV bs a 32 2 = [word bs a 4, word bs (a + 4) 4] ∧ rdC bs.length a 32 2 = 0 ∧ rdT bs [] a 32 2 = tget bs a 8 := by
  have e1 : fit bs.length a 8 1 = 1 := by unfold fit; have : 1 ≤ (bs.length - a) / 8 := (by omega); omega
  have e2 : fit bs.length a 4 2 = 2 := by unfold fit; have : 2 ≤ (bs.length - a) / 4 := (by omega); omega
  have m1 : mayM 64 1 = true := by decide
  have m2 : mayM 32 2 = true := by decide
  have k1 : (1 : Int).toNat = 1 := rfl
  have k2 : (2 : Int).toNat = 2 := rfl
  refine ⟨?_, ?_, ?_, ?_, ?_, ?_⟩
  · simp [rdV, m1, k1, e1, rV]
  · simp [rdC, m1, k1, e1]
  · simp [rdT, m1, k1, e1, rT]
  · simp [rdV, m2, k2, e2, rV]
  · simp [rdC, m2, k2, e2]
  · simp [rdT, m2, k2, e2, rT]; exact (tget_add bs a 4 4).symm
theorem rd64_out {bs : List Nat} {a : Nat} (hin : ¬ a + 8 ≤ bs.length) : rdV bs a 64 1 = [] ∧ rdC bs.length a 64 1 = 8 ∧ rdT bs [] a 64 1 = [] ∧ rdV bs a 32 2 = [] ∧ rdC bs.length a 32 2 = 8 := by
  have e1 : fit bs.length a 8 1 = 0 := by unfold fit; have : (bs.length - a) / 8 = 0 := (by omega); omega
  have e2 : fit bs.length a 4 2 ≠ 2 := by unfold fit; have : (bs.length - a) / 4 < 2 := (by omega); omega
  have m1 : mayM 64 1 = true := by decide
  have m2 : mayM 32 2 = true := by decide
  have k1 : (1 : Int).toNat = 1 := rfl
  have k2 : (2 : Int).toNat = 2 := rfl
  refine ⟨?_, ?_, ?_, ?_, ?_⟩
  · simp [rdV, m1, k1, e1]
  · simp [rdC, m1, k1, e1]
  · simp [rdT, m1, k1, e1, rT]
  · simp [rdV, m2, k2, e2]
  · simp [rdC, m2, k2, e2]

set_option maxHeartbeats 4000000 in
set_option maxRecDepth 100000 in
theorem reads_16 (A : Option Addr) (cap : Nat) (bs : List Nat) (a b : Nat) (hA : A = none → bs.length = 0 ∧ cap = 0) (ho : Octets bs) (ha : a < 65536) (hb : b < 256) (hr : b % 3 = 0) (hsm : bs.length ≤ 4096) (w : World)
    (hl : Lies w (fun i => i < w.heap.size) A (bs.map bv)) :
    Calls Try.prog 5 #[.slice A bs.length cap, .int .u16 a, .int .u8 b] w (GrownTrue w) := by
  have HL := Lib.hid hl
  have HA := Lib.hid hA
  have HO := Lib.hid ho
  have HSM := Lib.hid hsm
  have HX := Lib.hid ha
  have HLEN : Hid (bs.length ≤ 5000) := Lib.hid (by omega)
  have ea : IntKind.u64.wrap (a : Int) = (a : Int) := by rw [u64_wrap]; omega
  have eb : Int.tmod (wrap64 (b : Int)) 3 = 0 := by rw [show wrap64 (b : Int) = b by unfold wrap64; omega]; rw [Int.tmod_eq_emod_of_nonneg (by omega)]; omega
  clear hl hA ho hsm ha hb hr
  go_enter Try.func5, Try.ntmps5
  go_wp2_with fail
  refine (awake_any _).mono ?_
  rintro e w1 ⟨rfl, hb1⟩
  have HB1 := Lib.hid hb1
  clear hb1
  go_wp2_with fail
  refine (new_any A cap bs HSM.out HA.out HO.out _ _ (HL.out.arg HB1.out) (fun i hi => Nat.lt_of_lt_of_le hi HB1.out.size)).mono ?_
  rintro e w2 ⟨P, F, rfl, hmem, hb2⟩
  have M1 : Hid (Held 63 w1 P F bs [] w2) := Lib.hid ⟨hmem, hb2⟩
  clear hmem hb2
  go_wp2_with fail
  refine (new_any A cap bs HSM.out HA.out HO.out _ _ (HL.out.arg (HB1.out.trans (M1.out.below.mono HB1.out.size))) (fun i hi => Nat.lt_of_lt_of_le hi (Nat.le_trans HB1.out.size M1.out.size))).mono ?_
  rintro e w3 ⟨Q, G, rfl, hmem, hb3⟩
  have T1 : Hid (Two 63 63 w1 P Q F G bs [] bs [] w3) := Lib.hid (Two.of_new M1.out hmem hb3)
  clear hmem hb3 M1
  by_cases hin : a + 2 ≤ bs.length
  · obtain ⟨v1, v2, v3, v4, v5, v6⟩ := rd16_in hin
    have V1 := Lib.hid v1
    have V2 := Lib.hid v2
    have V3 := Lib.hid v3
    have V4 := Lib.hid v4
    have V5 := Lib.hid v5
    have V6 := Lib.hid v6
    clear v1 v2 v3 v4 v5 v6 hin
    go_wp2_with fail
    have T2 := Lib.hid (T1.out.grown ((Below.refl w3.heap.size w3).alloc (Nat.le_refl _) (.cells #[.int .i64 16, .int .i64 32, .int .i64 64] 3)))
    generalize w3.alloc (.cells #[.int .i64 16, .int .i64 32, .int .i64 64] 3) = w4 at *
    obtain ⟨n0, hn0⟩ : ∃ n0, word bs a 2 = n0 := ⟨_, rfl⟩
    obtain ⟨n1, hn1⟩ : ∃ n1, word bs a 1 = n1 := ⟨_, rfl⟩
    obtain ⟨n2, hn2⟩ : ∃ n2, word bs (a + 1) 1 = n2 := ⟨_, rfl⟩
    obtain ⟨TS, hTS⟩ : ∃ TS, tget bs a 2 = TS := ⟨_, rfl⟩
    have HTL : Hid (TS.length = 2) := Lib.hid (by rw [← hTS, tget_length])
    have HN0 := Lib.hid hn0
    have HN1 := Lib.hid hn1
    have HN2 := Lib.hid hn2
    refine (read_two T2.out HLEN.out (by decide) a (by have := HX.out; omega) 16 1 [n0] 1 TS 0 a (by rw [V1.out, hn0]) rfl (by rw [V3.out, hTS]) V2.out rfl).mono ?_
    rintro e w5 ⟨X, cx, F5, rfl, hF5, h5, hown, hoff, hT5⟩
    obtain ⟨gx, rfl, cxx⟩ := own_lies hown (k := 0) (u := .int .u64 n0) rfl rfl
    have HGX : Hid (gx < w5.heap.size ∧ ¬ G gx) := Lib.hid ⟨(own_at hown).2, fun hg => absurd (T2.out.n.lo _ hg).2 (Nat.not_lt.2 (own_at hown).1)⟩
    have CX := Lib.hid cxx
    have T5 := Lib.hid h5
    clear hF5 h5 hown hoff hT5 cxx T2 T1
    go_wp2_with fail
    refine (read_two T5.out.swap HLEN.out (by decide) a (by have := HX.out; omega) 8 2 [n1, n2] 2 TS 0 a (by rw [V4.out, hn1, hn2]) rfl (by rw [V6.out, hTS]) V5.out rfl).mono ?_
    rintro e w6 ⟨Y, cy, G6, rfl, hG6, h6, hown, hoff, hT6⟩
    obtain ⟨gy, rfl, cy0⟩ := own_lies hown (k := 0) (u := .int .u64 n1) rfl rfl
    obtain ⟨_, e1, cy1⟩ := own_lies hown (k := 1) (u := .int .u64 n2) rfl rfl
    cases e1
    have CX6 := Lib.hid ((hT6.cell (p := ⟨gx, 0, none⟩) HGX.out.1 HGX.out.2).trans CX.out)
    have SX := Lib.hid (Nat.lt_of_lt_of_le HGX.out.1 hT6.size)
    have SY := Lib.hid (own_at hown).2
    have CY0 := Lib.hid cy0
    have CY1 := Lib.hid cy1
    have T6 := Lib.hid h6.swap
    clear hG6 h6 hown hoff hT6 cy0 cy1 CX HGX T5 hn0 hn1 hn2 hTS
    go_wp2_with fail
    refine (bytes_two T6.out rfl HLEN.out).mono ?_
    rintro e w7 ⟨Z, cz, rfl, hown, hb7⟩
    have LZ := Lib.hid (lies_own hown)
    have T7 := Lib.hid (T6.out.grown hb7)
    have B7 := Lib.hid hb7
    clear hown hb7 T6
    go_wp2_with fail
    refine (same_any Z A cz cap bs (by have := HSM.out; omega) _ _ _ LZ.out (HL.out.arg (HB1.out.trans (T7.out.below.mono HB1.out.size)))).mono ?_
    rintro e w8 ⟨rfl, m8, rfl⟩
    have T8 := Lib.hid (T7.out.drewN m8)
    have B8 := Lib.hid (B7.out.trans (show Below w6.heap.size w7 (w7.drewN m8) from ⟨rfl, rfl, rfl, Nat.le_refl _, fun _ _ => rfl⟩))
    clear T7 B7 LZ
    go_wp2_with fail
    refine (bytes_two T8.out.swap rfl HLEN.out).mono ?_
    rintro e w9 ⟨Z2, cz2, rfl, hown, hb9⟩
    have LZ := Lib.hid (lies_own hown)
    have T9 := Lib.hid (T8.out.grown hb9)
    have B9 := Lib.hid (B8.out.trans (hb9.mono B8.out.size))
    clear hown hb9 T8 B8
    go_wp2_with fail
    refine (same_any Z2 A cz2 cap bs (by have := HSM.out; omega) _ _ _ LZ.out (HL.out.arg (HB1.out.trans (T9.out.below.mono HB1.out.size)))).mono ?_
    rintro e w10 ⟨rfl, m10, rfl⟩
    have T10 := Lib.hid (T9.out.drewN m10)
    have B10 := Lib.hid (B9.out.trans (show Below w6.heap.size w9 (w9.drewN m10) from ⟨rfl, rfl, rfl, Nat.le_refl _, fun _ _ => rfl⟩))
    clear T9 B9 LZ
    generalize w9.drewN m10 = w11 at *
    have c0 : w11.cell? ⟨gx, 0, none⟩ = some (.int .u64 n0) := (B10.out.cell SX.out).trans CX6.out
    have c1 : w11.cell? ⟨gy, 0, none⟩ = some (.int .u64 n1) := (B10.out.cell SY.out).trans CY0.out
    have c2 : w11.cell? ⟨gy, 1, none⟩ = some (.int .u64 n2) := (B10.out.cell SY.out).trans CY1.out
    have tq : ((n0 : Int) == IntKind.u64.wrap ((n1 : Int) + IntKind.u64.wrap ((n2 : Int) * 2 ^ min (IntKind.u64.wrap (IntKind.i64.wrap 8)).toNat 64))) = true := by
      have h0 := word_add bs a 1 1
      have hlt := word_lt HO.out a 2
      rw [show 1 + 1 = 2 by rfl, HN0.out, HN1.out, HN2.out] at h0
      rw [HN0.out] at hlt
      simp only [Nat.reduceMul, Nat.reducePow] at h0 hlt
      rw [show min (IntKind.u64.wrap (IntKind.i64.wrap 8)).toNat 64 = 8 by decide, u64_wrap, u64_wrap, beq_iff_eq]
      omega
    have qP := Lib.hid (fun (w' : World) (h : Two 63 63 w1 P Q F5 G6 bs TS bs TS w') => trace_two h HTL.out (by decide : 2 ≤ 2000000))
    have qQ := Lib.hid (fun (w' : World) (h : Two 63 63 w1 P Q F5 G6 bs TS bs TS w') => trace_two h.swap HTL.out (by decide : 2 ≤ 2000000))
    have b0 := B10.out
    have t0 := T10.out
    go_wp2_with fail
    go_region_held3 (fun w' => Two 63 63 w1 P Q F5 G6 bs TS bs TS w' ∧ Below w6.heap.size w6 w' ∧ w'.cell? ⟨gx, 0, none⟩ = some (.int .u64 n0) ∧ w'.cell? ⟨gy, 0, none⟩ = some (.int .u64 n1) ∧ w'.cell? ⟨gy, 1, none⟩ = some (.int .u64 n2)) (first | (refine ⟨t0.drewN 1, b0.trans ⟨rfl, rfl, rfl, Nat.le_refl _, fun _ _ => rfl⟩, c0, c1, c2⟩) | (rename_i hSat _ _; obtain ⟨t9, b9, f0, f1, f2⟩ := hSat; exact ⟨t9.drewN _, b9.trans ⟨rfl, rfl, rfl, Nat.le_refl _, fun _ _ => rfl⟩, f0, f1, f2⟩) | (rename_i hSat _ _; obtain ⟨t9, b9, f0, f1, f2⟩ := hSat; exact ⟨t9.grown hbk, b9.trans (hbk.mono b9.size), (hbk.cell (Nat.lt_of_lt_of_le SX.out b9.size)).trans f0, (hbk.cell (Nat.lt_of_lt_of_le SY.out b9.size)).trans f1, (hbk.cell (Nat.lt_of_lt_of_le SY.out b9.size)).trans f2⟩))
      (first
        | (go_at_call 21; (with_reducible refine (qP.out _ ?hh).mono ?_); (case hh => (rename_i hSat _ _; exact hSat.1)); rintro e wk ⟨Z3, cz3, rfl, hown3, hbk⟩)
        | (go_at_call 21; (with_reducible refine (qQ.out _ ?hi).mono ?_); (case hi => (rename_i hSat _ _; exact hSat.1)); rintro e wk ⟨Z4, cz4, rfl, hown4, hbk⟩)
        | (go_at_call 20; (with_reducible refine (touches_is Z3 Z4 cz3 cz4 TS 2 HTL.out (by omega) _ _ _ ((lies_own hown3).later hbk (fun i hi => hi.2)) (lies_own hown4)).mono ?_); rintro e wk2 ⟨rfl, m20, rfl⟩))
    rename_i hSat
    obtain ⟨t9, _⟩ := hSat
    have T9 := Lib.hid t9
    clear t9
    go_wp2_with fail
    go_ret
    exact ⟨rfl, HB1.out.trans (T9.out.below.mono HB1.out.size)⟩
  · obtain ⟨v1, v2, v3, v4, v5⟩ := rd16_out hin
    have V1 := Lib.hid v1
    have V2 := Lib.hid v2
    have V3 := Lib.hid v3
    have V4 := Lib.hid v4
    have V5 := Lib.hid v5
    clear v1 v2 v3 v4 v5 hin
    go_wp2_with fail
    have T2 := Lib.hid (T1.out.grown ((Below.refl w3.heap.size w3).alloc (Nat.le_refl _) (.cells #[.int .i64 16, .int .i64 32, .int .i64 64] 3)))
    generalize w3.alloc (.cells #[.int .i64 16, .int .i64 32, .int .i64 64] 3) = w4 at *
    refine (read_two T2.out HLEN.out (by decide) a (by have := HX.out; omega) 16 1 [] 0 [] 8 a V1.out rfl V3.out V2.out rfl).mono ?_
    rintro e w5 ⟨X, cx, F5, rfl, hF5, h5, hown, hoff, hT5⟩
    have T5 := Lib.hid h5
    clear hF5 h5 hown hoff hT5 T2 T1
    go_wp2_with fail
    refine (read_two T5.out.swap HLEN.out (by decide) a (by have := HX.out; omega) 8 2 [] 0 _ 8 a V4.out rfl rfl V5.out rfl).mono ?_
    rintro e w6 ⟨Y, cy, G6, rfl, hG6, h6, hown, hoff, hT6⟩
    have T6 := Lib.hid h6.swap
    clear hG6 h6 hown hoff hT6 T5
    go_wp2_with fail
    refine (bytes_two T6.out rfl HLEN.out).mono ?_
    rintro e w7 ⟨Z, cz, rfl, hown, hb7⟩
    have LZ := Lib.hid (lies_own hown)
    have T7 := Lib.hid (T6.out.grown hb7)
    clear hown hb7 T6
    go_wp2_with fail
    refine (same_any Z A cz cap bs (by have := HSM.out; omega) _ _ _ LZ.out (HL.out.arg (HB1.out.trans (T7.out.below.mono HB1.out.size)))).mono ?_
    rintro e w8 ⟨rfl, m8, rfl⟩
    have T8 := Lib.hid (T7.out.drewN m8)
    clear T7 LZ
    go_wp2_with fail
    refine (bytes_two T8.out.swap rfl HLEN.out).mono ?_
    rintro e w9 ⟨Z2, cz2, rfl, hown, hb9⟩
    have LZ := Lib.hid (lies_own hown)
    have T9 := Lib.hid (T8.out.grown hb9)
    clear hown hb9 T8
    go_wp2_with fail
    refine (same_any Z2 A cz2 cap bs (by have := HSM.out; omega) _ _ _ LZ.out (HL.out.arg (HB1.out.trans (T9.out.below.mono HB1.out.size)))).mono ?_
    rintro e w10 ⟨rfl, m10, rfl⟩
    have T10 := Lib.hid (T9.out.drewN m10)
    clear T9 LZ
    go_wp2_with fail
    refine (trace_two T10.out rfl (by decide)).mono ?_
    rintro e w12 ⟨Z5, cz5, rfl, _, hb12⟩
    have T12 := Lib.hid (T10.out.grown hb12)
    clear hb12
    go_wp2_with fail
    go_ret
    exact ⟨rfl, HB1.out.trans (T12.out.below.mono HB1.out.size)⟩

set_option maxHeartbeats 4000000 in
set_option maxRecDepth 100000 in
theorem reads_32 (A : Option Addr) (cap : Nat) (bs : List Nat) (a b : Nat) (hA : A = none → bs.length = 0 ∧ cap = 0) (ho : Octets bs) (ha : a < 65536) (hb : b < 256) (hr : b % 3 = 1) (hsm : bs.length ≤ 4096) (w : World)
    (hl : Lies w (fun i => i < w.heap.size) A (bs.map bv)) :
    Calls Try.prog 5 #[.slice A bs.length cap, .int .u16 a, .int .u8 b] w (GrownTrue w) := by
  have HL := Lib.hid hl
  have HA := Lib.hid hA
  have HO := Lib.hid ho
  have HSM := Lib.hid hsm
  have HX := Lib.hid ha
  have HLEN : Hid (bs.length ≤ 5000) := Lib.hid (by omega)
  have ea : IntKind.u64.wrap (a : Int) = (a : Int) := by rw [u64_wrap]; omega
  have eb : Int.tmod (wrap64 (b : Int)) 3 = 1 := by rw [show wrap64 (b : Int) = b by unfold wrap64; omega]; rw [Int.tmod_eq_emod_of_nonneg (by omega)]; omega
  clear hl hA ho hsm ha hb hr
  go_enter Try.func5, Try.ntmps5
  go_wp2_with fail
  refine (awake_any _).mono ?_
  rintro e w1 ⟨rfl, hb1⟩
  have HB1 := Lib.hid hb1
  clear hb1
  go_wp2_with fail
  refine (new_any A cap bs HSM.out HA.out HO.out _ _ (HL.out.arg HB1.out) (fun i hi => Nat.lt_of_lt_of_le hi HB1.out.size)).mono ?_
  rintro e w2 ⟨P, F, rfl, hmem, hb2⟩
  have M1 : Hid (Held 63 w1 P F bs [] w2) := Lib.hid ⟨hmem, hb2⟩
  clear hmem hb2
  go_wp2_with fail
  refine (new_any A cap bs HSM.out HA.out HO.out _ _ (HL.out.arg (HB1.out.trans (M1.out.below.mono HB1.out.size))) (fun i hi => Nat.lt_of_lt_of_le hi (Nat.le_trans HB1.out.size M1.out.size))).mono ?_
  rintro e w3 ⟨Q, G, rfl, hmem, hb3⟩
  have T1 : Hid (Two 63 63 w1 P Q F G bs [] bs [] w3) := Lib.hid (Two.of_new M1.out hmem hb3)
  clear hmem hb3 M1
  by_cases hin : a + 4 ≤ bs.length
  · obtain ⟨v1, v2, v3, v4, v5, v6⟩ := rd32_in hin
    have V1 := Lib.hid v1
    have V2 := Lib.hid v2
    have V3 := Lib.hid v3
    have V4 := Lib.hid v4
    have V5 := Lib.hid v5
    have V6 := Lib.hid v6
    clear v1 v2 v3 v4 v5 v6 hin
    go_wp2_with fail
    have T2 := Lib.hid (T1.out.grown ((Below.refl w3.heap.size w3).alloc (Nat.le_refl _) (.cells #[.int .i64 16, .int .i64 32, .int .i64 64] 3)))
    generalize w3.alloc (.cells #[.int .i64 16, .int .i64 32, .int .i64 64] 3) = w4 at *
    obtain ⟨n0, hn0⟩ : ∃ n0, word bs a 4 = n0 := ⟨_, rfl⟩
    obtain ⟨n1, hn1⟩ : ∃ n1, word bs a 2 = n1 := ⟨_, rfl⟩
    obtain ⟨n2, hn2⟩ : ∃ n2, word bs (a + 2) 2 = n2 := ⟨_, rfl⟩
    obtain ⟨TS, hTS⟩ : ∃ TS, tget bs a 4 = TS := ⟨_, rfl⟩
    have HTL : Hid (TS.length = 4) := Lib.hid (by rw [← hTS, tget_length])
    have HN0 := Lib.hid hn0
    have HN1 := Lib.hid hn1
    have HN2 := Lib.hid hn2
    refine (read_two T2.out HLEN.out (by decide) a (by have := HX.out; omega) 32 1 [n0] 1 TS 0 a (by rw [V1.out, hn0]) rfl (by rw [V3.out, hTS]) V2.out rfl).mono ?_
    rintro e w5 ⟨X, cx, F5, rfl, hF5, h5, hown, hoff, hT5⟩
    obtain ⟨gx, rfl, cxx⟩ := own_lies hown (k := 0) (u := .int .u64 n0) rfl rfl
    have HGX : Hid (gx < w5.heap.size ∧ ¬ G gx) := Lib.hid ⟨(own_at hown).2, fun hg => absurd (T2.out.n.lo _ hg).2 (Nat.not_lt.2 (own_at hown).1)⟩
    have CX := Lib.hid cxx
    have T5 := Lib.hid h5
    clear hF5 h5 hown hoff hT5 cxx T2 T1
    go_wp2_with fail
    refine (read_two T5.out.swap HLEN.out (by decide) a (by have := HX.out; omega) 16 2 [n1, n2] 2 TS 0 a (by rw [V4.out, hn1, hn2]) rfl (by rw [V6.out, hTS]) V5.out rfl).mono ?_
    rintro e w6 ⟨Y, cy, G6, rfl, hG6, h6, hown, hoff, hT6⟩
    obtain ⟨gy, rfl, cy0⟩ := own_lies hown (k := 0) (u := .int .u64 n1) rfl rfl
    obtain ⟨_, e1, cy1⟩ := own_lies hown (k := 1) (u := .int .u64 n2) rfl rfl
    cases e1
    have CX6 := Lib.hid ((hT6.cell (p := ⟨gx, 0, none⟩) HGX.out.1 HGX.out.2).trans CX.out)
    have SX := Lib.hid (Nat.lt_of_lt_of_le HGX.out.1 hT6.size)
    have SY := Lib.hid (own_at hown).2
    have CY0 := Lib.hid cy0
    have CY1 := Lib.hid cy1
    have T6 := Lib.hid h6.swap
    clear hG6 h6 hown hoff hT6 cy0 cy1 CX HGX T5 hn0 hn1 hn2 hTS
    go_wp2_with fail
    refine (bytes_two T6.out rfl HLEN.out).mono ?_
    rintro e w7 ⟨Z, cz, rfl, hown, hb7⟩
    have LZ := Lib.hid (lies_own hown)
    have T7 := Lib.hid (T6.out.grown hb7)
    have B7 := Lib.hid hb7
    clear hown hb7 T6
    go_wp2_with fail
    refine (same_any Z A cz cap bs (by have := HSM.out; omega) _ _ _ LZ.out (HL.out.arg (HB1.out.trans (T7.out.below.mono HB1.out.size)))).mono ?_
    rintro e w8 ⟨rfl, m8, rfl⟩
    have T8 := Lib.hid (T7.out.drewN m8)
    have B8 := Lib.hid (B7.out.trans (show Below w6.heap.size w7 (w7.drewN m8) from ⟨rfl, rfl, rfl, Nat.le_refl _, fun _ _ => rfl⟩))
    clear T7 B7 LZ
    go_wp2_with fail
    refine (bytes_two T8.out.swap rfl HLEN.out).mono ?_
    rintro e w9 ⟨Z2, cz2, rfl, hown, hb9⟩
    have LZ := Lib.hid (lies_own hown)
    have T9 := Lib.hid (T8.out.grown hb9)
    have B9 := Lib.hid (B8.out.trans (hb9.mono B8.out.size))
    clear hown hb9 T8 B8
    go_wp2_with fail
    refine (same_any Z2 A cz2 cap bs (by have := HSM.out; omega) _ _ _ LZ.out (HL.out.arg (HB1.out.trans (T9.out.below.mono HB1.out.size)))).mono ?_
    rintro e w10 ⟨rfl, m10, rfl⟩
    have T10 := Lib.hid (T9.out.drewN m10)
    have B10 := Lib.hid (B9.out.trans (show Below w6.heap.size w9 (w9.drewN m10) from ⟨rfl, rfl, rfl, Nat.le_refl _, fun _ _ => rfl⟩))
    clear T9 B9 LZ
    generalize w9.drewN m10 = w11 at *
    have c0 : w11.cell? ⟨gx, 0, none⟩ = some (.int .u64 n0) := (B10.out.cell SX.out).trans CX6.out
    have c1 : w11.cell? ⟨gy, 0, none⟩ = some (.int .u64 n1) := (B10.out.cell SY.out).trans CY0.out
    have c2 : w11.cell? ⟨gy, 1, none⟩ = some (.int .u64 n2) := (B10.out.cell SY.out).trans CY1.out
    have tq : ((n0 : Int) == IntKind.u64.wrap ((n1 : Int) + IntKind.u64.wrap ((n2 : Int) * 2 ^ min (IntKind.u64.wrap (IntKind.i64.wrap 16)).toNat 64))) = true := by
      have h0 := word_add bs a 2 2
      have hlt := word_lt HO.out a 4
      rw [show 2 + 2 = 4 by rfl, HN0.out, HN1.out, HN2.out] at h0
      rw [HN0.out] at hlt
      simp only [Nat.reduceMul, Nat.reducePow] at h0 hlt
      rw [show min (IntKind.u64.wrap (IntKind.i64.wrap 16)).toNat 64 = 16 by decide, u64_wrap, u64_wrap, beq_iff_eq]
      omega
    have qP := Lib.hid (fun (w' : World) (h : Two 63 63 w1 P Q F5 G6 bs TS bs TS w') => trace_two h HTL.out (by decide : 4 ≤ 2000000))
    have qQ := Lib.hid (fun (w' : World) (h : Two 63 63 w1 P Q F5 G6 bs TS bs TS w') => trace_two h.swap HTL.out (by decide : 4 ≤ 2000000))
    have b0 := B10.out
    have t0 := T10.out
    go_wp2_with fail
    go_region_held3 (fun w' => Two 63 63 w1 P Q F5 G6 bs TS bs TS w' ∧ Below w6.heap.size w6 w' ∧ w'.cell? ⟨gx, 0, none⟩ = some (.int .u64 n0) ∧ w'.cell? ⟨gy, 0, none⟩ = some (.int .u64 n1) ∧ w'.cell? ⟨gy, 1, none⟩ = some (.int .u64 n2)) (first | (refine ⟨t0.drewN 1, b0.trans ⟨rfl, rfl, rfl, Nat.le_refl _, fun _ _ => rfl⟩, c0, c1, c2⟩) | (rename_i hSat _ _; obtain ⟨t9, b9, f0, f1, f2⟩ := hSat; exact ⟨t9.drewN _, b9.trans ⟨rfl, rfl, rfl, Nat.le_refl _, fun _ _ => rfl⟩, f0, f1, f2⟩) | (rename_i hSat _ _; obtain ⟨t9, b9, f0, f1, f2⟩ := hSat; exact ⟨t9.grown hbk, b9.trans (hbk.mono b9.size), (hbk.cell (Nat.lt_of_lt_of_le SX.out b9.size)).trans f0, (hbk.cell (Nat.lt_of_lt_of_le SY.out b9.size)).trans f1, (hbk.cell (Nat.lt_of_lt_of_le SY.out b9.size)).trans f2⟩))
      (first
        | (go_at_call 21; (with_reducible refine (qP.out _ ?hh).mono ?_); (case hh => (rename_i hSat _ _; exact hSat.1)); rintro e wk ⟨Z3, cz3, rfl, hown3, hbk⟩)
        | (go_at_call 21; (with_reducible refine (qQ.out _ ?hi).mono ?_); (case hi => (rename_i hSat _ _; exact hSat.1)); rintro e wk ⟨Z4, cz4, rfl, hown4, hbk⟩)
        | (go_at_call 20; (with_reducible refine (touches_is Z3 Z4 cz3 cz4 TS 4 HTL.out (by omega) _ _ _ ((lies_own hown3).later hbk (fun i hi => hi.2)) (lies_own hown4)).mono ?_); rintro e wk2 ⟨rfl, m20, rfl⟩))
    rename_i hSat
    obtain ⟨t9, _⟩ := hSat
    have T9 := Lib.hid t9
    clear t9
    go_wp2_with fail
    go_ret
    exact ⟨rfl, HB1.out.trans (T9.out.below.mono HB1.out.size)⟩
  · obtain ⟨v1, v2, v3, v4, v5⟩ := rd32_out hin
    have V1 := Lib.hid v1
    have V2 := Lib.hid v2
    have V3 := Lib.hid v3
    have V4 := Lib.hid v4
    have V5 := Lib.hid v5
    clear v1 v2 v3 v4 v5 hin
    go_wp2_with fail
    have T2 := Lib.hid (T1.out.grown ((Below.refl w3.heap.size w3).alloc (Nat.le_refl _) (.cells #[.int .i64 16, .int .i64 32, .int .i64 64] 3)))
    generalize w3.alloc (.cells #[.int .i64 16, .int .i64 32, .int .i64 64] 3) = w4 at *
    refine (read_two T2.out HLEN.out (by decide) a (by have := HX.out; omega) 32 1 [] 0 [] 8 a V1.out rfl V3.out V2.out rfl).mono ?_
    rintro e w5 ⟨X, cx, F5, rfl, hF5, h5, hown, hoff, hT5⟩
    have T5 := Lib.hid h5
    clear hF5 h5 hown hoff hT5 T2 T1
    go_wp2_with fail
    refine (read_two T5.out.swap HLEN.out (by decide) a (by have := HX.out; omega) 16 2 [] 0 _ 8 a V4.out rfl rfl V5.out rfl).mono ?_
    rintro e w6 ⟨Y, cy, G6, rfl, hG6, h6, hown, hoff, hT6⟩
    have T6 := Lib.hid h6.swap
    clear hG6 h6 hown hoff hT6 T5
    go_wp2_with fail
    refine (bytes_two T6.out rfl HLEN.out).mono ?_
    rintro e w7 ⟨Z, cz, rfl, hown, hb7⟩
    have LZ := Lib.hid (lies_own hown)
    have T7 := Lib.hid (T6.out.grown hb7)
    clear hown hb7 T6
    go_wp2_with fail
    refine (same_any Z A cz cap bs (by have := HSM.out; omega) _ _ _ LZ.out (HL.out.arg (HB1.out.trans (T7.out.below.mono HB1.out.size)))).mono ?_
    rintro e w8 ⟨rfl, m8, rfl⟩
    have T8 := Lib.hid (T7.out.drewN m8)
    clear T7 LZ
    go_wp2_with fail
    refine (bytes_two T8.out.swap rfl HLEN.out).mono ?_
    rintro e w9 ⟨Z2, cz2, rfl, hown, hb9⟩
    have LZ := Lib.hid (lies_own hown)
    have T9 := Lib.hid (T8.out.grown hb9)
    clear hown hb9 T8
    go_wp2_with fail
    refine (same_any Z2 A cz2 cap bs (by have := HSM.out; omega) _ _ _ LZ.out (HL.out.arg (HB1.out.trans (T9.out.below.mono HB1.out.size)))).mono ?_
    rintro e w10 ⟨rfl, m10, rfl⟩
    have T10 := Lib.hid (T9.out.drewN m10)
    clear T9 LZ
    go_wp2_with fail
    refine (trace_two T10.out rfl (by decide)).mono ?_
    rintro e w12 ⟨Z5, cz5, rfl, _, hb12⟩
    have T12 := Lib.hid (T10.out.grown hb12)
    clear hb12
    go_wp2_with fail
    go_ret
    exact ⟨rfl, HB1.out.trans (T12.out.below.mono HB1.out.size)⟩

set_option maxHeartbeats 4000000 in
set_option maxRecDepth 100000 in
theorem reads_64 (A : Option Addr) (cap : Nat) (bs : List Nat) (a b : Nat) (hA : A = none → bs.length = 0 ∧ cap = 0) (ho : Octets bs) (ha : a < 65536) (hb : b < 256) (hr : b % 3 = 2) (hsm : bs.length ≤ 4096) (w : World)
    (hl : Lies w (fun i => i < w.heap.size) A (bs.map bv)) :
    Calls Try.prog 5 #[.slice A bs.length cap, .int .u16 a, .int .u8 b] w (GrownTrue w) := by
  have HL := Lib.hid hl
  have HA := Lib.hid hA
  have HO := Lib.hid ho
  have HSM := Lib.hid hsm
  have HX := Lib.hid ha
  have HLEN : Hid (bs.length ≤ 5000) := Lib.hid (by omega)
  have ea : IntKind.u64.wrap (a : Int) = (a : Int) := by rw [u64_wrap]; omega
  have eb : Int.tmod (wrap64 (b : Int)) 3 = 2 := by rw [show wrap64 (b : Int) = b by unfold wrap64; omega]; rw [Int.tmod_eq_emod_of_nonneg (by omega)]; omega
  clear hl hA ho hsm ha hb hr
  go_enter Try.func5, Try.ntmps5
  go_wp2_with fail
  refine (awake_any _).mono ?_
  rintro e w1 ⟨rfl, hb1⟩
  have HB1 := Lib.hid hb1
  clear hb1
  go_wp2_with fail
  refine (new_any A cap bs HSM.out HA.out HO.out _ _ (HL.out.arg HB1.out) (fun i hi => Nat.lt_of_lt_of_le hi HB1.out.size)).mono ?_
  rintro e w2 ⟨P, F, rfl, hmem, hb2⟩
  have M1 : Hid (Held 63 w1 P F bs [] w2) := Lib.hid ⟨hmem, hb2⟩
  clear hmem hb2
  go_wp2_with fail
  refine (new_any A cap bs HSM.out HA.out HO.out _ _ (HL.out.arg (HB1.out.trans (M1.out.below.mono HB1.out.size))) (fun i hi => Nat.lt_of_lt_of_le hi (Nat.le_trans HB1.out.size M1.out.size))).mono ?_
  rintro e w3 ⟨Q, G, rfl, hmem, hb3⟩
  have T1 : Hid (Two 63 63 w1 P Q F G bs [] bs [] w3) := Lib.hid (Two.of_new M1.out hmem hb3)
  clear hmem hb3 M1
  by_cases hin : a + 8 ≤ bs.length
  · obtain ⟨v1, v2, v3, v4, v5, v6⟩ := rd64_in hin
    have V1 := Lib.hid v1
    have V2 := Lib.hid v2
    have V3 := Lib.hid v3
    have V4 := Lib.hid v4
    have V5 := Lib.hid v5
    have V6 := Lib.hid v6
    clear v1 v2 v3 v4 v5 v6 hin
    go_wp2_with fail
    have T2 := Lib.hid (T1.out.grown ((Below.refl w3.heap.size w3).alloc (Nat.le_refl _) (.cells #[.int .i64 16, .int .i64 32, .int .i64 64] 3)))
    generalize w3.alloc (.cells #[.int .i64 16, .int .i64 32, .int .i64 64] 3) = w4 at *
    obtain ⟨n0, hn0⟩ : ∃ n0, word bs a 8 = n0 := ⟨_, rfl⟩
    obtain ⟨n1, hn1⟩ : ∃ n1, word bs a 4 = n1 := ⟨_, rfl⟩
    obtain ⟨n2, hn2⟩ : ∃ n2, word bs (a + 4) 4 = n2 := ⟨_, rfl⟩
    obtain ⟨TS, hTS⟩ : ∃ TS, tget bs a 8 = TS := ⟨_, rfl⟩
    have HTL : Hid (TS.length = 8) := Lib.hid (by rw [← hTS, tget_length])
    have HN0 := Lib.hid hn0
    have HN1 := Lib.hid hn1
    have HN2 := Lib.hid hn2
    refine (read_two T2.out HLEN.out (by decide) a (by have := HX.out; omega) 64 1 [n0] 1 TS 0 a (by rw [V1.out, hn0]) rfl (by rw [V3.out, hTS]) V2.out rfl).mono ?_
    rintro e w5 ⟨X, cx, F5, rfl, hF5, h5, hown, hoff, hT5⟩
    obtain ⟨gx, rfl, cxx⟩ := own_lies hown (k := 0) (u := .int .u64 n0) rfl rfl
    have HGX : Hid (gx < w5.heap.size ∧ ¬ G gx) := Lib.hid ⟨(own_at hown).2, fun hg => absurd (T2.out.n.lo _ hg).2 (Nat.not_lt.2 (own_at hown).1)⟩
    have CX := Lib.hid cxx
    have T5 := Lib.hid h5
    clear hF5 h5 hown hoff hT5 cxx T2 T1
    go_wp2_with fail
    refine (read_two T5.out.swap HLEN.out (by decide) a (by have := HX.out; omega) 32 2 [n1, n2] 2 TS 0 a (by rw [V4.out, hn1, hn2]) rfl (by rw [V6.out, hTS]) V5.out rfl).mono ?_
    rintro e w6 ⟨Y, cy, G6, rfl, hG6, h6, hown, hoff, hT6⟩
    obtain ⟨gy, rfl, cy0⟩ := own_lies hown (k := 0) (u := .int .u64 n1) rfl rfl
    obtain ⟨_, e1, cy1⟩ := own_lies hown (k := 1) (u := .int .u64 n2) rfl rfl
    cases e1
    have CX6 := Lib.hid ((hT6.cell (p := ⟨gx, 0, none⟩) HGX.out.1 HGX.out.2).trans CX.out)
    have SX := Lib.hid (Nat.lt_of_lt_of_le HGX.out.1 hT6.size)
    have SY := Lib.hid (own_at hown).2
    have CY0 := Lib.hid cy0
    have CY1 := Lib.hid cy1
    have T6 := Lib.hid h6.swap
    clear hG6 h6 hown hoff hT6 cy0 cy1 CX HGX T5 hn0 hn1 hn2 hTS
    go_wp2_with fail
    refine (bytes_two T6.out rfl HLEN.out).mono ?_
    rintro e w7 ⟨Z, cz, rfl, hown, hb7⟩
    have LZ := Lib.hid (lies_own hown)
    have T7 := Lib.hid (T6.out.grown hb7)
    have B7 := Lib.hid hb7
    clear hown hb7 T6
    go_wp2_with fail
    refine (same_any Z A cz cap bs (by have := HSM.out; omega) _ _ _ LZ.out (HL.out.arg (HB1.out.trans (T7.out.below.mono HB1.out.size)))).mono ?_
    rintro e w8 ⟨rfl, m8, rfl⟩
    have T8 := Lib.hid (T7.out.drewN m8)
    have B8 := Lib.hid (B7.out.trans (show Below w6.heap.size w7 (w7.drewN m8) from ⟨rfl, rfl, rfl, Nat.le_refl _, fun _ _ => rfl⟩))
    clear T7 B7 LZ
    go_wp2_with fail
    refine (bytes_two T8.out.swap rfl HLEN.out).mono ?_
    rintro e w9 ⟨Z2, cz2, rfl, hown, hb9⟩
    have LZ := Lib.hid (lies_own hown)
    have T9 := Lib.hid (T8.out.grown hb9)
    have B9 := Lib.hid (B8.out.trans (hb9.mono B8.out.size))
    clear hown hb9 T8 B8
    go_wp2_with fail
    refine (same_any Z2 A cz2 cap bs (by have := HSM.out; omega) _ _ _ LZ.out (HL.out.arg (HB1.out.trans (T9.out.below.mono HB1.out.size)))).mono ?_
    rintro e w10 ⟨rfl, m10, rfl⟩
    have T10 := Lib.hid (T9.out.drewN m10)
    have B10 := Lib.hid (B9.out.trans (show Below w6.heap.size w9 (w9.drewN m10) from ⟨rfl, rfl, rfl, Nat.le_refl _, fun _ _ => rfl⟩))
    clear T9 B9 LZ
    generalize w9.drewN m10 = w11 at *
    have c0 : w11.cell? ⟨gx, 0, none⟩ = some (.int .u64 n0) := (B10.out.cell SX.out).trans CX6.out
    have c1 : w11.cell? ⟨gy, 0, none⟩ = some (.int .u64 n1) := (B10.out.cell SY.out).trans CY0.out
    have c2 : w11.cell? ⟨gy, 1, none⟩ = some (.int .u64 n2) := (B10.out.cell SY.out).trans CY1.out
    have tq : ((n0 : Int) == IntKind.u64.wrap ((n1 : Int) + IntKind.u64.wrap ((n2 : Int) * 2 ^ min (IntKind.u64.wrap (IntKind.i64.wrap 32)).toNat 64))) = true := by
      have h0 := word_add bs a 4 4
      have hlt := word_lt HO.out a 8
      rw [show 4 + 4 = 8 by rfl, HN0.out, HN1.out, HN2.out] at h0
      rw [HN0.out] at hlt
      simp only [Nat.reduceMul, Nat.reducePow] at h0 hlt
      rw [show min (IntKind.u64.wrap (IntKind.i64.wrap 32)).toNat 64 = 32 by decide, u64_wrap, u64_wrap, beq_iff_eq]
      omega
    have qP := Lib.hid (fun (w' : World) (h : Two 63 63 w1 P Q F5 G6 bs TS bs TS w') => trace_two h HTL.out (by decide : 8 ≤ 2000000))
    have qQ := Lib.hid (fun (w' : World) (h : Two 63 63 w1 P Q F5 G6 bs TS bs TS w') => trace_two h.swap HTL.out (by decide : 8 ≤ 2000000))
    have b0 := B10.out
    have t0 := T10.out
    go_wp2_with fail
    go_region_held3 (fun w' => Two 63 63 w1 P Q F5 G6 bs TS bs TS w' ∧ Below w6.heap.size w6 w' ∧ w'.cell? ⟨gx, 0, none⟩ = some (.int .u64 n0) ∧ w'.cell? ⟨gy, 0, none⟩ = some (.int .u64 n1) ∧ w'.cell? ⟨gy, 1, none⟩ = some (.int .u64 n2)) (first | (refine ⟨t0.drewN 1, b0.trans ⟨rfl, rfl, rfl, Nat.le_refl _, fun _ _ => rfl⟩, c0, c1, c2⟩) | (rename_i hSat _ _; obtain ⟨t9, b9, f0, f1, f2⟩ := hSat; exact ⟨t9.drewN _, b9.trans ⟨rfl, rfl, rfl, Nat.le_refl _, fun _ _ => rfl⟩, f0, f1, f2⟩) | (rename_i hSat _ _; obtain ⟨t9, b9, f0, f1, f2⟩ := hSat; exact ⟨t9.grown hbk, b9.trans (hbk.mono b9.size), (hbk.cell (Nat.lt_of_lt_of_le SX.out b9.size)).trans f0, (hbk.cell (Nat.lt_of_lt_of_le SY.out b9.size)).trans f1, (hbk.cell (Nat.lt_of_lt_of_le SY.out b9.size)).trans f2⟩))
      (first
        | (go_at_call 21; (with_reducible refine (qP.out _ ?hh).mono ?_); (case hh => (rename_i hSat _ _; exact hSat.1)); rintro e wk ⟨Z3, cz3, rfl, hown3, hbk⟩)
        | (go_at_call 21; (with_reducible refine (qQ.out _ ?hi).mono ?_); (case hi => (rename_i hSat _ _; exact hSat.1)); rintro e wk ⟨Z4, cz4, rfl, hown4, hbk⟩)
        | (go_at_call 20; (with_reducible refine (touches_is Z3 Z4 cz3 cz4 TS 8 HTL.out (by omega) _ _ _ ((lies_own hown3).later hbk (fun i hi => hi.2)) (lies_own hown4)).mono ?_); rintro e wk2 ⟨rfl, m20, rfl⟩))
    rename_i hSat
    obtain ⟨t9, _⟩ := hSat
    have T9 := Lib.hid t9
    clear t9
    go_wp2_with fail
    go_ret
    exact ⟨rfl, HB1.out.trans (T9.out.below.mono HB1.out.size)⟩
  · obtain ⟨v1, v2, v3, v4, v5⟩ := rd64_out hin
    have V1 := Lib.hid v1
    have V2 := Lib.hid v2
    have V3 := Lib.hid v3
    have V4 := Lib.hid v4
    have V5 := Lib.hid v5
    clear v1 v2 v3 v4 v5 hin
    go_wp2_with fail
    have T2 := Lib.hid (T1.out.grown ((Below.refl w3.heap.size w3).alloc (Nat.le_refl _) (.cells #[.int .i64 16, .int .i64 32, .int .i64 64] 3)))
    generalize w3.alloc (.cells #[.int .i64 16, .int .i64 32, .int .i64 64] 3) = w4 at *
    refine (read_two T2.out HLEN.out (by decide) a (by have := HX.out; omega) 64 1 [] 0 [] 8 a V1.out rfl V3.out V2.out rfl).mono ?_
    rintro e w5 ⟨X, cx, F5, rfl, hF5, h5, hown, hoff, hT5⟩
    have T5 := Lib.hid h5
    clear hF5 h5 hown hoff hT5 T2 T1
    go_wp2_with fail
    refine (read_two T5.out.swap HLEN.out (by decide) a (by have := HX.out; omega) 32 2 [] 0 _ 8 a V4.out rfl rfl V5.out rfl).mono ?_
    rintro e w6 ⟨Y, cy, G6, rfl, hG6, h6, hown, hoff, hT6⟩
    have T6 := Lib.hid h6.swap
    clear hG6 h6 hown hoff hT6 T5
    go_wp2_with fail
    refine (bytes_two T6.out rfl HLEN.out).mono ?_
    rintro e w7 ⟨Z, cz, rfl, hown, hb7⟩
    have LZ := Lib.hid (lies_own hown)
    have T7 := Lib.hid (T6.out.grown hb7)
    clear hown hb7 T6
    go_wp2_with fail
    refine (same_any Z A cz cap bs (by have := HSM.out; omega) _ _ _ LZ.out (HL.out.arg (HB1.out.trans (T7.out.below.mono HB1.out.size)))).mono ?_
    rintro e w8 ⟨rfl, m8, rfl⟩
    have T8 := Lib.hid (T7.out.drewN m8)
    clear T7 LZ
    go_wp2_with fail
    refine (bytes_two T8.out.swap rfl HLEN.out).mono ?_
    rintro e w9 ⟨Z2, cz2, rfl, hown, hb9⟩
    have LZ := Lib.hid (lies_own hown)
    have T9 := Lib.hid (T8.out.grown hb9)
    clear hown hb9 T8
    go_wp2_with fail
    refine (same_any Z2 A cz2 cap bs (by have := HSM.out; omega) _ _ _ LZ.out (HL.out.arg (HB1.out.trans (T9.out.below.mono HB1.out.size)))).mono ?_
    rintro e w10 ⟨rfl, m10, rfl⟩
    have T10 := Lib.hid (T9.out.drewN m10)
    clear T9 LZ
    go_wp2_with fail
    refine (trace_two T10.out rfl (by decide)).mono ?_
    rintro e w12 ⟨Z5, cz5, rfl, _, hb12⟩
    have T12 := Lib.hid (T10.out.grown hb12)
    clear hb12
    go_wp2_with fail
    go_ret
    exact ⟨rfl, HB1.out.trans (T12.out.below.mono HB1.out.size)⟩

theorem reads_law (A : Option Addr) (cap : Nat) (bs : List Nat) (a b : Nat) (hA : A = none → bs.length = 0 ∧ cap = 0) (ho : Octets bs) (ha : a < 65536) (hb : b < 256) (_ : bs.length ≤ 9223372036854775807) (w : World)
    (hl : Lies w (fun i => i < w.heap.size) A (bs.map bv)) :
    Calls Try.prog 5 #[.slice A bs.length cap, .int .u16 a, .int .u8 b] w (GrownTrue w) := by
  rcases Nat.lt_or_ge 4096 bs.length with h | h
  · exact reads_big A cap bs a b h w
  · have : b % 3 = 0 ∨ b % 3 = 1 ∨ b % 3 = 2 := by omega
    rcases this with h3 | h3 | h3
    · exact reads_16 A cap bs a b hA ho ha hb h3 h w hl
    · exact reads_32 A cap bs a b hA ho ha hb h3 h w hl
    · exact reads_64 A cap bs a b hA ho ha hb h3 h w hl
end Go.Proofs.Ytcnhnjbefhgaaaa
