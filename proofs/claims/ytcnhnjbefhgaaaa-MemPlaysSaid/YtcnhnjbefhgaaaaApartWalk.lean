/- MemApart: true for every input. -/
import Derived.Test.YtcnhnjbefhgaaaaTwo
namespace Go.Proofs.Ytcnhnjbefhgaaaa
open Go.RowKit

theorem one_in {bs : List Nat} {a v : Nat} (h : a + 4 ≤ bs.length) : outB bs a 32 [v] = put bs a v 4 ∧ outC bs.length a 32 1 = 0 := by
  have e : fit bs.length a 4 1 = 1 := by unfold fit; have : 1 ≤ (bs.length - a) / 4 := by omega
                                         omega
  have m : mayM 32 1 = true := by decide
  constructor
  · unfold outB
    rw [show (([v].length : Nat) : Int) = 1 by rfl, m, if_pos rfl, show ((32 : Int) / 8).toNat = 4 by decide, show [v].length = 1 by rfl, e]
    rfl
  · unfold outC
    rw [show ((1 : Nat) : Int) = 1 by rfl, m, if_pos rfl, show ((32 : Int) / 8).toNat = 4 by decide, e, if_pos rfl]
theorem one_out {bs : List Nat} {a v : Nat} (h : ¬ a + 4 ≤ bs.length) : outB bs a 32 [v] = bs ∧ outC bs.length a 32 1 = 8 := by
  have e : fit bs.length a 4 1 = 0 := by unfold fit; have : (bs.length - a) / 4 = 0 := by omega
                                         omega
  have m : mayM 32 1 = true := by decide
  constructor
  · unfold outB
    rw [show (([v].length : Nat) : Int) = 1 by rfl, m, if_pos rfl, show ((32 : Int) / 8).toNat = 4 by decide, show [v].length = 1 by rfl, e]
    rfl
  · unfold outC
    rw [show ((1 : Nat) : Int) = 1 by rfl, m, if_pos rfl, show ((32 : Int) / 8).toNat = 4 by decide, e, if_neg (by omega)]
theorem there_same {t : TypeId} {w0 w : World} {P Q : Nat} {F G : Nat → Prop} {bs cs : List Nat} {ts us : List Tch} (h : Two 63 t w0 P Q F G bs ts cs us w) (hn : bs.length ≤ 5000) (a : Nat) (ha : a < 18446744073709551616) (k : Int) (r : Bool) (a' : Int) (hr : thereB bs.length a k = r) (ha' : a' = a) :
    Calls Try.prog 16 #[.pointer (some ⟨P, 0, none⟩), .int .u64 a', .int .i64 k] w fun e w' => e = .returned (.bool r) ∧ w' = w :=
  (there_two h hn a ha k r a' hr ha').mono fun _ _ ⟨e, h⟩ => ⟨e, h.symm⟩
/-- a reading call in a region that draws, behind draws -/
theorem quiet_sum {P : Program} {f : FuncId} {args : Array Value} {w : World} {m n : Nat} {v : Value}
    (h : Calls P f args (w.drewN (m + n)) fun e w' => e = .returned v ∧ w' = w.drewN (m + n)) : Calls P f args (w.drewN (m + n)) fun e w'' => e = .returned v ∧ ∃ k, w'' = w.drewN (m + k) :=
  h.mono fun _ _ ⟨he, hm⟩ => ⟨he, n, hm⟩
theorem bytes_two {t : TypeId} {w0 w : World} {P Q n : Nat} {F G : Nat → Prop} {bs cs : List Nat} {ts us : List Tch} (h : Two 63 t w0 P Q F G bs ts cs us w) (hn : bs.length = n) (h5 : n ≤ 5000) :
    Calls Try.prog 19 #[.pointer (some ⟨P, 0, none⟩)] w (Fresh 5 1 n (bs.map bv) w) := by
  subst hn; exact bytes_any h.m h5
theorem trace_two {t : TypeId} {w0 w : World} {P Q n : Nat} {F G : Nat → Prop} {bs cs : List Nat} {ts us : List Tch} (h : Two 63 t w0 P Q F G bs ts cs us w) (hn : ts.length = n) (h5 : n ≤ 2000000) :
    Calls Try.prog 21 #[.pointer (some ⟨P, 0, none⟩)] w (Fresh 49 3 n (tvs ts) w) := by
  subst hn; exact trace_any h.m h5
theorem Lies.later {w w' : World} {N : Nat → Prop} {A : Option Addr} {xs : List Value} {B : Nat} (hl : Lies w N A xs) (h : Below B w w') (hN : ∀ i, N i → i < B) : Lies w' N A xs := hl.keep fun b hb => h.block b (hN b hb)
/-- nothing but draws, and the place -/
def OnlyDrawn (n : Nat) (w : World) (i : Value) (wr : World) : Prop := ∃ k m : Nat, k ≤ n ∧ i = .int .i64 k ∧ wr = w.drewN m
theorem byte_at {w : World} {N : Nat → Prop} {A : Option Addr} {bs : List Nat} (h : Lies w N A (bs.map bv)) {k : Nat} (hk : k < bs.length) : ∃ b off, A = some ⟨b, off, none⟩ ∧ w.cell? ⟨b, off + k, none⟩ = some (.int .u8 (bs.getD k 0)) := by
  obtain ⟨b, off, e, _, hc⟩ := h.at_ (i := k) (by simpa using hk)
  exact ⟨b, off, e, hc k _ (by simp [List.getElem?_map, List.getElem?_eq_getElem hk, List.getD, bv])⟩

theorem apart_big (A : Option Addr) (cap : Nat) (bs : List Nat) (x y v : Nat) (hbig : 4096 < bs.length) (w : World) :
    Calls Try.prog 6 #[.slice A bs.length cap, .agg #[.int .u16 x, .int .u16 y], .int .u64 v] w (GrownTrue w) := by
  have t1 : decide ((4096 : Int) < (bs.length : Int)) = true := by simp; omega
  have HBIG := Lib.hid hbig
  clear hbig
  go_enter Try.func6, Try.ntmps6
  go_wp2_with fail
  refine (awake_any _).mono ?_
  rintro e w1 ⟨rfl, hb1⟩
  have HB1 : Hid (Below w.heap.size w w1) := Lib.hid (((Below.refl w.heap.size w).alloc (Nat.le_refl _) _).trans (hb1.mono (by simp)))
  clear hb1
  go_wp2_with fail
  refine (new_big _ _ _ HBIG.out _).mono ?_
  rintro e w' ⟨rfl, rfl⟩
  go_wp2_with fail
  refine (new_big _ _ _ HBIG.out _).mono ?_
  rintro e w' ⟨rfl, rfl⟩
  go_wp2_with fail
  go_ret
  exact ⟨rfl, HB1.out⟩

set_option maxHeartbeats 4000000 in
set_option maxRecDepth 100000 in
theorem apart_small (A : Option Addr) (cap : Nat) (bs : List Nat) (x y v : Nat) (hA : A = none → bs.length = 0 ∧ cap = 0) (ho : Octets bs) (hx : x < 65536) (hy : y < 65536) (hv : v < 18446744073709551616) (hsm : bs.length ≤ 4096) (w : World)
    (hl : Lies w (fun i => i < w.heap.size) A (bs.map bv)) :
    Calls Try.prog 6 #[.slice A bs.length cap, .agg #[.int .u16 x, .int .u16 y], .int .u64 v] w (GrownTrue w) := by
  have HL := Lib.hid hl
  have HA := Lib.hid hA
  have HO := Lib.hid ho
  have HSM := Lib.hid hsm
  have HX := Lib.hid hx
  have HY := Lib.hid hy
  have HV := Lib.hid hv
  have HLEN : Hid (bs.length ≤ 5000) := Lib.hid (by omega)
  have ex : IntKind.u64.wrap (x : Int) = (x : Int) := by rw [u64_wrap]; omega
  have ex2 : wrap64 (x : Int) = (x : Int) := by unfold wrap64; omega
  have ey : IntKind.u64.wrap (y : Int) = (y : Int) := by rw [u64_wrap]; omega
  have ey2 : wrap64 (y : Int) = (y : Int) := by unfold wrap64; omega
  clear hl hA ho hsm hx hy hv
  go_enter Try.func6, Try.ntmps6
  go_wp2_with fail
  refine (awake_any _).mono ?_
  rintro e w1 ⟨rfl, hb1⟩
  have cx0 : Hid (w1.cell? ⟨w.heap.size, 0, none⟩ = some (.int .u16 x)) := Lib.hid (by rw [hb1.cell (by simp)]; simp)
  have c1 : Hid (w1.cell? ⟨w.heap.size, 1, none⟩ = some (.int .u16 y)) := Lib.hid (by rw [hb1.cell (by simp)]; simp)
  have hsz1 : Hid (w.heap.size < w1.heap.size) := Lib.hid (by have := hb1.size; simp at this; omega)
  have HB1 : Hid (Below w.heap.size w w1) := Lib.hid (((Below.refl w.heap.size w).alloc (Nat.le_refl _) _).trans (hb1.mono (by simp)))
  clear hb1
  go_wp2_with fail
  refine (new_any A cap bs HSM.out HA.out HO.out _ _ (HL.out.arg HB1.out) (fun i hi => Nat.lt_of_lt_of_le hi HB1.out.size)).mono ?_
  rintro e w2 ⟨P, F, rfl, hmem, hb2⟩
  have M1 : Hid (Held 63 w1 P F bs [] w2) := Lib.hid ⟨hmem, hb2⟩
  clear hmem hb2
  go_wp2_with fail
  refine (new_any A cap bs HSM.out HA.out HO.out _ _ (HL.out.arg (HB1.out.trans (M1.out.below.mono HB1.out.size))) (fun i hi => Nat.lt_of_lt_of_le hi (Nat.le_trans HB1.out.size M1.out.size))).mono ?_
  rintro e w3 ⟨Q, G, rfl, hmem, hb3⟩
  have T1 : Hid (Two 63 63 w1 P Q F G bs [] bs [] w3) := Lib.hid (Two.of_new M1.out hmem hb3)
  have c0 : w3.cell? ⟨w.heap.size, 0, none⟩ = some (.int .u16 x) := by rw [T1.out.below.cell hsz1.out]; exact cx0.out
  clear hmem hb3 M1
  go_wp2_with fail
  have T2 := Lib.hid (T1.out.grown ((Below.refl w3.heap.size w3).alloc (Nat.le_refl _) (.cells #[.int .u64 v] 33)))
  have L0 := lies_new w3 #[.int .u64 v] 33 ([v].map uv) rfl
  have hsz : w3.heap.size < (w3.alloc (.cells #[.int .u64 v] 33)).heap.size := by simp
  have hF : ¬ F w3.heap.size := fun hf => absurd (T1.out.m.lo _ hf).2 (by omega)
  generalize w3.alloc (.cells #[.int .u64 v] 33) = w4 at *
  obtain ⟨B, hB⟩ : ∃ B, outB bs x 32 [v] = B := ⟨_, rfl⟩
  obtain ⟨TS, hTS⟩ : ∃ TS, outT bs [] x 32 [v] = TS := ⟨_, rfl⟩
  obtain ⟨c, hc⟩ : ∃ c, outC bs.length x 32 1 = c := ⟨_, rfl⟩
  have hw := write_two T2.out HLEN.out (by decide) x (by have := HX.out; omega) 32 _ 1 1 [v] rfl L0 (fun i hi => by rw [hi]; exact ⟨hsz, hF⟩) B TS c x hB hTS hc rfl
  clear L0 hsz hF T2 T1 hTS c0
  by_cases hok : x + 4 ≤ bs.length
  · obtain ⟨e1, e2⟩ := one_in (v := v) hok
    rw [hB] at e1
    rw [hc] at e2
    subst e1 e2
    clear hB hc
    have HBL : Hid ((put bs x v 4).length ≤ 5000) := Lib.hid (by have := HSM.out; simp; omega)
    have HBN : Hid ((put bs x v 4).length = bs.length) := Lib.hid (by first | rfl | exact put_length _ _ _ _)
    have HT4 : Hid (thereB (put bs x v 4).length x 4 = true) := Lib.hid (by rw [HBN.out]; simp only [thereB, decide_eq_true_eq]; omega)
    obtain ⟨r2, hr2⟩ : ∃ r, decide (y < bs.length) = r := ⟨_, rfl⟩
    have HT1 : Hid (thereB (put bs x v 4).length y 1 = r2) := Lib.hid (by rw [HBN.out, ← hr2]; simp only [thereB, decide_eq_decide]; omega)
    refine hw.mono ?_
    clear hw
    rintro e w5 ⟨rfl, F5, _, h5, _⟩
    have T5 := Lib.hid h5
    clear h5
    go_wp2_with fail
    refine (bytes_two T5.out HBN.out HLEN.out).mono ?_
    rintro e w6 ⟨X, cx, rfl, hown, hb6⟩
    have LX := Lib.hid (lies_own hown)
    have T6 := Lib.hid (T5.out.grown hb6)
    clear hown hb6
    go_wp2_with fail
    refine (bytes_two T6.out.swap rfl HLEN.out).mono ?_
    rintro e w7 ⟨Y, cy, rfl, hown, hb7⟩
    have LX7 := Lib.hid (LX.out.later hb7 (fun i hi => hi.2))
    have LY := Lib.hid (lies_own hown)
    have T7 := Lib.hid (T6.out.grown hb7)
    have S7 := Lib.hid hb7.size
    clear hown hb7 LX T6 T5
    go_wp2_with fail
    refine (trace_two T7.out.swap rfl (by decide)).mono ?_
    rintro e w8 ⟨Z, cz, rfl, _, hb8⟩
    have LX8 := Lib.hid (LX7.out.later hb8 (fun i hi => Nat.lt_of_lt_of_le hi.2 S7.out))
    have LY8 := Lib.hid (LY.out.later hb8 (fun i hi => hi.2))
    have T7 := Lib.hid (T7.out.grown hb8)
    have LB := Lib.hid (HL.out.arg (HB1.out.trans (T7.out.below.mono HB1.out.size)))
    have C0 := Lib.hid ((T7.out.below.cell (p := ⟨w.heap.size, 0, none⟩) hsz1.out).trans cx0.out)
    have C1 := Lib.hid ((T7.out.below.cell (p := ⟨w.heap.size, 1, none⟩) hsz1.out).trans c1.out)
    clear hb8 LX7 LY
    have HR2 := Lib.hid hr2
    clear hr2 hok
    go_wp2_with fail
    go_loopw [14, 15, 16] (fun i _ _ wr => OnlyDrawn bs.length w8 i wr) (fun i _ _ _ => bs.length - (intOf i).toNat)
    case atStart => exact ⟨0, 0, Nat.zero_le _, rfl, rfl⟩
    case round =>
      obtain ⟨k, m, hk, rfl, rfl⟩ := hrel
      by_cases hlt : k < bs.length
      · obtain ⟨xb, xo, rfl, xc⟩ := byte_at LX8.out (k := k) (by rw [HBN.out]; exact hlt)
        obtain ⟨yb, yo, rfl, yc⟩ := byte_at LY8.out (k := k) hlt
        obtain ⟨bb, bo, rfl, bc⟩ := byte_at LB.out (k := k) hlt
        have c0 := C0.out
        have i1 : (0 : Int) ≤ (k : Int) := by omega
        have i2 : (k : Int) < (bs.length : Int) := by omega
        rw [put_getD bs x v 4 k hlt] at xc
        have e4 : wrap64 ((x : Int) + 4) = (x : Int) + 4 := by have := HX.out; unfold wrap64; omega
        clear LX8 LY8 LB HL HA
        by_cases hlo : x ≤ k
        · have t1 : decide (x ≤ k) = true := by simpa using hlo
          by_cases hhi : k < x + 4
          · have t2 : decide ((k : Int) < (x : Int) + 4) = true := by simp; omega
            rw [if_pos ⟨hlo, hhi⟩] at xc
            obtain ⟨d, hd⟩ : ∃ d, k - x = d := ⟨_, rfl⟩
            obtain ⟨cc, hcc⟩ : ∃ cc, byteAt v d = cc := ⟨_, rfl⟩
            have e5 : wrap64 ((k : Int) - (x : Int)) = (d : Int) := by have := HX.out; have := HSM.out; unfold wrap64; omega
            have e6 := byte_int v d cc hcc
            have hd4 : d < 4 := by omega
            rw [hd, hcc] at xc
            clear hd hcc hlo hhi
            go_wp2_with fail
            go_quiet (fail)
            clear xc yc bc c0
            try clear e6
            try clear e5
            try clear e4
            try clear t2
            try clear t1
            have hsm := HSM.out
            go_wp2_with fail
            go_round
            case rel => exact ⟨k + 1, m + nq, by omega, by go_num, by first | rfl | rw [World.drewN_drewN]⟩
            case measure => simp [intOf]; omega
          · have t2 : decide ((k : Int) < (x : Int) + 4) = false := by simp; omega
            rw [if_neg (fun h => hhi h.2)] at xc
            clear hlo hhi
            go_wp2_with fail
            go_quiet (fail)
            clear xc yc bc c0
            try clear e6
            try clear e5
            try clear e4
            try clear t2
            try clear t1
            have hsm := HSM.out
            go_wp2_with fail
            go_round
            case rel => exact ⟨k + 1, m + nq, by omega, by go_num, by first | rfl | rw [World.drewN_drewN]⟩
            case measure => simp [intOf]; omega
        · have t1 : decide (x ≤ k) = false := by simpa using hlo
          rw [if_neg (fun h => hlo h.1)] at xc
          clear hlo
          go_wp2_with fail
          go_quiet (fail)
          clear xc yc bc c0
          try clear e6
          try clear e5
          try clear e4
          try clear t2
          try clear t1
          have hsm := HSM.out
          go_wp2_with fail
          go_round
          case rel => exact ⟨k + 1, m + nq, by omega, by go_num, by first | rfl | rw [World.drewN_drewN]⟩
          case measure => simp [intOf]; omega
      · obtain rfl : k = bs.length := by omega
        have c0 := C0.out
        have c1 := C1.out
        have hr2 := HR2.out
        clear hk hlt
        have q4 : ∀ n, Calls Try.prog 16 #[.pointer (some ⟨P, 0, none⟩), .int .u64 x, .int .i64 4] (w8.drewN (m + n)) fun e w'' => e = .returned (.bool true) ∧ ∃ k, w'' = w8.drewN (m + k) :=
          fun n => quiet_sum (there_same (T7.out.drewN _) HBL.out x (by have := HX.out; omega) 4 true x HT4.out rfl)
        have q1 : ∀ n, Calls Try.prog 16 #[.pointer (some ⟨P, 0, none⟩), .int .u64 y, .int .i64 1] (w8.drewN (m + n)) fun e w'' => e = .returned (.bool r2) ∧ ∃ k, w'' = w8.drewN (m + k) :=
          fun n => quiet_sum (there_same (T7.out.drewN _) HBL.out y (by have := HY.out; omega) 1 r2 y HT1.out rfl)
        have Q4 := Lib.hid q4
        have Q1 := Lib.hid q1
        clear q4 q1
        go_wp2_with fail
        go_quiet (first | (with_reducible exact Q4.out _) | (with_reducible exact Q1.out _))
        go_wp2
        go_ret
        exact ⟨rfl, HB1.out.trans (((T7.out.drewN _).drewN _).below.mono HB1.out.size)⟩
  · obtain ⟨e1, e2⟩ := one_out (v := v) hok
    rw [hB] at e1
    rw [hc] at e2
    have e1 := e1.symm
    subst e1 e2
    clear hB hc
    have HBL : Hid ((bs).length ≤ 5000) := Lib.hid (by have := HSM.out; simp; omega)
    have HBN : Hid ((bs).length = bs.length) := Lib.hid (by first | rfl | exact put_length _ _ _ _)
    have HT4 : Hid (thereB (bs).length x 4 = false) := Lib.hid (by rw [HBN.out]; simp only [thereB, decide_eq_false_iff_not]; omega)
    obtain ⟨r2, hr2⟩ : ∃ r, decide (y < bs.length) = r := ⟨_, rfl⟩
    have HT1 : Hid (thereB (bs).length y 1 = r2) := Lib.hid (by rw [HBN.out, ← hr2]; simp only [thereB, decide_eq_decide]; omega)
    refine hw.mono ?_
    clear hw
    rintro e w5 ⟨rfl, F5, _, h5, _⟩
    have T5 := Lib.hid h5
    clear h5
    go_wp2_with fail
    refine (bytes_two T5.out rfl HLEN.out).mono ?_
    rintro e w6 ⟨X, cx, rfl, hown, hb6⟩
    have LX := Lib.hid (lies_own hown)
    have T6 := Lib.hid (T5.out.grown hb6)
    clear hown hb6
    go_wp2_with fail
    refine (bytes_two T6.out.swap rfl HLEN.out).mono ?_
    rintro e w7 ⟨Y, cy, rfl, hown, hb7⟩
    have LX7 := Lib.hid (LX.out.later hb7 (fun i hi => hi.2))
    have LY := Lib.hid (lies_own hown)
    have T7 := Lib.hid (T6.out.grown hb7)
    have S7 := Lib.hid hb7.size
    clear hown hb7 LX T6 T5
    go_wp2_with fail
    refine (trace_two T7.out.swap rfl (by decide)).mono ?_
    rintro e w8 ⟨Z, cz, rfl, _, hb8⟩
    have LX8 := Lib.hid (LX7.out.later hb8 (fun i hi => Nat.lt_of_lt_of_le hi.2 S7.out))
    have LY8 := Lib.hid (LY.out.later hb8 (fun i hi => hi.2))
    have T7 := Lib.hid (T7.out.grown hb8)
    have LB := Lib.hid (HL.out.arg (HB1.out.trans (T7.out.below.mono HB1.out.size)))
    have C0 := Lib.hid ((T7.out.below.cell (p := ⟨w.heap.size, 0, none⟩) hsz1.out).trans cx0.out)
    have C1 := Lib.hid ((T7.out.below.cell (p := ⟨w.heap.size, 1, none⟩) hsz1.out).trans c1.out)
    clear hb8 LX7 LY
    have HR2 := Lib.hid hr2
    clear hr2 hok
    go_wp2_with fail
    go_loopw [14, 15, 16] (fun i _ _ wr => OnlyDrawn bs.length w8 i wr) (fun i _ _ _ => bs.length - (intOf i).toNat)
    case atStart => exact ⟨0, 0, Nat.zero_le _, rfl, rfl⟩
    case round =>
      obtain ⟨k, m, hk, rfl, rfl⟩ := hrel
      by_cases hlt : k < bs.length
      · obtain ⟨xb, xo, rfl, xc⟩ := byte_at LX8.out (k := k) (by exact hlt)
        obtain ⟨yb, yo, rfl, yc⟩ := byte_at LY8.out (k := k) hlt
        obtain ⟨bb, bo, rfl, bc⟩ := byte_at LB.out (k := k) hlt
        have c0 := C0.out
        have i1 : (0 : Int) ≤ (k : Int) := by omega
        have i2 : (k : Int) < (bs.length : Int) := by omega
        clear LX8 LY8 LB HL HA
        go_wp2_with fail
        go_quiet (fail)
        clear xc yc bc c0
        try clear e6
        try clear e5
        try clear e4
        try clear t2
        try clear t1
        have hsm := HSM.out
        go_wp2_with fail
        go_round
        case rel => exact ⟨k + 1, m + nq, by omega, by go_num, by first | rfl | rw [World.drewN_drewN]⟩
        case measure => simp [intOf]; omega
      · obtain rfl : k = bs.length := by omega
        have c0 := C0.out
        have c1 := C1.out
        have hr2 := HR2.out
        clear hk hlt
        have q4 : ∀ n, Calls Try.prog 16 #[.pointer (some ⟨P, 0, none⟩), .int .u64 x, .int .i64 4] (w8.drewN (m + n)) fun e w'' => e = .returned (.bool false) ∧ ∃ k, w'' = w8.drewN (m + k) :=
          fun n => quiet_sum (there_same (T7.out.drewN _) HBL.out x (by have := HX.out; omega) 4 false x HT4.out rfl)
        have q1 : ∀ n, Calls Try.prog 16 #[.pointer (some ⟨P, 0, none⟩), .int .u64 y, .int .i64 1] (w8.drewN (m + n)) fun e w'' => e = .returned (.bool r2) ∧ ∃ k, w'' = w8.drewN (m + k) :=
          fun n => quiet_sum (there_same (T7.out.drewN _) HBL.out y (by have := HY.out; omega) 1 r2 y HT1.out rfl)
        have Q4 := Lib.hid q4
        have Q1 := Lib.hid q1
        clear q4 q1
        go_wp2_with fail
        go_quiet (first | (with_reducible exact Q4.out _) | (with_reducible exact Q1.out _))
        go_wp2
        go_ret
        exact ⟨rfl, HB1.out.trans (((T7.out.drewN _).drewN _).below.mono HB1.out.size)⟩

theorem apart_law (A : Option Addr) (cap : Nat) (bs : List Nat) (x y v : Nat) (hA : A = none → bs.length = 0 ∧ cap = 0) (ho : Octets bs) (hx : x < 65536) (hy : y < 65536) (hv : v < 18446744073709551616) (_ : bs.length ≤ 9223372036854775807) (w : World)
    (hl : Lies w (fun i => i < w.heap.size) A (bs.map bv)) :
    Calls Try.prog 6 #[.slice A bs.length cap, .agg #[.int .u16 x, .int .u16 y], .int .u64 v] w (GrownTrue w) := by
  rcases Nat.lt_or_ge 4096 bs.length with h | h
  · exact apart_big A cap bs x y v h w
  · exact apart_small A cap bs x y v hA ho hx hy hv h w hl
end Go.Proofs.Ytcnhnjbefhgaaaa
