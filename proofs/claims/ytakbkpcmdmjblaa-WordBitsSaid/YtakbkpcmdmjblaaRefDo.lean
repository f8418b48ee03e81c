/- What the reference's Do gives, kind by kind: the same. -/
import Derived.Test.YtakbkpcmdmjblaaPlain
namespace Go.Proofs.Ytakbkpcmdmjblaa
open Go.RowKit

theorem rcut_at (v : Nat) (hv : v < 18446744073709551616) (b : Int) (c : Nat) (hc : cut v b = c) (X : Int) (eX : X = v) (w : World) : Calls Try.prog 17 #[.int .u64 X, .int .i64 b] w fun e w' => e = .returned (.int .u64 c) ∧ w = w' := by
  subst eX; exact rcut_any v hv b c hc w

theorem raw_1 (c d r : Nat) (h : way 1 0 c d = r) : IntKind.u64.wrap ((c : Int) + d) = r := by
  rw [← h, u64_wrap]; simp only [way]; omega
theorem raw_2 (c d r : Nat) (hd : d < 18446744073709551616) (h : way 2 0 c d = r) : IntKind.u64.wrap ((c : Int) - d) = r := by
  rw [← h, u64_wrap]; simp only [way]; omega
theorem raw_3 (c d r : Nat) (h : way 3 0 c d = r) : IntKind.u64.wrap ((c : Int) * d) = r := by
  rw [← h, u64_wrap]; simp only [way]; rw [Int.natCast_emod, Int.natCast_mul]; simp only [Int.cast_ofNat_Int]
theorem raw_4 (c d r : Nat) (hc : c < 18446744073709551616) (h : way 4 0 c d = r) : IntKind.u64.wrap ((c : Int) / d) = r := by
  rw [← h, ← Int.natCast_ediv]
  exact u64_in (Nat.lt_of_le_of_lt (Nat.div_le_self _ _) hc)
theorem raw_5 (c d r : Nat) (hc : c < 18446744073709551616) (hd : d < 18446744073709551616) (h : way 5 0 c d = r) : bits .and .u64 c d = r := by
  rw [← h]; exact u64_and_nat c d hc hd
theorem raw_6 (c d r : Nat) (hc : c < 18446744073709551616) (hd : d < 18446744073709551616) (h : way 6 0 c d = r) : bits .or .u64 c d = r := by
  rw [← h]; exact u64_or_nat c d hc hd
theorem raw_7 (c d r : Nat) (hc : c < 18446744073709551616) (hd : d < 18446744073709551616) (h : way 7 0 c d = r) : bits .xor .u64 c d = r := by
  rw [← h]; exact u64_xor_nat c d hc hd
theorem raw_10 (c d r : Nat) (h : way 10 0 c d = r) : ((one ((c : Int) == d) : Nat) : Int) = r := by
  rw [← h]; simp only [way]; congr 2; rw [Bool.eq_iff_iff]; simp; omega
theorem raw_11 (c d r : Nat) (h : way 11 0 c d = r) : ((one (decide (c < d)) : Nat) : Int) = r := by
  rw [← h]; simp only [way]
theorem raw_12 (b : Int) (c d r : Nat) (x y : Int) (hx : sgn c b = x) (hy : sgn d b = y) (h : way 12 b c d = r) : ((one (decide (x < y)) : Nat) : Int) = r := by
  rw [← h]; simp only [way]; rw [hx, hy]

/-- a number, and how it came out; the world is as it was -/
def Just (v : Nat) (c : Int) (w : World) (e : Ending) (w' : World) : Prop := e = .returned (.tuple #[.int .u64 v, .int .i64 c]) ∧ w = w'


set_option maxHeartbeats 1000000 in
theorem rdo_add (b : Int) (hb : may b = true) (x y : Nat) (hx : x < 18446744073709551616) (hy : y < 18446744073709551616) (c d r v : Nat) (hc : cut x b = c) (hd : cut y b = d) (hr : way 1 0 c d = r) (hv : cut r b = v) (hr' : r < 18446744073709551616) (w : World) :
    Calls Try.prog 13 #[.int .i64 1, .int .i64 b, .int .u64 x, .int .u64 y] w (Just v 0 w) := by
  have T := Lib.hid hb
  have HX := Lib.hid hx
  have HY := Lib.hid hy
  have HC' : Hid (c < 18446744073709551616) := Lib.hid (by rw [← hc]; exact cut_lt b hx)
  have HD' : Hid (d < 18446744073709551616) := Lib.hid (by rw [← hd]; exact cut_lt b hy)
  have HC := Lib.hid hc
  have HD := Lib.hid hd
  have HR := Lib.hid hr
  have HR' := Lib.hid hr'
  have HV := Lib.hid hv
  clear hb hx hy hc hd hr hv hr'
  go_enter Try.func13, Try.ntmps13
  go_wp2_with fail
  refine (rmay_yes _ T.out _).mono ?_
  rintro e w' ⟨rfl, rfl⟩
  go_wp2_with fail
  refine (rcut_any _ HX.out _ _ HC.out _).mono ?_
  rintro e w' ⟨rfl, rfl⟩
  go_wp2_with fail
  refine (rcut_any _ HY.out _ _ HD.out _).mono ?_
  rintro e w' ⟨rfl, rfl⟩
  go_wp2_with fail
  refine (rcut_at r HR'.out _ v HV.out _ (raw_1 _ _ _ HR.out) _).mono ?_
  rintro e w' ⟨rfl, rfl⟩
  go_wp2_with fail
  go_ret2
  exact ⟨rfl, rfl⟩

set_option maxHeartbeats 1000000 in
theorem rdo_sub (b : Int) (hb : may b = true) (x y : Nat) (hx : x < 18446744073709551616) (hy : y < 18446744073709551616) (c d r v : Nat) (hc : cut x b = c) (hd : cut y b = d) (hr : way 2 0 c d = r) (hv : cut r b = v) (hr' : r < 18446744073709551616) (w : World) :
    Calls Try.prog 13 #[.int .i64 2, .int .i64 b, .int .u64 x, .int .u64 y] w (Just v 0 w) := by
  have T := Lib.hid hb
  have HX := Lib.hid hx
  have HY := Lib.hid hy
  have HC' : Hid (c < 18446744073709551616) := Lib.hid (by rw [← hc]; exact cut_lt b hx)
  have HD' : Hid (d < 18446744073709551616) := Lib.hid (by rw [← hd]; exact cut_lt b hy)
  have HC := Lib.hid hc
  have HD := Lib.hid hd
  have HR := Lib.hid hr
  have HR' := Lib.hid hr'
  have HV := Lib.hid hv
  clear hb hx hy hc hd hr hv hr'
  go_enter Try.func13, Try.ntmps13
  go_wp2_with fail
  refine (rmay_yes _ T.out _).mono ?_
  rintro e w' ⟨rfl, rfl⟩
  go_wp2_with fail
  refine (rcut_any _ HX.out _ _ HC.out _).mono ?_
  rintro e w' ⟨rfl, rfl⟩
  go_wp2_with fail
  refine (rcut_any _ HY.out _ _ HD.out _).mono ?_
  rintro e w' ⟨rfl, rfl⟩
  go_wp2_with fail
  refine (rcut_at r HR'.out _ v HV.out _ (raw_2 _ _ _ HD'.out HR.out) _).mono ?_
  rintro e w' ⟨rfl, rfl⟩
  go_wp2_with fail
  go_ret2
  exact ⟨rfl, rfl⟩

set_option maxHeartbeats 1000000 in
theorem rdo_mul (b : Int) (hb : may b = true) (x y : Nat) (hx : x < 18446744073709551616) (hy : y < 18446744073709551616) (c d r v : Nat) (hc : cut x b = c) (hd : cut y b = d) (hr : way 3 0 c d = r) (hv : cut r b = v) (hr' : r < 18446744073709551616) (w : World) :
    Calls Try.prog 13 #[.int .i64 3, .int .i64 b, .int .u64 x, .int .u64 y] w (Just v 0 w) := by
  have T := Lib.hid hb
  have HX := Lib.hid hx
  have HY := Lib.hid hy
  have HC' : Hid (c < 18446744073709551616) := Lib.hid (by rw [← hc]; exact cut_lt b hx)
  have HD' : Hid (d < 18446744073709551616) := Lib.hid (by rw [← hd]; exact cut_lt b hy)
  have HC := Lib.hid hc
  have HD := Lib.hid hd
  have HR := Lib.hid hr
  have HR' := Lib.hid hr'
  have HV := Lib.hid hv
  clear hb hx hy hc hd hr hv hr'
  go_enter Try.func13, Try.ntmps13
  go_wp2_with fail
  refine (rmay_yes _ T.out _).mono ?_
  rintro e w' ⟨rfl, rfl⟩
  go_wp2_with fail
  refine (rcut_any _ HX.out _ _ HC.out _).mono ?_
  rintro e w' ⟨rfl, rfl⟩
  go_wp2_with fail
  refine (rcut_any _ HY.out _ _ HD.out _).mono ?_
  rintro e w' ⟨rfl, rfl⟩
  go_wp2_with fail
  refine (rcut_at r HR'.out _ v HV.out _ (raw_3 _ _ _ HR.out) _).mono ?_
  rintro e w' ⟨rfl, rfl⟩
  go_wp2_with fail
  go_ret2
  exact ⟨rfl, rfl⟩

set_option maxHeartbeats 1000000 in
theorem rdo_and (b : Int) (hb : may b = true) (x y : Nat) (hx : x < 18446744073709551616) (hy : y < 18446744073709551616) (c d r v : Nat) (hc : cut x b = c) (hd : cut y b = d) (hr : way 5 0 c d = r) (hv : cut r b = v) (hr' : r < 18446744073709551616) (w : World) :
    Calls Try.prog 13 #[.int .i64 5, .int .i64 b, .int .u64 x, .int .u64 y] w (Just v 0 w) := by
  have T := Lib.hid hb
  have HX := Lib.hid hx
  have HY := Lib.hid hy
  have HC' : Hid (c < 18446744073709551616) := Lib.hid (by rw [← hc]; exact cut_lt b hx)
  have HD' : Hid (d < 18446744073709551616) := Lib.hid (by rw [← hd]; exact cut_lt b hy)
  have HC := Lib.hid hc
  have HD := Lib.hid hd
  have HR := Lib.hid hr
  have HR' := Lib.hid hr'
  have HV := Lib.hid hv
  clear hb hx hy hc hd hr hv hr'
  go_enter Try.func13, Try.ntmps13
  go_wp2_with fail
  refine (rmay_yes _ T.out _).mono ?_
  rintro e w' ⟨rfl, rfl⟩
  go_wp2_with fail
  refine (rcut_any _ HX.out _ _ HC.out _).mono ?_
  rintro e w' ⟨rfl, rfl⟩
  go_wp2_with fail
  refine (rcut_any _ HY.out _ _ HD.out _).mono ?_
  rintro e w' ⟨rfl, rfl⟩
  go_wp2_with fail
  refine (rcut_at r HR'.out _ v HV.out _ (raw_5 _ _ _ HC'.out HD'.out HR.out) _).mono ?_
  rintro e w' ⟨rfl, rfl⟩
  go_wp2_with fail
  go_ret2
  exact ⟨rfl, rfl⟩

set_option maxHeartbeats 1000000 in
theorem rdo_or (b : Int) (hb : may b = true) (x y : Nat) (hx : x < 18446744073709551616) (hy : y < 18446744073709551616) (c d r v : Nat) (hc : cut x b = c) (hd : cut y b = d) (hr : way 6 0 c d = r) (hv : cut r b = v) (hr' : r < 18446744073709551616) (w : World) :
    Calls Try.prog 13 #[.int .i64 6, .int .i64 b, .int .u64 x, .int .u64 y] w (Just v 0 w) := by
  have T := Lib.hid hb
  have HX := Lib.hid hx
  have HY := Lib.hid hy
  have HC' : Hid (c < 18446744073709551616) := Lib.hid (by rw [← hc]; exact cut_lt b hx)
  have HD' : Hid (d < 18446744073709551616) := Lib.hid (by rw [← hd]; exact cut_lt b hy)
  have HC := Lib.hid hc
  have HD := Lib.hid hd
  have HR := Lib.hid hr
  have HR' := Lib.hid hr'
  have HV := Lib.hid hv
  clear hb hx hy hc hd hr hv hr'
  go_enter Try.func13, Try.ntmps13
  go_wp2_with fail
  refine (rmay_yes _ T.out _).mono ?_
  rintro e w' ⟨rfl, rfl⟩
  go_wp2_with fail
  refine (rcut_any _ HX.out _ _ HC.out _).mono ?_
  rintro e w' ⟨rfl, rfl⟩
  go_wp2_with fail
  refine (rcut_any _ HY.out _ _ HD.out _).mono ?_
  rintro e w' ⟨rfl, rfl⟩
  go_wp2_with fail
  refine (rcut_at r HR'.out _ v HV.out _ (raw_6 _ _ _ HC'.out HD'.out HR.out) _).mono ?_
  rintro e w' ⟨rfl, rfl⟩
  go_wp2_with fail
  go_ret2
  exact ⟨rfl, rfl⟩

set_option maxHeartbeats 1000000 in
theorem rdo_xor (b : Int) (hb : may b = true) (x y : Nat) (hx : x < 18446744073709551616) (hy : y < 18446744073709551616) (c d r v : Nat) (hc : cut x b = c) (hd : cut y b = d) (hr : way 7 0 c d = r) (hv : cut r b = v) (hr' : r < 18446744073709551616) (w : World) :
    Calls Try.prog 13 #[.int .i64 7, .int .i64 b, .int .u64 x, .int .u64 y] w (Just v 0 w) := by
  have T := Lib.hid hb
  have HX := Lib.hid hx
  have HY := Lib.hid hy
  have HC' : Hid (c < 18446744073709551616) := Lib.hid (by rw [← hc]; exact cut_lt b hx)
  have HD' : Hid (d < 18446744073709551616) := Lib.hid (by rw [← hd]; exact cut_lt b hy)
  have HC := Lib.hid hc
  have HD := Lib.hid hd
  have HR := Lib.hid hr
  have HR' := Lib.hid hr'
  have HV := Lib.hid hv
  clear hb hx hy hc hd hr hv hr'
  go_enter Try.func13, Try.ntmps13
  go_wp2_with fail
  refine (rmay_yes _ T.out _).mono ?_
  rintro e w' ⟨rfl, rfl⟩
  go_wp2_with fail
  refine (rcut_any _ HX.out _ _ HC.out _).mono ?_
  rintro e w' ⟨rfl, rfl⟩
  go_wp2_with fail
  refine (rcut_any _ HY.out _ _ HD.out _).mono ?_
  rintro e w' ⟨rfl, rfl⟩
  go_wp2_with fail
  refine (rcut_at r HR'.out _ v HV.out _ (raw_7 _ _ _ HC'.out HD'.out HR.out) _).mono ?_
  rintro e w' ⟨rfl, rfl⟩
  go_wp2_with fail
  go_ret2
  exact ⟨rfl, rfl⟩

set_option maxHeartbeats 1000000 in
theorem rdo_div (b : Int) (hb : may b = true) (x y : Nat) (hx : x < 18446744073709551616) (hy : y < 18446744073709551616) (c d r v : Nat) (hc : cut x b = c) (hd : cut y b = d) (h0 : 0 < d) (hr : way 4 0 c d = r) (hv : cut r b = v) (hr' : r < 18446744073709551616) (w : World) :
    Calls Try.prog 13 #[.int .i64 4, .int .i64 b, .int .u64 x, .int .u64 y] w (Just v 0 w) := by
  have T := Lib.hid hb
  have HX := Lib.hid hx
  have HY := Lib.hid hy
  have HC' : Hid (c < 18446744073709551616) := Lib.hid (by rw [← hc]; exact cut_lt b hx)
  have HD' : Hid (d < 18446744073709551616) := Lib.hid (by rw [← hd]; exact cut_lt b hy)
  have HC := Lib.hid hc
  have HD := Lib.hid hd
  have HR := Lib.hid hr
  have HR' := Lib.hid hr'
  have HV := Lib.hid hv
  have h1 : (1 : Int) ≤ d := by omega
  clear h0 hb hx hy hc hd hr hv hr'
  go_enter Try.func13, Try.ntmps13
  go_wp2_with fail
  refine (rmay_yes _ T.out _).mono ?_
  rintro e w' ⟨rfl, rfl⟩
  go_wp2_with fail
  refine (rcut_any _ HX.out _ _ HC.out _).mono ?_
  rintro e w' ⟨rfl, rfl⟩
  go_wp2_with fail
  refine (rcut_any _ HY.out _ _ HD.out _).mono ?_
  rintro e w' ⟨rfl, rfl⟩
  go_wp2_with fail
  refine (rcut_at r HR'.out _ v HV.out _ (raw_4 _ _ _ HC'.out HR.out) _).mono ?_
  rintro e w' ⟨rfl, rfl⟩
  go_wp2_with fail
  go_ret2
  exact ⟨rfl, rfl⟩

set_option maxHeartbeats 1000000 in
theorem rdo_eq (b : Int) (hb : may b = true) (x y : Nat) (hx : x < 18446744073709551616) (hy : y < 18446744073709551616) (c d r v : Nat) (hc : cut x b = c) (hd : cut y b = d) (hr : way 10 0 c d = r) (hv : cut r b = v) (hr' : r < 18446744073709551616) (w : World) :
    Calls Try.prog 13 #[.int .i64 10, .int .i64 b, .int .u64 x, .int .u64 y] w (Just v 0 w) := by
  have T := Lib.hid hb
  have HX := Lib.hid hx
  have HY := Lib.hid hy
  have HC' : Hid (c < 18446744073709551616) := Lib.hid (by rw [← hc]; exact cut_lt b hx)
  have HD' : Hid (d < 18446744073709551616) := Lib.hid (by rw [← hd]; exact cut_lt b hy)
  have HC := Lib.hid hc
  have HD := Lib.hid hd
  have HR := Lib.hid hr
  have HR' := Lib.hid hr'
  have HV := Lib.hid hv
  clear hb hx hy hc hd hr hv hr'
  go_enter Try.func13, Try.ntmps13
  go_wp2_with fail
  refine (rmay_yes _ T.out _).mono ?_
  rintro e w' ⟨rfl, rfl⟩
  go_wp2_with fail
  refine (rcut_any _ HX.out _ _ HC.out _).mono ?_
  rintro e w' ⟨rfl, rfl⟩
  go_wp2_with fail
  refine (rcut_any _ HY.out _ _ HD.out _).mono ?_
  rintro e w' ⟨rfl, rfl⟩
  go_wp2_with fail
  refine (truth_any _ _ rfl _).mono ?_
  rintro e w' ⟨rfl, rfl⟩
  go_wp2_with fail
  refine (rcut_at r HR'.out _ v HV.out _ (raw_10 _ _ _ HR.out) _).mono ?_
  rintro e w' ⟨rfl, rfl⟩
  go_wp2_with fail
  go_ret2
  exact ⟨rfl, rfl⟩

set_option maxHeartbeats 1000000 in
theorem rdo_ult (b : Int) (hb : may b = true) (x y : Nat) (hx : x < 18446744073709551616) (hy : y < 18446744073709551616) (c d r v : Nat) (hc : cut x b = c) (hd : cut y b = d) (hr : way 11 0 c d = r) (hv : cut r b = v) (hr' : r < 18446744073709551616) (w : World) :
    Calls Try.prog 13 #[.int .i64 11, .int .i64 b, .int .u64 x, .int .u64 y] w (Just v 0 w) := by
  have T := Lib.hid hb
  have HX := Lib.hid hx
  have HY := Lib.hid hy
  have HC' : Hid (c < 18446744073709551616) := Lib.hid (by rw [← hc]; exact cut_lt b hx)
  have HD' : Hid (d < 18446744073709551616) := Lib.hid (by rw [← hd]; exact cut_lt b hy)
  have HC := Lib.hid hc
  have HD := Lib.hid hd
  have HR := Lib.hid hr
  have HR' := Lib.hid hr'
  have HV := Lib.hid hv
  clear hb hx hy hc hd hr hv hr'
  go_enter Try.func13, Try.ntmps13
  go_wp2_with fail
  refine (rmay_yes _ T.out _).mono ?_
  rintro e w' ⟨rfl, rfl⟩
  go_wp2_with fail
  refine (rcut_any _ HX.out _ _ HC.out _).mono ?_
  rintro e w' ⟨rfl, rfl⟩
  go_wp2_with fail
  refine (rcut_any _ HY.out _ _ HD.out _).mono ?_
  rintro e w' ⟨rfl, rfl⟩
  go_wp2_with fail
  refine (truth_any _ _ rfl _).mono ?_
  rintro e w' ⟨rfl, rfl⟩
  go_wp2_with fail
  refine (rcut_at r HR'.out _ v HV.out _ (raw_11 _ _ _ HR.out) _).mono ?_
  rintro e w' ⟨rfl, rfl⟩
  go_wp2_with fail
  go_ret2
  exact ⟨rfl, rfl⟩

set_option maxHeartbeats 1000000 in
theorem rdo_slt (b : Int) (hb : may b = true) (x y : Nat) (hx : x < 18446744073709551616) (hy : y < 18446744073709551616) (c d r v : Nat) (hc : cut x b = c) (hd : cut y b = d) (hr : way 12 b c d = r) (hv : cut r b = v) (hr' : r < 18446744073709551616) (w : World) :
    Calls Try.prog 13 #[.int .i64 12, .int .i64 b, .int .u64 x, .int .u64 y] w (Just v 0 w) := by
  have T := Lib.hid hb
  have HX := Lib.hid hx
  have HY := Lib.hid hy
  have HC' : Hid (c < 18446744073709551616) := Lib.hid (by rw [← hc]; exact cut_lt b hx)
  have HD' : Hid (d < 18446744073709551616) := Lib.hid (by rw [← hd]; exact cut_lt b hy)
  have HC := Lib.hid hc
  have HD := Lib.hid hd
  have HR := Lib.hid hr
  have HR' := Lib.hid hr'
  have HV := Lib.hid hv
  obtain ⟨s, hs⟩ : ∃ s, sgn c b = s := ⟨_, rfl⟩
  obtain ⟨u, hu⟩ : ∃ u, sgn d b = u := ⟨_, rfl⟩
  have HS := Lib.hid hs
  have HU := Lib.hid hu
  clear hs hu hb hx hy hc hd hr hv hr'
  go_enter Try.func13, Try.ntmps13
  go_wp2_with fail
  refine (rmay_yes _ T.out _).mono ?_
  rintro e w' ⟨rfl, rfl⟩
  go_wp2_with fail
  refine (rcut_any _ HX.out _ _ HC.out _).mono ?_
  rintro e w' ⟨rfl, rfl⟩
  go_wp2_with fail
  refine (rcut_any _ HY.out _ _ HD.out _).mono ?_
  rintro e w' ⟨rfl, rfl⟩
  go_wp2_with fail
  refine (rsgn_any _ HC'.out _ _ HS.out _).mono ?_
  rintro e w' ⟨rfl, rfl⟩
  go_wp2_with fail
  refine (rsgn_any _ HD'.out _ _ HU.out _).mono ?_
  rintro e w' ⟨rfl, rfl⟩
  go_wp2_with fail
  refine (truth_any _ _ rfl _).mono ?_
  rintro e w' ⟨rfl, rfl⟩
  go_wp2_with fail
  refine (rcut_at r HR'.out _ v HV.out _ (raw_12 b _ _ _ _ _ HS.out HU.out HR.out) _).mono ?_
  rintro e w' ⟨rfl, rfl⟩
  go_wp2_with fail
  go_ret2
  exact ⟨rfl, rfl⟩

set_option maxHeartbeats 1000000 in
theorem rdo_trap (b : Int) (hb : may b = true) (x y : Nat) (hx : x < 18446744073709551616) (hy : y < 18446744073709551616) (hd : cut y b = 0) (w : World) :
    Calls Try.prog 13 #[.int .i64 4, .int .i64 b, .int .u64 x, .int .u64 y] w (Just 0 8 w) := by
  have T := Lib.hid hb
  have HX := Lib.hid hx
  have HY := Lib.hid hy
  have HD := Lib.hid hd
  clear hb hx hy hd
  go_enter Try.func13, Try.ntmps13
  go_wp2_with fail
  refine (rmay_yes _ T.out _).mono ?_
  rintro e w' ⟨rfl, rfl⟩
  go_wp2_with fail
  refine (rcut_any _ HX.out _ _ rfl _).mono ?_
  rintro e w' ⟨rfl, rfl⟩
  go_wp2_with fail
  refine (rcut_any _ HY.out _ _ HD.out _).mono ?_
  rintro e w' ⟨rfl, rfl⟩
  go_wp2_with fail
  go_ret2
  exact ⟨rfl, rfl⟩

set_option maxHeartbeats 1000000 in
theorem rdo_arg (k b : Int) (h : two k b = false) (x y : Nat) (w : World) :
    Calls Try.prog 13 #[.int .i64 k, .int .i64 b, .int .u64 x, .int .u64 y] w (Just 0 1 w) := by
  by_cases h1 : k < 1
  · have d1 : decide (k < 1) = true := by simpa using h1
    clear h h1
    go_enter Try.func13, Try.ntmps13
    go_wp2_with fail
    go_ret2
    exact ⟨rfl, rfl⟩
  · by_cases h2 : 12 < k
    · have d1 : decide (k < 1) = false := by simpa using h1
      have d2 : decide (12 < k) = true := by simpa using h2
      clear h h1 h2
      go_enter Try.func13, Try.ntmps13
      go_wp2_with fail
      go_ret2
      exact ⟨rfl, rfl⟩
    · have hm : may b = false := by
        cases hb : may b
        · rfl
        · rw [two_of hb (by omega) (by omega)] at h; cases h
      have HM := Lib.hid hm
      have d1 : decide (k < 1) = false := by simpa using h1
      have d2 : decide (12 < k) = false := by simpa using h2
      clear h h1 h2 hm
      go_enter Try.func13, Try.ntmps13
      go_wp2_with fail
      refine (rmay_no _ HM.out _).mono ?_
      rintro e w' ⟨rfl, rfl⟩
      go_wp2_with fail
      go_ret2
      exact ⟨rfl, rfl⟩

end Go.Proofs.Ytakbkpcmdmjblaa
