/- What word.Do gives, kind by kind. -/
import Derived.Test.YtakbkpcmdmjblaaWays
import Derived.Laws.EntriesVeiled
namespace Go.Proofs.Ytakbkpcmdmjblaa
open Go.RowKit

theorem two_as (k b : Int) (r : Bool) (h : two k b = r) (w : World) : Calls Try.prog 20 #[.int .i64 k, .int .i64 b] w fun e w' => e = .returned (.bool r) ∧ w = w' := by
  subst h; exact two_any k b w

/-- the functions, as a value -/
def table (H : Nat) : Value := .agg #[Value.nilFunc, Value.func (Fn.func 25) #[] #[], Value.func (Fn.func 26) #[] #[], Value.func (Fn.func 27) #[] #[], Value.func (Fn.func 28) #[] #[], Value.func (Fn.func 29) #[] #[], Value.func (Fn.func 30) #[] #[], Value.func (Fn.func 31) #[] #[], Value.func (Fn.func 32) #[] #[Value.pointer (some { block := H, off := 0 })], Value.func (Fn.func 34) #[] #[Value.pointer (some { block := H, off := 0 })], Value.func (Fn.func 35) #[] #[], Value.func (Fn.func 36) #[] #[], Value.func (Fn.func 37) #[] #[Value.pointer (some { block := H, off := 0 })]]

set_option maxHeartbeats 1000000 in
theorem ways_any (b : Int) (w : World) : Calls Try.prog 23 #[.int .i64 b] w fun e w' => e = .returned (table w.heap.size) ∧ Below w.heap.size w w' ∧ w'.cell? ⟨w.heap.size, 0, none⟩ = some (.int .i64 b) := by
  go_enter Try.func23, Try.ntmps23
  go_wp2
  refine bodyPost_ret (v := table w.heap.size) (by simp [results, Try.results23, go_sem, table]) rfl ⟨rfl, ((Below.refl _ _).alloc (Nat.le_refl _) _).alloc (by simp) _, ?_⟩
  go_simp

theorem below_drewN {B : Nat} {a w : World} (h : Below B a w) (n : Nat) : Below B a (w.drewN n) := ⟨h.os, h.tape, h.output, h.size, h.block⟩

theorem cut_le (v : Nat) (b : Int) : cut v b ≤ v := by
  unfold cut; split
  · exact Nat.mod_le _ _
  · omega
theorem cut_lt {v : Nat} (b : Int) (h : v < 18446744073709551616) : cut v b < 18446744073709551616 := Nat.lt_of_le_of_lt (cut_le v b) h
theorem may_bd {b : Int} (h : may b = true) : 1 ≤ b ∧ b ≤ 64 := by rcases may_cases h with rfl | rfl | rfl | rfl | rfl <;> decide

/-- a number, and how it came out; nothing that existed has changed -/
def DoIs (v : Nat) (c : Int) (w : World) (e : Ending) (w' : World) : Prop := e = .returned (.tuple #[.int .u64 v, .int .i64 c]) ∧ Below w.heap.size w w'

theorem at_1 (H : Nat) (w : World) : (Instr.index 41 (table H) (.int .i64 1)).run Try.prog w = .ok (Value.func (Fn.func 25) #[] #[]) w := by kernel_rfl
theorem at_2 (H : Nat) (w : World) : (Instr.index 41 (table H) (.int .i64 2)).run Try.prog w = .ok (Value.func (Fn.func 26) #[] #[]) w := by kernel_rfl
theorem at_3 (H : Nat) (w : World) : (Instr.index 41 (table H) (.int .i64 3)).run Try.prog w = .ok (Value.func (Fn.func 27) #[] #[]) w := by kernel_rfl
theorem at_4 (H : Nat) (w : World) : (Instr.index 41 (table H) (.int .i64 4)).run Try.prog w = .ok (Value.func (Fn.func 28) #[] #[]) w := by kernel_rfl
theorem at_5 (H : Nat) (w : World) : (Instr.index 41 (table H) (.int .i64 5)).run Try.prog w = .ok (Value.func (Fn.func 29) #[] #[]) w := by kernel_rfl
theorem at_6 (H : Nat) (w : World) : (Instr.index 41 (table H) (.int .i64 6)).run Try.prog w = .ok (Value.func (Fn.func 30) #[] #[]) w := by kernel_rfl
theorem at_7 (H : Nat) (w : World) : (Instr.index 41 (table H) (.int .i64 7)).run Try.prog w = .ok (Value.func (Fn.func 31) #[] #[]) w := by kernel_rfl
theorem at_8 (H : Nat) (w : World) : (Instr.index 41 (table H) (.int .i64 8)).run Try.prog w = .ok (Value.func (Fn.func 32) #[] #[Value.pointer (some { block := H, off := 0 })]) w := by kernel_rfl
theorem at_9 (H : Nat) (w : World) : (Instr.index 41 (table H) (.int .i64 9)).run Try.prog w = .ok (Value.func (Fn.func 34) #[] #[Value.pointer (some { block := H, off := 0 })]) w := by kernel_rfl
theorem at_10 (H : Nat) (w : World) : (Instr.index 41 (table H) (.int .i64 10)).run Try.prog w = .ok (Value.func (Fn.func 35) #[] #[]) w := by kernel_rfl
theorem at_11 (H : Nat) (w : World) : (Instr.index 41 (table H) (.int .i64 11)).run Try.prog w = .ok (Value.func (Fn.func 36) #[] #[]) w := by kernel_rfl
theorem at_12 (H : Nat) (w : World) : (Instr.index 41 (table H) (.int .i64 12)).run Try.prog w = .ok (Value.func (Fn.func 37) #[] #[Value.pointer (some { block := H, off := 0 })]) w := by kernel_rfl

set_option maxHeartbeats 1000000 in
theorem do_add (b : Int) (hb : may b = true) (x y : Nat) (hx : x < 18446744073709551616) (hy : y < 18446744073709551616) (c d r v : Nat) (hc : cut x b = c) (hd : cut y b = d) (hr : way 1 0 c d = r) (hv : cut r b = v) (hr' : r < 18446744073709551616) (w : World) :
    Calls Try.prog 12 #[.int .i64 1, .int .i64 b, .int .u64 x, .int .u64 y] w (DoIs v 0 w) := by
  have T : Hid (two 1 b = true) := Lib.hid (by simp [two, hb])
  obtain ⟨hb1, hb2⟩ := may_bd hb
  have HX := Lib.hid hx
  have HY := Lib.hid hy
  have HC' : Hid (c < 18446744073709551616) := Lib.hid (by rw [← hc]; exact cut_lt b hx)
  have HD' : Hid (d < 18446744073709551616) := Lib.hid (by rw [← hd]; exact cut_lt b hy)
  have HC := Lib.hid hc
  have HD := Lib.hid hd
  have HR := Lib.hid hr
  have HR' := Lib.hid hr'
  have HV := Lib.hid hv
  clear hb hx hy hc hd hr hv hr'
  have hat := at_1 w.heap.size
  go_enter Try.func12, Try.ntmps12
  go_wp2_with fail
  refine (two_as _ _ _ T.out _).mono ?_
  rintro e w' ⟨rfl, rfl⟩
  go_wp2_with fail
  refine (cut_any _ HX.out _ _ HC.out _).mono ?_
  rintro e w' ⟨rfl, rfl⟩
  go_wp2_with fail
  refine (cut_any _ HY.out _ _ HD.out _).mono ?_
  rintro e w' ⟨rfl, rfl⟩
  go_wp2_with fail
  refine (ways_any _ _).mono ?_
  rintro e w1 ⟨rfl, hbel, hcell⟩
  go_wp2_with fail
  refine (w_add _ _ _ _ HR.out).mono ?_
  rintro e w' ⟨rfl, rfl⟩
  go_wp2_with fail
  refine (cut_any _ HR'.out _ _ HV.out _).mono ?_
  rintro e w' ⟨rfl, rfl⟩
  go_wp2_with fail
  go_ret2
  exact ⟨rfl, hbel⟩

set_option maxHeartbeats 1000000 in
theorem do_sub (b : Int) (hb : may b = true) (x y : Nat) (hx : x < 18446744073709551616) (hy : y < 18446744073709551616) (c d r v : Nat) (hc : cut x b = c) (hd : cut y b = d) (hr : way 2 0 c d = r) (hv : cut r b = v) (hr' : r < 18446744073709551616) (w : World) :
    Calls Try.prog 12 #[.int .i64 2, .int .i64 b, .int .u64 x, .int .u64 y] w (DoIs v 0 w) := by
  have T : Hid (two 2 b = true) := Lib.hid (by simp [two, hb])
  obtain ⟨hb1, hb2⟩ := may_bd hb
  have HX := Lib.hid hx
  have HY := Lib.hid hy
  have HC' : Hid (c < 18446744073709551616) := Lib.hid (by rw [← hc]; exact cut_lt b hx)
  have HD' : Hid (d < 18446744073709551616) := Lib.hid (by rw [← hd]; exact cut_lt b hy)
  have HC := Lib.hid hc
  have HD := Lib.hid hd
  have HR := Lib.hid hr
  have HR' := Lib.hid hr'
  have HV := Lib.hid hv
  clear hb hx hy hc hd hr hv hr'
  have hat := at_2 w.heap.size
  go_enter Try.func12, Try.ntmps12
  go_wp2_with fail
  refine (two_as _ _ _ T.out _).mono ?_
  rintro e w' ⟨rfl, rfl⟩
  go_wp2_with fail
  refine (cut_any _ HX.out _ _ HC.out _).mono ?_
  rintro e w' ⟨rfl, rfl⟩
  go_wp2_with fail
  refine (cut_any _ HY.out _ _ HD.out _).mono ?_
  rintro e w' ⟨rfl, rfl⟩
  go_wp2_with fail
  refine (ways_any _ _).mono ?_
  rintro e w1 ⟨rfl, hbel, hcell⟩
  go_wp2_with fail
  refine (w_sub _ _ _ _ HD'.out HR.out).mono ?_
  rintro e w' ⟨rfl, rfl⟩
  go_wp2_with fail
  refine (cut_any _ HR'.out _ _ HV.out _).mono ?_
  rintro e w' ⟨rfl, rfl⟩
  go_wp2_with fail
  go_ret2
  exact ⟨rfl, hbel⟩

set_option maxHeartbeats 1000000 in
theorem do_mul (b : Int) (hb : may b = true) (x y : Nat) (hx : x < 18446744073709551616) (hy : y < 18446744073709551616) (c d r v : Nat) (hc : cut x b = c) (hd : cut y b = d) (hr : way 3 0 c d = r) (hv : cut r b = v) (hr' : r < 18446744073709551616) (w : World) :
    Calls Try.prog 12 #[.int .i64 3, .int .i64 b, .int .u64 x, .int .u64 y] w (DoIs v 0 w) := by
  have T : Hid (two 3 b = true) := Lib.hid (by simp [two, hb])
  obtain ⟨hb1, hb2⟩ := may_bd hb
  have HX := Lib.hid hx
  have HY := Lib.hid hy
  have HC' : Hid (c < 18446744073709551616) := Lib.hid (by rw [← hc]; exact cut_lt b hx)
  have HD' : Hid (d < 18446744073709551616) := Lib.hid (by rw [← hd]; exact cut_lt b hy)
  have HC := Lib.hid hc
  have HD := Lib.hid hd
  have HR := Lib.hid hr
  have HR' := Lib.hid hr'
  have HV := Lib.hid hv
  clear hb hx hy hc hd hr hv hr'
  have hat := at_3 w.heap.size
  go_enter Try.func12, Try.ntmps12
  go_wp2_with fail
  refine (two_as _ _ _ T.out _).mono ?_
  rintro e w' ⟨rfl, rfl⟩
  go_wp2_with fail
  refine (cut_any _ HX.out _ _ HC.out _).mono ?_
  rintro e w' ⟨rfl, rfl⟩
  go_wp2_with fail
  refine (cut_any _ HY.out _ _ HD.out _).mono ?_
  rintro e w' ⟨rfl, rfl⟩
  go_wp2_with fail
  refine (ways_any _ _).mono ?_
  rintro e w1 ⟨rfl, hbel, hcell⟩
  go_wp2_with fail
  refine (w_mul _ _ _ _ HR.out).mono ?_
  rintro e w' ⟨rfl, rfl⟩
  go_wp2_with fail
  refine (cut_any _ HR'.out _ _ HV.out _).mono ?_
  rintro e w' ⟨rfl, rfl⟩
  go_wp2_with fail
  go_ret2
  exact ⟨rfl, hbel⟩

set_option maxHeartbeats 1000000 in
theorem do_div (b : Int) (hb : may b = true) (x y : Nat) (hx : x < 18446744073709551616) (hy : y < 18446744073709551616) (c d r v : Nat) (hc : cut x b = c) (hd : cut y b = d) (h0 : 0 < d) (hr : way 4 0 c d = r) (hv : cut r b = v) (hr' : r < 18446744073709551616) (w : World) :
    Calls Try.prog 12 #[.int .i64 4, .int .i64 b, .int .u64 x, .int .u64 y] w (DoIs v 0 w) := by
  have T : Hid (two 4 b = true) := Lib.hid (by simp [two, hb])
  obtain ⟨hb1, hb2⟩ := may_bd hb
  have HX := Lib.hid hx
  have HY := Lib.hid hy
  have HC' : Hid (c < 18446744073709551616) := Lib.hid (by rw [← hc]; exact cut_lt b hx)
  have HD' : Hid (d < 18446744073709551616) := Lib.hid (by rw [← hd]; exact cut_lt b hy)
  have HC := Lib.hid hc
  have HD := Lib.hid hd
  have HR := Lib.hid hr
  have HR' := Lib.hid hr'
  have HV := Lib.hid hv
  clear hb hx hy hc hd hr hv hr'
  have hat := at_4 w.heap.size
  go_enter Try.func12, Try.ntmps12
  go_wp2_with fail
  refine (two_as _ _ _ T.out _).mono ?_
  rintro e w' ⟨rfl, rfl⟩
  go_wp2_with fail
  refine (cut_any _ HX.out _ _ HC.out _).mono ?_
  rintro e w' ⟨rfl, rfl⟩
  go_wp2_with fail
  refine (cut_any _ HY.out _ _ HD.out _).mono ?_
  rintro e w' ⟨rfl, rfl⟩
  go_wp2_with fail
  refine (ways_any _ _).mono ?_
  rintro e w1 ⟨rfl, hbel, hcell⟩
  go_wp2_with fail
  refine (w_div _ _ _ _ h0 HC'.out HR.out).mono ?_
  rintro e w' ⟨rfl, rfl⟩
  go_wp2_with fail
  refine (cut_any _ HR'.out _ _ HV.out _).mono ?_
  rintro e w' ⟨rfl, rfl⟩
  go_wp2_with fail
  go_ret2
  exact ⟨rfl, hbel⟩

set_option maxHeartbeats 1000000 in
theorem do_and (b : Int) (hb : may b = true) (x y : Nat) (hx : x < 18446744073709551616) (hy : y < 18446744073709551616) (c d r v : Nat) (hc : cut x b = c) (hd : cut y b = d) (hr : way 5 0 c d = r) (hv : cut r b = v) (hr' : r < 18446744073709551616) (w : World) :
    Calls Try.prog 12 #[.int .i64 5, .int .i64 b, .int .u64 x, .int .u64 y] w (DoIs v 0 w) := by
  have T : Hid (two 5 b = true) := Lib.hid (by simp [two, hb])
  obtain ⟨hb1, hb2⟩ := may_bd hb
  have HX := Lib.hid hx
  have HY := Lib.hid hy
  have HC' : Hid (c < 18446744073709551616) := Lib.hid (by rw [← hc]; exact cut_lt b hx)
  have HD' : Hid (d < 18446744073709551616) := Lib.hid (by rw [← hd]; exact cut_lt b hy)
  have HC := Lib.hid hc
  have HD := Lib.hid hd
  have HR := Lib.hid hr
  have HR' := Lib.hid hr'
  have HV := Lib.hid hv
  clear hb hx hy hc hd hr hv hr'
  have hat := at_5 w.heap.size
  go_enter Try.func12, Try.ntmps12
  go_wp2_with fail
  refine (two_as _ _ _ T.out _).mono ?_
  rintro e w' ⟨rfl, rfl⟩
  go_wp2_with fail
  refine (cut_any _ HX.out _ _ HC.out _).mono ?_
  rintro e w' ⟨rfl, rfl⟩
  go_wp2_with fail
  refine (cut_any _ HY.out _ _ HD.out _).mono ?_
  rintro e w' ⟨rfl, rfl⟩
  go_wp2_with fail
  refine (ways_any _ _).mono ?_
  rintro e w1 ⟨rfl, hbel, hcell⟩
  go_wp2_with fail
  refine (w_and _ _ _ _ HC'.out HD'.out HR.out).mono ?_
  rintro e w' ⟨rfl, rfl⟩
  go_wp2_with fail
  refine (cut_any _ HR'.out _ _ HV.out _).mono ?_
  rintro e w' ⟨rfl, rfl⟩
  go_wp2_with fail
  go_ret2
  exact ⟨rfl, hbel⟩

set_option maxHeartbeats 1000000 in
theorem do_or (b : Int) (hb : may b = true) (x y : Nat) (hx : x < 18446744073709551616) (hy : y < 18446744073709551616) (c d r v : Nat) (hc : cut x b = c) (hd : cut y b = d) (hr : way 6 0 c d = r) (hv : cut r b = v) (hr' : r < 18446744073709551616) (w : World) :
    Calls Try.prog 12 #[.int .i64 6, .int .i64 b, .int .u64 x, .int .u64 y] w (DoIs v 0 w) := by
  have T : Hid (two 6 b = true) := Lib.hid (by simp [two, hb])
  obtain ⟨hb1, hb2⟩ := may_bd hb
  have HX := Lib.hid hx
  have HY := Lib.hid hy
  have HC' : Hid (c < 18446744073709551616) := Lib.hid (by rw [← hc]; exact cut_lt b hx)
  have HD' : Hid (d < 18446744073709551616) := Lib.hid (by rw [← hd]; exact cut_lt b hy)
  have HC := Lib.hid hc
  have HD := Lib.hid hd
  have HR := Lib.hid hr
  have HR' := Lib.hid hr'
  have HV := Lib.hid hv
  clear hb hx hy hc hd hr hv hr'
  have hat := at_6 w.heap.size
  go_enter Try.func12, Try.ntmps12
  go_wp2_with fail
  refine (two_as _ _ _ T.out _).mono ?_
  rintro e w' ⟨rfl, rfl⟩
  go_wp2_with fail
  refine (cut_any _ HX.out _ _ HC.out _).mono ?_
  rintro e w' ⟨rfl, rfl⟩
  go_wp2_with fail
  refine (cut_any _ HY.out _ _ HD.out _).mono ?_
  rintro e w' ⟨rfl, rfl⟩
  go_wp2_with fail
  refine (ways_any _ _).mono ?_
  rintro e w1 ⟨rfl, hbel, hcell⟩
  go_wp2_with fail
  refine (w_or _ _ _ _ HC'.out HD'.out HR.out).mono ?_
  rintro e w' ⟨rfl, rfl⟩
  go_wp2_with fail
  refine (cut_any _ HR'.out _ _ HV.out _).mono ?_
  rintro e w' ⟨rfl, rfl⟩
  go_wp2_with fail
  go_ret2
  exact ⟨rfl, hbel⟩

set_option maxHeartbeats 1000000 in
theorem do_xor (b : Int) (hb : may b = true) (x y : Nat) (hx : x < 18446744073709551616) (hy : y < 18446744073709551616) (c d r v : Nat) (hc : cut x b = c) (hd : cut y b = d) (hr : way 7 0 c d = r) (hv : cut r b = v) (hr' : r < 18446744073709551616) (w : World) :
    Calls Try.prog 12 #[.int .i64 7, .int .i64 b, .int .u64 x, .int .u64 y] w (DoIs v 0 w) := by
  have T : Hid (two 7 b = true) := Lib.hid (by simp [two, hb])
  obtain ⟨hb1, hb2⟩ := may_bd hb
  have HX := Lib.hid hx
  have HY := Lib.hid hy
  have HC' : Hid (c < 18446744073709551616) := Lib.hid (by rw [← hc]; exact cut_lt b hx)
  have HD' : Hid (d < 18446744073709551616) := Lib.hid (by rw [← hd]; exact cut_lt b hy)
  have HC := Lib.hid hc
  have HD := Lib.hid hd
  have HR := Lib.hid hr
  have HR' := Lib.hid hr'
  have HV := Lib.hid hv
  clear hb hx hy hc hd hr hv hr'
  have hat := at_7 w.heap.size
  go_enter Try.func12, Try.ntmps12
  go_wp2_with fail
  refine (two_as _ _ _ T.out _).mono ?_
  rintro e w' ⟨rfl, rfl⟩
  go_wp2_with fail
  refine (cut_any _ HX.out _ _ HC.out _).mono ?_
  rintro e w' ⟨rfl, rfl⟩
  go_wp2_with fail
  refine (cut_any _ HY.out _ _ HD.out _).mono ?_
  rintro e w' ⟨rfl, rfl⟩
  go_wp2_with fail
  refine (ways_any _ _).mono ?_
  rintro e w1 ⟨rfl, hbel, hcell⟩
  go_wp2_with fail
  refine (w_xor _ _ _ _ HC'.out HD'.out HR.out).mono ?_
  rintro e w' ⟨rfl, rfl⟩
  go_wp2_with fail
  refine (cut_any _ HR'.out _ _ HV.out _).mono ?_
  rintro e w' ⟨rfl, rfl⟩
  go_wp2_with fail
  go_ret2
  exact ⟨rfl, hbel⟩

set_option maxHeartbeats 1000000 in
theorem do_shl (b : Int) (hb : may b = true) (x y : Nat) (hx : x < 18446744073709551616) (hy : y < 18446744073709551616) (c d r v : Nat) (hc : cut x b = c) (hd : cut y b = d) (hr : way 8 b c d = r) (hv : cut r b = v) (hr' : r < 18446744073709551616) (w : World) :
    Calls Try.prog 12 #[.int .i64 8, .int .i64 b, .int .u64 x, .int .u64 y] w (DoIs v 0 w) := by
  have T : Hid (two 8 b = true) := Lib.hid (by simp [two, hb])
  obtain ⟨hb1, hb2⟩ := may_bd hb
  have HX := Lib.hid hx
  have HY := Lib.hid hy
  have HC' : Hid (c < 18446744073709551616) := Lib.hid (by rw [← hc]; exact cut_lt b hx)
  have HD' : Hid (d < 18446744073709551616) := Lib.hid (by rw [← hd]; exact cut_lt b hy)
  have HC := Lib.hid hc
  have HD := Lib.hid hd
  have HR := Lib.hid hr
  have HR' := Lib.hid hr'
  have HV := Lib.hid hv
  clear hb hx hy hc hd hr hv hr'
  have hat := at_8 w.heap.size
  go_enter Try.func12, Try.ntmps12
  go_wp2_with fail
  refine (two_as _ _ _ T.out _).mono ?_
  rintro e w' ⟨rfl, rfl⟩
  go_wp2_with fail
  refine (cut_any _ HX.out _ _ HC.out _).mono ?_
  rintro e w' ⟨rfl, rfl⟩
  go_wp2_with fail
  refine (cut_any _ HY.out _ _ HD.out _).mono ?_
  rintro e w' ⟨rfl, rfl⟩
  go_wp2_with fail
  refine (ways_any _ _).mono ?_
  rintro e w1 ⟨rfl, hbel, hcell⟩
  go_wp2_with fail
  refine (w_shl _ _ _ b _ _ hcell hb1 hb2 HD'.out HR.out).mono ?_
  rintro e w' ⟨rfl, rfl⟩
  go_wp2_with fail
  refine (cut_any _ HR'.out _ _ HV.out _).mono ?_
  rintro e w' ⟨rfl, rfl⟩
  go_wp2_with fail
  go_ret2
  exact ⟨rfl, hbel⟩

set_option maxHeartbeats 1000000 in
theorem do_shr (b : Int) (hb : may b = true) (x y : Nat) (hx : x < 18446744073709551616) (hy : y < 18446744073709551616) (c d r v : Nat) (hc : cut x b = c) (hd : cut y b = d) (hr : way 9 b c d = r) (hv : cut r b = v) (hr' : r < 18446744073709551616) (w : World) :
    Calls Try.prog 12 #[.int .i64 9, .int .i64 b, .int .u64 x, .int .u64 y] w (DoIs v 0 w) := by
  have T : Hid (two 9 b = true) := Lib.hid (by simp [two, hb])
  obtain ⟨hb1, hb2⟩ := may_bd hb
  have HX := Lib.hid hx
  have HY := Lib.hid hy
  have HC' : Hid (c < 18446744073709551616) := Lib.hid (by rw [← hc]; exact cut_lt b hx)
  have HD' : Hid (d < 18446744073709551616) := Lib.hid (by rw [← hd]; exact cut_lt b hy)
  have HC := Lib.hid hc
  have HD := Lib.hid hd
  have HR := Lib.hid hr
  have HR' := Lib.hid hr'
  have HV := Lib.hid hv
  clear hb hx hy hc hd hr hv hr'
  have hat := at_9 w.heap.size
  go_enter Try.func12, Try.ntmps12
  go_wp2_with fail
  refine (two_as _ _ _ T.out _).mono ?_
  rintro e w' ⟨rfl, rfl⟩
  go_wp2_with fail
  refine (cut_any _ HX.out _ _ HC.out _).mono ?_
  rintro e w' ⟨rfl, rfl⟩
  go_wp2_with fail
  refine (cut_any _ HY.out _ _ HD.out _).mono ?_
  rintro e w' ⟨rfl, rfl⟩
  go_wp2_with fail
  refine (ways_any _ _).mono ?_
  rintro e w1 ⟨rfl, hbel, hcell⟩
  go_wp2_with fail
  refine (w_shr _ _ _ b _ _ hcell hb1 hb2 HC'.out HD'.out HR.out).mono ?_
  rintro e w' ⟨rfl, rfl⟩
  go_wp2_with fail
  refine (cut_any _ HR'.out _ _ HV.out _).mono ?_
  rintro e w' ⟨rfl, rfl⟩
  go_wp2_with fail
  go_ret2
  exact ⟨rfl, hbel⟩

set_option maxHeartbeats 1000000 in
theorem do_eq (b : Int) (hb : may b = true) (x y : Nat) (hx : x < 18446744073709551616) (hy : y < 18446744073709551616) (c d r v : Nat) (hc : cut x b = c) (hd : cut y b = d) (hr : way 10 0 c d = r) (hv : cut r b = v) (hr' : r < 18446744073709551616) (w : World) :
    Calls Try.prog 12 #[.int .i64 10, .int .i64 b, .int .u64 x, .int .u64 y] w (DoIs v 0 w) := by
  have T : Hid (two 10 b = true) := Lib.hid (by simp [two, hb])
  obtain ⟨hb1, hb2⟩ := may_bd hb
  have HX := Lib.hid hx
  have HY := Lib.hid hy
  have HC' : Hid (c < 18446744073709551616) := Lib.hid (by rw [← hc]; exact cut_lt b hx)
  have HD' : Hid (d < 18446744073709551616) := Lib.hid (by rw [← hd]; exact cut_lt b hy)
  have HC := Lib.hid hc
  have HD := Lib.hid hd
  have HR := Lib.hid hr
  have HR' := Lib.hid hr'
  have HV := Lib.hid hv
  clear hb hx hy hc hd hr hv hr'
  have hat := at_10 w.heap.size
  go_enter Try.func12, Try.ntmps12
  go_wp2_with fail
  refine (two_as _ _ _ T.out _).mono ?_
  rintro e w' ⟨rfl, rfl⟩
  go_wp2_with fail
  refine (cut_any _ HX.out _ _ HC.out _).mono ?_
  rintro e w' ⟨rfl, rfl⟩
  go_wp2_with fail
  refine (cut_any _ HY.out _ _ HD.out _).mono ?_
  rintro e w' ⟨rfl, rfl⟩
  go_wp2_with fail
  refine (ways_any _ _).mono ?_
  rintro e w1 ⟨rfl, hbel, hcell⟩
  go_wp2_with fail
  refine (w_eq _ _ _ _ HR.out).mono ?_
  rintro e w' ⟨rfl, rfl⟩
  go_wp2_with fail
  refine (cut_any _ HR'.out _ _ HV.out _).mono ?_
  rintro e w' ⟨rfl, rfl⟩
  go_wp2_with fail
  go_ret2
  exact ⟨rfl, hbel⟩

set_option maxHeartbeats 1000000 in
theorem do_ult (b : Int) (hb : may b = true) (x y : Nat) (hx : x < 18446744073709551616) (hy : y < 18446744073709551616) (c d r v : Nat) (hc : cut x b = c) (hd : cut y b = d) (hr : way 11 0 c d = r) (hv : cut r b = v) (hr' : r < 18446744073709551616) (w : World) :
    Calls Try.prog 12 #[.int .i64 11, .int .i64 b, .int .u64 x, .int .u64 y] w (DoIs v 0 w) := by
  have T : Hid (two 11 b = true) := Lib.hid (by simp [two, hb])
  obtain ⟨hb1, hb2⟩ := may_bd hb
  have HX := Lib.hid hx
  have HY := Lib.hid hy
  have HC' : Hid (c < 18446744073709551616) := Lib.hid (by rw [← hc]; exact cut_lt b hx)
  have HD' : Hid (d < 18446744073709551616) := Lib.hid (by rw [← hd]; exact cut_lt b hy)
  have HC := Lib.hid hc
  have HD := Lib.hid hd
  have HR := Lib.hid hr
  have HR' := Lib.hid hr'
  have HV := Lib.hid hv
  clear hb hx hy hc hd hr hv hr'
  have hat := at_11 w.heap.size
  go_enter Try.func12, Try.ntmps12
  go_wp2_with fail
  refine (two_as _ _ _ T.out _).mono ?_
  rintro e w' ⟨rfl, rfl⟩
  go_wp2_with fail
  refine (cut_any _ HX.out _ _ HC.out _).mono ?_
  rintro e w' ⟨rfl, rfl⟩
  go_wp2_with fail
  refine (cut_any _ HY.out _ _ HD.out _).mono ?_
  rintro e w' ⟨rfl, rfl⟩
  go_wp2_with fail
  refine (ways_any _ _).mono ?_
  rintro e w1 ⟨rfl, hbel, hcell⟩
  go_wp2_with fail
  refine (w_ult _ _ _ _ HR.out).mono ?_
  rintro e w' ⟨rfl, rfl⟩
  go_wp2_with fail
  refine (cut_any _ HR'.out _ _ HV.out _).mono ?_
  rintro e w' ⟨rfl, rfl⟩
  go_wp2_with fail
  go_ret2
  exact ⟨rfl, hbel⟩

set_option maxHeartbeats 1000000 in
theorem do_slt (b : Int) (hb : may b = true) (x y : Nat) (hx : x < 18446744073709551616) (hy : y < 18446744073709551616) (c d r v : Nat) (hc : cut x b = c) (hd : cut y b = d) (hr : way 12 b c d = r) (hv : cut r b = v) (hr' : r < 18446744073709551616) (w : World) :
    Calls Try.prog 12 #[.int .i64 12, .int .i64 b, .int .u64 x, .int .u64 y] w (DoIs v 0 w) := by
  have T : Hid (two 12 b = true) := Lib.hid (by simp [two, hb])
  obtain ⟨hb1, hb2⟩ := may_bd hb
  have HX := Lib.hid hx
  have HY := Lib.hid hy
  have HC' : Hid (c < 18446744073709551616) := Lib.hid (by rw [← hc]; exact cut_lt b hx)
  have HD' : Hid (d < 18446744073709551616) := Lib.hid (by rw [← hd]; exact cut_lt b hy)
  have HC := Lib.hid hc
  have HD := Lib.hid hd
  have HR := Lib.hid hr
  have HR' := Lib.hid hr'
  have HV := Lib.hid hv
  clear hb hx hy hc hd hr hv hr'
  have hat := at_12 w.heap.size
  go_enter Try.func12, Try.ntmps12
  go_wp2_with fail
  refine (two_as _ _ _ T.out _).mono ?_
  rintro e w' ⟨rfl, rfl⟩
  go_wp2_with fail
  refine (cut_any _ HX.out _ _ HC.out _).mono ?_
  rintro e w' ⟨rfl, rfl⟩
  go_wp2_with fail
  refine (cut_any _ HY.out _ _ HD.out _).mono ?_
  rintro e w' ⟨rfl, rfl⟩
  go_wp2_with fail
  refine (ways_any _ _).mono ?_
  rintro e w1 ⟨rfl, hbel, hcell⟩
  go_wp2_with fail
  refine (w_slt _ _ _ b _ _ hcell HC'.out HD'.out HR.out).mono ?_
  rintro e w' ⟨rfl, m, rfl⟩
  go_wp2_with fail
  refine (cut_any _ HR'.out _ _ HV.out _).mono ?_
  rintro e w' ⟨rfl, rfl⟩
  go_wp2_with fail
  go_ret2
  exact ⟨rfl, below_drewN hbel _⟩

set_option maxHeartbeats 1000000 in
theorem do_trap (b : Int) (hb : may b = true) (x y : Nat) (hx : x < 18446744073709551616) (hy : y < 18446744073709551616) (hd : cut y b = 0) (w : World) :
    Calls Try.prog 12 #[.int .i64 4, .int .i64 b, .int .u64 x, .int .u64 y] w (DoIs 0 8 w) := by
  have T : Hid (two 4 b = true) := Lib.hid (by simp [two, hb])
  have HX := Lib.hid hx
  have HY := Lib.hid hy
  have HD := Lib.hid hd
  clear hb hx hy hd
  go_enter Try.func12, Try.ntmps12
  go_wp2_with fail
  refine (two_as _ _ _ T.out _).mono ?_
  rintro e w' ⟨rfl, rfl⟩
  go_wp2_with fail
  refine (cut_any _ HX.out _ _ rfl _).mono ?_
  rintro e w' ⟨rfl, rfl⟩
  go_wp2_with fail
  refine (cut_any _ HY.out _ _ HD.out _).mono ?_
  rintro e w' ⟨rfl, rfl⟩
  go_wp2_with fail
  go_ret2
  exact ⟨rfl, Below.refl _ _⟩

set_option maxHeartbeats 1000000 in
theorem do_arg (k b : Int) (h : two k b = false) (x y : Nat) (w : World) :
    Calls Try.prog 12 #[.int .i64 k, .int .i64 b, .int .u64 x, .int .u64 y] w (DoIs 0 1 w) := by
  have T := Lib.hid h
  clear h
  go_enter Try.func12, Try.ntmps12
  go_wp2_with fail
  refine (two_as _ _ _ T.out _).mono ?_
  rintro e w' ⟨rfl, rfl⟩
  go_wp2_with fail
  go_ret2
  exact ⟨rfl, Below.refl _ _⟩

/-- whether it comes to a trap -/
def traps (k b : Int) (y : Nat) : Bool := two k b && k == 4 && cut y b == 0
/-- the number that an operation of two comes to -/
def doV (k b : Int) (x y : Nat) : Nat := if two k b && !traps k b y then cut (way k.toNat b (cut x b) (cut y b)) b else 0
/-- how it came out -/
def doC (k b : Int) (y : Nat) : Int := if two k b then (if traps k b y then 8 else 0) else 1

theorem cut_lt_pow {v : Nat} {b : Int} (hb : may b = true) : cut v b < 2 ^ b.toNat := by
  unfold cut; rw [if_pos hb]; exact Nat.mod_lt _ (Nat.two_pow_pos _)
theorem way_lt (k : Nat) (n : Int) (a b : Nat) (ha : a < 18446744073709551616) (hb : b < 18446744073709551616) : way k n a b < 18446744073709551616 := by
  have ho : ∀ p, one p < 18446744073709551616 := by intro p; cases p <;> decide
  unfold way
  split
  · exact Nat.mod_lt _ (by decide)
  · exact Nat.mod_lt _ (by decide)
  · exact Nat.mod_lt _ (by decide)
  · exact Nat.lt_of_le_of_lt (Nat.div_le_self _ _) ha
  · exact Nat.lt_of_le_of_lt Nat.and_le_left ha
  · exact Nat.or_lt_two_pow (n := 64) ha hb
  · exact Nat.xor_lt_two_pow (n := 64) ha hb
  · split
    · exact Nat.mod_lt _ (by decide)
    · decide
  · split
    · exact Nat.lt_of_le_of_lt (Nat.div_le_self _ _) ha
    · decide
  · exact ho _
  · exact ho _
  · exact ho _
  · decide

/-- word.Do -/
theorem do_any (k b : Int) (x y : Nat) (hx : x < 18446744073709551616) (hy : y < 18446744073709551616) (v : Nat) (c : Int) (hv : doV k b x y = v) (hc : doC k b y = c) (w : World) :
    Calls Try.prog 12 #[.int .i64 k, .int .i64 b, .int .u64 x, .int .u64 y] w (DoIs v c w) := by
  subst hv hc
  cases h : two k b with
  | false =>
    have e1 : doV k b x y = 0 := by simp [doV, h]
    have e2 : doC k b y = 1 := by simp [doC, h]
    rw [e1, e2]
    exact do_arg k b h x y w
  | true =>
    have hb : may b = true := by simp [two] at h; exact h.2
    have hk : 1 ≤ k ∧ k ≤ 12 := by simp [two] at h; exact h.1
    have bx := cut_lt b hx
    have bw := way_lt k.toNat b (cut x b) (cut y b) bx (cut_lt b hy)
    cases ht : traps k b y with
    | true =>
      have e1 : doV k b x y = 0 := by simp [doV, ht]
      have e2 : doC k b y = 8 := by simp [doC, h, ht]
      rw [e1, e2]
      simp [traps, h] at ht
      obtain ⟨rfl, h0⟩ := ht
      exact do_trap b hb x y hx hy h0 w
    | false =>
      have e1 : doV k b x y = cut (way k.toNat b (cut x b) (cut y b)) b := by simp [doV, h, ht]
      have e2 : doC k b y = 0 := by simp [doC, h, ht]
      rw [e1, e2]
      rcases (show k = 1 ∨ k = 2 ∨ k = 3 ∨ k = 4 ∨ k = 5 ∨ k = 6 ∨ k = 7 ∨ k = 8 ∨ k = 9 ∨ k = 10 ∨ k = 11 ∨ k = 12 by omega) with rfl | rfl | rfl | rfl | rfl | rfl | rfl | rfl | rfl | rfl | rfl | rfl
      · exact do_add b hb x y hx hy _ _ _ _ rfl rfl rfl rfl bw w
      · exact do_sub b hb x y hx hy _ _ _ _ rfl rfl rfl rfl bw w
      · exact do_mul b hb x y hx hy _ _ _ _ rfl rfl rfl rfl bw w
      · have h0 : 0 < cut y b := by simp [traps, h] at ht; omega
        exact do_div b hb x y hx hy _ _ _ _ rfl rfl h0 rfl rfl bw w
      · exact do_and b hb x y hx hy _ _ _ _ rfl rfl rfl rfl bw w
      · exact do_or b hb x y hx hy _ _ _ _ rfl rfl rfl rfl bw w
      · exact do_xor b hb x y hx hy _ _ _ _ rfl rfl rfl rfl bw w
      · exact do_shl b hb x y hx hy _ _ _ _ rfl rfl rfl rfl bw w
      · exact do_shr b hb x y hx hy _ _ _ _ rfl rfl rfl rfl bw w
      · exact do_eq b hb x y hx hy _ _ _ _ rfl rfl rfl rfl bw w
      · exact do_ult b hb x y hx hy _ _ _ _ rfl rfl rfl rfl bw w
      · exact do_slt b hb x y hx hy _ _ _ _ rfl rfl rfl rfl bw w
end Go.Proofs.Ytakbkpcmdmjblaa
