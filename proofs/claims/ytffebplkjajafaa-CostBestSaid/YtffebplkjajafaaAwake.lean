/- 'awake' of the statements of layer 21 gives true. -/
import Derived.Test.YtffebplkjajafaaTrees
namespace Go.Proofs.Ytffebplkjajafaa
open Go.RowKit

theorem fi_8 : FI 4620693217682128896 8 := ⟨false, 4503599627370496, -49, by decide, by decide⟩
theorem fi_3 : FI 4613937818241073152 3 := ⟨false, 6755399441055744, -51, by decide, by decide⟩
theorem fi_12 : FI 4622945017495814144 12 := ⟨false, 6755399441055744, -49, by decide, by decide⟩
theorem fi_4 : FI 4616189618054758400 4 := ⟨false, 4503599627370496, -50, by decide, by decide⟩
theorem fi_2 : FI 4611686018427387904 2 := ⟨false, 4503599627370496, -51, by decide, by decide⟩
theorem fi_m2 : FI 13835058055282163712 (-2) := ⟨true, 4503599627370496, -51, by decide, by decide⟩

def GrownTrue (w : World) (e : Ending) (w' : World) : Prop := e = .returned (.bool true) ∧ Below w.heap.size w w'

theorem below_three (w : World) (o1 o2 o3 : Obj) : Below w.heap.size w (((w.alloc o1).alloc o2).alloc o3) :=
  (((Below.refl _ _).alloc (Nat.le_refl _) _).alloc (by simp) _).alloc (by simp; omega) _

theorem awake_nodes (w : World) : Nds (((w.alloc (.cells #[.int .i64 1, .int .i64 2, .int .i64 3, .int .i64 4] 3)).alloc (.cells #[.int .i64 1, .int .i64 2] 3)).alloc
    (.cells #[.int .i64 1, .slice (some ⟨w.heap.size, 0, none⟩) 4 4, .slice (some ⟨w.heap.size + 1, 0, none⟩) 2 2, .int .i64 16, .slice (some ⟨w.heap.size, 0, none⟩) 4 4, .slice none 0 0, .int .i64 0,
      .slice (some ⟨w.heap.size, 0, none⟩) 4 4, .slice none 0 0] 30)) (((w.alloc (.cells #[.int .i64 1, .int .i64 2, .int .i64 3, .int .i64 4] 3)).alloc (.cells #[.int .i64 1, .int .i64 2] 3)).alloc
    (.cells #[.int .i64 1, .slice (some ⟨w.heap.size, 0, none⟩) 4 4, .slice (some ⟨w.heap.size + 1, 0, none⟩) 2 2, .int .i64 16, .slice (some ⟨w.heap.size, 0, none⟩) 4 4, .slice none 0 0, .int .i64 0,
      .slice (some ⟨w.heap.size, 0, none⟩) 4 4, .slice none 0 0] 30)).heap.size (some ⟨w.heap.size + 1 + 1, 0, none⟩) [(1, 4), (16, 4), (0, 4)] := by
  intro _
  refine ⟨_, _, rfl, by simp, fun i hi => ?_⟩
  match i, hi with
  | 0, _ => exact ⟨some ⟨w.heap.size, 0, none⟩, 4, some ⟨w.heap.size + 1, 0, none⟩, 2, 2, by go_simp, by go_simp, by go_simp⟩
  | 1, _ => exact ⟨some ⟨w.heap.size, 0, none⟩, 4, none, 0, 0, by go_simp, by go_simp, by go_simp⟩
  | 2, _ => exact ⟨some ⟨w.heap.size, 0, none⟩, 4, none, 0, 0, by go_simp, by go_simp, by go_simp⟩

theorem awake_fits : Fits [(1, 4), (16, 4), (0, 4)] := ⟨by decide, by decide⟩

set_option maxHeartbeats 1000000 in
theorem awake_any (w : World) : Calls Try.prog 8 #[] w (GrownTrue w) := by
  have nds := Lib.hid (awake_nodes w)
  have bel := below_three w (.cells #[.int .i64 1, .int .i64 2, .int .i64 3, .int .i64 4] 3) (.cells #[.int .i64 1, .int .i64 2] 3)
    (.cells #[.int .i64 1, .slice (some ⟨w.heap.size, 0, none⟩) 4 4, .slice (some ⟨w.heap.size + 1, 0, none⟩) 2 2, .int .i64 16, .slice (some ⟨w.heap.size, 0, none⟩) 4 4, .slice none 0 0, .int .i64 0,
      .slice (some ⟨w.heap.size, 0, none⟩) 4 4, .slice none 0 0] 30)
  have BEL := Lib.hid bel
  clear bel
  go_enter Try.func8, Try.ntmps8
  go_wp2_with fail
  refine (ctree_any _ 3 [(1, 4), (16, 4), (0, 4)] awake_fits _ nds.out).mono ?_
  rintro e w1 ⟨r1, t1, rfl, f1, f2, hb1⟩
  have o1 := order_eq f1 fi_8 rfl
  have o2 := order_eq f2 fi_3 rfl
  have nds1 := Lib.hid (nds.out.next hb1)
  go_wp2_with fail
  refine (seed_any _ 3 [(1, 4), (16, 4), (0, 4)] 4 awake_fits (by omega) (by omega) _ nds1.out).mono ?_
  rintro e w2 ⟨r2, t2, rfl, f3, f4, hb2⟩
  have o3 := order_eq f3 fi_12 rfl
  have o4 := order_eq f4 fi_4 rfl
  go_wp2_with fail
  refine (gain_any _ _ 12 4 fi_12 fi_4 (by omega) (by omega) (by omega) (by omega) _).mono ?_
  rintro e w3 ⟨rfl, rfl⟩
  go_wp2_with fail
  refine (cnode_any 21 _ none 4 4 0 0 (by omega) _).mono ?_
  rintro e w4 ⟨r5, t5, rfl, f5, f6, hb4⟩
  have o5 := order_eq f5 fi_0 rfl
  have o6 := order_eq f6 fi_4 rfl
  go_wp2_with fail
  refine (turn_any _ _ _).mono ?_
  rintro e w5 ⟨rfl, rfl⟩
  have o7 := order_eq (fi_neg fi_2) fi_m2 rfl
  have o8 := order_eq fi_1 fi_1 rfl
  go_wp2
  go_ret
  exact ⟨rfl, BEL.out.trans ((hb1.trans (hb2.mono hb1.size)).trans (hb4.mono (Nat.le_trans hb1.size hb2.size)) |>.mono (by simp; omega))⟩
end Go.Proofs.Ytffebplkjajafaa
