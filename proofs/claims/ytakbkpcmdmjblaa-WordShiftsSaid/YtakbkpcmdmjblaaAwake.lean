/- What the laws ask first: 'awake' gives true. -/
import Derived.Test.YtakbkpcmdmjblaaDo
namespace Go.Proofs.Ytakbkpcmdmjblaa
open Go.RowKit

def GrownTrue (w : World) (e : Ending) (w' : World) : Prop := e = .returned (.bool true) ∧ Below w.heap.size w w'

theorem do_at (k b : Int) (x y : Nat) (v : Nat) (c : Int) (hx : x < 18446744073709551616) (hy : y < 18446744073709551616) (hv : doV k b x y = v) (hc : doC k b y = c) (X Y : Int) (eX : X = x) (eY : Y = y) (w : World) :
    Calls Try.prog 12 #[.int .i64 k, .int .i64 b, .int .u64 X, .int .u64 Y] w (DoIs v c w) := by
  subst eX eY
  exact do_any k b x y hx hy v c hv hc w
theorem cut_at (v : Nat) (hv : v < 18446744073709551616) (b : Int) (c : Nat) (hc : cut v b = c) (X : Int) (eX : X = v) (w : World) : Calls Try.prog 16 #[.int .u64 X, .int .i64 b] w fun e w' => e = .returned (.int .u64 c) ∧ w = w' := by
  subst eX; exact cut_any v hv b c hc w
theorem sgn_at (v : Nat) (hv : v < 18446744073709551616) (b : Int) (c : Int) (hc : sgn v b = c) (X : Int) (eX : X = v) (w : World) : Calls Try.prog 18 #[.int .u64 X, .int .i64 b] w fun e w' => e = .returned (.int .i64 c) ∧ w = w' := by
  subst eX; exact sgn_any v hv b c hc w

set_option maxHeartbeats 1000000 in
theorem awake_any (w : World) : Calls Try.prog 11 #[] w (GrownTrue w) := by
  go_enter Try.func11, Try.ntmps11
  go_wp2_with fail
  refine (do_at 1 8 200 100 44 0 (by decide) (by decide) (by decide) (by decide) _ _ rfl rfl _).mono ?_
  rintro e w1 ⟨rfl, hb1⟩
  go_wp2_with fail
  refine (do_at 12 8 200 100 1 0 (by decide) (by decide) (by decide) (by decide) _ _ rfl rfl _).mono ?_
  rintro e w2 ⟨rfl, hb2⟩
  go_wp2_with fail
  refine (do_at 4 8 200 256 0 8 (by decide) (by decide) (by decide) (by decide) _ _ rfl rfl _).mono ?_
  rintro e w3 ⟨rfl, hb3⟩
  go_wp2_with fail
  refine (sgn_at 200 (by decide) _ (-56) (by decide) _ rfl _).mono ?_
  rintro e w' ⟨rfl, rfl⟩
  go_wp2_with fail
  refine (cut_at 300 (by decide) _ 44 (by decide) _ rfl _).mono ?_
  rintro e w' ⟨rfl, rfl⟩
  go_wp2_with fail
  go_ret
  exact ⟨rfl, (hb1.trans (hb2.mono hb1.size)).trans (hb3.mono (Nat.le_trans hb1.size hb2.size))⟩
end Go.Proofs.Ytakbkpcmdmjblaa
