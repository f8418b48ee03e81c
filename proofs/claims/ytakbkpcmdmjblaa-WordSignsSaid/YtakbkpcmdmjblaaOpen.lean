/- A 64-bit argument as a natural number; a case opened. -/
import Derived.Test.YtakbkpcmdmjblaaLeaf
import Derived.ProofKit
import Derived.OpenShut
import Derived.Lib.SmallJoins
namespace Go.Proofs.Ytakbkpcmdmjblaa
open Go.RowKit Go.ChangeShapes Go.WideShapes Go.Joins

theorem nat_u64 {x : Int} (h : (Lit.int .u64 x).wf = true) : ∃ n : Nat, x = n ∧ n < 18446744073709551616 := by
  have e1 : IntKind.u64.min = 0 := by decide
  have e2 : IntKind.u64.max = 18446744073709551615 := by decide
  simp [Lit.wf, e1, e2] at h
  exact ⟨x.toNat, by omega, by omega⟩
section
variable {H : Type} {enc : TypeId × Value → H} {w : World} {base b0 : Nat} {spare : Nat → Bool} {held : Bool} {r : Reach}
theorem open_case {v : Value} {d : DataW H} {p : List MemPlace} (hv : Value.okWide Try.prog w r b0 24 v) (h : DataW.Trod enc Try.prog w base spare held 24 v d p) :
    ∃ (k b : Int) (x : Nat), v = .agg #[.int .i64 k, .int .i64 b, .int .u64 x] ∧ x < 18446744073709551616 := by
  obtain ⟨v0, v1, v2, y0, y1, y2, n, rfl, _, _, t0, t1, t2⟩ := open_agg3 Try.underlying24 (by kernel_rfl) (by kernel_rfl) hv h
  obtain ⟨k, e0, _, _⟩ := DataW.trod_int Try.underlying3 t0
  obtain ⟨b, e1, _, _⟩ := DataW.trod_int Try.underlying3 t1
  obtain ⟨x, e2, _, wx⟩ := DataW.trod_int Try.underlying22 t2
  simp at e0 e1 e2
  subst e0 e1 e2
  obtain ⟨n, rfl, hn⟩ := nat_u64 wx
  exact ⟨k, b, n, rfl, hn⟩
end
end Go.Proofs.Ytakbkpcmdmjblaa
