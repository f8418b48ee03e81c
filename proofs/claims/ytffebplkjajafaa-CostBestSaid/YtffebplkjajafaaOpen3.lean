/- An argument that is a slice of pairs of 32-bit numbers, opened. -/
import Derived.Test.YtffebplkjajafaaBestWalk
import Derived.Test.YtffebplkjajafaaTurnsWalk
import Derived.OpenShut
namespace Go.Proofs.Ytffebplkjajafaa
open Go.RowKit Go.ChangeShapes Go.WideShapes Go.Deep Go.Joins
section
variable {H : Type} {enc : TypeId × Value → H} {w : World} {base : Nat} {spare : Nat → Bool} {held : Bool}
theorem cells44 : Try.prog.cellsOf 44 = 2 := by kernel_rfl
theorem cells21 : Try.prog.cellsOf 21 = 1 := by kernel_rfl
theorem open_pairs {v : Value} {d : DataW H} {p : List MemPlace} (h : DataW.Trod enc Try.prog w base spare held 46 v d p) (hv : ∃ a len cap, v = .slice a len cap) :
    ∃ (A : Option Addr) (cap : Nat) (l : List (Int × Int)), v = .slice A l.length cap ∧ l.length ≤ 9223372036854775807 ∧ In32 l ∧ Prts w w.heap.size A l := by
  obtain ⟨a0, len0, cap0, rfl⟩ := hv
  obtain ⟨fuel, hf⟩ := h
  rcases open_slice Try.underlying46 hf with ⟨hcs, _⟩ | ⟨a, len, cap, m, n, D, Pl, hcs, _, hl, hm, hmm, _, hel⟩
  · simp [Value.cells] at hcs
    obtain ⟨rfl, rfl, rfl⟩ := hcs
    exact ⟨none, 0, [], rfl, by simp, fun i hi => absurd hi (by simp), fun h => absurd h (by simp)⟩
  · simp [Value.cells] at hcs
    obtain ⟨rfl, rfl, rfl⟩ := hcs
    have hlm : len0 ≤ m := by rw [hmm]; split <;> omega
    have hspot : 0 < len0 → a.spot = none := by
      intro h0
      obtain ⟨cs', hc, _⟩ := hel 0 (by omega)
      rw [cells44] at hc
      obtain ⟨_, hcl, hat⟩ := World.cells?_some hc
      have h1 := hat 0 (by omega)
      rw [List.getElem?_eq_getElem (by omega)] at h1
      simpa [Addr.add] using World.cell?_spot h1
    obtain ⟨l, hll, hP⟩ := list_of (P := fun i (x : Int × Int) => (w.cell? ⟨a.block, a.off + i * 2, none⟩ = some (.int .i32 x.1) ∧ w.cell? ⟨a.block, a.off + i * 2 + 1, none⟩ = some (.int .i32 x.2)) ∧ (-2147483648 ≤ x.1 ∧ x.1 ≤ 2147483647) ∧ (-2147483648 ≤ x.2 ∧ x.2 ≤ 2147483647)) ((0, 0) : Int × Int) len0 (fun i hi => by
      obtain ⟨cs', hc, ht⟩ := hel i (by omega)
      rw [cells44] at hc
      obtain ⟨_, hcl, hat⟩ := World.cells?_some hc
      obtain ⟨xs, n', _, _, _, hxl, hg⟩ := DataW.trod_array Try.underlying44 ht
      match cs', hcl with
      | [c0, c1], _ =>
        have g0 : DataW.trod enc Try.prog w base spare held n' 21 (([c0, c1].drop (0 * Try.prog.cellsOf 21)).take (Try.prog.cellsOf 21)) = xs[0]? := hg 0 (by decide)
        have g1 : DataW.trod enc Try.prog w base spare held n' 21 (([c0, c1].drop (1 * Try.prog.cellsOf 21)).take (Try.prog.cellsOf 21)) = xs[1]? := hg 1 (by decide)
        simp only [cells21] at g0 g1
        have e0 : xs[0]? = some (xs[0]'(by omega)) := List.getElem?_eq_getElem (by omega)
        have e1 : xs[1]? = some (xs[1]'(by omega)) := List.getElem?_eq_getElem (by omega)
        rw [e0] at g0
        rw [e1] at g1
        obtain ⟨X, k0, _, wx⟩ := DataW.trod_int Try.underlying21 g0
        obtain ⟨Y, k1, _, wy⟩ := DataW.trod_int Try.underlying21 g1
        simp at k0 k1
        subst k0 k1
        have hs := hspot (by omega)
        obtain ⟨ab, ao, asp⟩ := a
        simp only at hs
        subst hs
        refine ⟨(X, Y), ⟨?_, ?_⟩, i32_bd wx, i32_bd wy⟩
        · have := hat 0 (by omega)
          rw [Go.WideShapes.add_plain, Go.WideShapes.add_plain] at this
          simpa using this
        · have := hat 1 (by omega)
          rw [Go.WideShapes.add_plain, Go.WideShapes.add_plain] at this
          simpa using this)
    subst hll
    refine ⟨some a, cap0, l, rfl, by unfold maxLen at hm; omega, fun i hi => ?_, fun h0 => ?_⟩
    · obtain ⟨_, h1, h2⟩ := hP i hi
      exact ⟨h1.1, h1.2, h2.1, h2.2⟩
    · have hs := hspot h0
      obtain ⟨ab, ao, asp⟩ := a
      simp only at hs
      subst hs
      exact ⟨ab, ao, rfl, cell_lt (hP 0 h0).1.1, fun i hi => (hP i hi).1⟩
end
end Go.Proofs.Ytffebplkjajafaa
