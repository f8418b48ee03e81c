/- An argument that is a slice of bytes, opened. -/
import Derived.Test.YtffebplkjajafaaGatherWalk
import Derived.OpenShut
namespace Go.Proofs.Ytffebplkjajafaa
open Go.RowKit Go.ChangeShapes Go.WideShapes Go.Deep Go.Joins
section
variable {H : Type} {enc : TypeId × Value → H} {w : World} {base : Nat} {spare : Nat → Bool} {held : Bool}
theorem cells5 : Try.prog.cellsOf 5 = 1 := by kernel_rfl
theorem open_octs {v : Value} {d : DataW H} {p : List MemPlace} (h : DataW.Trod enc Try.prog w base spare held 42 v d p) (hv : ∃ a len cap, v = .slice a len cap) :
    ∃ (A : Option Addr) (len cap : Nat), v = .slice A len cap ∧ len ≤ 9223372036854775807 ∧ Octs w w.heap.size A len := by
  obtain ⟨a0, len0, cap0, rfl⟩ := hv
  obtain ⟨fuel, hf⟩ := h
  rcases open_ints Try.underlying42 Try.underlying5 cells5 hf with ⟨hcs, _⟩ | ⟨a, len, cap, zs, hcs, _, hl, hm, hz, _, hcell, hwz⟩
  · simp [Value.cells] at hcs
    obtain ⟨rfl, rfl, rfl⟩ := hcs
    exact ⟨none, 0, 0, rfl, by omega, fun h => absurd h (by simp)⟩
  · simp [Value.cells] at hcs
    obtain ⟨rfl, rfl, rfl⟩ := hcs
    have hlz : len0 ≤ zs.length := by rw [hz]; split <;> omega
    refine ⟨some a, len0, cap0, rfl, by unfold maxLen at hm; omega, fun h0 => ?_⟩
    obtain ⟨b, off, rfl, hc⟩ := ints_at hcell (by omega)
    refine ⟨b, off, rfl, cell_lt (hc 0 (by omega)), fun i hi => ⟨_, hc i (by omega), ?_⟩⟩
    have hi' : i < zs.length := by omega
    have := bounds_u8 (hwz (zs.getD i 0) (by simp [List.getD, List.getElem?_eq_getElem hi']))
    exact this
end
end Go.Proofs.Ytffebplkjajafaa
