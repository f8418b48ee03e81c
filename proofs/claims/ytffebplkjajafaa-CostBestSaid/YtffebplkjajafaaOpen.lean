/- An argument that is a slice of nodes, opened: its kinds and how many values each has. -/
import Derived.Test.YtffebplkjajafaaTrees
import Derived.ProofKit
import Derived.Deep.Slices
import Derived.Lib.SmallJoins
namespace Go.Proofs.Ytffebplkjajafaa
open Go.RowKit Go.ChangeShapes Go.WideShapes Go.Deep Go.Joins

theorem list_of {α : Type} (d : α) {P : Nat → α → Prop} : ∀ (n : Nat), (∀ i, i < n → ∃ x, P i x) → ∃ l : List α, l.length = n ∧ ∀ i, i < n → P i (l.getD i d)
  | 0, _ => ⟨[], rfl, fun i hi => absurd hi (Nat.not_lt_zero _)⟩
  | n + 1, h => by
    obtain ⟨l, hl, hP⟩ := list_of d n (fun i hi => h i (by omega))
    obtain ⟨x, hx⟩ := h n (by omega)
    refine ⟨l ++ [x], by simp [hl], fun i hi => ?_⟩
    by_cases c : i < n
    · have := hP i c
      simp only [List.getD, List.getElem?_append_left (show i < l.length by omega)] at this ⊢
      exact this
    · obtain rfl : i = n := by omega
      simp only [List.getD, List.getElem?_append_right (show l.length ≤ i by omega), hl, Nat.sub_self, List.getElem?_cons_zero, Option.getD_some]
      exact hx

theorem cell_lt {w : World} {p : Addr} {v : Value} (h : w.cell? p = some v) : p.block < w.heap.size := by
  rcases Nat.lt_or_ge p.block w.heap.size with hlt | hge
  · exact hlt
  · unfold World.cell? at h
    rw [Array.getElem?_eq_none hge] at h
    simp at h

section
variable {H : Type} {enc : TypeId × Value → H} {w : World} {base : Nat} {spare : Nat → Bool} {held : Bool}

theorem cells3 : Try.prog.cellsOf 3 = 1 := by kernel_rfl
theorem cells28 : Try.prog.cellsOf 28 = 1 := by kernel_rfl

theorem open_nodes {v : Value} {d : DataW H} {p : List MemPlace} (h : DataW.Trod enc Try.prog w base spare held 22 v d p) (hv : ∃ a len cap, v = .slice a len cap) :
    ∃ (A : Option Addr) (cap : Nat) (l : List (Int × Nat)), v = .slice A l.length cap ∧ l.length ≤ 9223372036854775807 ∧ Nds w w.heap.size A l := by
  obtain ⟨a0, len0, cap0, rfl⟩ := hv
  obtain ⟨fuel, hf⟩ := h
  rcases open_slice Try.underlying22 hf with ⟨hcs, _⟩ | ⟨a, len, cap, m, n, D, Pl, hcs, _, hl, hm, hmm, _, hel⟩
  · simp [Value.cells] at hcs
    obtain ⟨rfl, rfl, rfl⟩ := hcs
    exact ⟨none, 0, [], rfl, by simp, fun h => absurd h (by simp)⟩
  · simp [Value.cells] at hcs
    obtain ⟨rfl, rfl, rfl⟩ := hcs
    have hlm : len0 ≤ m := by rw [hmm]; split <;> omega
    have hspot : 0 < len0 → a.spot = none := by
      intro h0
      obtain ⟨cs', hc, _⟩ := hel 0 (by omega)
      rw [cells30] at hc
      obtain ⟨_, hcl, hat⟩ := World.cells?_some hc
      have h1 := hat 0 (by omega)
      rw [List.getElem?_eq_getElem (by omega)] at h1
      simpa [Addr.add] using World.cell?_spot h1
    obtain ⟨l, hll, hP⟩ := list_of (P := fun i (x : Int × Nat) => ∃ p c q m' d', w.cell? ⟨a.block, a.off + i * 3, none⟩ = some (.int .i64 x.1) ∧ w.cell? ⟨a.block, a.off + i * 3 + 1, none⟩ = some (.slice p x.2 c) ∧ w.cell? ⟨a.block, a.off + i * 3 + 2, none⟩ = some (.slice q m' d')) ((0, 0) : Int × Nat) len0 (fun i hi => by
      obtain ⟨cs', hc, ht⟩ := hel i (by omega)
      rw [cells30] at hc
      obtain ⟨_, hcl, hat⟩ := World.cells?_some hc
      obtain ⟨xs, n', _, _, _, _, hg⟩ := DataW.trod_struct Try.underlying30 ht
      match cs', hcl with
      | [c0, c1, c2], _ =>
        have g0 : DataW.trod enc Try.prog w base spare held n' 3 (([c0, c1, c2].drop 0).take (Try.prog.cellsOf 3)) = xs[0]? := hg 0 _ rfl
        have g1 : DataW.trod enc Try.prog w base spare held n' 28 (([c0, c1, c2].drop 1).take (Try.prog.cellsOf 28)) = xs[1]? := hg 1 _ rfl
        have g2 : DataW.trod enc Try.prog w base spare held n' 28 (([c0, c1, c2].drop 2).take (Try.prog.cellsOf 28)) = xs[2]? := hg 2 _ rfl
        simp only [cells3, cells28] at g0 g1 g2
        obtain ⟨y0, e0⟩ : ∃ y, xs[0]? = some y := by
          rw [List.getElem?_eq_getElem]
          · exact ⟨_, rfl⟩
          · simp_all
        obtain ⟨y1, e1⟩ : ∃ y, xs[1]? = some y := by
          rw [List.getElem?_eq_getElem]
          · exact ⟨_, rfl⟩
          · simp_all
        obtain ⟨y2, e2⟩ : ∃ y, xs[2]? = some y := by
          rw [List.getElem?_eq_getElem]
          · exact ⟨_, rfl⟩
          · simp_all
        rw [e0] at g0
        rw [e1] at g1
        rw [e2] at g2
        obtain ⟨K, k0, _, _⟩ := DataW.trod_int Try.underlying3 g0
        obtain ⟨p, N, c, k1⟩ := slice_form Try.underlying28 g1
        obtain ⟨q, m', d', k2⟩ := slice_form Try.underlying28 g2
        simp at k0 k1 k2
        subst k0 k1 k2
        have hs := hspot (by omega)
        obtain ⟨ab, ao, asp⟩ := a
        simp only at hs
        subst hs
        refine ⟨(K, N), p, c, q, m', d', ?_, ?_, ?_⟩
        · have := hat 0 (by omega)
          rw [Go.WideShapes.add_plain, Go.WideShapes.add_plain] at this
          simpa using this
        · have := hat 1 (by omega)
          rw [Go.WideShapes.add_plain, Go.WideShapes.add_plain] at this
          simpa using this
        · have := hat 2 (by omega)
          rw [Go.WideShapes.add_plain, Go.WideShapes.add_plain] at this
          simpa using this)
    subst hll
    refine ⟨some a, cap0, l, rfl, by unfold maxLen at hm; omega, fun h0 => ?_⟩
    have hs := hspot h0
    obtain ⟨ab, ao, asp⟩ := a
    simp only at hs
    subst hs
    obtain ⟨_, _, _, _, _, k1, _⟩ := hP 0 h0
    exact ⟨ab, ao, rfl, cell_lt k1, hP⟩
end
end Go.Proofs.Ytffebplkjajafaa
