/- Arguments opened: numbers, pairs of numbers, slices of bytes and of 64-bit numbers. -/
import Derived.Test.YtcnhnjbefhgaaaaWrite
import Derived.ProofKit
import Derived.OpenShut
import Derived.WideKeyPair
import Derived.Deep.Slices
import Derived.Lib.SmallJoins
namespace Go.Proofs.Ytcnhnjbefhgaaaa
open Go.RowKit Go.ChangeShapes Go.WideShapes Go.Deep Go.Joins

theorem nat_u64 {x : Int} (h : (Lit.int .u64 x).wf = true) : ∃ n : Nat, x = n ∧ n < 18446744073709551616 := by
  have e1 : IntKind.u64.min = 0 := by decide
  have e2 : IntKind.u64.max = 18446744073709551615 := by decide
  simp [Lit.wf, e1, e2] at h
  exact ⟨x.toNat, by omega, by omega⟩
theorem nat_u16 {x : Int} (h : (Lit.int .u16 x).wf = true) : ∃ n : Nat, x = n ∧ n < 65536 := by
  have e1 : IntKind.u16.min = 0 := by decide
  have e2 : IntKind.u16.max = 65535 := by decide
  simp [Lit.wf, e1, e2] at h
  exact ⟨x.toNat, by omega, by omega⟩
theorem nat_u8 {x : Int} (h : (Lit.int .u8 x).wf = true) : ∃ n : Nat, x = n ∧ n < 256 := by
  have e1 : IntKind.u8.min = 0 := by decide
  have e2 : IntKind.u8.max = 255 := by decide
  simp [Lit.wf, e1, e2] at h
  exact ⟨x.toNat, by omega, by omega⟩
theorem cell_lt {w : World} {p : Addr} {v : Value} (h : w.cell? p = some v) : p.block < w.heap.size := by
  rcases Nat.lt_or_ge p.block w.heap.size with hlt | hge
  · exact hlt
  · unfold World.cell? at h
    rw [Array.getElem?_eq_none hge] at h
    simp at h
section
variable {H : Type} {enc : TypeId × Value → H} {w : World} {base : Nat} {spare : Nat → Bool} {held : Bool}
theorem cells5 : Try.prog.cellsOf 5 = 1 := by kernel_rfl
theorem cells33 : Try.prog.cellsOf 33 = 1 := by kernel_rfl
theorem arr56 : Go.WideMaps.ArrKey Try.prog 56 52 2 := ⟨Try.underlying56, by kernel_rfl, by kernel_rfl, by kernel_rfl⟩
theorem arr59 : Go.WideMaps.ArrKey Try.prog 59 5 2 := ⟨Try.underlying59, by kernel_rfl, by kernel_rfl, by kernel_rfl⟩

/-- a list of naturals for the first n of these -/
def nats (zs : List Int) (n : Nat) : List Nat := (List.range n).map fun i => (zs.getD i 0).toNat
theorem nats_at (zs : List Int) (n j : Nat) (f : Nat → Value) (u : Value) (h : ((nats zs n).map f)[j]? = some u) : j < n ∧ u = f (zs.getD j 0).toNat := by
  have hj : j < n := by
    rcases Nat.lt_or_ge j n with hlt | hge
    · exact hlt
    · rw [List.getElem?_eq_none (by simpa [nats] using hge)] at h; cases h
  refine ⟨hj, ?_⟩
  simp [nats, List.getElem?_map, List.getElem?_range hj] at h
  exact h.symm

theorem open_bytes {v : Value} {d : DataW H} {p : List MemPlace} (h : DataW.Trod enc Try.prog w base spare held 22 v d p) (hv : ∃ a len cap, v = .slice a len cap) :
    ∃ (A : Option Addr) (cap : Nat) (bs : List Nat), v = .slice A bs.length cap ∧ bs.length ≤ 9223372036854775807 ∧ Octets bs ∧ (A = none → bs.length = 0 ∧ cap = 0) ∧ Lies w (fun i => i < w.heap.size) A (bs.map bv) := by
  obtain ⟨a0, len0, cap0, rfl⟩ := hv
  obtain ⟨fuel, hf⟩ := h
  rcases open_ints Try.underlying22 Try.underlying5 cells5 hf with ⟨hcs, _⟩ | ⟨a, len, cap, zs, hcs, _, hl, hm, hz, _, hcell, hwz⟩
  · simp [Value.cells] at hcs
    obtain ⟨rfl, rfl, rfl⟩ := hcs
    exact ⟨none, 0, [], rfl, by simp, fun c hc => absurd hc (by simp), fun _ => ⟨rfl, rfl⟩, fun h => absurd h (by simp)⟩
  · simp [Value.cells] at hcs
    obtain ⟨rfl, rfl, rfl⟩ := hcs
    have hlz : len0 ≤ zs.length := by rw [hz]; split <;> omega
    have hn : (nats zs len0).length = len0 := by simp [nats]
    have hb : ∀ i, i < len0 → ∃ n : Nat, zs.getD i 0 = n ∧ n < 256 := fun i hi => nat_u8 (hwz (zs.getD i 0) (by simp [List.getD, List.getElem?_eq_getElem (show i < zs.length by omega)]))
    refine ⟨some a, cap0, nats zs len0, by rw [hn], by unfold maxLen at hm; omega, fun c hc => ?_, (fun h => by cases h), fun h0 => ?_⟩
    · simp [nats] at hc
      obtain ⟨i, hi, rfl⟩ := hc
      obtain ⟨n, e, hn⟩ := hb i hi
      simp only [List.getD] at e
      rw [e]
      simpa using hn
    · obtain ⟨b, off, rfl, hc⟩ := ints_at hcell (by simp [nats] at h0; omega)
      refine ⟨b, off, rfl, cell_lt (hc 0 (by simp [nats] at h0; omega)), fun j u hu => ?_⟩
      obtain ⟨hj, rfl⟩ := nats_at _ _ _ _ _ hu
      obtain ⟨n, e, _⟩ := hb j hj
      rw [hc j (by omega), e]
      rfl
theorem open_words {v : Value} {d : DataW H} {p : List MemPlace} (h : DataW.Trod enc Try.prog w base spare held 34 v d p) (hv : ∃ a len cap, v = .slice a len cap) :
    ∃ (A : Option Addr) (cap : Nat) (vs : List Nat), v = .slice A vs.length cap ∧ vs.length ≤ 9223372036854775807 ∧ (∀ c ∈ vs, c < 18446744073709551616) ∧ Lies w (fun i => i < w.heap.size) A (vs.map uv) := by
  obtain ⟨a0, len0, cap0, rfl⟩ := hv
  obtain ⟨fuel, hf⟩ := h
  rcases open_ints Try.underlying34 Try.underlying33 cells33 hf with ⟨hcs, _⟩ | ⟨a, len, cap, zs, hcs, _, hl, hm, hz, _, hcell, hwz⟩
  · simp [Value.cells] at hcs
    obtain ⟨rfl, rfl, rfl⟩ := hcs
    exact ⟨none, 0, [], rfl, by simp, fun c hc => absurd hc (by simp), fun h => absurd h (by simp)⟩
  · simp [Value.cells] at hcs
    obtain ⟨rfl, rfl, rfl⟩ := hcs
    have hlz : len0 ≤ zs.length := by rw [hz]; split <;> omega
    have hn : (nats zs len0).length = len0 := by simp [nats]
    have hb : ∀ i, i < len0 → ∃ n : Nat, zs.getD i 0 = n ∧ n < 18446744073709551616 := fun i hi => nat_u64 (hwz (zs.getD i 0) (by simp [List.getD, List.getElem?_eq_getElem (show i < zs.length by omega)]))
    refine ⟨some a, cap0, nats zs len0, by rw [hn], by unfold maxLen at hm; omega, fun c hc => ?_, fun h0 => ?_⟩
    · simp [nats] at hc
      obtain ⟨i, hi, rfl⟩ := hc
      obtain ⟨n, e, hn⟩ := hb i hi
      simp only [List.getD] at e
      rw [e]
      simpa using hn
    · obtain ⟨b, off, rfl, hc⟩ := ints_at hcell (by simp [nats] at h0; omega)
      refine ⟨b, off, rfl, cell_lt (hc 0 (by simp [nats] at h0; omega)), fun j u hu => ?_⟩
      obtain ⟨hj, rfl⟩ := nats_at _ _ _ _ _ hu
      obtain ⟨n, e, _⟩ := hb j hj
      rw [hc j (by omega), e]
      rfl
end
end Go.Proofs.Ytcnhnjbefhgaaaa
