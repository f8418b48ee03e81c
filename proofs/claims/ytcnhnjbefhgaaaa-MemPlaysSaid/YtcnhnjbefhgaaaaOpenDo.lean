/- Arguments opened: a slice of 64-bit numbers with its capacity, a step ('Do'), a slice of steps. -/
import Derived.Test.YtcnhnjbefhgaaaaOpen
namespace Go.Proofs.Ytcnhnjbefhgaaaa
open Go.RowKit Go.ChangeShapes Go.WideShapes Go.Deep Go.Joins

section
variable {H : Type} {enc : TypeId × Value → H} {w : World} {base : Nat} {spare : Nat → Bool} {held : Bool}
/-- what is known of a slice of numbers -/
structure WordsAt (w : World) (A : Option Addr) (cap : Nat) (vs : List Nat) : Prop where
  len : vs.length ≤ cap
  most : cap ≤ 9223372036854775807
  lt : ∀ c ∈ vs, c < 18446744073709551616
  lies : Lies w (fun i => i < w.heap.size) A (vs.map uv)

theorem words_of {fuel : Nat} {cs : List Value} {x : DataW H × List MemPlace} (hf : DataW.trod enc Try.prog w base spare held fuel 34 cs = some x) :
    ∃ (A : Option Addr) (cap : Nat) (vs : List Nat), cs = [.slice A vs.length cap] ∧ WordsAt w A cap vs := by
  rcases open_ints Try.underlying34 Try.underlying33 cells33 hf with ⟨hcs, _⟩ | ⟨a, len0, cap0, zs, hcs, _, hl, hm, hz, _, hcell, hwz⟩
  · exact ⟨none, 0, [], hcs, Nat.le_refl _, by decide, fun c hc => absurd hc (by simp), fun h => absurd h (by simp)⟩
  · have hlz : len0 ≤ zs.length := by rw [hz]; split <;> omega
    have hn : (nats zs len0).length = len0 := by simp [nats]
    have hb : ∀ i, i < len0 → ∃ n : Nat, zs.getD i 0 = n ∧ n < 18446744073709551616 := fun i hi => nat_u64 (hwz (zs.getD i 0) (by simp [List.getD, List.getElem?_eq_getElem (show i < zs.length by omega)]))
    refine ⟨some a, cap0, nats zs len0, by rw [hn]; exact hcs, by rw [hn]; exact hl, by unfold maxLen at hm; omega, fun c hc => ?_, fun h0 => ?_⟩
    · simp [nats] at hc
      obtain ⟨i, hi, rfl⟩ := hc
      obtain ⟨n, e, hn⟩ := hb i hi
      simp only [List.getD] at e
      rw [e]
      simpa using hn
    · obtain ⟨b, off, rfl, hc⟩ := ints_at hcell (by simp [nats] at h0; omega)
      refine ⟨b, off, rfl, cell_lt (hc 0 (by simp [nats] at h0; omega)), fun j u hu => ?_⟩
      obtain ⟨hj, rfl⟩ := nats_at _ _ _ _ _ hu
      obtain ⟨n, e, _⟩ := hb j hj
      rw [hc j (by omega), e]
      rfl
theorem open_words2 {v : Value} {d : DataW H} {p : List MemPlace} (h : DataW.Trod enc Try.prog w base spare held 34 v d p) (hv : ∃ a len cap, v = .slice a len cap) :
    ∃ (A : Option Addr) (cap : Nat) (vs : List Nat), v = .slice A vs.length cap ∧ WordsAt w A cap vs := by
  obtain ⟨a0, len0, cap0, rfl⟩ := hv
  obtain ⟨fuel, hf⟩ := h
  obtain ⟨A, cap, vs, hcs, hw⟩ := words_of hf
  simp [Value.cells] at hcs
  obtain ⟨rfl, rfl, rfl⟩ := hcs
  exact ⟨_, _, _, rfl, hw⟩

/-- a step's cells -/
structure DoV where
  wr : Bool
  at_ : Nat
  bits : Int
  n : Int
  A : Option Addr
  cap : Nat
  vs : List Nat
instance : Inhabited DoV := ⟨⟨false, 0, 0, 0, none, 0, []⟩⟩
def dvs (d : DoV) : List Value := [.bool d.wr, .int .u64 d.at_, .int .i64 d.bits, .int .i64 d.n, .slice d.A d.vs.length d.cap]
/-- a step that is one -/
structure DoAt (w : World) (d : DoV) : Prop where
  at_lt : d.at_ < 18446744073709551616
  bits : -9223372036854775808 ≤ d.bits ∧ d.bits ≤ 9223372036854775807
  n : -9223372036854775808 ≤ d.n ∧ d.n ≤ 9223372036854775807
  words : WordsAt w d.A d.cap d.vs

theorem int_i64 {x : Int} (h : (Lit.int .i64 x).wf = true) : -9223372036854775808 ≤ x ∧ x ≤ 9223372036854775807 := by
  have e1 : IntKind.i64.min = -9223372036854775808 := by decide
  have e2 : IntKind.i64.max = 9223372036854775807 := by decide
  simp [Lit.wf, e1, e2] at h
  exact h
theorem cells36 : Try.prog.cellsOf 36 = 5 := by kernel_rfl
theorem cells4 : Try.prog.cellsOf 4 = 1 := by kernel_rfl
theorem cells3 : Try.prog.cellsOf 3 = 1 := by kernel_rfl
theorem cells34 : Try.prog.cellsOf 34 = 1 := by kernel_rfl

theorem do_of {fuel : Nat} {cs : List Value} {x : DataW H × List MemPlace} (hf : DataW.trod enc Try.prog w base spare held fuel 36 cs = some x) :
    ∃ d : DoV, cs = dvs d ∧ DoAt w d := by
  obtain ⟨xs, n, _, _, hlen, hxs, hfs⟩ := DataW.trod_struct Try.underlying36 hf
  rw [cells36] at hlen
  match cs, hlen, xs, hxs with
  | [c0, c1, c2, c3, c4], _, [x0, x1, x2, x3, x4], _ =>
    have f0 := hfs 0 _ rfl
    have f1 := hfs 1 _ rfl
    have f2 := hfs 2 _ rfl
    have f3 := hfs 3 _ rfl
    have f4 := hfs 4 _ rfl
    simp [cells4, cells3, cells33, cells34] at f0 f1 f2 f3 f4
    obtain ⟨b, e0, _⟩ := DataW.trod_bool Try.underlying4 f0
    obtain ⟨a, e1, _, wa⟩ := DataW.trod_int Try.underlying33 f1
    obtain ⟨bi, e2, _, wb⟩ := DataW.trod_int Try.underlying3 f2
    obtain ⟨k, e3, _, wk⟩ := DataW.trod_int Try.underlying3 f3
    obtain ⟨A, cap, vs, e4, hw⟩ := words_of f4
    simp at e0 e1 e2 e3 e4
    subst e0 e1 e2 e3 e4
    obtain ⟨a, rfl, ha⟩ := nat_u64 wa
    exact ⟨⟨b, a, bi, k, A, cap, vs⟩, rfl, ha, int_i64 wb, int_i64 wk, hw⟩
theorem open_do {v : Value} {d : DataW H} {p : List MemPlace} {r : Reach} {b0 : Nat} (hval : Value.okWide Try.prog w r b0 36 v) (h : DataW.Trod enc Try.prog w base spare held 36 v d p) :
    ∃ d : DoV, v = .agg #[.bool d.wr, .int .u64 d.at_, .int .i64 d.bits, .int .i64 d.n, .slice d.A d.vs.length d.cap] ∧ DoAt w d := by
  simp only [Value.okWide, Try.underlying36] at hval
  obtain ⟨cs, rfl, _, _⟩ := hval
  obtain ⟨fuel, hf⟩ := h
  obtain ⟨d, e, hd⟩ := do_of hf
  refine ⟨d, ?_, hd⟩
  obtain ⟨l⟩ := cs
  simp [Value.cells, dvs] at e
  rw [e]

/-- a slice of steps: each lies there -/
structure DosAt (w : World) (A : Option Addr) (ds : List DoV) : Prop where
  each : ∀ d ∈ ds, DoAt w d
  lies : ∀ i, i < ds.length → ∃ b off, A = some ⟨b, off, none⟩ ∧ b < w.heap.size ∧ ∀ j u, (dvs (ds.getD i default))[j]? = some u → w.cell? ⟨b, off + i * 5 + j, none⟩ = some u
theorem open_dos {v : Value} {d : DataW H} {p : List MemPlace} (h : DataW.Trod enc Try.prog w base spare held 23 v d p) (hv : ∃ a len cap, v = .slice a len cap) :
    ∃ (A : Option Addr) (cap : Nat) (ds : List DoV), v = .slice A ds.length cap ∧ ds.length ≤ 9223372036854775807 ∧ DosAt w A ds := by
  obtain ⟨a0, len0, cap0, rfl⟩ := hv
  obtain ⟨fuel, hf⟩ := h
  rcases open_slice Try.underlying23 hf with ⟨hcs, _⟩ | ⟨a, len, cap, m, n, D, Pl, hcs, _, hl, hm, hmm, _, hx⟩
  · simp [Value.cells] at hcs
    obtain ⟨rfl, rfl, rfl⟩ := hcs
    exact ⟨none, 0, [], rfl, by decide, fun d hd => absurd hd (by simp), fun i hi => absurd hi (by simp)⟩
  · simp [Value.cells] at hcs
    obtain ⟨rfl, rfl, rfl⟩ := hcs
    have hlm : len0 ≤ m := by rw [hmm]; split <;> omega
    have each : ∀ i, i < len0 → ∃ d : DoV, DoAt w d ∧ ∀ j u, (dvs d)[j]? = some u → w.cell? (a.add (i * 5 + j)) = some u := by
      intro i hi
      obtain ⟨cs', h1, h2⟩ := hx i (by omega)
      rw [cells36] at h1
      obtain ⟨_, hlen, hcell⟩ := World.cells?_some h1
      obtain ⟨d, rfl, hd⟩ := do_of h2
      refine ⟨d, hd, fun j u hu => ?_⟩
      have hj : j < 5 := by
        rcases Nat.lt_or_ge j 5 with hj | hj
        · exact hj
        · rw [List.getElem?_eq_none (by simpa [dvs] using hj)] at hu; cases hu
      rw [← add_add, hcell j hj, hu]
    obtain ⟨f, hfd⟩ := choose_lt each
    have hlen : ((List.range len0).map f).length = len0 := by simp
    have hat : ∀ i, i < len0 → ((List.range len0).map f).getD i default = f i := by
      intro i hi
      simp [List.getD, List.getElem?_range hi]
    refine ⟨some a, cap0, (List.range len0).map f, by rw [hlen], by rw [hlen]; unfold maxLen at hm; omega, fun d hd => ?_, fun i hi => ?_⟩
    · simp at hd
      obtain ⟨i, hi, rfl⟩ := hd
      exact (hfd i hi).1
    · rw [hlen] at hi
      rw [hat i hi]
      have c0 := (hfd i hi).2 0 _ rfl
      obtain ⟨b, off, spot⟩ := a
      have hspot : spot = none := by
        have := World.cell?_spot ((hfd 0 (by omega)).2 0 _ rfl)
        simpa [Addr.add] using this
      subst hspot
      rw [add_plain] at c0
      refine ⟨b, off, rfl, cell_lt c0, fun j u hu => ?_⟩
      have := (hfd i hi).2 j u hu
      rw [add_plain] at this
      rw [Nat.add_assoc]
      exact this
end
end Go.Proofs.Ytcnhnjbefhgaaaa
