/- Nodes appended to a slice of the call's own. -/
import Derived.Test.YtffebplkjajafaaTellsWalk
import Derived.Test.YtffebplkjajafaaOpen
import Derived.Maps.AppendAt
import Derived.Deep.AppendLies
namespace Go.Proofs.Ytffebplkjajafaa
open Go.RowKit

/-- the cells of the nodes l -/
def NC (l : List (Int × Nat)) (xs : List Value) : Prop :=
  xs.length = l.length * 3 ∧ (∀ u ∈ xs, u.oneCell' = true) ∧ ∀ i, i < l.length → ∃ p c q m d, xs[i * 3]? = some (.int .i64 (l.getD i (0, 0)).1) ∧ xs[i * 3 + 1]? = some (.slice p (l.getD i (0, 0)).2 c) ∧ xs[i * 3 + 2]? = some (.slice q m d)

theorem NC.nil : NC [] [] := ⟨rfl, by simp, fun i hi => absurd hi (by simp)⟩
theorem NC.app {l m : List (Int × Nat)} {xs ys : List Value} (h : NC l xs) (k : NC m ys) : NC (l ++ m) (xs ++ ys) := by
  have hx := h.1
  refine ⟨by simp [h.1, k.1, Nat.add_mul], fun u hu => ?_, fun i hi => ?_⟩
  · rcases List.mem_append.1 hu with hu | hu
    · exact h.2.1 u hu
    · exact k.2.1 u hu
  · by_cases hl : i < l.length
    · obtain ⟨p, c, q, m', d, h1, h2, h3⟩ := h.2.2 i hl
      refine ⟨p, c, q, m', d, ?_, ?_, ?_⟩
      · rw [List.getElem?_append_left (by omega), h1]; simp [List.getD, List.getElem?_append_left hl]
      · rw [List.getElem?_append_left (by omega), h2]; simp [List.getD, List.getElem?_append_left hl]
      · rw [List.getElem?_append_left (by omega), h3]
    · have hi' : i - l.length < m.length := by simp at hi; omega
      obtain ⟨p, c, q, m', d, h1, h2, h3⟩ := k.2.2 (i - l.length) hi'
      refine ⟨p, c, q, m', d, ?_, ?_, ?_⟩
      · rw [List.getElem?_append_right (by omega), show i * 3 - xs.length = (i - l.length) * 3 by omega, h1]; simp [List.getD, List.getElem?_append_right (show l.length ≤ i by omega)]
      · rw [List.getElem?_append_right (by omega), show i * 3 + 1 - xs.length = (i - l.length) * 3 + 1 by omega, h2]; simp [List.getD, List.getElem?_append_right (show l.length ≤ i by omega)]
      · rw [List.getElem?_append_right (by omega), show i * 3 + 2 - xs.length = (i - l.length) * 3 + 2 by omega, h3]
theorem NC.one (K : Int) (N c : Nat) (p q : Option Addr) (m d : Nat) : NC [(K, N)] [.int .i64 K, .slice p N c, .slice q m d] := by
  refine ⟨rfl, ?_, fun i hi => ?_⟩
  · intro u hu
    simp at hu
    rcases hu with rfl | rfl | rfl <;> rfl
  · obtain rfl : i = 0 := by simp at hi; omega
    exact ⟨p, c, q, m, d, rfl, rfl, rfl⟩

theorem nc_of {P : Nat → Value × Value × Value → Prop} (l : List (Int × Nat)) (h : ∀ i, i < l.length → ∃ p c q m d, P i (.int .i64 (l.getD i (0, 0)).1, .slice p (l.getD i (0, 0)).2 c, .slice q m d)) :
    ∃ xs, NC l xs ∧ ∀ j u, xs[j]? = some u → ∃ i t, i < l.length ∧ P i t ∧ ((j = i * 3 ∧ u = t.1) ∨ (j = i * 3 + 1 ∧ u = t.2.1) ∨ (j = i * 3 + 2 ∧ u = t.2.2)) := by
  induction hn : l.length generalizing l with
  | zero =>
    obtain rfl : l = [] := List.eq_nil_of_length_eq_zero hn
    exact ⟨[], NC.nil, fun j u hu => by simp at hu⟩
  | succ n ih =>
    have hne : l ≠ [] := by intro e; subst e; simp at hn
    obtain ⟨ys, y, rfl⟩ : ∃ ys y, l = ys ++ [y] := ⟨l.dropLast, l.getLast hne, (List.dropLast_concat_getLast hne).symm⟩
    have hy : ys.length = n := by simp at hn; exact hn
    obtain ⟨xs, hxs, hP⟩ := ih ys (fun i hi => by
      obtain ⟨p, c, q, m, d, hp⟩ := h i (by simp; omega)
      refine ⟨p, c, q, m, d, ?_⟩
      simpa [List.getD, List.getElem?_append_left hi] using hp) hy
    obtain ⟨p, c, q, m, d, hp⟩ := h n (by simp; omega)
    have hg : (ys ++ [y]).getD n (0, 0) = y := by simp [List.getD, ← hy]
    rw [hg] at hp
    refine ⟨xs ++ [.int .i64 y.1, .slice p y.2 c, .slice q m d], hxs.app (NC.one y.1 y.2 c p q m d), fun j u hu => ?_⟩
    have hxl := hxs.1
    by_cases hj : j < xs.length
    · rw [List.getElem?_append_left hj] at hu
      obtain ⟨i, t, hi, h1, h2⟩ := hP j u hu
      exact ⟨i, t, by omega, h1, h2⟩
    · rw [List.getElem?_append_right (by omega)] at hu
      have : j - xs.length = 0 ∨ j - xs.length = 1 ∨ j - xs.length = 2 := by
        have := (List.getElem?_eq_some_iff.1 hu).1
        simp at this
        omega
      refine ⟨n, _, by omega, hp, ?_⟩
      rcases this with e | e | e <;> rw [e] at hu <;> simp at hu
      · exact .inl ⟨by omega, hu.symm⟩
      · exact .inr (.inl ⟨by omega, hu.symm⟩)
      · exact .inr (.inr ⟨by omega, hu.symm⟩)

theorem Nds.none_ {w : World} {B : Nat} {A : Option Addr} {l : List (Int × Nat)} (h : Nds w B A l) (e : A = none) : l.length = 0 := by
  rcases Nat.eq_zero_or_pos l.length with h0 | h0
  · exact h0
  · obtain ⟨_, _, hA, _⟩ := h h0
    rw [e] at hA; cases hA

theorem info30 : (Try.prog.info? 30).map (fun i => (i.zero, i.size, i.bytes)) = some (some (.agg #[.int .i64 0, .slice none 0 0, .slice none 0 0]), 3, 56) := by kernel_rfl

theorem nodes_append (w : World) (base : Nat) (ty : TypeId) (v : Value) (n : Nat) (xs : List Value) (hown : w.ownsRow base 30 3 v n xs) (B : Nat) (A : Option Addr) (cap : Nat) (l : List (Int × Nat)) (hl : Nds w B A l)
    (hA : A = none → l.length = 0) (hn : n + l.length ≤ 4000) (hbase : base ≤ w.heap.size) :
    ∃ v' w' news, (Builtin.append_ #[22, 22] ty #[v, .slice A l.length cap]).run Try.prog w = .ok v' w' ∧ NC l news ∧ w'.ownsRow base 30 3 v' (n + l.length) (xs ++ news) ∧ w.grownBy w' v.ownBlock ∧
      (v'.ownBlock = v.ownBlock ∨ v'.ownBlock = some w.heap.size) := by
  obtain ⟨i0, hi, hz, hs, hb⟩ := info_parts info30
  rcases A with _ | ad
  · have h0 := hA rfl
    obtain rfl : l = [] := List.eq_nil_of_length_eq_zero h0
    refine ⟨v, w, [], ?_, NC.nil, by simpa using hown, World.grownBy.refl w _, .inl rfl⟩
    rcases hown.2 with ⟨rfl, rfl⟩ | ⟨g, cap, cur, rfl, _, _, hnc, _⟩
    · simp [Builtin.append_, run_underlying Try.underlying22, sizeOf, typeInfo, hi, Builtin.lenOf, Builtin.firstCells]
    · simp [Builtin.append_, run_underlying Try.underlying22, sizeOf, typeInfo, hi, Builtin.lenOf, Builtin.firstCells, hnc, storeCells]
  · obtain ⟨news, hnc, hP⟩ := nc_of (P := fun i t => w.cell? (ad.add (i * 3)) = some t.1 ∧ w.cell? (ad.add (i * 3 + 1)) = some t.2.1 ∧ w.cell? (ad.add (i * 3 + 2)) = some t.2.2) l (fun i hi => by
      obtain ⟨b, off, hA', _, hc⟩ := hl (by omega)
      obtain ⟨p, c, q, m, d, h1, h2, h3⟩ := hc i hi
      injection hA' with hA'
      subst hA'
      exact ⟨p, c, q, m, d, by rw [Go.WideShapes.add_plain]; exact h1, by rw [Go.WideShapes.add_plain]; exact h2, by rw [Go.WideShapes.add_plain]; exact h3⟩)
    obtain ⟨v', w', hr, h2, h3, _, h5⟩ := run_append_own_at (P := Try.prog) w base 22 ty 30 i0 _ 3 56 Try.underlying22 hi hz hs hb rfl (by omega) v n xs hown ad l.length cap news hnc.1
      (fun j u hu => by
        obtain ⟨i, t, _, ⟨h1, h2, h3⟩, h4⟩ := hP j u hu
        rcases h4 with ⟨rfl, rfl⟩ | ⟨rfl, rfl⟩ | ⟨rfl, rfl⟩
        · exact h1
        · exact h2
        · exact h3) hnc.2.1 (by unfold maxLen; omega) (by omega) hbase
    exact ⟨v', w', news, hr, hnc, h2, h3, h5⟩

theorem wpList_append_nodes {ops : Array Oper} {rest : List Oper} {o : Oper} {a : Act} {Q : Exit → Act → World → Prop} (w : World) (hgd : o.guard = none) (s x : Operand)
    (ho : o.op = .call { callee := .builtin .append, args := #[s, x], argTypes := #[22, 22] })
    (base : Nat) (v : Value) (n : Nat) (xs : List Value) (hs : a.eval s = v) (hown : w.ownsRow base 30 3 v n xs) (B : Nat) (A : Option Addr) (cap : Nat) (l : List (Int × Nat)) (hx : a.eval x = .slice A l.length cap) (hl : Nds w B A l)
    (hA : A = none → l.length = 0) (hn : n + l.length ≤ 4000) (hbase : base ≤ w.heap.size)
    (h : ∀ v' w' news, NC l news → w'.ownsRow base 30 3 v' (n + l.length) (xs ++ news) → w.grownBy w' v.ownBlock → (v'.ownBlock = v.ownBlock ∨ v'.ownBlock = some w.heap.size) → wpList Try.prog ops Q rest (a.put o.dst v') w') :
    wpList Try.prog ops Q (o :: rest) a w := by
  refine wpList_plain hgd fun K hK => ?_
  obtain ⟨v', w', news, hr, h1, h2, h3, h4⟩ := nodes_append w base o.type v n xs hown B A cap l hl hA hn hbase
  unfold Oper.wp execOp
  simp only [ho, resolve, invoke, builtin, Sem.run_bind, Sem.run_pure, Result.andThen_ok, List.map_toArray, List.map_cons, List.map_nil, hs, hx, hr]
  exact hK _ _ (h v' w' news h1 h2 h3 h4)

/-- what is owned is a slice of nodes -/
theorem nds_of_own {w : World} {base : Nat} {v : Value} {l : List (Int × Nat)} {xs : List Value} (h : w.ownsRow base 30 3 v l.length xs) (hc : NC l xs) :
    ∃ A cap, v = .slice A l.length cap ∧ Nds w w.heap.size A l ∧ (A = none → l.length = 0) := by
  rcases h.2 with ⟨rfl, h0⟩ | ⟨g, cap, cur, rfl, _, hh, _⟩
  · obtain rfl : l = [] := List.eq_nil_of_length_eq_zero h0
    exact ⟨none, 0, rfl, fun h => absurd h (by simp), fun _ => rfl⟩
  · refine ⟨some ⟨g, 0, none⟩, cap, rfl, fun h0 => ⟨g, 0, rfl, (Array.getElem?_eq_some_iff.1 hh).1, fun i hi => ?_⟩, fun h => by cases h⟩
    obtain ⟨p, c, q, m, d, h1, h2, h3⟩ := hc.2.2 i hi
    have hcell := h.cells (g := g) rfl
    have g1 := hcell _ _ h1
    have g2 := hcell _ _ h2
    have g3 := hcell _ _ h3
    rw [Go.WideShapes.add_plain] at g1 g2 g3
    exact ⟨p, c, q, m, d, g1, g2, g3⟩
end Go.Proofs.Ytffebplkjajafaa
