/- Slices of nodes in memory; what 'small', 'Tree' (both) and 'Seed' give of them. -/
import Derived.Test.YtffebplkjajafaaNode
namespace Go.Proofs.Ytffebplkjajafaa
open Go.RowKit

/-- A slice's address A holds the nodes l: of each its kind and how many values it has. -/
def Nds (w : World) (B : Nat) (A : Option Addr) (l : List (Int × Nat)) : Prop :=
  0 < l.length → ∃ b off, A = some ⟨b, off, none⟩ ∧ b < B ∧ ∀ i, i < l.length → ∃ p c q m d,
    w.cell? ⟨b, off + i * 3, none⟩ = some (.int .i64 (l.getD i (0, 0)).1) ∧ w.cell? ⟨b, off + i * 3 + 1, none⟩ = some (.slice p (l.getD i (0, 0)).2 c) ∧ w.cell? ⟨b, off + i * 3 + 2, none⟩ = some (.slice q m d)

theorem Nds.keep {w w' : World} {B : Nat} {A : Option Addr} {l : List (Int × Nat)} (h : Nds w B A l) (hk : ∀ p : Addr, p.block < B → w'.cell? p = w.cell? p) : Nds w' B A l := by
  intro hl
  obtain ⟨b, off, hA, hb, hc⟩ := h hl
  refine ⟨b, off, hA, hb, fun i hi => ?_⟩
  obtain ⟨p, c, q, m, d, h1, h2, h3⟩ := hc i hi
  exact ⟨p, c, q, m, d, by rw [hk _ hb]; exact h1, by rw [hk _ hb]; exact h2, by rw [hk _ hb]; exact h3⟩
theorem Nds.below {w w' : World} {B : Nat} {A : Option Addr} {l : List (Int × Nat)} (h : Nds w B A l) (hb : Below B w w') : Nds w' B A l := h.keep fun _ hp => hb.cell hp

theorem Nds.more {w : World} {B B' : Nat} {A : Option Addr} {l : List (Int × Nat)} (h : Nds w B A l) (hB : B ≤ B') : Nds w B' A l := by
  intro hl
  obtain ⟨b, off, hA, hb, hc⟩ := h hl
  exact ⟨b, off, hA, by omega, hc⟩
theorem Nds.next {w w' : World} {A : Option Addr} {l : List (Int × Nat)} (h : Nds w w.heap.size A l) (hb : Below w.heap.size w w') : Nds w' w'.heap.size A l := (h.below hb).more hb.size
theorem Nds.at_ {w : World} {B : Nat} {A : Option Addr} {l : List (Int × Nat)} (h : Nds w B A l) {i : Nat} (hi : i < l.length) :
    ∃ b off K N p c q m d, A = some ⟨b, off, none⟩ ∧ b < B ∧ Hid (l.getD i (0, 0) = (K, N)) ∧
    w.cell? ⟨b, off + i * 3, none⟩ = some (.int .i64 K) ∧ w.cell? ⟨b, off + i * 3 + 1, none⟩ = some (.slice p N c) ∧ w.cell? ⟨b, off + i * 3 + 2, none⟩ = some (.slice q m d) := by
  obtain ⟨b, off, hA, hb, hc⟩ := h (by omega)
  obtain ⟨p, c, q, m, d, h1, h2, h3⟩ := hc i hi
  exact ⟨b, off, _, _, p, c, q, m, d, hA, hb, Lib.hid rfl, h1, h2, h3⟩

theorem cells30 : Try.prog.cellsOf 30 = 3 := by kernel_rfl

/-- small enough? -/
def smallB (l : List (Int × Nat)) : Bool := l.all (fun x => decide (x.2 ≤ 1000)) && decide (l.length ≤ 1000)

theorem smallB_not {l : List (Int × Nat)} {k : Nat} (hk : k < l.length) (h : 1000 < (l.getD k (0, 0)).2) : smallB l = false := by
  unfold smallB
  have : l.all (fun x => decide (x.2 ≤ 1000)) = false := by
    rw [List.all_eq_false]
    refine ⟨l[k], List.getElem_mem hk, ?_⟩
    simp [List.getD, List.getElem?_eq_getElem hk] at h
    simpa using h
  rw [this]; rfl
theorem smallB_end {l : List (Int × Nat)} (h : ∀ k, k < l.length → (l.getD k (0, 0)).2 ≤ 1000) : smallB l = decide (l.length ≤ 1000) := by
  unfold smallB
  have : l.all (fun x => decide (x.2 ≤ 1000)) = true := by
    rw [List.all_eq_true]
    intro x hx
    obtain ⟨i, hi, rfl⟩ := List.getElem_of_mem hx
    have := h i hi
    simp [List.getD, List.getElem?_eq_getElem hi] at this
    simpa using this
  rw [this]; rfl

set_option maxHeartbeats 400000 in
theorem small_any (A : Option Addr) (cap : Nat) (l : List (Int × Nat)) (hn : l.length ≤ 9223372036854775807) (w : World) (hl : Nds w w.heap.size A l) :
    Calls Try.prog 9 #[.slice A l.length cap] w fun e w' => e = .returned (.bool (smallB l)) ∧ w = w' := by
  go_enter Try.func9, Try.ntmps9
  go_wp2
  go_loop [3] (fun i => ∃ k : Nat, k ≤ l.length ∧ i = .int .i64 k ∧ ∀ j, j < k → (l.getD j (0, 0)).2 ≤ 1000) (fun i => l.length - (intOf i).toNat)
  case atStart => exact ⟨0, Nat.zero_le _, rfl, fun j hj => absurd hj (Nat.not_lt_zero _)⟩
  case round =>
    obtain ⟨k, hk, rfl, hprev⟩ := hrel
    have HP := Lib.hid hprev
    clear hprev
    by_cases hlt : k < l.length
    · obtain ⟨b, off, K, N, p, c, q, m, d, rfl, hb, HE, h1, h2, h3⟩ := hl.at_ hlt
      have HL := Lib.hid hl
      clear hl
      by_cases hbig : 1000 < N
      · go_wp2
        go_ret
        exact ⟨ret_bool (smallB_not hlt (by rw [HE.out]; exact hbig)).symm, rfl⟩
      · go_wp2
        go_round
        case rel =>
          refine ⟨k + 1, by omega, by go_num, fun j hj => ?_⟩
          by_cases h : j < k
          · exact HP.out j h
          · obtain rfl : j = k := by omega
            rw [HE.out]; exact Nat.not_lt.1 hbig
        case measure => simp [intOf]; omega
    · obtain rfl : k = l.length := by omega
      go_wp2
      go_ret
      exact ⟨ret_bool (by rw [smallB_end HP.out]; show decide _ = _; exact decide_eq_decide.2 (by omega)), rfl⟩

/-- what all spare, and how many there are -/
def tsp (l : List (Int × Nat)) : Int := (l.map fun x => spared x.1 x.2).sum
def tth (l : List (Int × Nat)) : Int := (l.map fun x => there x.1 x.2).sum

theorem spared_bd (k : Int) (n : Nat) (h : n ≤ 1000) : 0 ≤ spared k n ∧ spared k n ≤ 1000 := by
  unfold spared; split <;> omega
theorem there_bd (k : Int) (n : Nat) (h : n ≤ 1000) : 0 ≤ there k n ∧ there k n ≤ 1000 := by
  unfold there; split
  · omega
  · split
    · omega
    · split <;> omega

theorem take_getD (l : List (Int × Nat)) (k : Nat) (h : k < l.length) : l.take (k + 1) = l.take k ++ [l.getD k (0, 0)] := by
  rw [List.take_succ_eq_append_getElem h]; simp [List.getD, List.getElem?_eq_getElem h]
theorem tsp_snoc (l : List (Int × Nat)) (x : Int × Nat) : tsp (l ++ [x]) = tsp l + spared x.1 x.2 := by
  simp [tsp, List.sum_append]
theorem tth_snoc (l : List (Int × Nat)) (x : Int × Nat) : tth (l ++ [x]) = tth l + there x.1 x.2 := by
  simp [tth, List.sum_append]
theorem tree_bd (l : List (Int × Nat)) (h : ∀ j, j < l.length → (l.getD j (0, 0)).2 ≤ 1000) (k : Nat) (hk : k ≤ l.length) :
    0 ≤ tsp (l.take k) ∧ tsp (l.take k) ≤ 1000 * k ∧ 0 ≤ tth (l.take k) ∧ tth (l.take k) ≤ 1000 * k := by
  induction k with
  | zero => simp [tsp, tth]
  | succ k ih =>
    have i := ih (by omega)
    rw [take_getD l k (by omega), tsp_snoc, tth_snoc]
    have hn := h k (by omega)
    have b1 := spared_bd (l.getD k (0, 0)).1 _ hn
    have b2 := there_bd (l.getD k (0, 0)).1 _ hn
    omega

/-- a list of nodes that is gone through: at most 2000, of at most 1000 values each -/
def Fits (l : List (Int × Nat)) : Prop := l.length ≤ 2000 ∧ ∀ j, j < l.length → (l.getD j (0, 0)).2 ≤ 1000

theorem Below.sz {B : Nat} {w w' : World} (h : Below B w w') : w.heap.size ≤ w'.heap.size := h.size

set_option maxHeartbeats 400000 in
theorem ctree_any (A : Option Addr) (cap : Nat) (l : List (Int × Nat)) (hf : Fits l) (w : World) (hl : Nds w w.heap.size A l) :
    Calls Try.prog 14 #[.slice A l.length cap] w (CostIs (tsp l) (tth l) w) := by
  have hn := hf.1
  have HF := Lib.hid hf
  clear hf
  go_enter Try.func14, Try.ntmps14
  go_wp2
  go_loopw [3, 8] (fun s i wr => ∃ (k r t : Nat), k ≤ l.length ∧ i = .int .i64 k ∧ s = .complex .f64 r t ∧ FI r (tsp (l.take k)) ∧ FI t (tth (l.take k)) ∧ Below w.heap.size w wr) (fun _ i _ => l.length - (intOf i).toNat)
  case atStart => exact ⟨0, 0, 0, Nat.zero_le _, rfl, rfl, fi_0, fi_0, Below.refl _ _⟩
  case round =>
    obtain ⟨k, r, t, hk, rfl, rfl, fr, ft, hbw⟩ := hrel
    by_cases hlt : k < l.length
    · have hl' := hl.below hbw
      obtain ⟨b, off, K, N, p, c, q, m, d, rfl, hb, HE, h1, h2, h3⟩ := hl'.at_ hlt
      have hN : N ≤ 1000 := by have := HF.out.2 k hlt; rw [HE.out] at this; exact this
      have hsz := hbw.size
      clear hl hl'
      go_wp2_with fail
      refine (cnode_any _ _ _ _ _ _ _ (by omega) _).mono ?_
      rintro e w1 ⟨r1, t1, rfl, f1, f2, hb1⟩
      have bd := tree_bd l HF.out.2 k hk
      have b1 := spared_bd K N hN
      have b2 := there_bd K N hN
      obtain ⟨r2, t2, hrs, g1, g2⟩ := csum_some fr ft f1 f2 (by omega) (by omega)
      have hop := fun t' w => run_complex_sum (P := Try.prog) w .add (Or.inl rfl) t' .f64 _ _ _ _ r2 t2 hrs
      clear hrs bd b1 b2 fr ft f1 f2
      go_wp2
      go_roundw
      case rel =>
        have e := take_getD l k hlt
        rw [HE.out] at e
        exact ⟨k + 1, r2, t2, by omega, by go_num, rfl, by rw [e, tsp_snoc]; exact g1, by rw [e, tth_snoc]; exact g2, (hbw.alloc hsz _).trans (hb1.mono (by simp; omega))⟩
      case measure => simp [intOf]; omega
    · obtain rfl : k = l.length := by omega
      rw [List.take_length] at fr ft
      go_wp2
      go_ret
      exact ⟨r, t, rfl, fr, ft, hbw⟩

set_option maxHeartbeats 400000 in
theorem rtree_any (A : Option Addr) (cap : Nat) (l : List (Int × Nat)) (hf : Fits l) (w : World) (hl : Nds w w.heap.size A l) :
    Calls Try.prog 13 #[.slice A l.length cap] w (PairIs (tsp l) (tth l) w) := by
  have hn := hf.1
  have HF := Lib.hid hf
  clear hf
  go_enter Try.func13, Try.ntmps13
  go_wp2
  go_loopw [4, 5, 6] (fun s t i wr => ∃ (k : Nat), k ≤ l.length ∧ i = .int .i64 k ∧ s = .int .i64 (tsp (l.take k)) ∧ t = .int .i64 (tth (l.take k)) ∧ Below w.heap.size w wr) (fun _ _ i _ => l.length - (intOf i).toNat)
  case atStart => exact ⟨0, Nat.zero_le _, rfl, rfl, rfl, Below.refl _ _⟩
  case round =>
    obtain ⟨k, hk, rfl, rfl, rfl, hbw⟩ := hrel
    by_cases hlt : k < l.length
    · have hl' := hl.below hbw
      obtain ⟨b, off, K, N, p, c, q, m, d, rfl, hb, HE, h1, h2, h3⟩ := hl'.at_ hlt
      have hN : N ≤ 1000 := by have := HF.out.2 k hlt; rw [HE.out] at this; exact this
      have hsz := hbw.size
      clear hl hl'
      go_wp2_with fail
      refine (rnode_any _ _ _ _ _ _ _ _).mono ?_
      rintro e w1 ⟨rfl, hb1⟩
      have bd := tree_bd l HF.out.2 k hk
      have b1 := spared_bd K N hN
      have b2 := there_bd K N hN
      go_wp2
      go_roundw
      case rel =>
        have e := take_getD l k hlt
        rw [HE.out] at e
        exact ⟨k + 1, by omega, by go_num, by rw [e, tsp_snoc], by rw [e, tth_snoc], hbw.trans (hb1.mono hsz)⟩
      case measure => simp [intOf]; omega
    · obtain rfl : k = l.length := by omega
      rw [List.take_length]
      go_wp2
      go_ret2
      exact ⟨rfl, hbw⟩

set_option maxHeartbeats 400000 in
theorem seed_any (A : Option Addr) (cap : Nat) (l : List (Int × Nat)) (n : Int) (hf : Fits l) (h0 : 0 ≤ n) (h1 : n ≤ 65535) (w : World) (hl : Nds w w.heap.size A l) :
    Calls Try.prog 15 #[.slice A l.length cap, .int .i64 n] w (CostIs (tsp l + n) (tth l + 1) w) := by
  have bd := tree_bd l hf.2 l.length (Nat.le_refl _)
  rw [List.take_length] at bd
  have hlen := hf.1
  have fn := fi_int n (by omega)
  have HF := Lib.hid hf
  clear hf
  go_enter Try.func15, Try.ntmps15
  go_wp2_with fail
  refine (ctree_any _ _ _ HF.out _ hl).mono ?_
  rintro e w1 ⟨r1, t1, rfl, f1, f2, hb1⟩
  obtain ⟨r2, t2, hrs, g1, g2⟩ := csum_some f1 f2 fn fi_0 (by omega) (by omega)
  have hop := fun t' w => run_complex_sum (P := Try.prog) w .add (Or.inl rfl) t' .f64 _ _ _ _ r2 t2 hrs
  obtain ⟨r3, t3, hrs3, k1, k2⟩ := csum_some g1 g2 fi_0 fi_1 (by omega) (by omega)
  have hop3 := fun t' w => run_complex_sum (P := Try.prog) w .add (Or.inl rfl) t' .f64 _ _ _ _ r3 t3 hrs3
  clear hrs hrs3
  go_wp2
  go_ret
  exact ⟨r3, t3, rfl, by simpa using k1, by simpa using k2, hb1⟩
end Go.Proofs.Ytffebplkjajafaa
