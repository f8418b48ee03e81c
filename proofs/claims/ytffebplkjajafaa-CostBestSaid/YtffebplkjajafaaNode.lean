/- What the two functions Node give of a node that is handed in by value: what is spared, and what there is. -/
import Derived.Test.YtffebplkjajafaaCost
namespace Go.Proofs.Ytffebplkjajafaa
open Go.RowKit

/-- how many a node spares, by its kind and how many values it has -/
def spared (k : Int) (n : Nat) : Int := if (1 ≤ k ∧ k ≤ 9) ∨ k = 16 then n else 0
/-- how many there are -/
def there (k : Int) (n : Nat) : Int := if (1 ≤ k ∧ k ≤ 9) ∨ k = 16 then 1 else if k = 0 then 1 else if k = 21 then n else 0

theorem csum_some {a b c d : Nat} {x y u v : Int} (ha : FI a x) (hb : FI b y) (hc : FI c u) (hd : FI d v) (h1 : (x + u).natAbs < 2 ^ 53) (h2 : (y + v).natAbs < 2 ^ 53) :
    ∃ r s, cSumBits .add .f64 a b c d = some (r, s) ∧ FI r (x + u) ∧ FI s (y + v) := by
  obtain ⟨r, hr, fr⟩ := fi_add ha hc h1
  obtain ⟨s, hs, fs⟩ := fi_add hb hd h2
  exact ⟨r, s, by simp [cSumBits, hr, hs], fr, fs⟩

theorem cmul_one {a : Nat} {x : Int} (ha : FI a x) (h1 : x.natAbs < 2 ^ 53) :
    ∃ r s, cMulBits a 0 0 4607182418800017408 = some (r, s) ∧ FI r 0 ∧ FI s x := by
  obtain ⟨p, hp, fp⟩ := fi_mul ha fi_0 (by simp)
  obtain ⟨q, hq, fq⟩ := fi_mul fi_0 fi_1 (by simp)
  obtain ⟨r, hr, fr⟩ := fi_sub fp fq (by simp)
  obtain ⟨t, ht, ft⟩ := fi_mul ha fi_1 (by simpa using h1)
  obtain ⟨u, hu, fu⟩ := fi_mul fi_0 fi_0 (by simp)
  obtain ⟨s, hs, fs⟩ := fi_add ft fu (by simpa using h1)
  exact ⟨r, s, by simp [cMulBits, hp, hq, hr, ht, hu, hs], by simpa using fr, by simpa using fs⟩

def CostIs (x y : Int) (w : World) (e : Ending) (w' : World) : Prop := ∃ r s, e = .returned (.complex .f64 r s) ∧ FI r x ∧ FI s y ∧ Below w.heap.size w w'

set_option maxHeartbeats 400000 in
/-- 'cost.Node'. -/
theorem cnode_any (k : Int) (a b : Option Addr) (n c m d : Nat) (hn : n ≤ 140737488355328) (w : World) :
    Calls Try.prog 11 #[.agg #[.int .i64 k, .slice a n c, .slice b m d]] w (CostIs (spared k n) (there k n) w) := by
  have fn := fi_int (n : Int) (by omega)
  by_cases c1 : 1 ≤ k ∧ k ≤ 9
  · obtain ⟨r, s, hrs, fr, fs⟩ := csum_some fn fi_0 fi_0 fi_1 (by omega) (by omega)
    have hop := fun t w => run_complex_sum (P := Try.prog) w .add (Or.inl rfl) t .f64 _ _ _ _ r s hrs
    have e1 : spared k n = (n : Int) + 0 := by simp [spared, c1]
    have e2 : there k n = 0 + 1 := by simp [there, c1]
    rw [e1, e2]
    obtain ⟨c1, c2⟩ := c1
    clear hrs e1 e2
    go_enter Try.func11, Try.ntmps11
    go_wp2
    go_ret
    exact ⟨r, s, rfl, fr, fs, (Below.refl _ _).alloc (Nat.le_refl _) _⟩
  by_cases c2 : k = 16
  · subst c2
    obtain ⟨r, s, hrs, fr, fs⟩ := csum_some fn fi_0 fi_0 fi_1 (by omega) (by omega)
    have hop := fun t w => run_complex_sum (P := Try.prog) w .add (Or.inl rfl) t .f64 _ _ _ _ r s hrs
    have e1 : spared 16 n = (n : Int) + 0 := by simp [spared]
    have e2 : there 16 n = 0 + 1 := by simp [there]
    rw [e1, e2]
    clear hrs e1 e2 c1
    go_enter Try.func11, Try.ntmps11
    go_wp2
    go_ret
    exact ⟨r, s, rfl, fr, fs, (Below.refl _ _).alloc (Nat.le_refl _) _⟩
  have e1 : spared k n = 0 := by simp only [spared]; rw [if_neg (by omega)]
  rw [e1]
  by_cases c3 : k = 0
  · subst c3
    have e2 : there 0 n = 1 := by simp [there]
    rw [e2]
    clear e1 e2 c1 c2
    go_enter Try.func11, Try.ntmps11
    go_wp2
    go_ret
    exact ⟨_, _, rfl, fi_0, fi_1, (Below.refl _ _).alloc (Nat.le_refl _) _⟩
  by_cases c4 : k = 21
  · subst c4
    obtain ⟨r, s, hrs, fr, fs⟩ := cmul_one fn (by omega)
    have hop := fun t w => run_complex_mul (P := Try.prog) w t _ _ _ _ r s hrs
    have e2 : there 21 n = n := by simp [there]
    rw [e2]
    clear hrs e1 e2 c1 c2 c3
    go_enter Try.func11, Try.ntmps11
    go_wp2
    go_ret
    exact ⟨_, _, rfl, fr, fs, (Below.refl _ _).alloc (Nat.le_refl _) _⟩
  have e2 : there k n = 0 := by simp only [there]; rw [if_neg (by omega), if_neg c3, if_neg c4]
  rw [e2]
  clear e1 e2
  by_cases c5 : 1 ≤ k
  · have c6 : 9 < k := by omega
    clear c1
    go_enter Try.func11, Try.ntmps11
    go_wp2
    go_ret
    exact ⟨_, _, rfl, fi_0, fi_0, (Below.refl _ _).alloc (Nat.le_refl _) _⟩
  · clear c1
    go_enter Try.func11, Try.ntmps11
    go_wp2
    go_ret
    exact ⟨_, _, rfl, fi_0, fi_0, (Below.refl _ _).alloc (Nat.le_refl _) _⟩

def PairIs (x y : Int) (w : World) (e : Ending) (w' : World) : Prop := e = .returned (.tuple #[.int .i64 x, .int .i64 y]) ∧ Below w.heap.size w w'

set_option maxHeartbeats 400000 in
/-- the reference's Node -/
theorem rnode_any (k : Int) (a b : Option Addr) (n c m d : Nat) (w : World) :
    Calls Try.prog 10 #[.agg #[.int .i64 k, .slice a n c, .slice b m d]] w (PairIs (spared k n) (there k n) w) := by
  by_cases c1 : 1 ≤ k ∧ k ≤ 9
  · have e1 : spared k n = n := by simp [spared, c1]
    have e2 : there k n = 1 := by simp [there, c1]
    rw [e1, e2]
    obtain ⟨c1, c2⟩ := c1
    clear e1 e2
    go_enter Try.func10, Try.ntmps10
    go_wp2
    go_ret2
    exact ⟨rfl, (Below.refl _ _).alloc (Nat.le_refl _) _⟩
  by_cases c2 : k = 16
  · subst c2
    have e1 : spared 16 n = n := by simp [spared]
    have e2 : there 16 n = 1 := by simp [there]
    rw [e1, e2]
    clear e1 e2 c1
    go_enter Try.func10, Try.ntmps10
    go_wp2
    go_ret2
    exact ⟨rfl, (Below.refl _ _).alloc (Nat.le_refl _) _⟩
  have e1 : spared k n = 0 := by simp only [spared]; rw [if_neg (by omega)]
  rw [e1]
  by_cases c3 : k = 0
  · subst c3
    have e2 : there 0 n = 1 := by simp [there]
    rw [e2]
    clear e1 e2 c1 c2
    go_enter Try.func10, Try.ntmps10
    go_wp2
    go_ret2
    exact ⟨rfl, (Below.refl _ _).alloc (Nat.le_refl _) _⟩
  by_cases c4 : k = 21
  · subst c4
    have e2 : there 21 n = n := by simp [there]
    rw [e2]
    clear e1 e2 c1 c2 c3
    go_enter Try.func10, Try.ntmps10
    go_wp2
    go_quiet (fail)
    go_wp2
    go_ret2
    exact ⟨rfl, below_drewN ((Below.refl _ _).alloc (Nat.le_refl _) _) _⟩
  have e2 : there k n = 0 := by simp only [there]; rw [if_neg (by omega), if_neg c3, if_neg c4]
  rw [e2]
  clear e1 e2
  by_cases c5 : 1 ≤ k
  · have d1 : decide (k ≤ 9) = false := by simp; omega
    have d2 : (k == 16) = false := by simpa using c2
    have d3 : (k == 0) = false := by simpa using c3
    have d4 : (k == 21) = false := by simpa using c4
    clear c1 c2 c3 c4
    go_enter Try.func10, Try.ntmps10
    go_wp2
    go_ret2
    exact ⟨rfl, (Below.refl _ _).alloc (Nat.le_refl _) _⟩
  · clear c1
    go_enter Try.func10, Try.ntmps10
    go_wp2
    go_ret2
    exact ⟨rfl, (Below.refl _ _).alloc (Nat.le_refl _) _⟩
end Go.Proofs.Ytffebplkjajafaa
