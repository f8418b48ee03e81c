/- Memory, byte by byte, as lists of numbers. No Go program in sight. -/
import Derived.WalkKit
namespace Go.Proofs.Ytcnhnjbefhgaaaa

/-- a touch: written?, where, which byte -/
abbrev Tch := Bool × Nat × Nat

/-- the k-th byte of a number -/
def byteAt (v k : Nat) : Nat := v / 2 ^ (8 * k) % 256
theorem byteAt_lt (v k : Nat) : byteAt v k < 256 := Nat.mod_lt _ (by decide)

/-- the first k bytes of v written from f on -/
def put (bs : List Nat) (f v : Nat) : Nat → List Nat
  | 0 => bs
  | k + 1 => (put bs f v k).set (f + k) (byteAt v k)
/-- what that touches -/
def tput (f v : Nat) : Nat → List Tch
  | 0 => []
  | k + 1 => tput f v k ++ [(true, f + k, byteAt v k)]
/-- the first i numbers written, s bytes each, from a on -/
def wB (bs : List Nat) (a s : Nat) (vs : List Nat) : Nat → List Nat
  | 0 => bs
  | i + 1 => put (wB bs a s vs i) (a + i * s) (vs.getD i 0) s
def wT (a s : Nat) (vs : List Nat) : Nat → List Tch
  | 0 => []
  | i + 1 => wT a s vs i ++ tput (a + i * s) (vs.getD i 0) s
/-- how many of c numbers, s bytes each, are there from a on, of n bytes -/
def fit (n a s c : Nat) : Nat := min c ((n - a) / s)

/-- k bytes from f on as a number -/
def word (bs : List Nat) (f : Nat) : Nat → Nat
  | 0 => 0
  | k + 1 => word bs f k + bs.getD (f + k) 0 * 2 ^ (8 * k)
/-- what reading them touches -/
def tget (bs : List Nat) (f : Nat) : Nat → List Tch
  | 0 => []
  | k + 1 => tget bs f k ++ [(false, f + k, bs.getD (f + k) 0)]
def rV (bs : List Nat) (a s : Nat) : Nat → List Nat
  | 0 => []
  | i + 1 => rV bs a s i ++ [word bs (a + i * s) s]
def rT (bs : List Nat) (a s : Nat) : Nat → List Tch
  | 0 => []
  | i + 1 => rT bs a s i ++ tget bs (a + i * s) s

@[simp] theorem put_length (bs : List Nat) (f v k : Nat) : (put bs f v k).length = bs.length := by
  induction k with
  | zero => rfl
  | succ k ih => simp [put, ih]
@[simp] theorem wB_length (bs : List Nat) (a s : Nat) (vs : List Nat) (i : Nat) : (wB bs a s vs i).length = bs.length := by
  induction i with
  | zero => rfl
  | succ i ih => simp [wB, ih]
@[simp] theorem tput_length (f v k : Nat) : (tput f v k).length = k := by
  induction k with
  | zero => rfl
  | succ k ih => simp [tput, ih]
@[simp] theorem wT_length (a s : Nat) (vs : List Nat) (i : Nat) : (wT a s vs i).length = i * s := by
  induction i with
  | zero => simp [wT]
  | succ i ih => simp [wT, ih, Nat.add_mul]
@[simp] theorem tget_length (bs : List Nat) (f k : Nat) : (tget bs f k).length = k := by
  induction k with
  | zero => rfl
  | succ k ih => simp [tget, ih]
@[simp] theorem rT_length (bs : List Nat) (a s i : Nat) : (rT bs a s i).length = i * s := by
  induction i with
  | zero => simp [rT]
  | succ i ih => simp [rT, ih, Nat.add_mul]
@[simp] theorem rV_length (bs : List Nat) (a s i : Nat) : (rV bs a s i).length = i := by
  induction i with
  | zero => rfl
  | succ i ih => simp [rV, ih]

/-- bytes are less than 256 -/
def Octets (bs : List Nat) : Prop := ∀ c ∈ bs, c < 256
theorem Octets.set {bs : List Nat} (h : Octets bs) (j c : Nat) (hc : c < 256) : Octets (bs.set j c) := by
  intro x hx
  rcases List.mem_or_eq_of_mem_set hx with hx | rfl
  · exact h x hx
  · exact hc
theorem Octets.put {bs : List Nat} (h : Octets bs) (f v k : Nat) : Octets (put bs f v k) := by
  induction k with
  | zero => exact h
  | succ k ih => exact ih.set _ _ (byteAt_lt _ _)
theorem Octets.wB {bs : List Nat} (h : Octets bs) (a s : Nat) (vs : List Nat) (i : Nat) : Octets (wB bs a s vs i) := by
  induction i with
  | zero => exact h
  | succ i ih => exact ih.put _ _ _
theorem Octets.get {bs : List Nat} (h : Octets bs) (j : Nat) : bs.getD j 0 < 256 := by
  by_cases hj : j < bs.length
  · simpa [List.getD, List.getElem?_eq_getElem hj] using h _ (List.getElem_mem hj)
  · simp [List.getD, List.getElem?_eq_none (Nat.le_of_not_lt hj)]

/-- is the i-th number there? -/
theorem lt_fit {n a s c i : Nat} (hs : 0 < s) (hi : i < c) : i < fit n a s c ↔ a + (i + 1) * s ≤ n := by
  have hp : s ≤ (i + 1) * s := Nat.le_mul_of_pos_left _ (Nat.succ_pos i)
  unfold fit
  rw [Nat.lt_min]
  constructor
  · intro h
    have h2 := (Nat.le_div_iff_mul_le hs).1 (Nat.succ_le_of_lt h.2)
    simp only [Nat.succ_eq_add_one] at h2
    omega
  · intro h
    exact ⟨hi, Nat.lt_of_succ_le ((Nat.le_div_iff_mul_le hs).2 (by simp only [Nat.succ_eq_add_one]; omega))⟩
theorem fit_le (n a s c : Nat) : fit n a s c ≤ c := Nat.min_le_left _ _
theorem fit_stop {n a s c i : Nat} (hs : 0 < s) (hi : i ≤ fit n a s c) (hic : i < c) (hn : ¬ a + (i + 1) * s ≤ n) : fit n a s c = i := by
  have := mt (lt_fit (n := n) (a := a) hs hic).1 hn
  omega

theorem word_lt {bs : List Nat} (h : Octets bs) (f k : Nat) : word bs f k < 2 ^ (8 * k) := by
  induction k with
  | zero => simp [word]
  | succ k ih =>
    have hc := h.get (f + k)
    have e : 2 ^ (8 * (k + 1)) = 256 * 2 ^ (8 * k) := by rw [Nat.mul_succ, Nat.pow_add, Nat.mul_comm]
    rw [e]
    simp only [word]
    have : bs.getD (f + k) 0 * 2 ^ (8 * k) ≤ 255 * 2 ^ (8 * k) := Nat.mul_le_mul_right _ (by omega)
    omega
/-- the next byte, by or -/
theorem word_or {bs : List Nat} (h : Octets bs) (f k : Nat) : word bs f k ||| (bs.getD (f + k) 0 * 2 ^ (8 * k)) = word bs f (k + 1) := by
  have := Nat.two_pow_add_eq_or_of_lt (word_lt h f k) (bs.getD (f + k) 0)
  rw [Nat.or_comm, Nat.mul_comm, ← this, word, Nat.add_comm, Nat.mul_comm]
end Go.Proofs.Ytcnhnjbefhgaaaa
