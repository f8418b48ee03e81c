/- What a trace of writes does to bytes; what is read of numbers that were written. No Go program in sight. -/
import Derived.Test.YtcnhnjbefhgaaaaPure
namespace Go.Proofs.Ytcnhnjbefhgaaaa

/-- the bytes with all that a trace says -/
def app (ts : List Tch) (bs : List Nat) : List Nat := ts.foldl (fun l t => l.set t.2.1 t.2.2) bs
@[simp] theorem app_length (ts : List Tch) (bs : List Nat) : (app ts bs).length = bs.length := by
  unfold app
  induction ts generalizing bs with
  | nil => rfl
  | cons t ts ih => simp only [List.foldl_cons]; rw [ih]; simp
theorem app_append (ts us : List Tch) (bs : List Nat) : app (ts ++ us) bs = app us (app ts bs) := by simp [app, List.foldl_append]
theorem app_tput (bs : List Nat) (f v k : Nat) : app (tput f v k) bs = put bs f v k := by
  induction k with
  | zero => rfl
  | succ k ih => rw [tput, app_append, ih]; rfl
theorem app_wT (bs : List Nat) (a s : Nat) (vs : List Nat) (i : Nat) : app (wT a s vs i) bs = wB bs a s vs i := by
  induction i with
  | zero => rfl
  | succ i ih => rw [wT, app_append, ih, app_tput]; rfl
/-- one touch more -/
theorem app_succ (ts : List Tch) (bs : List Nat) (i : Nat) (t : Tch) (ht : ts[i]? = some t) : app (ts.take (i + 1)) bs = (app (ts.take i) bs).set t.2.1 t.2.2 := by
  rw [List.take_add_one, ht, app_append]
  rfl

/-- writes within n bytes -/
def Inside (n : Nat) (ts : List Tch) : Prop := ∀ t ∈ ts, t.1 = true ∧ t.2.1 < n ∧ t.2.2 < 256
theorem inside_tput {n f v k : Nat} (h : f + k ≤ n) : Inside n (tput f v k) := by
  induction k with
  | zero => intro t ht; simp [tput] at ht
  | succ k ih =>
    intro t ht
    rw [tput, List.mem_append] at ht
    rcases ht with ht | ht
    · exact ih (by omega) t ht
    · simp at ht
      subst ht
      exact ⟨rfl, by simp only []; omega, byteAt_lt _ _⟩
theorem inside_wT {n a s : Nat} {vs : List Nat} {i : Nat} (h : a + i * s ≤ n ∨ i = 0) : Inside n (wT a s vs i) := by
  induction i with
  | zero => intro t ht; simp [wT] at ht
  | succ i ih =>
    have h' : a + (i + 1) * s ≤ n := h.resolve_right (by omega)
    rw [Nat.add_mul, Nat.one_mul] at h'
    intro t ht
    rw [wT, List.mem_append] at ht
    rcases ht with ht | ht
    · exact ih (.inl (by omega)) t ht
    · exact inside_tput (by omega) t ht
theorem fit_inside {n a s c : Nat} (hs : 0 < s) : a + fit n a s c * s ≤ n ∨ fit n a s c = 0 := by
  rcases Nat.eq_zero_or_pos (fit n a s c) with h | h
  · exact .inr h
  · left
    have h1 : fit n a s c - 1 < fit n a s c := by omega
    have h2 := (lt_fit hs (Nat.lt_of_lt_of_le h1 (fit_le _ _ _ _))).1 h1
    rwa [Nat.sub_add_cancel h] at h2

theorem word_congr {bs cs : List Nat} {f k : Nat} (h : ∀ j, j < k → bs.getD (f + j) 0 = cs.getD (f + j) 0) : word bs f k = word cs f k := by
  induction k with
  | zero => rfl
  | succ k ih => rw [word, word, ih (fun j hj => h j (by omega)), h k (by omega)]
theorem put_at (bs : List Nat) (f v k i : Nat) (hi : i < bs.length) : (put bs f v k).getD i 0 = if f ≤ i ∧ i < f + k then byteAt v (i - f) else bs.getD i 0 := by
  induction k with
  | zero => rw [if_neg (by omega)]; rfl
  | succ k ih =>
    rw [put]
    by_cases e : f + k = i
    · subst e
      rw [if_pos (by omega), Nat.add_sub_cancel_left]
      simp [List.getD, hi]
    · have : ((put bs f v k).set (f + k) (byteAt v k)).getD i 0 = (put bs f v k).getD i 0 := by simp [List.getD, List.getElem?_set_ne e]
      rw [this, ih]
      by_cases c : f ≤ i ∧ i < f + k
      · rw [if_pos c, if_pos (by omega)]
      · rw [if_neg c, if_neg (by omega)]
/-- a number that was written is read -/
theorem word_put {bs : List Nat} {f v s : Nat} (h : f + s ≤ bs.length) (k : Nat) (hk : k ≤ s) : word (put bs f v s) f k = v % 2 ^ (8 * k) := by
  induction k with
  | zero => simp [word, Nat.mod_one]
  | succ k ih =>
    rw [word, ih (by omega), put_at bs f v s (f + k) (by omega), if_pos (by omega), Nat.add_sub_cancel_left, byteAt]
    rw [Nat.mul_succ, Nat.pow_add, Nat.mod_mul]
    rw [Nat.mul_comm (2 ^ (8 * k))]
theorem word_wB {bs : List Nat} {a s : Nat} {vs : List Nat} {i n : Nat} (hi : i < n) (h : a + n * s ≤ bs.length) : word (wB bs a s vs n) (a + i * s) s = vs.getD i 0 % 2 ^ (8 * s) := by
  induction n with
  | zero => omega
  | succ n ih =>
    have h' := h
    rw [Nat.add_mul, Nat.one_mul] at h'
    by_cases e : i = n
    · subst e
      exact word_put (by rw [wB_length]; omega) s (Nat.le_refl _)
    · have hin : i < n := by omega
      have hm : (i + 1) * s ≤ n * s := Nat.mul_le_mul_right s (by omega)
      rw [Nat.add_mul, Nat.one_mul] at hm
      rw [← ih hin (by omega)]
      refine word_congr fun j hj => ?_
      rw [wB, put_at _ _ _ _ _ (by rw [wB_length]; omega), if_neg (by omega)]
theorem rV_at {bs : List Nat} {a s n i : Nat} (hi : i < n) : (rV bs a s n).getD i 0 = word bs (a + i * s) s := by
  induction n with
  | zero => omega
  | succ n ih =>
    rw [rV]
    by_cases e : i = n
    · subst e
      simp [List.getD]
    · have : i < n := by omega
      rw [← ih this]
      simp [List.getD, List.getElem?_append_left (show i < (rV bs a s n).length by simpa using this)]
/-- read again, all that was written -/
theorem rV_wB {bs : List Nat} {a s c : Nat} {vs : List Nat} (h : a + c * s ≤ bs.length ∨ c = 0) (i : Nat) (hi : i < c) : (rV (wB bs a s vs c) a s c).getD i 0 = vs.getD i 0 % 2 ^ (8 * s) := by
  rw [rV_at hi, word_wB hi (h.resolve_right (by omega))]
end Go.Proofs.Ytcnhnjbefhgaaaa
