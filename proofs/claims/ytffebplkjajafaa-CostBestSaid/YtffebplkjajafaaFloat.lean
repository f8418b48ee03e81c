/- Whole numbers as 64-bit floats: a float that stands for a whole number below 2^53 is added, taken away, multiplied, turned, compared and made whole exactly. No Go program in sight. -/
import Derived.WalkLawsBesides
namespace Go.Proofs.Ytffebplkjajafaa
open Ieee

/-- the word b stands for the whole number n -/
def FI (b : Nat) (n : Int) : Prop :=
  ∃ s m p, double.read b = .number s m p ∧ signed s m p.toNat = n * 2 ^ (-p).toNat

theorem signed_eq (s : Bool) (m u : Nat) : signed s m u = (if s then -1 else 1) * ((m * 2 ^ u : Nat) : Int) := by
  unfold signed
  rw [Nat.shiftLeft_eq]
  cases s <;> simp

theorem log2_up {k : Nat} (hk : k ≠ 0) (d : Nat) : (k * 2 ^ d).log2 = k.log2 + d := by
  have hp := Nat.two_pow_pos d
  rw [Nat.log2_eq_iff (Nat.ne_of_gt (Nat.mul_pos (Nat.pos_of_ne_zero hk) hp))]
  constructor
  · rw [Nat.pow_add]; exact Nat.mul_le_mul_right _ (Nat.log2_self_le hk)
  · have e : k.log2 + d + 1 = (k.log2 + 1) + d := by omega
    rw [e, Nat.pow_add]; exact Nat.mul_lt_mul_of_pos_right Nat.lt_log2_self hp

theorem signed_up (s : Bool) (m u v : Nat) : signed s m (u + v) = signed s m u * 2 ^ v := by
  rw [signed_eq, signed_eq, Int.mul_assoc]
  congr 1
  rw [Nat.pow_add, ← Nat.mul_assoc]
  simp

/-- the value of a datum, at any scale -/
theorem scale {s : Bool} {m : Nat} {p : Int} {n : Int} (h : signed s m p.toNat = n * 2 ^ (-p).toNat) (K : Nat) (hK : 0 ≤ p + K) :
    signed s m (p + K).toNat = n * 2 ^ K := by
  by_cases hp : 0 ≤ p
  · have e1 : (p + K).toNat = p.toNat + K := by omega
    have e2 : (-p).toNat = 0 := by omega
    rw [e1, signed_up, h, e2]; simp
  · have e1 : p.toNat = 0 := by omega
    rw [e1] at h
    have e3 : (p + K).toNat = 0 + (p + K).toNat := by omega
    have e4 : K = (-p).toNat + (p + K).toNat := by omega
    rw [e3, signed_up, h]
    conv => rhs; rw [e4]
    rw [Int.pow_add, Int.mul_assoc]

theorem unscale {s : Bool} {m : Nat} {p : Int} {n : Int} (K : Nat) (hK : 0 ≤ p + K) (h : signed s m (p + K).toNat = n * 2 ^ K) :
    signed s m p.toNat = n * 2 ^ (-p).toNat := by
  by_cases hp : 0 ≤ p
  · have e1 : (p + K).toNat = p.toNat + K := by omega
    have e2 : (-p).toNat = 0 := by omega
    rw [e1, signed_up] at h
    have h0 : (2 : Int) ^ K ≠ 0 := by
      have : (0 : Int) < 2 ^ K := Int.pow_pos (by decide)
      omega
    rw [e2]; simp
    exact Int.eq_of_mul_eq_mul_right h0 h
  · have e1 : p.toNat = 0 := by omega
    have e3 : (p + K).toNat = 0 + (p + K).toNat := by omega
    have e4 : K = (-p).toNat + (p + K).toNat := by omega
    have h0 : (2 : Int) ^ (p + K).toNat ≠ 0 := by
      have : (0 : Int) < 2 ^ (p + K).toNat := Int.pow_pos (by decide)
      omega
    rw [e1]
    rw [e3, signed_up] at h
    have e5 : (2 : Int) ^ K = 2 ^ (-p).toNat * 2 ^ (p + K).toNat := by rw [← Int.pow_add, ← e4]
    rw [e5, ← Int.mul_assoc] at h
    exact Int.eq_of_mul_eq_mul_right h0 h

theorem cut_exact (s : Bool) (k drop : Nat) (hk : 0 < k) : Toward.even.cut s (k * 2 ^ drop) drop = k := by
  have hl : drop ≤ (k * 2 ^ drop).log2 := by
    rw [Nat.le_log2 (by have := Nat.two_pow_pos drop; exact Nat.ne_of_gt (Nat.mul_pos hk this))]
    exact Nat.le_mul_of_pos_left _ hk
  have hm : min drop ((k * 2 ^ drop).log2 + 2) = drop := by omega
  unfold Toward.cut
  rw [hm]
  simp only [Nat.shiftLeft_eq, Nat.one_mul]
  have hp := Nat.two_pow_pos drop
  rw [Nat.mul_div_cancel _ hp, Nat.mul_mod_left]
  have : (2 ^ drop == 2 * 0) = false := by simp
  simp

theorem d_fb : double.fractionBits = 52 := rfl
set_option exponentiation.threshold 2000 in
theorem d_lp : double.leastPlace = -1074 := by decide
theorem d_bin : double.binade = 4503599627370496 := by decide
theorem d_inf : double.infRung = 9218868437227405312 := by decide
theorem d_sw : double.signWeight = 9223372036854775808 := by decide

theorem read_word (s : Bool) (e f : Nat) (he : e < 2046) (hf : f < 4503599627370496) :
    double.read (double.word s ((e + 1) * 4503599627370496 + f)) = .number s (4503599627370496 + f) (-1074 + (e : Int)) := by
  unfold Format.read Format.word
  rw [d_sw, d_bin, d_inf, d_lp]
  have h1 : ((if s = true then 9223372036854775808 + ((e + 1) * 4503599627370496 + f) else (e + 1) * 4503599627370496 + f) / 9223372036854775808 % 2 == 1) = s := by
    cases s
    · simp; omega
    · simp; omega
  have h2 : (if s = true then 9223372036854775808 + ((e + 1) * 4503599627370496 + f) else (e + 1) * 4503599627370496 + f) % 9223372036854775808 = (e + 1) * 4503599627370496 + f := by
    cases s
    · simp; omega
    · simp; omega
  simp only []
  rw [h1, h2]
  rw [if_neg (by omega), if_pos (by omega)]
  congr 1
  · omega
  · omega

theorem read_zero (s : Bool) : double.read (double.word s 0) = .number s 0 (-1074) := by
  cases s <;> decide

theorem rung_fit (E f : Nat) (hE : E ≤ 1074) (hf : f < 4503599627370496) :
    min (E * 4503599627370496 + (4503599627370496 + f)) 9218868437227405312 = (E + 1) * 4503599627370496 + f := by
  have hz : E * 4503599627370496 ≤ 1074 * 4503599627370496 := Nat.mul_le_mul_right _ hE
  have e : (E + 1) * 4503599627370496 + f = E * 4503599627370496 + (4503599627370496 + f) := by
    rw [Nat.succ_mul, Nat.add_assoc]
  rw [e]
  have h : E * 4503599627370496 + (4503599627370496 + f) ≤ 9218868437227405312 := by
    refine Nat.le_trans (Nat.add_le_add hz (Nat.add_le_add_left (Nat.le_of_lt hf) _)) ?_
    decide
  exact Nat.min_eq_left h

theorem write_exact {s : Bool} {m : Nat} {p : Int} {n : Int} (h : signed s m p.toNat = n * 2 ^ (-p).toNat) (hn : n.natAbs < 2 ^ 53) :
    FI (double.write (.number s m p)) n := by
  show FI (double.nearest s m p) n
  unfold Format.nearest
  by_cases hm : m = 0
  · subst hm
    rw [if_pos rfl]
    have h0 : (2 : Int) ^ (-p).toNat ≠ 0 := by
      have : (0 : Int) < 2 ^ (-p).toNat := Int.pow_pos (by decide)
      omega
    have hn0 : n = 0 := by
      rw [signed_eq] at h
      simp only [Nat.zero_mul, Int.natCast_zero, Int.mul_zero] at h
      rcases Int.mul_eq_zero.1 h.symm with h | h
      · exact h
      · exact absurd h h0
    subst hn0
    exact ⟨s, 0, -1074, read_zero s, by rw [signed_eq, Nat.zero_mul, Int.zero_mul]; cases s <;> rfl⟩
  · rw [if_neg hm]
    rw [d_fb, d_lp, d_inf, d_bin]
    -- the size of n
    have hmag : m * 2 ^ p.toNat = n.natAbs * 2 ^ (-p).toNat := by
      have := congrArg Int.natAbs h
      rw [signed_eq, Int.natAbs_mul, Int.natAbs_mul] at this
      have e : ((2 : Int) ^ (-p).toNat).natAbs = 2 ^ (-p).toNat := by
        rw [Int.natAbs_pow]; rfl
      rw [e] at this
      rw [← this]
      cases s <;> simp [Int.natAbs_mul, Int.natAbs_pow]
    have hN : n.natAbs ≠ 0 := by
      intro h0
      rw [h0, Nat.zero_mul] at hmag
      have := Nat.mul_pos (Nat.pos_of_ne_zero hm) (Nat.two_pow_pos p.toNat)
      omega
    generalize hNe : n.natAbs = N at *
    have hL : (m.log2 : Int) + p = (N.log2 : Int) := by
      have a1 : (m * 2 ^ p.toNat).log2 = m.log2 + p.toNat := log2_up hm _
      have a2 : (N * 2 ^ (-p).toNat).log2 = N.log2 + (-p).toNat := log2_up hN _
      rw [hmag, a2] at a1
      omega
    have hL52 : N.log2 ≤ 52 := by
      have := (Nat.log2_lt hN).2 hn
      omega
    have hlast : max (p + (m.log2 : Int) - ((52 : Nat) : Int)) (-1074) = (N.log2 : Int) - 52 := by omega
    simp only []
    rw [hlast]
    have hkept : Toward.even.cut s (m <<< (p - ((N.log2 : Int) - 52)).toNat) (((N.log2 : Int) - 52) - p).toNat = N * 2 ^ (52 - N.log2) := by
      rw [Nat.shiftLeft_eq]
      have key : m * 2 ^ (p - ((N.log2 : Int) - 52)).toNat = (N * 2 ^ (52 - N.log2)) * 2 ^ (((N.log2 : Int) - 52) - p).toNat := by
        by_cases hp : 0 ≤ p
        · have e0 : (-p).toNat = 0 := by omega
          have e1 : (p - ((N.log2 : Int) - 52)).toNat = p.toNat + (52 - N.log2) := by omega
          have e2 : (((N.log2 : Int) - 52) - p).toNat = 0 := by omega
          rw [e1, e2, Nat.pow_add, ← Nat.mul_assoc, hmag, e0]; simp
        · have e0 : p.toNat = 0 := by omega
          rw [e0] at hmag
          simp only [Nat.pow_zero, Nat.mul_one] at hmag
          rw [hmag, Nat.mul_assoc, Nat.mul_assoc, ← Nat.pow_add, ← Nat.pow_add]
          congr 2
          omega
      rw [key]
      exact cut_exact s _ _ (Nat.mul_pos (Nat.pos_of_ne_zero hN) (Nat.two_pow_pos _))
    rw [hkept]
    have lo : 2 ^ 52 ≤ N * 2 ^ (52 - N.log2) := by
      have a := Nat.log2_self_le hN
      have b : 2 ^ N.log2 * 2 ^ (52 - N.log2) ≤ N * 2 ^ (52 - N.log2) := Nat.mul_le_mul_right _ a
      rw [← Nat.pow_add] at b
      have e : N.log2 + (52 - N.log2) = 52 := by omega
      rw [e] at b
      exact b
    have hi : N * 2 ^ (52 - N.log2) < 2 ^ 53 := by
      have a : N < 2 ^ (N.log2 + 1) := Nat.lt_log2_self
      have b : N * 2 ^ (52 - N.log2) < 2 ^ (N.log2 + 1) * 2 ^ (52 - N.log2) := Nat.mul_lt_mul_of_pos_right a (Nat.two_pow_pos _)
      rw [← Nat.pow_add] at b
      have e : N.log2 + 1 + (52 - N.log2) = 53 := by omega
      rw [e] at b
      exact b
    have hk2 : ∃ f, N * 2 ^ (52 - N.log2) = 4503599627370496 + f ∧ f < 4503599627370496 := ⟨N * 2 ^ (52 - N.log2) - 4503599627370496, by omega, by omega⟩
    obtain ⟨f, hf, hflt⟩ := hk2
    have hlp : (((N.log2 : Int) - 52) - -1074).toNat = N.log2 + 1022 := by omega
    rw [hlp, hf]
    have hr : min ((N.log2 + 1022) * 4503599627370496 + (4503599627370496 + f)) 9218868437227405312 = ((N.log2 + 1022) + 1) * 4503599627370496 + f := by
      exact rung_fit (N.log2 + 1022) f (by omega) hflt
    rw [hr]
    refine ⟨s, 4503599627370496 + f, -1074 + ((N.log2 + 1022 : Nat) : Int), read_word s _ f (by omega) hflt, ?_⟩
    have e1 : (-1074 + ((N.log2 + 1022 : Nat) : Int)).toNat = 0 := by omega
    have e2 : (-(-1074 + ((N.log2 + 1022 : Nat) : Int))).toNat = 52 - N.log2 := by omega
    rw [e1, e2, ← hf]
    -- the sign
    have hs : n = (if s then -1 else 1) * (N : Int) := by
      rw [signed_eq] at h
      have h0 : (2 : Int) ^ (-p).toNat ≠ 0 := by
        have : (0 : Int) < 2 ^ (-p).toNat := Int.pow_pos (by decide)
        omega
      apply Int.eq_of_mul_eq_mul_right h0
      rw [← h, hmag, Int.mul_assoc]
      simp
    rw [hs, signed_eq, Int.mul_assoc]
    have e3 : ∀ c : Nat, ((N * 2 ^ c * 2 ^ 0 : Nat) : Int) = (N : Int) * 2 ^ c := by intro c; simp
    rw [e3]

theorem fi_int (n : Int) (h : n.natAbs < 2 ^ 53) : FI (floatOfInt .f64 n) n := by
  refine write_exact (s := decide (n < 0)) (m := n.natAbs) (p := 0) ?_ h
  rw [signed_eq]
  by_cases h0 : n < 0
  · simp [h0]; omega
  · simp [h0]; omega

theorem fi_add {a b : Nat} {x y : Int} (ha : FI a x) (hb : FI b y) (h : (x + y).natAbs < 2 ^ 53) :
    ∃ r, floatBits .add .f64 a b = some r ∧ FI r (x + y) := by
  obtain ⟨s, m, i, hra, ha⟩ := ha
  obtain ⟨t, k, j, hrb, hb⟩ := hb
  refine ⟨_, by show Format.add double a b = _; unfold Format.add; rw [hra, hrb]; rfl, ?_⟩
  apply write_exact _ h
  have hbase : min i j ≤ i ∧ min i j ≤ j := ⟨by omega, by omega⟩
  obtain ⟨K, hK⟩ : ∃ K : Nat, 0 ≤ min i j + K := ⟨(-(min i j)).toNat, by omega⟩
  apply unscale K hK
  have h1 := scale ha K (by omega)
  have h2 := scale hb K (by omega)
  have e1 : (i + K).toNat = (i - min i j).toNat + (min i j + K).toNat := by omega
  have e2 : (j + K).toNat = (j - min i j).toNat + (min i j + K).toNat := by omega
  rw [e1, signed_up] at h1
  rw [e2, signed_up] at h2
  generalize hT : signed s m (i - min i j).toNat + signed t k (j - min i j).toNat = T
  have h3 : T * 2 ^ (min i j + K).toNat = (x + y) * 2 ^ K := by
    rw [← hT, Int.add_mul, h1, h2, Int.add_mul]
  rw [signed_eq, ← h3]
  by_cases hT0 : T = 0
  · simp [hT0]
  · by_cases hneg : T < 0
    · simp only [hT0, if_false, hneg, decide_true, if_true]
      have : (T.natAbs : Int) = -T := by omega
      rw [Int.natCast_mul, this]
      simp only [Int.neg_mul, Int.one_mul, Int.neg_neg, Int.natCast_pow]
      rfl
    · simp only [hT0, if_false, hneg, decide_false]
      have : (T.natAbs : Int) = T := by omega
      rw [Int.natCast_mul, this]
      simp

theorem opp (d : Bool) (m : Nat) (u : Nat) : signed (!d) m u = - signed d m u := by
  unfold signed
  cases d <;> simp

theorem fi_sub {a b : Nat} {x y : Int} (ha : FI a x) (hb : FI b y) (h : (x - y).natAbs < 2 ^ 53) :
    ∃ r, floatBits .sub .f64 a b = some r ∧ FI r (x - y) := by
  obtain ⟨s, m, i, hra, ha⟩ := ha
  obtain ⟨t, k, j, hrb, hb⟩ := hb
  have hb' : signed (!t) k j.toNat = (-y) * 2 ^ (-j).toNat := by
    rw [opp, hb, Int.neg_mul]
  refine ⟨_, by show Format.sub double a b = _; unfold Format.sub; rw [hra, hrb]; rfl, ?_⟩
  apply write_exact _ h
  have hbase : min i j ≤ i ∧ min i j ≤ j := ⟨by omega, by omega⟩
  obtain ⟨K, hK⟩ : ∃ K : Nat, 0 ≤ min i j + K := ⟨(-(min i j)).toNat, by omega⟩
  apply unscale K hK
  have h1 := scale ha K (by omega)
  have h2 := scale hb' K (by omega)
  have e1 : (i + K).toNat = (i - min i j).toNat + (min i j + K).toNat := by omega
  have e2 : (j + K).toNat = (j - min i j).toNat + (min i j + K).toNat := by omega
  rw [e1, signed_up] at h1
  rw [e2, signed_up] at h2
  generalize hT : signed s m (i - min i j).toNat + signed (!t) k (j - min i j).toNat = T
  have h3 : T * 2 ^ (min i j + K).toNat = (x - y) * 2 ^ K := by
    rw [← hT, Int.add_mul, h1, h2, Int.sub_eq_add_neg, Int.add_mul]
  rw [signed_eq, ← h3]
  by_cases hT0 : T = 0
  · simp [hT0]
  · by_cases hneg : T < 0
    · simp only [hT0, if_false, hneg, decide_true, if_true]
      have : (T.natAbs : Int) = -T := by omega
      rw [Int.natCast_mul, this]
      simp only [Int.neg_mul, Int.one_mul, Int.neg_neg, Int.natCast_pow]
      rfl
    · simp only [hT0, if_false, hneg, decide_false]
      have : (T.natAbs : Int) = T := by omega
      rw [Int.natCast_mul, this]
      simp

theorem signed_mul (s t : Bool) (m k u v : Nat) : signed s m u * signed t k v = signed (s ^^ t) (m * k) (u + v) := by
  rw [signed_eq, signed_eq, signed_eq, Nat.pow_add]
  have : (((m * 2 ^ u : Nat) : Int)) * ((k * 2 ^ v : Nat) : Int) = ((m * k * (2 ^ u * 2 ^ v) : Nat) : Int) := by
    rw [← Int.natCast_mul]; congr 1; rw [Nat.mul_mul_mul_comm]
  cases s <;> cases t <;> simp only [Bool.false_eq_true, if_true, if_false, Int.one_mul, Int.neg_mul, Int.mul_neg, Bool.xor_false, Bool.xor_true, Bool.not_true, Bool.not_false] <;> rw [this] <;> simp

theorem fi_mul {a b : Nat} {x y : Int} (ha : FI a x) (hb : FI b y) (h : (x * y).natAbs < 2 ^ 53) :
    ∃ r, floatBits .mul .f64 a b = some r ∧ FI r (x * y) := by
  obtain ⟨s, m, i, hra, ha⟩ := ha
  obtain ⟨t, k, j, hrb, hb⟩ := hb
  refine ⟨_, by show Format.mul double a b = _; unfold Format.mul; rw [hra, hrb]; rfl, ?_⟩
  apply write_exact _ h
  obtain ⟨K1, hK1⟩ : ∃ K : Nat, 0 ≤ i + K := ⟨(-i).toNat, by omega⟩
  obtain ⟨K2, hK2⟩ : ∃ K : Nat, 0 ≤ j + K := ⟨(-j).toNat, by omega⟩
  apply unscale (K1 + K2) (by omega)
  have h1 := scale ha K1 hK1
  have h2 := scale hb K2 hK2
  have e : (i + j + ((K1 + K2 : Nat) : Int)).toNat = (i + K1).toNat + (j + K2).toNat := by omega
  rw [e, ← signed_mul, h1, h2, Int.pow_add]
  rw [Int.mul_assoc, Int.mul_assoc]
  congr 1
  rw [← Int.mul_assoc, Int.mul_comm (2 ^ K1) y, Int.mul_assoc]

theorem read_flip (a : Nat) (s : Bool) (m : Nat) (p : Int) (h : double.read a = .number s m p) : double.read (a ^^^ 9223372036854775808) = .number (!s) m p := by
  have e1 : (a ^^^ 9223372036854775808) % 9223372036854775808 = a % 9223372036854775808 := by
    have := @Nat.xor_mod_two_pow a (2 ^ 63) 63
    simpa using this
  have e2 : (a ^^^ 9223372036854775808) / 9223372036854775808 % 2 = 1 - a / 9223372036854775808 % 2 := by
    have h1 := @Nat.xor_div_two_pow a (2 ^ 63) 63
    have h2 := @Nat.xor_mod_two_pow (a / 9223372036854775808) 1 1
    have h1' : (a ^^^ 9223372036854775808) / 9223372036854775808 = a / 9223372036854775808 ^^^ 1 := by simpa using h1
    rw [h1']
    simp only [Nat.pow_one] at h2
    rw [h2]
    have : a / 9223372036854775808 % 2 = 0 ∨ a / 9223372036854775808 % 2 = 1 := by omega
    rcases this with h | h <;> rw [h] <;> rfl
  have e3 : ((a ^^^ 9223372036854775808) / 9223372036854775808 % 2 == 1) = !(a / 9223372036854775808 % 2 == 1) := by
    rw [e2]
    have : a / 9223372036854775808 % 2 = 0 ∨ a / 9223372036854775808 % 2 = 1 := by omega
    rcases this with h | h <;> rw [h] <;> rfl
  unfold Format.read at h ⊢
  rw [d_sw, d_bin, d_inf, d_lp] at h ⊢
  simp only [] at h ⊢
  rw [e1, e3]
  split at h
  · rename_i c; rw [if_pos c]; injection h with a1 a2 a3; subst a1 a2 a3; rfl
  · rename_i c
    rw [if_neg c]
    split at h
    · rename_i c2; rw [if_pos c2]; injection h with a1 a2 a3; subst a1 a2 a3; rfl
    · split at h <;> cases h

theorem fi_neg {a : Nat} {x : Int} (ha : FI a x) : FI (Op.negFloat .f64 a) (-x) := by
  obtain ⟨s, m, p, hr, h⟩ := ha
  refine ⟨!s, m, p, read_flip a s m p hr, ?_⟩
  rw [opp, h, Int.neg_mul]

theorem cmp_scale (a b : Int) (c : Nat) : compare (a * 2 ^ c) (b * 2 ^ c) = compare a b := by
  have h0 : (0 : Int) < 2 ^ c := Int.pow_pos (by decide)
  simp only [compare, compareOfLessAndEq]
  have e1 : (a * 2 ^ c < b * 2 ^ c) ↔ a < b := ⟨fun h => Int.lt_of_mul_lt_mul_right h (Int.le_of_lt h0), fun h => Int.mul_lt_mul_of_pos_right h h0⟩
  have e2 : (a * 2 ^ c = b * 2 ^ c) ↔ a = b := ⟨fun h => Int.eq_of_mul_eq_mul_right (by omega) h, fun h => by rw [h]⟩
  simp only [e1, e2]

theorem fi_order {a b : Nat} {x y : Int} (ha : FI a x) (hb : FI b y) : FloatKind.f64.format.order a b = some (compare x y) := by
  obtain ⟨s, m, i, hra, ha⟩ := ha
  obtain ⟨t, k, j, hrb, hb⟩ := hb
  show Format.order double a b = _
  unfold Format.order
  rw [hra, hrb]
  show some (compare (signed s m (i - min i j).toNat) (signed t k (j - min i j).toNat)) = _
  obtain ⟨K, hK⟩ : ∃ K : Nat, 0 ≤ min i j + K := ⟨(-(min i j)).toNat, by omega⟩
  have h1 := scale ha K (by omega)
  have h2 := scale hb K (by omega)
  have e1 : (i + K).toNat = (i - min i j).toNat + (min i j + K).toNat := by omega
  have e2 : (j + K).toNat = (j - min i j).toNat + (min i j + K).toNat := by omega
  rw [e1, signed_up] at h1
  rw [e2, signed_up] at h2
  rw [← cmp_scale _ _ (min i j + K).toNat, h1, h2, cmp_scale]

theorem fi_toInt {a : Nat} {x : Int} (ha : FI a x) (h1 : IntKind.i64.min ≤ x) (h2 : x ≤ IntKind.i64.max) : floatToIntVal .f64 a .i64 = some x := by
  obtain ⟨s, m, p, hra, ha⟩ := ha
  unfold floatToIntVal
  have hd : FloatKind.f64.decode a = .number s m p := hra
  rw [hd]
  have : (Datum.number s m p).toInt .zero = some x := by
    unfold Datum.toInt Datum.integral
    simp only []
    congr 1
    by_cases hp : 0 ≤ p
    · have e0 : (-p).toNat = 0 := by omega
      rw [e0] at ha ⊢
      have : Toward.zero.cut s (m <<< p.toNat) 0 = m <<< p.toNat := by
        unfold Toward.cut
        simp
      rw [this]
      have e : signed s (m <<< p.toNat) 0 = signed s m p.toNat := by
        rw [signed_eq, signed_eq, Nat.shiftLeft_eq]; simp
      rw [e, ha]; simp
    · have e0 : p.toNat = 0 := by omega
      rw [e0] at ha ⊢
      have hx : m = x.natAbs * 2 ^ (-p).toNat := by
        have := congrArg Int.natAbs ha
        rw [signed_eq, Int.natAbs_mul, Int.natAbs_mul, Int.natAbs_pow] at this
        cases s <;> simpa using this
      have hs : x = (if s then -1 else 1) * (x.natAbs : Int) := by
        rw [signed_eq] at ha
        have h0 : (2 : Int) ^ (-p).toNat ≠ 0 := by
          have : (0 : Int) < 2 ^ (-p).toNat := Int.pow_pos (by decide)
          omega
        apply Int.eq_of_mul_eq_mul_right h0
        rw [← ha, Int.mul_assoc]
        congr 1
        rw [Nat.pow_zero, Nat.mul_one]
        conv => lhs; rw [hx]
        simp
      have hc : Toward.zero.cut s (m <<< 0) (-p).toNat = x.natAbs := by
        generalize hD : (-p).toNat = D at *
        by_cases hz : x.natAbs = 0
        · rw [hz] at hx ⊢
          rw [hx]
          unfold Toward.cut
          simp
        · have hl : D ≤ m.log2 := by
            rw [hx, log2_up hz _]; omega
          have hm : min D (m.log2 + 2) = D := by omega
          unfold Toward.cut
          simp only [Nat.shiftLeft_zero]
          rw [hm]
          simp only [Nat.shiftLeft_eq, Nat.one_mul]
          rw [hx, Nat.mul_div_cancel _ (Nat.two_pow_pos _)]
          simp
      rw [hc, signed_eq]
      simp only [Nat.pow_zero, Nat.mul_one]
      exact hs.symm
  rw [this]
  simp only []
  rw [if_pos ⟨h1, h2⟩]
end Go.Proofs.Ytffebplkjajafaa
