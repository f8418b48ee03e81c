/- What the reference's Read does: the same. -/
import Derived.Test.YtcnhnjbefhgaaaaRead
import Derived.Test.YtcnhnjbefhgaaaaRefWrite
namespace Go.Proofs.Ytcnhnjbefhgaaaa
open Go.RowKit

/-- the last d of s bytes as a number -/
def last (bs : List Nat) (f s : Nat) : Nat → Nat
  | 0 => 0
  | d + 1 => last bs f s d * 256 + bs.getD (f + (s - 1 - d)) 0
theorem last_word (bs : List Nat) (f s d : Nat) (hd : d ≤ s) : last bs f s d * 2 ^ (8 * (s - d)) + word bs f (s - d) = word bs f s := by
  induction d with
  | zero => simp [last]
  | succ d ih =>
    have i := ih (by omega)
    obtain ⟨m, hm⟩ : ∃ m, s - d = m + 1 := ⟨s - d - 1, by omega⟩
    have h1 : s - (d + 1) = m := by omega
    have h2 : s - 1 - d = m := by omega
    rw [hm] at i
    have e8 : 8 * (m + 1) = 8 * m + 8 := by omega
    rw [h1, last, h2, ← i, word, e8, Nat.pow_add, Nat.add_mul]
    have e : last bs f s d * 256 * 2 ^ (8 * m) = last bs f s d * (2 ^ (8 * m) * 2 ^ 8) := by
      rw [Nat.mul_assoc, Nat.mul_comm 256]
    rw [e]
    omega
theorem last_lt {bs : List Nat} (h : Octets bs) (f s d : Nat) : last bs f s d < 2 ^ (8 * d) := by
  induction d with
  | zero => simp [last]
  | succ d ih =>
    have hc := h.get (f + (s - 1 - d))
    have e : 2 ^ (8 * (d + 1)) = 2 ^ (8 * d) * 256 := by rw [show 8 * (d + 1) = 8 * d + 8 by omega, Nat.pow_add]
    rw [e, last]
    omega
theorem last_int {bs : List Nat} (ho : Octets bs) (f s d v c : Nat) (hd : d < 8) (hv : last bs f s d = v) (hc : bs.getD (f + (s - 1 - d)) 0 = c) : IntKind.u64.wrap (IntKind.u64.wrap ((v : Int) * 256) + (c : Int)) = ((last bs f s (d + 1) : Nat) : Int) := by
  have hp : 2 ^ (8 * d) ≤ 2 ^ 56 := Nat.pow_le_pow_right (by decide) (by omega)
  have hvl : v < 2 ^ 56 := by rw [← hv]; exact Nat.lt_of_lt_of_le (last_lt ho f s d) hp
  have hc8 : c < 256 := by rw [← hc]; exact ho.get _
  rw [last, hv, hc, u64_wrap, u64_wrap]
  omega
/-- d bytes are taken, from the last one -/
def HiIn (bs : List Nat) (f s : Nat) (x i : Value) : Prop := ∃ d m : Nat, d + m = s ∧ i = .int .i64 ((m : Int) - 1) ∧ x = .int .u64 (last bs f s d : Nat)
/-- j bytes are touched -/
def TchIn (ty : TypeId) (base P : Nat) (F : Nat → Prop) (A : Option Addr) (ca : Nat) (bs : List Nat) (ts : List Tch) (f s : Nat) (X : Option Addr) (cx : Nat) (vs : List Nat) (w : World) (i : Value) (wr : World) : Prop :=
  ∃ j : Nat, j ≤ s ∧ i = .int .i64 j ∧ BesideAt ty base P F A ca bs (ts ++ tget bs f j) X cx vs w wr
theorem succ_pred (m : Nat) : (((m + 1 : Nat) : Int)) - 1 = (m : Int) := by omega

theorem rread_arg {w : World} {base P : Nat} {F : Nat → Prop} {bs : List Nat} {ts : List Tch} (h : MemIs 32 w base P F bs ts) (a : Nat) (b n : Int) (hm : mayM b n = false) :
    Calls Try.prog 14 #[.pointer (some ⟨P, 0, none⟩), .int .u64 a, .int .i64 b, .int .i64 n] w (ReadIs 32 base P F bs ts [] 1 w) := by
  have HM := Lib.hid h
  have HB := Lib.hid hm
  clear h hm
  go_enter Try.func14, Try.ntmps14
  go_wp2_with fail
  refine (rmay_any _ _ _).mono ?_
  rw [HB.out]
  rintro e w' ⟨rfl, rfl⟩
  go_wp2_with fail
  go_ret2
  obtain ⟨A0, ca0, T0, ct0, h0⟩ := HM.out
  exact ⟨none, 0, rfl, A0, ca0, F, T0, ct0, fun i hi => .inl hi, h0, Turned.refl _ _, World.ownsRow_nil _ _ _ _, fun g hg => by cases hg⟩

set_option maxHeartbeats 4000000 in
set_option maxRecDepth 100000 in
theorem rread_1 {w : World} {base P : Nat} {F : Nat → Prop} {bs : List Nat} {ts : List Tch} (h : MemIs 32 w base P F bs ts) (hbase : base ≤ w.heap.size) (hn : bs.length ≤ 5000) (ht : ts.length ≤ 1000000) (a : Nat) (ha : a < 18446744073709551616)
    (n : Nat) (hlen : n ≤ 16) (q : Nat) (hq : fit bs.length a 1 n = q) (c : Int) (vs : List Nat) (hc : (q = n ∧ c = 0 ∧ vs = rV bs a 1 n) ∨ (q ≠ n ∧ c = 8 ∧ vs = [])) :
    Calls Try.prog 14 #[.pointer (some ⟨P, 0, none⟩), .int .u64 a, .int .i64 8, .int .i64 n] w (ReadIs 32 base P F bs (ts ++ rT bs a 1 q) vs c w) := by
  have HM := Lib.hid h
  have HB : Hid (mayM 8 n = true) := Lib.hid (by simp [mayM, wid]; omega)
  have HA := Lib.hid ha
  have HQ := Lib.hid hq
  have HC := Lib.hid hc
  clear h ha hq hc
  obtain ⟨i0, hi0, hz0, hz1, hz2⟩ := info_parts info49
  obtain ⟨k0, ki0, kz0, kz1, kz2⟩ := info_parts info33
  go_enter Try.func14, Try.ntmps14
  go_wp2_with fail
  refine (rmay_any _ _ _).mono ?_
  rw [HB.out]
  rintro e w' ⟨rfl, rfl⟩
  go_wp2_with fail
  go_loopw [10, 12] (fun x i wr => RLoop 32 base P F bs ts a 1 n w x i wr) (fun _ i _ => n - (intOf i).toNat)
  case atStart =>
    obtain ⟨A0, ca0, T0, ct0, h0⟩ := HM.out
    exact ⟨0, none, 0, Nat.zero_le _, rfl, rfl, A0, ca0, F, T0, ct0, fun j hj => .inl hj, by simpa [rT] using h0, Turned.refl _ _, World.ownsRow_nil _ _ _ _, fun g hg => by cases hg⟩
  case round =>
    obtain ⟨k, X, cx, hk, rfl, rfl, hbes⟩ := hrel
    have hkl : k ≤ n := Nat.le_trans hk (fit_le _ _ _ _)
    have HBES := Lib.hid hbes
    have HK := Lib.hid hk
    clear hbes hk
    by_cases hlt : k < n
    · obtain ⟨A0, ca0, hbat⟩ := HBES.out
      have HBAT := Lib.hid hbat
      obtain ⟨F1, T0, ct0, hF1, hat0, htur, hown, hoff⟩ := hbat
      have HAT0 := Lib.hid hat0
      by_cases hfit : a + (k + 1) * 1 ≤ bs.length
      · have HT : Hid (decide (a + (k + 1) * 1 ≤ bs.length) = true) := Lib.hid (by simpa using hfit)
        obtain ⟨g, rfl, hgF, hgP, hle, hcap⟩ := hat0.formA (by omega)
        have c0 := hat0.cell0
        have ha5 : a ≤ 5000 := by omega
        have hpos : a + k * 1 + 1 ≤ bs.length := by omega
        have HFIT := Lib.hid hfit
        clear hfit hat0 hF1 htur hown hoff hgP
        go_wp2_with fail
        refine (fits_any HAT0.out hn a HA.out 1 k (by decide) (by decide) (by omega) true HT.out).mono ?_
        rintro e w' ⟨rfl, rfl⟩
        go_wp2_with fail
        go_loop [13, 14] (fun x i => HiIn bs (a + k * 1) 1 x i) (fun _ i => (intOf i + 1).toNat)
        case atStart => exact ⟨0, 1, rfl, rfl, rfl⟩
        case round =>
          obtain ⟨d, m, hdm, rfl, rfl⟩ := hrel
          obtain ⟨v, hv⟩ : ∃ v, last bs (a + k * 1) 1 d = v := ⟨_, rfl⟩
          rw [hv]
          by_cases hm0 : 1 ≤ m
          · obtain ⟨m, rfl⟩ : ∃ m', m = m' + 1 := ⟨m - 1, by omega⟩
            rw [succ_pred m]
            obtain ⟨cc, hcc⟩ : ∃ cc, bs.getD (a + (k + m)) 0 = cc := ⟨_, rfl⟩
            have b1 := HAT0.out.byteCell (j := a + (k + m)) (by omega)
            rw [hcc] at b1
            have e6 := last_int HAT0.out.oct (a + k * 1) 1 d v cc (by omega) hv (by rw [← hcc]; congr 1; omega)
            have hc8 : cc < 256 := by rw [← hcc]; exact HAT0.out.oct.get _
            clear hv hcc hm0
            go_wp2_with fail
            go_round
            case rel => exact ⟨d + 1, m, by omega, rfl, by first | rfl | simp⟩
            case measure => simp [intOf]
          · obtain rfl : m = 0 := by omega
            have HV : Hid (word bs (a + k * 1) 1 = v) := Lib.hid (by
              have h1 := last_word bs (a + k * 1) 1 1 (Nat.le_refl _)
              rw [show d = 1 by omega] at hv
              rw [hv, Nat.sub_self, Nat.mul_zero, Nat.pow_zero, Nat.mul_one] at h1
              rw [← h1]
              rfl)
            clear hv hdm hm0
            go_wp2_with fail
            clear c0
            go_loopw [15] (fun i wr => TchIn 32 base P F (some ⟨g, 0, none⟩) ca0 bs (ts ++ rT bs a 1 k) (a + k * 1) 1 X cx (rV bs a 1 k) w i wr) (fun i _ => 1 - (intOf i).toNat)
            case atStart => exact ⟨0, Nat.zero_le _, rfl, by simpa [tget] using HBAT.out⟩
            case round =>
              obtain ⟨j, hj, rfl, hbat2⟩ := hrel
              have HBAT2 := Lib.hid hbat2
              by_cases hjlt : j < 1
              · obtain ⟨F2, T, ct, hF2, hat, htur2, hown2, hoff2⟩ := hbat2
                obtain ⟨TS, hTS⟩ : ∃ TS, (ts ++ rT bs a 1 k) ++ tget bs (a + k * 1) j = TS := ⟨_, rfl⟩
                obtain ⟨cc, hcc⟩ : ∃ cc, bs.getD (a + (k + j)) 0 = cc := ⟨_, rfl⟩
                rw [hTS] at hat
                have hTl : TS.length ≤ 1000200 := by rw [← hTS]; simp; omega
                have hfj : a + (k + j) < bs.length := by omega
                have HPOS : Hid (a + (k + j) = a + k * 1 + j) := Lib.hid (by omega)
                have b1 := hat.byteCell hfj
                rw [hcc] at b1
                have d0 := hat.cell0
                have d1 := hat.cell1
                have HAT := Lib.hid hat
                have HF2 := Lib.hid hF2
                have HTUR2 := Lib.hid htur2
                have HOWN2 := Lib.hid hown2
                have HOFF2 := Lib.hid hoff2
                have HTS := Lib.hid hTS
                have HCC := Lib.hid hcc
                clear hF2 htur2 hat hown2 hoff2 hTS hcc HBAT2 HBAT
                go_wp2_with fail
                have p0 : (0 : Int) ≤ (a : Int) + ((k : Int) + (j : Int)) := by omega
                have p1 : (a : Int) + ((k : Int) + (j : Int)) < (bs.length : Int) := by omega
                have p2 : ((a : Int) + ((k : Int) + (j : Int))).toNat = a + (k + j) := by omega
                have HBASE : Hid (base ≤ (wr.alloc (.cells #[.bool false, .int .u64 ((a : Int) + ((k : Int) + (j : Int))), .int .u8 cc] 49)).drew.heap.size) := Lib.hid (by have := HTUR2.out.size; simp; omega)
                have HSZ : Hid ((wr.alloc (.cells #[.bool false, .int .u64 ((a : Int) + ((k : Int) + (j : Int))), .int .u8 cc] 49)).drew.heap.size = wr.heap.size + 1) := Lib.hid (by simp)
                have HNEWS := Lib.hid (news_drew wr wr.heap.size rfl (false, a + (k + j), cc) ((a : Int) + ((k : Int) + (j : Int))) (by simp))
                have d4 : (wr.alloc (.cells #[.bool false, .int .u64 ((a : Int) + ((k : Int) + (j : Int))), .int .u8 cc] 49)).cell? ⟨P, 1, none⟩ = some (.slice T TS.length ct) := (World.cell?_alloc_lt _ _ ⟨P, 1, none⟩ (HAT.out.lo P HAT.out.inP).2).trans d1
                have H63 : Hid (TS.length + 1 ≤ maxLen) := Lib.hid (by unfold maxLen; omega)
                have H24 : Hid ((TS.length + 1) * 24 ≤ 140737488355328) := Lib.hid (by omega)
                go_region_law (((refine step_append_lies _ rfl _ _ 30 rfl base 49 i0 _ 3 24 Try.underlying30 hi0 hz0 hz1 hz2 rfl (by decide) _ TS.length (tvs TS) rfl ((HAT.out.ownT.alloc _).drew) ⟨wr.heap.size, 0, none⟩ 1 1 (tv (false, a + (k + j), cc)) rfl rfl HNEWS.out (tv_one _) (by decide) H63.out H24.out HBASE.out (wr.heap.size + 1) HSZ.out ?_); intro gg cap1 w1 hown1 hgrow hat3 hltg; obtain ⟨q1, q2, q3⟩ := HAT.out.after _ (grown_of_drew hgrow)))
                all_goals
                  have NEXT : Hid (TchIn 32 base P F (some ⟨g, 0, none⟩) ca0 bs (ts ++ rT bs a 1 k) (a + k * 1) 1 X cx (rV bs a 1 k) w (.int .i64 ((j + 1 : Nat) : Int)) (w1.setCell ⟨P, 1, none⟩ (.slice (some ⟨gg, 0, none⟩) (TS.length + 1) cap1))) := Lib.hid (by
                    have h1 := beside_push HF2.out HAT.out HTUR2.out HOWN2.out HOFF2.out _ (false, a + (k + j), cc) hown1 (grown_of_drew hgrow) hat3
                    refine ⟨j + 1, by omega, rfl, ?_⟩
                    have e : ts ++ rT bs a 1 k ++ tget bs (a + k * 1) (j + 1) = TS ++ [(false, a + (k + j), cc)] := by
                      rw [← HTS.out, ← HCC.out, tget, HPOS.out, List.append_assoc (ts ++ rT bs a 1 k)]
                    rw [e]
                    exact h1)
                  clear hown1 hgrow hat3 b1 d0 d1 d4 p0 p1 p2
                  go_wp2_with fail
                  go_roundw
                  case rel => exact NEXT.out
                  case measure => simp [intOf]; omega
              · obtain rfl : j = 1 := by omega
                have hXl : (rV bs a 1 k).length = k := by simp
                obtain ⟨F2, T, ct, hF2, hat, htur2, hown2, hoff2⟩ := hbat2
                have HZ := htur2.size
                have HOWN2 := Lib.hid hown2
                rw [hXl] at HOWN2
                clear hF2 hat htur2 hown2 hoff2 hXl
                go_wp2_with (at_builtin; refine wpList_append_lies _ rfl _ _ 34 rfl w.heap.size 33 k0 _ 1 8 Try.underlying34 ki0 kz0 kz1 kz2 rfl (by decide) _ k ((rV bs a 1 k).map uv) rfl (HOWN2.out.alloc _) _ 1 1 [uv v] rfl (by rfl) ?d1 ?d2 (by decide) ?d3 ?d4 ?d5 _ rfl ?_)
                case d1 => exact news_word _ _ rfl v
                case d2 => exact uv_one v
                case d3 => unfold maxLen; omega
                case d4 => omega
                case d5 => simp; omega
                intro gg cap1 w1 hown1 hgrow hat3 _
                have NEXT : Hid (RLoop 32 base P F bs ts a 1 n w (.slice (some ⟨gg, 0, none⟩) (k + 1) cap1) (.int .i64 ((k + 1 : Nat) : Int)) w1) := Lib.hid (by
                  have hXl : (rV bs a 1 k).length = k := by simp
                  have h1 : BesideAt 32 base P F (some ⟨g, 0, none⟩) ca0 bs (ts ++ rT bs a 1 k ++ tget bs (a + k * 1) 1) (some ⟨gg, 0, none⟩) cap1 (rV bs a 1 k ++ [v]) w w1 := by
                    refine beside_app v HBAT2.out (Obj.cells #[.int .u64 (v : Int)] 33) ?_ ?_ ?_
                    · rw [hXl]; exact hown1
                    · rw [hXl]; exact hgrow
                    · rw [hXl]; exact hat3
                  refine ⟨k + 1, some ⟨gg, 0, none⟩, cap1, (lt_fit (by decide) hlt).2 HFIT.out, rfl, rfl, some ⟨g, 0, none⟩, ca0, ?_⟩
                  have e : ts ++ rT bs a 1 (k + 1) = ts ++ rT bs a 1 k ++ tget bs (a + k * 1) 1 := by rw [rT, List.append_assoc]
                  have e2 : rV bs a 1 (k + 1) = rV bs a 1 k ++ [v] := by rw [← HV.out, rV]
                  rw [e, e2]
                  exact h1)
                clear hown1 hgrow hat3 HZ
                go_wp2_with fail
                go_roundw
                case rel => exact NEXT.out
                case measure => simp [intOf]; omega
      · have HQK : Hid (q = k) := Lib.hid (by rw [← HQ.out]; exact fit_stop (by decide) HK.out hlt hfit)
        have HC8 : Hid (c = 8 ∧ vs = []) := Lib.hid (by rcases HC.out with h | h; exact absurd (HQK.out.symm.trans h.1) (by omega); exact h.2)
        have HT : Hid (decide (a + (k + 1) * 1 ≤ bs.length) = false) := Lib.hid (by simpa using hfit)
        have HMEM : Hid (MemAt 32 wr base P F1 A0 ca0 T0 ct0 bs (ts ++ rT bs a 1 k) ∧ Turned F w wr ∧ ∀ j, F1 j → F j ∨ w.heap.size ≤ j) := Lib.hid ⟨hat0, htur, hF1⟩
        clear hfit hat0 hF1 htur hown hoff
        go_wp2_with fail
        refine (fits_any HAT0.out hn a HA.out 1 k (by decide) (by decide) (by omega) false HT.out).mono ?_
        rintro e w' ⟨rfl, rfl⟩
        go_wp2_with fail
        go_ret2
        exact ⟨none, 0, by rw [HC8.out.1, HC8.out.2]; rfl, A0, ca0, F1, T0, ct0, HMEM.out.2.2, by rw [HQK.out]; exact HMEM.out.1, HMEM.out.2.1, by rw [HC8.out.2]; exact World.ownsRow_nil _ _ _ _, fun g hg => by cases hg⟩
    · have HKL : Hid (k = n) := Lib.hid (by omega)
      have HQK : Hid (q = k) := Lib.hid (by have h1 := HK.out; have h2 := fit_le bs.length a 1 n; rw [HQ.out] at h1 h2; omega)
      have HC0 : Hid (c = 0 ∧ vs = rV bs a 1 n) := Lib.hid (by rcases HC.out with h | h; exact h.2; exact absurd (HQK.out.trans HKL.out) h.1)
      go_wp2_with fail
      go_ret2
      exact ⟨X, cx, by rw [HC0.out.1, HC0.out.2, rV_length, HKL.out]; rfl, by rw [HQK.out, HC0.out.2, ← HKL.out]; exact HBES.out⟩

set_option maxHeartbeats 4000000 in
set_option maxRecDepth 100000 in
theorem rread_2 {w : World} {base P : Nat} {F : Nat → Prop} {bs : List Nat} {ts : List Tch} (h : MemIs 32 w base P F bs ts) (hbase : base ≤ w.heap.size) (hn : bs.length ≤ 5000) (ht : ts.length ≤ 1000000) (a : Nat) (ha : a < 18446744073709551616)
    (n : Nat) (hlen : n ≤ 16) (q : Nat) (hq : fit bs.length a 2 n = q) (c : Int) (vs : List Nat) (hc : (q = n ∧ c = 0 ∧ vs = rV bs a 2 n) ∨ (q ≠ n ∧ c = 8 ∧ vs = [])) :
    Calls Try.prog 14 #[.pointer (some ⟨P, 0, none⟩), .int .u64 a, .int .i64 16, .int .i64 n] w (ReadIs 32 base P F bs (ts ++ rT bs a 2 q) vs c w) := by
  have HM := Lib.hid h
  have HB : Hid (mayM 16 n = true) := Lib.hid (by simp [mayM, wid]; omega)
  have HA := Lib.hid ha
  have HQ := Lib.hid hq
  have HC := Lib.hid hc
  clear h ha hq hc
  obtain ⟨i0, hi0, hz0, hz1, hz2⟩ := info_parts info49
  obtain ⟨k0, ki0, kz0, kz1, kz2⟩ := info_parts info33
  go_enter Try.func14, Try.ntmps14
  go_wp2_with fail
  refine (rmay_any _ _ _).mono ?_
  rw [HB.out]
  rintro e w' ⟨rfl, rfl⟩
  go_wp2_with fail
  go_loopw [10, 12] (fun x i wr => RLoop 32 base P F bs ts a 2 n w x i wr) (fun _ i _ => n - (intOf i).toNat)
  case atStart =>
    obtain ⟨A0, ca0, T0, ct0, h0⟩ := HM.out
    exact ⟨0, none, 0, Nat.zero_le _, rfl, rfl, A0, ca0, F, T0, ct0, fun j hj => .inl hj, by simpa [rT] using h0, Turned.refl _ _, World.ownsRow_nil _ _ _ _, fun g hg => by cases hg⟩
  case round =>
    obtain ⟨k, X, cx, hk, rfl, rfl, hbes⟩ := hrel
    have hkl : k ≤ n := Nat.le_trans hk (fit_le _ _ _ _)
    have HBES := Lib.hid hbes
    have HK := Lib.hid hk
    clear hbes hk
    by_cases hlt : k < n
    · obtain ⟨A0, ca0, hbat⟩ := HBES.out
      have HBAT := Lib.hid hbat
      obtain ⟨F1, T0, ct0, hF1, hat0, htur, hown, hoff⟩ := hbat
      have HAT0 := Lib.hid hat0
      by_cases hfit : a + (k + 1) * 2 ≤ bs.length
      · have HT : Hid (decide (a + (k + 1) * 2 ≤ bs.length) = true) := Lib.hid (by simpa using hfit)
        obtain ⟨g, rfl, hgF, hgP, hle, hcap⟩ := hat0.formA (by omega)
        have c0 := hat0.cell0
        have ha5 : a ≤ 5000 := by omega
        have hpos : a + k * 2 + 2 ≤ bs.length := by omega
        have HFIT := Lib.hid hfit
        clear hfit hat0 hF1 htur hown hoff hgP
        go_wp2_with fail
        refine (fits_any HAT0.out hn a HA.out 2 k (by decide) (by decide) (by omega) true HT.out).mono ?_
        rintro e w' ⟨rfl, rfl⟩
        go_wp2_with fail
        go_loop [13, 14] (fun x i => HiIn bs (a + k * 2) 2 x i) (fun _ i => (intOf i + 1).toNat)
        case atStart => exact ⟨0, 2, rfl, rfl, rfl⟩
        case round =>
          obtain ⟨d, m, hdm, rfl, rfl⟩ := hrel
          obtain ⟨v, hv⟩ : ∃ v, last bs (a + k * 2) 2 d = v := ⟨_, rfl⟩
          rw [hv]
          by_cases hm0 : 1 ≤ m
          · obtain ⟨m, rfl⟩ : ∃ m', m = m' + 1 := ⟨m - 1, by omega⟩
            rw [succ_pred m]
            obtain ⟨cc, hcc⟩ : ∃ cc, bs.getD (a + (k * 2 + m)) 0 = cc := ⟨_, rfl⟩
            have b1 := HAT0.out.byteCell (j := a + (k * 2 + m)) (by omega)
            rw [hcc] at b1
            have e6 := last_int HAT0.out.oct (a + k * 2) 2 d v cc (by omega) hv (by rw [← hcc]; congr 1; omega)
            have hc8 : cc < 256 := by rw [← hcc]; exact HAT0.out.oct.get _
            clear hv hcc hm0
            go_wp2_with fail
            go_round
            case rel => exact ⟨d + 1, m, by omega, rfl, by first | rfl | simp⟩
            case measure => simp [intOf]
          · obtain rfl : m = 0 := by omega
            have HV : Hid (word bs (a + k * 2) 2 = v) := Lib.hid (by
              have h1 := last_word bs (a + k * 2) 2 2 (Nat.le_refl _)
              rw [show d = 2 by omega] at hv
              rw [hv, Nat.sub_self, Nat.mul_zero, Nat.pow_zero, Nat.mul_one] at h1
              rw [← h1]
              rfl)
            clear hv hdm hm0
            go_wp2_with fail
            clear c0
            go_loopw [15] (fun i wr => TchIn 32 base P F (some ⟨g, 0, none⟩) ca0 bs (ts ++ rT bs a 2 k) (a + k * 2) 2 X cx (rV bs a 2 k) w i wr) (fun i _ => 2 - (intOf i).toNat)
            case atStart => exact ⟨0, Nat.zero_le _, rfl, by simpa [tget] using HBAT.out⟩
            case round =>
              obtain ⟨j, hj, rfl, hbat2⟩ := hrel
              have HBAT2 := Lib.hid hbat2
              by_cases hjlt : j < 2
              · obtain ⟨F2, T, ct, hF2, hat, htur2, hown2, hoff2⟩ := hbat2
                obtain ⟨TS, hTS⟩ : ∃ TS, (ts ++ rT bs a 2 k) ++ tget bs (a + k * 2) j = TS := ⟨_, rfl⟩
                obtain ⟨cc, hcc⟩ : ∃ cc, bs.getD (a + (k * 2 + j)) 0 = cc := ⟨_, rfl⟩
                rw [hTS] at hat
                have hTl : TS.length ≤ 1000200 := by rw [← hTS]; simp; omega
                have hfj : a + (k * 2 + j) < bs.length := by omega
                have HPOS : Hid (a + (k * 2 + j) = a + k * 2 + j) := Lib.hid (by omega)
                have b1 := hat.byteCell hfj
                rw [hcc] at b1
                have d0 := hat.cell0
                have d1 := hat.cell1
                have HAT := Lib.hid hat
                have HF2 := Lib.hid hF2
                have HTUR2 := Lib.hid htur2
                have HOWN2 := Lib.hid hown2
                have HOFF2 := Lib.hid hoff2
                have HTS := Lib.hid hTS
                have HCC := Lib.hid hcc
                clear hF2 htur2 hat hown2 hoff2 hTS hcc HBAT2 HBAT
                go_wp2_with fail
                have p0 : (0 : Int) ≤ (a : Int) + ((k : Int) * 2 + (j : Int)) := by omega
                have p1 : (a : Int) + ((k : Int) * 2 + (j : Int)) < (bs.length : Int) := by omega
                have p2 : ((a : Int) + ((k : Int) * 2 + (j : Int))).toNat = a + (k * 2 + j) := by omega
                have HBASE : Hid (base ≤ (wr.alloc (.cells #[.bool false, .int .u64 ((a : Int) + ((k : Int) * 2 + (j : Int))), .int .u8 cc] 49)).drew.heap.size) := Lib.hid (by have := HTUR2.out.size; simp; omega)
                have HSZ : Hid ((wr.alloc (.cells #[.bool false, .int .u64 ((a : Int) + ((k : Int) * 2 + (j : Int))), .int .u8 cc] 49)).drew.heap.size = wr.heap.size + 1) := Lib.hid (by simp)
                have HNEWS := Lib.hid (news_drew wr wr.heap.size rfl (false, a + (k * 2 + j), cc) ((a : Int) + ((k : Int) * 2 + (j : Int))) (by simp))
                have d4 : (wr.alloc (.cells #[.bool false, .int .u64 ((a : Int) + ((k : Int) * 2 + (j : Int))), .int .u8 cc] 49)).cell? ⟨P, 1, none⟩ = some (.slice T TS.length ct) := (World.cell?_alloc_lt _ _ ⟨P, 1, none⟩ (HAT.out.lo P HAT.out.inP).2).trans d1
                have H63 : Hid (TS.length + 1 ≤ maxLen) := Lib.hid (by unfold maxLen; omega)
                have H24 : Hid ((TS.length + 1) * 24 ≤ 140737488355328) := Lib.hid (by omega)
                go_region_law (((refine step_append_lies _ rfl _ _ 30 rfl base 49 i0 _ 3 24 Try.underlying30 hi0 hz0 hz1 hz2 rfl (by decide) _ TS.length (tvs TS) rfl ((HAT.out.ownT.alloc _).drew) ⟨wr.heap.size, 0, none⟩ 1 1 (tv (false, a + (k * 2 + j), cc)) rfl rfl HNEWS.out (tv_one _) (by decide) H63.out H24.out HBASE.out (wr.heap.size + 1) HSZ.out ?_); intro gg cap1 w1 hown1 hgrow hat3 hltg; obtain ⟨q1, q2, q3⟩ := HAT.out.after _ (grown_of_drew hgrow)))
                all_goals
                  have NEXT : Hid (TchIn 32 base P F (some ⟨g, 0, none⟩) ca0 bs (ts ++ rT bs a 2 k) (a + k * 2) 2 X cx (rV bs a 2 k) w (.int .i64 ((j + 1 : Nat) : Int)) (w1.setCell ⟨P, 1, none⟩ (.slice (some ⟨gg, 0, none⟩) (TS.length + 1) cap1))) := Lib.hid (by
                    have h1 := beside_push HF2.out HAT.out HTUR2.out HOWN2.out HOFF2.out _ (false, a + (k * 2 + j), cc) hown1 (grown_of_drew hgrow) hat3
                    refine ⟨j + 1, by omega, rfl, ?_⟩
                    have e : ts ++ rT bs a 2 k ++ tget bs (a + k * 2) (j + 1) = TS ++ [(false, a + (k * 2 + j), cc)] := by
                      rw [← HTS.out, ← HCC.out, tget, HPOS.out, List.append_assoc (ts ++ rT bs a 2 k)]
                    rw [e]
                    exact h1)
                  clear hown1 hgrow hat3 b1 d0 d1 d4 p0 p1 p2
                  go_wp2_with fail
                  go_roundw
                  case rel => exact NEXT.out
                  case measure => simp [intOf]; omega
              · obtain rfl : j = 2 := by omega
                have hXl : (rV bs a 2 k).length = k := by simp
                obtain ⟨F2, T, ct, hF2, hat, htur2, hown2, hoff2⟩ := hbat2
                have HZ := htur2.size
                have HOWN2 := Lib.hid hown2
                rw [hXl] at HOWN2
                clear hF2 hat htur2 hown2 hoff2 hXl
                go_wp2_with (at_builtin; refine wpList_append_lies _ rfl _ _ 34 rfl w.heap.size 33 k0 _ 1 8 Try.underlying34 ki0 kz0 kz1 kz2 rfl (by decide) _ k ((rV bs a 2 k).map uv) rfl (HOWN2.out.alloc _) _ 1 1 [uv v] rfl (by rfl) ?d1 ?d2 (by decide) ?d3 ?d4 ?d5 _ rfl ?_)
                case d1 => exact news_word _ _ rfl v
                case d2 => exact uv_one v
                case d3 => unfold maxLen; omega
                case d4 => omega
                case d5 => simp; omega
                intro gg cap1 w1 hown1 hgrow hat3 _
                have NEXT : Hid (RLoop 32 base P F bs ts a 2 n w (.slice (some ⟨gg, 0, none⟩) (k + 1) cap1) (.int .i64 ((k + 1 : Nat) : Int)) w1) := Lib.hid (by
                  have hXl : (rV bs a 2 k).length = k := by simp
                  have h1 : BesideAt 32 base P F (some ⟨g, 0, none⟩) ca0 bs (ts ++ rT bs a 2 k ++ tget bs (a + k * 2) 2) (some ⟨gg, 0, none⟩) cap1 (rV bs a 2 k ++ [v]) w w1 := by
                    refine beside_app v HBAT2.out (Obj.cells #[.int .u64 (v : Int)] 33) ?_ ?_ ?_
                    · rw [hXl]; exact hown1
                    · rw [hXl]; exact hgrow
                    · rw [hXl]; exact hat3
                  refine ⟨k + 1, some ⟨gg, 0, none⟩, cap1, (lt_fit (by decide) hlt).2 HFIT.out, rfl, rfl, some ⟨g, 0, none⟩, ca0, ?_⟩
                  have e : ts ++ rT bs a 2 (k + 1) = ts ++ rT bs a 2 k ++ tget bs (a + k * 2) 2 := by rw [rT, List.append_assoc]
                  have e2 : rV bs a 2 (k + 1) = rV bs a 2 k ++ [v] := by rw [← HV.out, rV]
                  rw [e, e2]
                  exact h1)
                clear hown1 hgrow hat3 HZ
                go_wp2_with fail
                go_roundw
                case rel => exact NEXT.out
                case measure => simp [intOf]; omega
      · have HQK : Hid (q = k) := Lib.hid (by rw [← HQ.out]; exact fit_stop (by decide) HK.out hlt hfit)
        have HC8 : Hid (c = 8 ∧ vs = []) := Lib.hid (by rcases HC.out with h | h; exact absurd (HQK.out.symm.trans h.1) (by omega); exact h.2)
        have HT : Hid (decide (a + (k + 1) * 2 ≤ bs.length) = false) := Lib.hid (by simpa using hfit)
        have HMEM : Hid (MemAt 32 wr base P F1 A0 ca0 T0 ct0 bs (ts ++ rT bs a 2 k) ∧ Turned F w wr ∧ ∀ j, F1 j → F j ∨ w.heap.size ≤ j) := Lib.hid ⟨hat0, htur, hF1⟩
        clear hfit hat0 hF1 htur hown hoff
        go_wp2_with fail
        refine (fits_any HAT0.out hn a HA.out 2 k (by decide) (by decide) (by omega) false HT.out).mono ?_
        rintro e w' ⟨rfl, rfl⟩
        go_wp2_with fail
        go_ret2
        exact ⟨none, 0, by rw [HC8.out.1, HC8.out.2]; rfl, A0, ca0, F1, T0, ct0, HMEM.out.2.2, by rw [HQK.out]; exact HMEM.out.1, HMEM.out.2.1, by rw [HC8.out.2]; exact World.ownsRow_nil _ _ _ _, fun g hg => by cases hg⟩
    · have HKL : Hid (k = n) := Lib.hid (by omega)
      have HQK : Hid (q = k) := Lib.hid (by have h1 := HK.out; have h2 := fit_le bs.length a 2 n; rw [HQ.out] at h1 h2; omega)
      have HC0 : Hid (c = 0 ∧ vs = rV bs a 2 n) := Lib.hid (by rcases HC.out with h | h; exact h.2; exact absurd (HQK.out.trans HKL.out) h.1)
      go_wp2_with fail
      go_ret2
      exact ⟨X, cx, by rw [HC0.out.1, HC0.out.2, rV_length, HKL.out]; rfl, by rw [HQK.out, HC0.out.2, ← HKL.out]; exact HBES.out⟩

set_option maxHeartbeats 4000000 in
set_option maxRecDepth 100000 in
theorem rread_4 {w : World} {base P : Nat} {F : Nat → Prop} {bs : List Nat} {ts : List Tch} (h : MemIs 32 w base P F bs ts) (hbase : base ≤ w.heap.size) (hn : bs.length ≤ 5000) (ht : ts.length ≤ 1000000) (a : Nat) (ha : a < 18446744073709551616)
    (n : Nat) (hlen : n ≤ 16) (q : Nat) (hq : fit bs.length a 4 n = q) (c : Int) (vs : List Nat) (hc : (q = n ∧ c = 0 ∧ vs = rV bs a 4 n) ∨ (q ≠ n ∧ c = 8 ∧ vs = [])) :
    Calls Try.prog 14 #[.pointer (some ⟨P, 0, none⟩), .int .u64 a, .int .i64 32, .int .i64 n] w (ReadIs 32 base P F bs (ts ++ rT bs a 4 q) vs c w) := by
  have HM := Lib.hid h
  have HB : Hid (mayM 32 n = true) := Lib.hid (by simp [mayM, wid]; omega)
  have HA := Lib.hid ha
  have HQ := Lib.hid hq
  have HC := Lib.hid hc
  clear h ha hq hc
  obtain ⟨i0, hi0, hz0, hz1, hz2⟩ := info_parts info49
  obtain ⟨k0, ki0, kz0, kz1, kz2⟩ := info_parts info33
  go_enter Try.func14, Try.ntmps14
  go_wp2_with fail
  refine (rmay_any _ _ _).mono ?_
  rw [HB.out]
  rintro e w' ⟨rfl, rfl⟩
  go_wp2_with fail
  go_loopw [10, 12] (fun x i wr => RLoop 32 base P F bs ts a 4 n w x i wr) (fun _ i _ => n - (intOf i).toNat)
  case atStart =>
    obtain ⟨A0, ca0, T0, ct0, h0⟩ := HM.out
    exact ⟨0, none, 0, Nat.zero_le _, rfl, rfl, A0, ca0, F, T0, ct0, fun j hj => .inl hj, by simpa [rT] using h0, Turned.refl _ _, World.ownsRow_nil _ _ _ _, fun g hg => by cases hg⟩
  case round =>
    obtain ⟨k, X, cx, hk, rfl, rfl, hbes⟩ := hrel
    have hkl : k ≤ n := Nat.le_trans hk (fit_le _ _ _ _)
    have HBES := Lib.hid hbes
    have HK := Lib.hid hk
    clear hbes hk
    by_cases hlt : k < n
    · obtain ⟨A0, ca0, hbat⟩ := HBES.out
      have HBAT := Lib.hid hbat
      obtain ⟨F1, T0, ct0, hF1, hat0, htur, hown, hoff⟩ := hbat
      have HAT0 := Lib.hid hat0
      by_cases hfit : a + (k + 1) * 4 ≤ bs.length
      · have HT : Hid (decide (a + (k + 1) * 4 ≤ bs.length) = true) := Lib.hid (by simpa using hfit)
        obtain ⟨g, rfl, hgF, hgP, hle, hcap⟩ := hat0.formA (by omega)
        have c0 := hat0.cell0
        have ha5 : a ≤ 5000 := by omega
        have hpos : a + k * 4 + 4 ≤ bs.length := by omega
        have HFIT := Lib.hid hfit
        clear hfit hat0 hF1 htur hown hoff hgP
        go_wp2_with fail
        refine (fits_any HAT0.out hn a HA.out 4 k (by decide) (by decide) (by omega) true HT.out).mono ?_
        rintro e w' ⟨rfl, rfl⟩
        go_wp2_with fail
        go_loop [13, 14] (fun x i => HiIn bs (a + k * 4) 4 x i) (fun _ i => (intOf i + 1).toNat)
        case atStart => exact ⟨0, 4, rfl, rfl, rfl⟩
        case round =>
          obtain ⟨d, m, hdm, rfl, rfl⟩ := hrel
          obtain ⟨v, hv⟩ : ∃ v, last bs (a + k * 4) 4 d = v := ⟨_, rfl⟩
          rw [hv]
          by_cases hm0 : 1 ≤ m
          · obtain ⟨m, rfl⟩ : ∃ m', m = m' + 1 := ⟨m - 1, by omega⟩
            rw [succ_pred m]
            obtain ⟨cc, hcc⟩ : ∃ cc, bs.getD (a + (k * 4 + m)) 0 = cc := ⟨_, rfl⟩
            have b1 := HAT0.out.byteCell (j := a + (k * 4 + m)) (by omega)
            rw [hcc] at b1
            have e6 := last_int HAT0.out.oct (a + k * 4) 4 d v cc (by omega) hv (by rw [← hcc]; congr 1; omega)
            have hc8 : cc < 256 := by rw [← hcc]; exact HAT0.out.oct.get _
            clear hv hcc hm0
            go_wp2_with fail
            go_round
            case rel => exact ⟨d + 1, m, by omega, rfl, by first | rfl | simp⟩
            case measure => simp [intOf]
          · obtain rfl : m = 0 := by omega
            have HV : Hid (word bs (a + k * 4) 4 = v) := Lib.hid (by
              have h1 := last_word bs (a + k * 4) 4 4 (Nat.le_refl _)
              rw [show d = 4 by omega] at hv
              rw [hv, Nat.sub_self, Nat.mul_zero, Nat.pow_zero, Nat.mul_one] at h1
              rw [← h1]
              rfl)
            clear hv hdm hm0
            go_wp2_with fail
            clear c0
            go_loopw [15] (fun i wr => TchIn 32 base P F (some ⟨g, 0, none⟩) ca0 bs (ts ++ rT bs a 4 k) (a + k * 4) 4 X cx (rV bs a 4 k) w i wr) (fun i _ => 4 - (intOf i).toNat)
            case atStart => exact ⟨0, Nat.zero_le _, rfl, by simpa [tget] using HBAT.out⟩
            case round =>
              obtain ⟨j, hj, rfl, hbat2⟩ := hrel
              have HBAT2 := Lib.hid hbat2
              by_cases hjlt : j < 4
              · obtain ⟨F2, T, ct, hF2, hat, htur2, hown2, hoff2⟩ := hbat2
                obtain ⟨TS, hTS⟩ : ∃ TS, (ts ++ rT bs a 4 k) ++ tget bs (a + k * 4) j = TS := ⟨_, rfl⟩
                obtain ⟨cc, hcc⟩ : ∃ cc, bs.getD (a + (k * 4 + j)) 0 = cc := ⟨_, rfl⟩
                rw [hTS] at hat
                have hTl : TS.length ≤ 1000200 := by rw [← hTS]; simp; omega
                have hfj : a + (k * 4 + j) < bs.length := by omega
                have HPOS : Hid (a + (k * 4 + j) = a + k * 4 + j) := Lib.hid (by omega)
                have b1 := hat.byteCell hfj
                rw [hcc] at b1
                have d0 := hat.cell0
                have d1 := hat.cell1
                have HAT := Lib.hid hat
                have HF2 := Lib.hid hF2
                have HTUR2 := Lib.hid htur2
                have HOWN2 := Lib.hid hown2
                have HOFF2 := Lib.hid hoff2
                have HTS := Lib.hid hTS
                have HCC := Lib.hid hcc
                clear hF2 htur2 hat hown2 hoff2 hTS hcc HBAT2 HBAT
                go_wp2_with fail
                have p0 : (0 : Int) ≤ (a : Int) + ((k : Int) * 4 + (j : Int)) := by omega
                have p1 : (a : Int) + ((k : Int) * 4 + (j : Int)) < (bs.length : Int) := by omega
                have p2 : ((a : Int) + ((k : Int) * 4 + (j : Int))).toNat = a + (k * 4 + j) := by omega
                have HBASE : Hid (base ≤ (wr.alloc (.cells #[.bool false, .int .u64 ((a : Int) + ((k : Int) * 4 + (j : Int))), .int .u8 cc] 49)).drew.heap.size) := Lib.hid (by have := HTUR2.out.size; simp; omega)
                have HSZ : Hid ((wr.alloc (.cells #[.bool false, .int .u64 ((a : Int) + ((k : Int) * 4 + (j : Int))), .int .u8 cc] 49)).drew.heap.size = wr.heap.size + 1) := Lib.hid (by simp)
                have HNEWS := Lib.hid (news_drew wr wr.heap.size rfl (false, a + (k * 4 + j), cc) ((a : Int) + ((k : Int) * 4 + (j : Int))) (by simp))
                have d4 : (wr.alloc (.cells #[.bool false, .int .u64 ((a : Int) + ((k : Int) * 4 + (j : Int))), .int .u8 cc] 49)).cell? ⟨P, 1, none⟩ = some (.slice T TS.length ct) := (World.cell?_alloc_lt _ _ ⟨P, 1, none⟩ (HAT.out.lo P HAT.out.inP).2).trans d1
                have H63 : Hid (TS.length + 1 ≤ maxLen) := Lib.hid (by unfold maxLen; omega)
                have H24 : Hid ((TS.length + 1) * 24 ≤ 140737488355328) := Lib.hid (by omega)
                go_region_law (((refine step_append_lies _ rfl _ _ 30 rfl base 49 i0 _ 3 24 Try.underlying30 hi0 hz0 hz1 hz2 rfl (by decide) _ TS.length (tvs TS) rfl ((HAT.out.ownT.alloc _).drew) ⟨wr.heap.size, 0, none⟩ 1 1 (tv (false, a + (k * 4 + j), cc)) rfl rfl HNEWS.out (tv_one _) (by decide) H63.out H24.out HBASE.out (wr.heap.size + 1) HSZ.out ?_); intro gg cap1 w1 hown1 hgrow hat3 hltg; obtain ⟨q1, q2, q3⟩ := HAT.out.after _ (grown_of_drew hgrow)))
                all_goals
                  have NEXT : Hid (TchIn 32 base P F (some ⟨g, 0, none⟩) ca0 bs (ts ++ rT bs a 4 k) (a + k * 4) 4 X cx (rV bs a 4 k) w (.int .i64 ((j + 1 : Nat) : Int)) (w1.setCell ⟨P, 1, none⟩ (.slice (some ⟨gg, 0, none⟩) (TS.length + 1) cap1))) := Lib.hid (by
                    have h1 := beside_push HF2.out HAT.out HTUR2.out HOWN2.out HOFF2.out _ (false, a + (k * 4 + j), cc) hown1 (grown_of_drew hgrow) hat3
                    refine ⟨j + 1, by omega, rfl, ?_⟩
                    have e : ts ++ rT bs a 4 k ++ tget bs (a + k * 4) (j + 1) = TS ++ [(false, a + (k * 4 + j), cc)] := by
                      rw [← HTS.out, ← HCC.out, tget, HPOS.out, List.append_assoc (ts ++ rT bs a 4 k)]
                    rw [e]
                    exact h1)
                  clear hown1 hgrow hat3 b1 d0 d1 d4 p0 p1 p2
                  go_wp2_with fail
                  go_roundw
                  case rel => exact NEXT.out
                  case measure => simp [intOf]; omega
              · obtain rfl : j = 4 := by omega
                have hXl : (rV bs a 4 k).length = k := by simp
                obtain ⟨F2, T, ct, hF2, hat, htur2, hown2, hoff2⟩ := hbat2
                have HZ := htur2.size
                have HOWN2 := Lib.hid hown2
                rw [hXl] at HOWN2
                clear hF2 hat htur2 hown2 hoff2 hXl
                go_wp2_with (at_builtin; refine wpList_append_lies _ rfl _ _ 34 rfl w.heap.size 33 k0 _ 1 8 Try.underlying34 ki0 kz0 kz1 kz2 rfl (by decide) _ k ((rV bs a 4 k).map uv) rfl (HOWN2.out.alloc _) _ 1 1 [uv v] rfl (by rfl) ?d1 ?d2 (by decide) ?d3 ?d4 ?d5 _ rfl ?_)
                case d1 => exact news_word _ _ rfl v
                case d2 => exact uv_one v
                case d3 => unfold maxLen; omega
                case d4 => omega
                case d5 => simp; omega
                intro gg cap1 w1 hown1 hgrow hat3 _
                have NEXT : Hid (RLoop 32 base P F bs ts a 4 n w (.slice (some ⟨gg, 0, none⟩) (k + 1) cap1) (.int .i64 ((k + 1 : Nat) : Int)) w1) := Lib.hid (by
                  have hXl : (rV bs a 4 k).length = k := by simp
                  have h1 : BesideAt 32 base P F (some ⟨g, 0, none⟩) ca0 bs (ts ++ rT bs a 4 k ++ tget bs (a + k * 4) 4) (some ⟨gg, 0, none⟩) cap1 (rV bs a 4 k ++ [v]) w w1 := by
                    refine beside_app v HBAT2.out (Obj.cells #[.int .u64 (v : Int)] 33) ?_ ?_ ?_
                    · rw [hXl]; exact hown1
                    · rw [hXl]; exact hgrow
                    · rw [hXl]; exact hat3
                  refine ⟨k + 1, some ⟨gg, 0, none⟩, cap1, (lt_fit (by decide) hlt).2 HFIT.out, rfl, rfl, some ⟨g, 0, none⟩, ca0, ?_⟩
                  have e : ts ++ rT bs a 4 (k + 1) = ts ++ rT bs a 4 k ++ tget bs (a + k * 4) 4 := by rw [rT, List.append_assoc]
                  have e2 : rV bs a 4 (k + 1) = rV bs a 4 k ++ [v] := by rw [← HV.out, rV]
                  rw [e, e2]
                  exact h1)
                clear hown1 hgrow hat3 HZ
                go_wp2_with fail
                go_roundw
                case rel => exact NEXT.out
                case measure => simp [intOf]; omega
      · have HQK : Hid (q = k) := Lib.hid (by rw [← HQ.out]; exact fit_stop (by decide) HK.out hlt hfit)
        have HC8 : Hid (c = 8 ∧ vs = []) := Lib.hid (by rcases HC.out with h | h; exact absurd (HQK.out.symm.trans h.1) (by omega); exact h.2)
        have HT : Hid (decide (a + (k + 1) * 4 ≤ bs.length) = false) := Lib.hid (by simpa using hfit)
        have HMEM : Hid (MemAt 32 wr base P F1 A0 ca0 T0 ct0 bs (ts ++ rT bs a 4 k) ∧ Turned F w wr ∧ ∀ j, F1 j → F j ∨ w.heap.size ≤ j) := Lib.hid ⟨hat0, htur, hF1⟩
        clear hfit hat0 hF1 htur hown hoff
        go_wp2_with fail
        refine (fits_any HAT0.out hn a HA.out 4 k (by decide) (by decide) (by omega) false HT.out).mono ?_
        rintro e w' ⟨rfl, rfl⟩
        go_wp2_with fail
        go_ret2
        exact ⟨none, 0, by rw [HC8.out.1, HC8.out.2]; rfl, A0, ca0, F1, T0, ct0, HMEM.out.2.2, by rw [HQK.out]; exact HMEM.out.1, HMEM.out.2.1, by rw [HC8.out.2]; exact World.ownsRow_nil _ _ _ _, fun g hg => by cases hg⟩
    · have HKL : Hid (k = n) := Lib.hid (by omega)
      have HQK : Hid (q = k) := Lib.hid (by have h1 := HK.out; have h2 := fit_le bs.length a 4 n; rw [HQ.out] at h1 h2; omega)
      have HC0 : Hid (c = 0 ∧ vs = rV bs a 4 n) := Lib.hid (by rcases HC.out with h | h; exact h.2; exact absurd (HQK.out.trans HKL.out) h.1)
      go_wp2_with fail
      go_ret2
      exact ⟨X, cx, by rw [HC0.out.1, HC0.out.2, rV_length, HKL.out]; rfl, by rw [HQK.out, HC0.out.2, ← HKL.out]; exact HBES.out⟩

set_option maxHeartbeats 4000000 in
set_option maxRecDepth 100000 in
theorem rread_8 {w : World} {base P : Nat} {F : Nat → Prop} {bs : List Nat} {ts : List Tch} (h : MemIs 32 w base P F bs ts) (hbase : base ≤ w.heap.size) (hn : bs.length ≤ 5000) (ht : ts.length ≤ 1000000) (a : Nat) (ha : a < 18446744073709551616)
    (n : Nat) (hlen : n ≤ 16) (q : Nat) (hq : fit bs.length a 8 n = q) (c : Int) (vs : List Nat) (hc : (q = n ∧ c = 0 ∧ vs = rV bs a 8 n) ∨ (q ≠ n ∧ c = 8 ∧ vs = [])) :
    Calls Try.prog 14 #[.pointer (some ⟨P, 0, none⟩), .int .u64 a, .int .i64 64, .int .i64 n] w (ReadIs 32 base P F bs (ts ++ rT bs a 8 q) vs c w) := by
  have HM := Lib.hid h
  have HB : Hid (mayM 64 n = true) := Lib.hid (by simp [mayM, wid]; omega)
  have HA := Lib.hid ha
  have HQ := Lib.hid hq
  have HC := Lib.hid hc
  clear h ha hq hc
  obtain ⟨i0, hi0, hz0, hz1, hz2⟩ := info_parts info49
  obtain ⟨k0, ki0, kz0, kz1, kz2⟩ := info_parts info33
  go_enter Try.func14, Try.ntmps14
  go_wp2_with fail
  refine (rmay_any _ _ _).mono ?_
  rw [HB.out]
  rintro e w' ⟨rfl, rfl⟩
  go_wp2_with fail
  go_loopw [10, 12] (fun x i wr => RLoop 32 base P F bs ts a 8 n w x i wr) (fun _ i _ => n - (intOf i).toNat)
  case atStart =>
    obtain ⟨A0, ca0, T0, ct0, h0⟩ := HM.out
    exact ⟨0, none, 0, Nat.zero_le _, rfl, rfl, A0, ca0, F, T0, ct0, fun j hj => .inl hj, by simpa [rT] using h0, Turned.refl _ _, World.ownsRow_nil _ _ _ _, fun g hg => by cases hg⟩
  case round =>
    obtain ⟨k, X, cx, hk, rfl, rfl, hbes⟩ := hrel
    have hkl : k ≤ n := Nat.le_trans hk (fit_le _ _ _ _)
    have HBES := Lib.hid hbes
    have HK := Lib.hid hk
    clear hbes hk
    by_cases hlt : k < n
    · obtain ⟨A0, ca0, hbat⟩ := HBES.out
      have HBAT := Lib.hid hbat
      obtain ⟨F1, T0, ct0, hF1, hat0, htur, hown, hoff⟩ := hbat
      have HAT0 := Lib.hid hat0
      by_cases hfit : a + (k + 1) * 8 ≤ bs.length
      · have HT : Hid (decide (a + (k + 1) * 8 ≤ bs.length) = true) := Lib.hid (by simpa using hfit)
        obtain ⟨g, rfl, hgF, hgP, hle, hcap⟩ := hat0.formA (by omega)
        have c0 := hat0.cell0
        have ha5 : a ≤ 5000 := by omega
        have hpos : a + k * 8 + 8 ≤ bs.length := by omega
        have HFIT := Lib.hid hfit
        clear hfit hat0 hF1 htur hown hoff hgP
        go_wp2_with fail
        refine (fits_any HAT0.out hn a HA.out 8 k (by decide) (by decide) (by omega) true HT.out).mono ?_
        rintro e w' ⟨rfl, rfl⟩
        go_wp2_with fail
        go_loop [13, 14] (fun x i => HiIn bs (a + k * 8) 8 x i) (fun _ i => (intOf i + 1).toNat)
        case atStart => exact ⟨0, 8, rfl, rfl, rfl⟩
        case round =>
          obtain ⟨d, m, hdm, rfl, rfl⟩ := hrel
          obtain ⟨v, hv⟩ : ∃ v, last bs (a + k * 8) 8 d = v := ⟨_, rfl⟩
          rw [hv]
          by_cases hm0 : 1 ≤ m
          · obtain ⟨m, rfl⟩ : ∃ m', m = m' + 1 := ⟨m - 1, by omega⟩
            rw [succ_pred m]
            obtain ⟨cc, hcc⟩ : ∃ cc, bs.getD (a + (k * 8 + m)) 0 = cc := ⟨_, rfl⟩
            have b1 := HAT0.out.byteCell (j := a + (k * 8 + m)) (by omega)
            rw [hcc] at b1
            have e6 := last_int HAT0.out.oct (a + k * 8) 8 d v cc (by omega) hv (by rw [← hcc]; congr 1; omega)
            have hc8 : cc < 256 := by rw [← hcc]; exact HAT0.out.oct.get _
            clear hv hcc hm0
            go_wp2_with fail
            go_round
            case rel => exact ⟨d + 1, m, by omega, rfl, by first | rfl | simp⟩
            case measure => simp [intOf]
          · obtain rfl : m = 0 := by omega
            have HV : Hid (word bs (a + k * 8) 8 = v) := Lib.hid (by
              have h1 := last_word bs (a + k * 8) 8 8 (Nat.le_refl _)
              rw [show d = 8 by omega] at hv
              rw [hv, Nat.sub_self, Nat.mul_zero, Nat.pow_zero, Nat.mul_one] at h1
              rw [← h1]
              rfl)
            clear hv hdm hm0
            go_wp2_with fail
            clear c0
            go_loopw [15] (fun i wr => TchIn 32 base P F (some ⟨g, 0, none⟩) ca0 bs (ts ++ rT bs a 8 k) (a + k * 8) 8 X cx (rV bs a 8 k) w i wr) (fun i _ => 8 - (intOf i).toNat)
            case atStart => exact ⟨0, Nat.zero_le _, rfl, by simpa [tget] using HBAT.out⟩
            case round =>
              obtain ⟨j, hj, rfl, hbat2⟩ := hrel
              have HBAT2 := Lib.hid hbat2
              by_cases hjlt : j < 8
              · obtain ⟨F2, T, ct, hF2, hat, htur2, hown2, hoff2⟩ := hbat2
                obtain ⟨TS, hTS⟩ : ∃ TS, (ts ++ rT bs a 8 k) ++ tget bs (a + k * 8) j = TS := ⟨_, rfl⟩
                obtain ⟨cc, hcc⟩ : ∃ cc, bs.getD (a + (k * 8 + j)) 0 = cc := ⟨_, rfl⟩
                rw [hTS] at hat
                have hTl : TS.length ≤ 1000200 := by rw [← hTS]; simp; omega
                have hfj : a + (k * 8 + j) < bs.length := by omega
                have HPOS : Hid (a + (k * 8 + j) = a + k * 8 + j) := Lib.hid (by omega)
                have b1 := hat.byteCell hfj
                rw [hcc] at b1
                have d0 := hat.cell0
                have d1 := hat.cell1
                have HAT := Lib.hid hat
                have HF2 := Lib.hid hF2
                have HTUR2 := Lib.hid htur2
                have HOWN2 := Lib.hid hown2
                have HOFF2 := Lib.hid hoff2
                have HTS := Lib.hid hTS
                have HCC := Lib.hid hcc
                clear hF2 htur2 hat hown2 hoff2 hTS hcc HBAT2 HBAT
                go_wp2_with fail
                have p0 : (0 : Int) ≤ (a : Int) + ((k : Int) * 8 + (j : Int)) := by omega
                have p1 : (a : Int) + ((k : Int) * 8 + (j : Int)) < (bs.length : Int) := by omega
                have p2 : ((a : Int) + ((k : Int) * 8 + (j : Int))).toNat = a + (k * 8 + j) := by omega
                have HBASE : Hid (base ≤ (wr.alloc (.cells #[.bool false, .int .u64 ((a : Int) + ((k : Int) * 8 + (j : Int))), .int .u8 cc] 49)).drew.heap.size) := Lib.hid (by have := HTUR2.out.size; simp; omega)
                have HSZ : Hid ((wr.alloc (.cells #[.bool false, .int .u64 ((a : Int) + ((k : Int) * 8 + (j : Int))), .int .u8 cc] 49)).drew.heap.size = wr.heap.size + 1) := Lib.hid (by simp)
                have HNEWS := Lib.hid (news_drew wr wr.heap.size rfl (false, a + (k * 8 + j), cc) ((a : Int) + ((k : Int) * 8 + (j : Int))) (by simp))
                have d4 : (wr.alloc (.cells #[.bool false, .int .u64 ((a : Int) + ((k : Int) * 8 + (j : Int))), .int .u8 cc] 49)).cell? ⟨P, 1, none⟩ = some (.slice T TS.length ct) := (World.cell?_alloc_lt _ _ ⟨P, 1, none⟩ (HAT.out.lo P HAT.out.inP).2).trans d1
                have H63 : Hid (TS.length + 1 ≤ maxLen) := Lib.hid (by unfold maxLen; omega)
                have H24 : Hid ((TS.length + 1) * 24 ≤ 140737488355328) := Lib.hid (by omega)
                go_region_law (((refine step_append_lies _ rfl _ _ 30 rfl base 49 i0 _ 3 24 Try.underlying30 hi0 hz0 hz1 hz2 rfl (by decide) _ TS.length (tvs TS) rfl ((HAT.out.ownT.alloc _).drew) ⟨wr.heap.size, 0, none⟩ 1 1 (tv (false, a + (k * 8 + j), cc)) rfl rfl HNEWS.out (tv_one _) (by decide) H63.out H24.out HBASE.out (wr.heap.size + 1) HSZ.out ?_); intro gg cap1 w1 hown1 hgrow hat3 hltg; obtain ⟨q1, q2, q3⟩ := HAT.out.after _ (grown_of_drew hgrow)))
                all_goals
                  have NEXT : Hid (TchIn 32 base P F (some ⟨g, 0, none⟩) ca0 bs (ts ++ rT bs a 8 k) (a + k * 8) 8 X cx (rV bs a 8 k) w (.int .i64 ((j + 1 : Nat) : Int)) (w1.setCell ⟨P, 1, none⟩ (.slice (some ⟨gg, 0, none⟩) (TS.length + 1) cap1))) := Lib.hid (by
                    have h1 := beside_push HF2.out HAT.out HTUR2.out HOWN2.out HOFF2.out _ (false, a + (k * 8 + j), cc) hown1 (grown_of_drew hgrow) hat3
                    refine ⟨j + 1, by omega, rfl, ?_⟩
                    have e : ts ++ rT bs a 8 k ++ tget bs (a + k * 8) (j + 1) = TS ++ [(false, a + (k * 8 + j), cc)] := by
                      rw [← HTS.out, ← HCC.out, tget, HPOS.out, List.append_assoc (ts ++ rT bs a 8 k)]
                    rw [e]
                    exact h1)
                  clear hown1 hgrow hat3 b1 d0 d1 d4 p0 p1 p2
                  go_wp2_with fail
                  go_roundw
                  case rel => exact NEXT.out
                  case measure => simp [intOf]; omega
              · obtain rfl : j = 8 := by omega
                have hXl : (rV bs a 8 k).length = k := by simp
                obtain ⟨F2, T, ct, hF2, hat, htur2, hown2, hoff2⟩ := hbat2
                have HZ := htur2.size
                have HOWN2 := Lib.hid hown2
                rw [hXl] at HOWN2
                clear hF2 hat htur2 hown2 hoff2 hXl
                go_wp2_with (at_builtin; refine wpList_append_lies _ rfl _ _ 34 rfl w.heap.size 33 k0 _ 1 8 Try.underlying34 ki0 kz0 kz1 kz2 rfl (by decide) _ k ((rV bs a 8 k).map uv) rfl (HOWN2.out.alloc _) _ 1 1 [uv v] rfl (by rfl) ?d1 ?d2 (by decide) ?d3 ?d4 ?d5 _ rfl ?_)
                case d1 => exact news_word _ _ rfl v
                case d2 => exact uv_one v
                case d3 => unfold maxLen; omega
                case d4 => omega
                case d5 => simp; omega
                intro gg cap1 w1 hown1 hgrow hat3 _
                have NEXT : Hid (RLoop 32 base P F bs ts a 8 n w (.slice (some ⟨gg, 0, none⟩) (k + 1) cap1) (.int .i64 ((k + 1 : Nat) : Int)) w1) := Lib.hid (by
                  have hXl : (rV bs a 8 k).length = k := by simp
                  have h1 : BesideAt 32 base P F (some ⟨g, 0, none⟩) ca0 bs (ts ++ rT bs a 8 k ++ tget bs (a + k * 8) 8) (some ⟨gg, 0, none⟩) cap1 (rV bs a 8 k ++ [v]) w w1 := by
                    refine beside_app v HBAT2.out (Obj.cells #[.int .u64 (v : Int)] 33) ?_ ?_ ?_
                    · rw [hXl]; exact hown1
                    · rw [hXl]; exact hgrow
                    · rw [hXl]; exact hat3
                  refine ⟨k + 1, some ⟨gg, 0, none⟩, cap1, (lt_fit (by decide) hlt).2 HFIT.out, rfl, rfl, some ⟨g, 0, none⟩, ca0, ?_⟩
                  have e : ts ++ rT bs a 8 (k + 1) = ts ++ rT bs a 8 k ++ tget bs (a + k * 8) 8 := by rw [rT, List.append_assoc]
                  have e2 : rV bs a 8 (k + 1) = rV bs a 8 k ++ [v] := by rw [← HV.out, rV]
                  rw [e, e2]
                  exact h1)
                clear hown1 hgrow hat3 HZ
                go_wp2_with fail
                go_roundw
                case rel => exact NEXT.out
                case measure => simp [intOf]; omega
      · have HQK : Hid (q = k) := Lib.hid (by rw [← HQ.out]; exact fit_stop (by decide) HK.out hlt hfit)
        have HC8 : Hid (c = 8 ∧ vs = []) := Lib.hid (by rcases HC.out with h | h; exact absurd (HQK.out.symm.trans h.1) (by omega); exact h.2)
        have HT : Hid (decide (a + (k + 1) * 8 ≤ bs.length) = false) := Lib.hid (by simpa using hfit)
        have HMEM : Hid (MemAt 32 wr base P F1 A0 ca0 T0 ct0 bs (ts ++ rT bs a 8 k) ∧ Turned F w wr ∧ ∀ j, F1 j → F j ∨ w.heap.size ≤ j) := Lib.hid ⟨hat0, htur, hF1⟩
        clear hfit hat0 hF1 htur hown hoff
        go_wp2_with fail
        refine (fits_any HAT0.out hn a HA.out 8 k (by decide) (by decide) (by omega) false HT.out).mono ?_
        rintro e w' ⟨rfl, rfl⟩
        go_wp2_with fail
        go_ret2
        exact ⟨none, 0, by rw [HC8.out.1, HC8.out.2]; rfl, A0, ca0, F1, T0, ct0, HMEM.out.2.2, by rw [HQK.out]; exact HMEM.out.1, HMEM.out.2.1, by rw [HC8.out.2]; exact World.ownsRow_nil _ _ _ _, fun g hg => by cases hg⟩
    · have HKL : Hid (k = n) := Lib.hid (by omega)
      have HQK : Hid (q = k) := Lib.hid (by have h1 := HK.out; have h2 := fit_le bs.length a 8 n; rw [HQ.out] at h1 h2; omega)
      have HC0 : Hid (c = 0 ∧ vs = rV bs a 8 n) := Lib.hid (by rcases HC.out with h | h; exact h.2; exact absurd (HQK.out.trans HKL.out) h.1)
      go_wp2_with fail
      go_ret2
      exact ⟨X, cx, by rw [HC0.out.1, HC0.out.2, rV_length, HKL.out]; rfl, by rw [HQK.out, HC0.out.2, ← HKL.out]; exact HBES.out⟩

theorem rread_any {w : World} {base P : Nat} {F : Nat → Prop} {bs : List Nat} {ts : List Tch} (h : MemIs 32 w base P F bs ts) (hbase : base ≤ w.heap.size) (hn : bs.length ≤ 5000) (ht : ts.length ≤ 1000000) (a : Nat) (ha : a < 18446744073709551616) (b n : Int) :
    Calls Try.prog 14 #[.pointer (some ⟨P, 0, none⟩), .int .u64 a, .int .i64 b, .int .i64 n] w (ReadIs 32 base P F bs (rdT bs ts a b n) (rdV bs a b n) (rdC bs.length a b n) w) := by
  cases hm : mayM b n with
  | false =>
    rw [rdV_no hm, rdT_no hm, rdC_no hm]
    exact rread_arg h a b n hm
  | true =>
    obtain ⟨hb, h0, h16⟩ := mayM_parts hm
    obtain ⟨N, rfl⟩ : ∃ N : Nat, n = N := ⟨n.toNat, by omega⟩
    have hN : N ≤ 16 := by omega
    rcases hb with rfl | rfl | rfl | rfl
    · have e : rdT bs ts a 8 N = ts ++ rT bs a 1 (fit bs.length a 1 N) := by unfold rdT; rw [hm]; rfl
      rw [e]; exact rread_1 h hbase hn ht a ha N hN _ rfl _ _ (rd_case hm rfl)
    · have e : rdT bs ts a 16 N = ts ++ rT bs a 2 (fit bs.length a 2 N) := by unfold rdT; rw [hm]; rfl
      rw [e]; exact rread_2 h hbase hn ht a ha N hN _ rfl _ _ (rd_case hm rfl)
    · have e : rdT bs ts a 32 N = ts ++ rT bs a 4 (fit bs.length a 4 N) := by unfold rdT; rw [hm]; rfl
      rw [e]; exact rread_4 h hbase hn ht a ha N hN _ rfl _ _ (rd_case hm rfl)
    · have e : rdT bs ts a 64 N = ts ++ rT bs a 8 (fit bs.length a 8 N) := by unfold rdT; rw [hm]; rfl
      rw [e]; exact rread_8 h hbase hn ht a ha N hN _ rfl _ _ (rd_case hm rfl)
end Go.Proofs.Ytcnhnjbefhgaaaa
