/- What the reference's Write does: the same. -/
import Derived.Test.YtcnhnjbefhgaaaaWrite
import Derived.Deep.RegionLaw
namespace Go.Proofs.Ytcnhnjbefhgaaaa
open Go.RowKit

/-- at the head of a round within: j bytes are written, what is left of the number is at hand -/
def RIn (ty : TypeId) (base P : Nat) (F : Nat → Prop) (bs : List Nat) (ts : List Tch) (f v s : Nat) (w : World) (x i : Value) (wr : World) : Prop :=
  ∃ j : Nat, i = .int .i64 j ∧ x = .int .u64 ((v / 2 ^ (8 * j) : Nat) : Int) ∧ WIn ty base P F bs ts f v s w (.int .i64 j) wr
theorem int_inj {a b : Nat} (h : Value.int .i64 (a : Int) = .int .i64 (b : Int)) : a = b := by injection h with _ h; omega
theorem rest_int (x v j : Nat) (h : v / 2 ^ (8 * j) = x) : (x : Int) / 256 = ((v / 2 ^ (8 * (j + 1)) : Nat) : Int) := by
  rw [← h, Nat.mul_succ, Nat.pow_add, ← Nat.div_div_eq_div_mul, Int.natCast_ediv]; rfl
theorem rest_lt {x v j : Nat} (h : v / 2 ^ (8 * j) = x) (hv : v < 18446744073709551616) : x < 18446744073709551616 := by
  rw [← h]; exact Nat.lt_of_le_of_lt (Nat.div_le_self _ _) hv
theorem rest_wrap (x v j : Nat) (h : v / 2 ^ (8 * j) = x) (hv : v < 18446744073709551616) : IntKind.u64.wrap ((x : Int) / 256) = ((v / 2 ^ (8 * (j + 1)) : Nat) : Int) := by
  have := rest_lt h hv
  rw [u64_wrap, ← rest_int x v j h]; omega
theorem rest_byte (x v j c : Nat) (h : v / 2 ^ (8 * j) = x) (hc : byteAt v j = c) : (x : Int) % 256 = (c : Int) := by
  rw [← hc, ← h]; unfold byteAt; rw [Int.natCast_emod]; rfl
theorem getD_lt {vs : List Nat} (h : ∀ v ∈ vs, v < 18446744073709551616) (k : Nat) : vs.getD k 0 < 18446744073709551616 := by
  by_cases hk : k < vs.length
  · simpa [List.getD, List.getElem?_eq_getElem hk] using h _ (List.getElem_mem hk)
  · simp [List.getD, List.getElem?_eq_none (Nat.le_of_not_lt hk)]
theorem grown_of_drew {w w1 : World} {row : Option Nat} (h : w.drew.grownBy w1 row) : w.grownBy w1 row := ⟨h.os, h.tape, h.output, h.size, h.block⟩

theorem news_drew (W : World) (H : Nat) (hH : W.heap.size = H) (t : Tch) (x : Int) (hx : x = t.2.1) : ∀ j u, (tv t)[j]? = some u → (W.alloc (.cells #[.bool t.1, .int .u64 x, .int .u8 t.2.2] 49)).drew.cell? ((⟨H, 0, none⟩ : Addr).add j) = some u :=
  fun j u hu => news_touch W H hH t x hx j u hu

theorem rwrite_arg {w : World} {base P : Nat} {F : Nat → Prop} {bs : List Nat} {ts : List Tch} (h : MemIs 32 w base P F bs ts) (a : Nat) (b : Int) (L : Option Addr) (n lc : Nat) (hm : mayM b n = false) :
    Calls Try.prog 12 #[.pointer (some ⟨P, 0, none⟩), .int .u64 a, .int .i64 b, .slice L n lc] w (Wrote 32 base P F bs ts 1 w) := by
  have HM := Lib.hid h
  have HB := Lib.hid hm
  clear h hm
  go_enter Try.func12, Try.ntmps12
  go_wp2_with fail
  refine (rmay_any _ _ _).mono ?_
  rw [HB.out]
  rintro e w' ⟨rfl, rfl⟩
  go_wp2_with fail
  go_ret
  exact ⟨rfl, F, fun i hi => .inl hi, HM.out, Turned.refl _ _⟩

set_option maxHeartbeats 2000000 in
set_option maxRecDepth 100000 in
theorem rwrite_1 {w : World} {base P : Nat} {F N : Nat → Prop} {bs : List Nat} {ts : List Tch} (h : MemIs 32 w base P F bs ts) (hbase : base ≤ w.heap.size) (hn : bs.length ≤ 5000) (ht : ts.length ≤ 1000000) (a : Nat) (ha : a < 18446744073709551616)
    (L : Option Addr) (lc : Nat) (vs : List Nat) (hvs : ∀ v ∈ vs, v < 18446744073709551616) (hlen : vs.length ≤ 16) (hl : Lies w N L (vs.map uv)) (hN : ∀ i, N i → i < w.heap.size ∧ ¬ F i) (q : Nat) (hq : fit bs.length a 1 vs.length = q) (c : Int) (hc : (if q = vs.length then 0 else 8) = c) :
    Calls Try.prog 12 #[.pointer (some ⟨P, 0, none⟩), .int .u64 a, .int .i64 8, .slice L vs.length lc] w (Wrote 32 base P F (wB bs a 1 vs q) (ts ++ wT a 1 vs q) c w) := by
  have HM := Lib.hid h
  have HB : Hid (mayM 8 vs.length = true) := Lib.hid (by simp [mayM, wid]; omega)
  have HL := Lib.hid hl
  have HN := Lib.hid hN
  have HA := Lib.hid ha
  have HV := Lib.hid hvs
  have HQ := Lib.hid hq
  have HC := Lib.hid hc
  clear h hl hN ha hvs hq hc
  obtain ⟨i0, hi0, hz0, hz1, hz2⟩ := info_parts info49
  go_enter Try.func12, Try.ntmps12
  go_wp2_with fail
  refine (rmay_any _ _ _).mono ?_
  rw [HB.out]
  rintro e w' ⟨rfl, rfl⟩
  go_wp2_with fail
  go_loopw [10] (fun i wr => WLoop 32 base P F bs ts a 1 vs w i wr) (fun i _ => vs.length - (intOf i).toNat)
  case atStart => exact ⟨0, F, Nat.zero_le _, rfl, fun j hj => .inl hj, by simpa [wB, wT] using HM.out, Turned.refl _ _⟩
  case round =>
    obtain ⟨k, F1, hk, rfl, hF1, hmem, htur⟩ := hrel
    have hkl : k ≤ vs.length := Nat.le_trans hk (fit_le _ _ _ _)
    have HF1 := Lib.hid hF1
    have HMEM := Lib.hid hmem
    have HTUR := Lib.hid htur
    have HK := Lib.hid hk
    clear hF1 hmem htur hk
    by_cases hlt : k < vs.length
    · obtain ⟨v, hv⟩ : ∃ v, vs.getD k 0 = v := ⟨_, rfl⟩
      have HVL : Hid (v < 18446744073709551616) := Lib.hid (by rw [← hv]; exact getD_lt HV.out k)
      have hk0 : (0 : Int) ≤ (k : Int) := by omega
      have hk1 : (k : Int) < (vs.length : Int) := by omega
      obtain ⟨lb, lo, rfl, hlb, hlc⟩ := (HL.out.turned HTUR.out HN.out).at_ (i := k) (by simpa using hlt)
      have hcell : wr.cell? ⟨lb, lo + k, none⟩ = some (.int .u64 v) := hlc k _ (by rw [List.getElem?_map, List.getElem?_eq_getElem hlt]; simp [uv, ← hv, List.getD, List.getElem?_eq_getElem hlt])
      clear hlc
      obtain ⟨A0, ca0, T0, ct0, hat0⟩ := HMEM.out
      have HAT0 := Lib.hid hat0
      have HL5 : Hid ((wB bs a 1 vs k).length ≤ 5000) := Lib.hid (by rw [wB_length]; exact hn)
      have HVV := Lib.hid hv
      clear hat0 hv
      by_cases hfit : a + (k + 1) * 1 ≤ bs.length
      · have HT : Hid (decide (a + (k + 1) * 1 ≤ (wB bs a 1 vs k).length) = true) := Lib.hid (by rw [wB_length]; simpa using hfit)
        have ha5 : a ≤ 5000 := by omega
        have HFIT := Lib.hid hfit
        have hpos : a + k * 1 + 1 ≤ bs.length := by omega
        clear hfit
        go_wp2_with fail
        refine (fits_any HAT0.out HL5.out a HA.out 1 k (by decide) (by decide) (by omega) true HT.out).mono ?_
        rintro e w' ⟨rfl, rfl⟩
        go_wp2_with fail
        clear hcell hk0 hk1
        go_loopw [11, 12] (fun x i wr => RIn 32 base P F (wB bs a 1 vs k) (ts ++ wT a 1 vs k) (a + k * 1) v 1 w x i wr) (fun _ i _ => 1 - (intOf i).toNat)
        case atStart => exact ⟨0, rfl, by simp, 0, F1, Nat.zero_le _, rfl, HF1.out, by simpa [put, tput] using HMEM.out, HTUR.out⟩
        case round =>
          obtain ⟨j, rfl, rfl, j', F2, hj, hjj, hF2, hmem2, htur2⟩ := hrel
          obtain rfl := int_inj hjj
          clear hjj
          have HF2 := Lib.hid hF2
          have HTUR2 := Lib.hid htur2
          obtain ⟨x, hx⟩ : ∃ x, v / 2 ^ (8 * j) = x := ⟨_, rfl⟩
          rw [hx]
          by_cases hjlt : j < 1
          · obtain ⟨A, ca, T, ct, hat⟩ := hmem2
            obtain ⟨B, hB⟩ : ∃ B, put (wB bs a 1 vs k) (a + k * 1) v j = B := ⟨_, rfl⟩
            obtain ⟨TS, hTS⟩ : ∃ TS, (ts ++ wT a 1 vs k) ++ tput (a + k * 1) v j = TS := ⟨_, rfl⟩
            rw [hB, hTS] at hat
            have hBl : bs.length = B.length := by rw [← hB]; simp
            have hTl : TS.length ≤ 1000200 := by rw [← hTS]; simp; omega
            have hfj : a + (k + j) < B.length := by omega
            have hB5 : B.length ≤ 5000 := by omega
            obtain ⟨g, rfl, hgF, hgP, hle, hcap⟩ := hat.formA (by omega)
            obtain ⟨cc, hcc⟩ : ∃ cc, byteAt v j = cc := ⟨_, rfl⟩
            have e3 := rest_byte x v j cc hx hcc
            have HPOS : Hid (a + (k + j) = a + k * 1 + j) := Lib.hid (by omega)
            obtain ⟨hat2, ht2⟩ := hat.byte (a + (k + j)) cc (by rw [← hcc]; exact byteAt_lt v j)
            have c0 := hat.cell0
            have b1 := hat.byteCell hfj
            have b2 := hat.byteFree (a + (k + j))
            have d0 := hat2.cell0
            have d1 := hat2.cell1
            have d2 := hat2.byteCell (j := a + (k + j)) (by simpa using hfj)
            have d3 : (B.set (a + (k + j)) cc).getD (a + (k + j)) 0 = cc := by simp [List.getD, hfj]
            rw [d3] at d2
            rw [List.length_set] at d0
            have HAT := Lib.hid hat2
            have HT2 := Lib.hid ht2
            have HBB := Lib.hid hB
            have HTS := Lib.hid hTS
            have HCC := Lib.hid hcc
            have HX := Lib.hid hx
            clear hF2 htur2 hat hat2 ht2 hB hTS hcc hBl hgP d3 hx
            go_wp2_with fail
            have p0 : (0 : Int) ≤ (a : Int) + ((k : Int) + (j : Int)) := by omega
            have p1 : (a : Int) + ((k : Int) + (j : Int)) < (B.length : Int) := by omega
            have p2 : ((a : Int) + ((k : Int) + (j : Int))).toNat = a + (k + j) := by omega
            have HBASE : Hid (base ≤ ((wr.setCell ⟨g, a + (k + j), none⟩ (.int .u8 cc)).alloc (.cells #[.bool true, .int .u64 ((a : Int) + ((k : Int) + (j : Int))), .int .u8 cc] 49)).drew.heap.size) := Lib.hid (by have := HTUR2.out.size; simp; omega)
            have HSZ : Hid (((wr.setCell ⟨g, a + (k + j), none⟩ (.int .u8 cc)).alloc (.cells #[.bool true, .int .u64 ((a : Int) + ((k : Int) + (j : Int))), .int .u8 cc] 49)).drew.heap.size = wr.heap.size + 1) := Lib.hid (by simp)
            have HNEWS := Lib.hid (news_drew (wr.setCell ⟨g, a + (k + j), none⟩ (.int .u8 cc)) wr.heap.size (by simp) (true, a + (k + j), cc) ((a : Int) + ((k : Int) + (j : Int))) (by simp))
            have d4 : ((wr.setCell ⟨g, a + (k + j), none⟩ (.int .u8 cc)).alloc (.cells #[.bool true, .int .u64 ((a : Int) + ((k : Int) + (j : Int))), .int .u8 cc] 49)).cell? ⟨P, 1, none⟩ = some (.slice T TS.length ct) := (World.cell?_alloc_lt _ _ ⟨P, 1, none⟩ (HAT.out.lo P HAT.out.inP).2).trans d1
            have H63 : Hid (TS.length + 1 ≤ maxLen) := Lib.hid (by unfold maxLen; omega)
            have H24 : Hid ((TS.length + 1) * 24 ≤ 140737488355328) := Lib.hid (by omega)
            go_region_law (((refine step_append_lies _ rfl _ _ 30 rfl base 49 i0 _ 3 24 Try.underlying30 hi0 hz0 hz1 hz2 rfl (by decide) _ TS.length (tvs TS) rfl ((HAT.out.ownT.alloc _).drew) ⟨wr.heap.size, 0, none⟩ 1 1 (tv (true, a + (k + j), cc)) rfl rfl HNEWS.out (tv_one _) (by decide) H63.out H24.out HBASE.out (wr.heap.size + 1) HSZ.out ?_); intro gg cap1 w1 hown1 hgrow hat3 hltg; obtain ⟨q1, q2, q3⟩ := HAT.out.after _ (grown_of_drew hgrow)))
            all_goals
              have NEXT : Hid (RIn 32 base P F (wB bs a 1 vs k) (ts ++ wT a 1 vs k) (a + k * 1) v 1 w (.int .u64 ((v / 2 ^ (8 * (j + 1)) : Nat) : Int)) (.int .i64 ((j + 1 : Nat) : Int)) (w1.setCell ⟨P, 1, none⟩ (.slice (some ⟨gg, 0, none⟩) (TS.length + 1) cap1))) := Lib.hid (by
                have h1 := HAT.out
                have h2 := HT2.out
                have h3 := hown1
                have h4 := grown_of_drew hgrow
                rw [HPOS.out] at h1 h2 h3 h4
                exact ⟨j + 1, rfl, rfl, win_next HF2.out HTUR2.out HBB.out HTS.out HCC.out h1 h2 hjlt _ h3 h4 hat3⟩)
              have E1 := Lib.hid (rest_wrap x v j HX.out HVL.out)
              have E2 := Lib.hid (rest_int x v j HX.out)
              clear hown1 hgrow hat3 c0 b1 b2 d0 d1 d2 d4 e3 p0 p1 p2
              go_wp2_with fail
              go_roundw
              case rel => first | exact NEXT.out | (rw [E2.out]; exact NEXT.out) | (rw [E1.out]; exact NEXT.out)
              case measure => simp [intOf]; omega
          · obtain rfl : j = 1 := by omega
            have HM2 := Lib.hid hmem2
            clear hmem2 hF2 htur2 hx
            go_wp2_with fail
            go_roundw
            case rel => exact ⟨k + 1, F2, (lt_fit (by decide) hlt).2 HFIT.out, by go_num, HF2.out, by rw [← HVV.out, List.append_assoc] at HM2; exact HM2.out, HTUR2.out⟩
            case measure => simp [intOf]; omega
      · have HQK : Hid (q = k) := Lib.hid (by rw [← HQ.out]; exact fit_stop (by decide) HK.out hlt hfit)
        have HC8 : Hid (c = 8) := Lib.hid (by rw [← HC.out, HQK.out, if_neg (by omega)])
        have HT : Hid (decide (a + (k + 1) * 1 ≤ (wB bs a 1 vs k).length) = false) := Lib.hid (by rw [wB_length]; simpa using hfit)
        clear hfit
        go_wp2_with fail
        refine (fits_any HAT0.out HL5.out a HA.out 1 k (by decide) (by decide) (by omega) false HT.out).mono ?_
        rintro e w' ⟨rfl, rfl⟩
        go_wp2_with fail
        go_ret
        exact ⟨by rw [HC8.out]; rfl, F1, HF1.out, by rw [HQK.out]; exact HMEM.out, HTUR.out⟩
    · have HKL : Hid (k = vs.length) := Lib.hid (by omega)
      have HQK : Hid (q = k) := Lib.hid (by have h1 := HK.out; have h2 := fit_le bs.length a 1 vs.length; rw [HQ.out] at h1 h2; omega)
      have HC0 : Hid (c = 0) := Lib.hid (by rw [← HC.out, HQK.out, HKL.out, if_pos rfl])
      go_wp2_with fail
      go_ret
      exact ⟨by rw [HC0.out]; rfl, F1, HF1.out, by rw [HQK.out]; exact HMEM.out, HTUR.out⟩

set_option maxHeartbeats 2000000 in
set_option maxRecDepth 100000 in
theorem rwrite_2 {w : World} {base P : Nat} {F N : Nat → Prop} {bs : List Nat} {ts : List Tch} (h : MemIs 32 w base P F bs ts) (hbase : base ≤ w.heap.size) (hn : bs.length ≤ 5000) (ht : ts.length ≤ 1000000) (a : Nat) (ha : a < 18446744073709551616)
    (L : Option Addr) (lc : Nat) (vs : List Nat) (hvs : ∀ v ∈ vs, v < 18446744073709551616) (hlen : vs.length ≤ 16) (hl : Lies w N L (vs.map uv)) (hN : ∀ i, N i → i < w.heap.size ∧ ¬ F i) (q : Nat) (hq : fit bs.length a 2 vs.length = q) (c : Int) (hc : (if q = vs.length then 0 else 8) = c) :
    Calls Try.prog 12 #[.pointer (some ⟨P, 0, none⟩), .int .u64 a, .int .i64 16, .slice L vs.length lc] w (Wrote 32 base P F (wB bs a 2 vs q) (ts ++ wT a 2 vs q) c w) := by
  have HM := Lib.hid h
  have HB : Hid (mayM 16 vs.length = true) := Lib.hid (by simp [mayM, wid]; omega)
  have HL := Lib.hid hl
  have HN := Lib.hid hN
  have HA := Lib.hid ha
  have HV := Lib.hid hvs
  have HQ := Lib.hid hq
  have HC := Lib.hid hc
  clear h hl hN ha hvs hq hc
  obtain ⟨i0, hi0, hz0, hz1, hz2⟩ := info_parts info49
  go_enter Try.func12, Try.ntmps12
  go_wp2_with fail
  refine (rmay_any _ _ _).mono ?_
  rw [HB.out]
  rintro e w' ⟨rfl, rfl⟩
  go_wp2_with fail
  go_loopw [10] (fun i wr => WLoop 32 base P F bs ts a 2 vs w i wr) (fun i _ => vs.length - (intOf i).toNat)
  case atStart => exact ⟨0, F, Nat.zero_le _, rfl, fun j hj => .inl hj, by simpa [wB, wT] using HM.out, Turned.refl _ _⟩
  case round =>
    obtain ⟨k, F1, hk, rfl, hF1, hmem, htur⟩ := hrel
    have hkl : k ≤ vs.length := Nat.le_trans hk (fit_le _ _ _ _)
    have HF1 := Lib.hid hF1
    have HMEM := Lib.hid hmem
    have HTUR := Lib.hid htur
    have HK := Lib.hid hk
    clear hF1 hmem htur hk
    by_cases hlt : k < vs.length
    · obtain ⟨v, hv⟩ : ∃ v, vs.getD k 0 = v := ⟨_, rfl⟩
      have HVL : Hid (v < 18446744073709551616) := Lib.hid (by rw [← hv]; exact getD_lt HV.out k)
      have hk0 : (0 : Int) ≤ (k : Int) := by omega
      have hk1 : (k : Int) < (vs.length : Int) := by omega
      obtain ⟨lb, lo, rfl, hlb, hlc⟩ := (HL.out.turned HTUR.out HN.out).at_ (i := k) (by simpa using hlt)
      have hcell : wr.cell? ⟨lb, lo + k, none⟩ = some (.int .u64 v) := hlc k _ (by rw [List.getElem?_map, List.getElem?_eq_getElem hlt]; simp [uv, ← hv, List.getD, List.getElem?_eq_getElem hlt])
      clear hlc
      obtain ⟨A0, ca0, T0, ct0, hat0⟩ := HMEM.out
      have HAT0 := Lib.hid hat0
      have HL5 : Hid ((wB bs a 2 vs k).length ≤ 5000) := Lib.hid (by rw [wB_length]; exact hn)
      have HVV := Lib.hid hv
      clear hat0 hv
      by_cases hfit : a + (k + 1) * 2 ≤ bs.length
      · have HT : Hid (decide (a + (k + 1) * 2 ≤ (wB bs a 2 vs k).length) = true) := Lib.hid (by rw [wB_length]; simpa using hfit)
        have ha5 : a ≤ 5000 := by omega
        have HFIT := Lib.hid hfit
        have hpos : a + k * 2 + 2 ≤ bs.length := by omega
        clear hfit
        go_wp2_with fail
        refine (fits_any HAT0.out HL5.out a HA.out 2 k (by decide) (by decide) (by omega) true HT.out).mono ?_
        rintro e w' ⟨rfl, rfl⟩
        go_wp2_with fail
        clear hcell hk0 hk1
        go_loopw [11, 12] (fun x i wr => RIn 32 base P F (wB bs a 2 vs k) (ts ++ wT a 2 vs k) (a + k * 2) v 2 w x i wr) (fun _ i _ => 2 - (intOf i).toNat)
        case atStart => exact ⟨0, rfl, by simp, 0, F1, Nat.zero_le _, rfl, HF1.out, by simpa [put, tput] using HMEM.out, HTUR.out⟩
        case round =>
          obtain ⟨j, rfl, rfl, j', F2, hj, hjj, hF2, hmem2, htur2⟩ := hrel
          obtain rfl := int_inj hjj
          clear hjj
          have HF2 := Lib.hid hF2
          have HTUR2 := Lib.hid htur2
          obtain ⟨x, hx⟩ : ∃ x, v / 2 ^ (8 * j) = x := ⟨_, rfl⟩
          rw [hx]
          by_cases hjlt : j < 2
          · obtain ⟨A, ca, T, ct, hat⟩ := hmem2
            obtain ⟨B, hB⟩ : ∃ B, put (wB bs a 2 vs k) (a + k * 2) v j = B := ⟨_, rfl⟩
            obtain ⟨TS, hTS⟩ : ∃ TS, (ts ++ wT a 2 vs k) ++ tput (a + k * 2) v j = TS := ⟨_, rfl⟩
            rw [hB, hTS] at hat
            have hBl : bs.length = B.length := by rw [← hB]; simp
            have hTl : TS.length ≤ 1000200 := by rw [← hTS]; simp; omega
            have hfj : a + (k * 2 + j) < B.length := by omega
            have hB5 : B.length ≤ 5000 := by omega
            obtain ⟨g, rfl, hgF, hgP, hle, hcap⟩ := hat.formA (by omega)
            obtain ⟨cc, hcc⟩ : ∃ cc, byteAt v j = cc := ⟨_, rfl⟩
            have e3 := rest_byte x v j cc hx hcc
            have HPOS : Hid (a + (k * 2 + j) = a + k * 2 + j) := Lib.hid (by omega)
            obtain ⟨hat2, ht2⟩ := hat.byte (a + (k * 2 + j)) cc (by rw [← hcc]; exact byteAt_lt v j)
            have c0 := hat.cell0
            have b1 := hat.byteCell hfj
            have b2 := hat.byteFree (a + (k * 2 + j))
            have d0 := hat2.cell0
            have d1 := hat2.cell1
            have d2 := hat2.byteCell (j := a + (k * 2 + j)) (by simpa using hfj)
            have d3 : (B.set (a + (k * 2 + j)) cc).getD (a + (k * 2 + j)) 0 = cc := by simp [List.getD, hfj]
            rw [d3] at d2
            rw [List.length_set] at d0
            have HAT := Lib.hid hat2
            have HT2 := Lib.hid ht2
            have HBB := Lib.hid hB
            have HTS := Lib.hid hTS
            have HCC := Lib.hid hcc
            have HX := Lib.hid hx
            clear hF2 htur2 hat hat2 ht2 hB hTS hcc hBl hgP d3 hx
            go_wp2_with fail
            have p0 : (0 : Int) ≤ (a : Int) + ((k : Int) * 2 + (j : Int)) := by omega
            have p1 : (a : Int) + ((k : Int) * 2 + (j : Int)) < (B.length : Int) := by omega
            have p2 : ((a : Int) + ((k : Int) * 2 + (j : Int))).toNat = a + (k * 2 + j) := by omega
            have HBASE : Hid (base ≤ ((wr.setCell ⟨g, a + (k * 2 + j), none⟩ (.int .u8 cc)).alloc (.cells #[.bool true, .int .u64 ((a : Int) + ((k : Int) * 2 + (j : Int))), .int .u8 cc] 49)).drew.heap.size) := Lib.hid (by have := HTUR2.out.size; simp; omega)
            have HSZ : Hid (((wr.setCell ⟨g, a + (k * 2 + j), none⟩ (.int .u8 cc)).alloc (.cells #[.bool true, .int .u64 ((a : Int) + ((k : Int) * 2 + (j : Int))), .int .u8 cc] 49)).drew.heap.size = wr.heap.size + 1) := Lib.hid (by simp)
            have HNEWS := Lib.hid (news_drew (wr.setCell ⟨g, a + (k * 2 + j), none⟩ (.int .u8 cc)) wr.heap.size (by simp) (true, a + (k * 2 + j), cc) ((a : Int) + ((k : Int) * 2 + (j : Int))) (by simp))
            have d4 : ((wr.setCell ⟨g, a + (k * 2 + j), none⟩ (.int .u8 cc)).alloc (.cells #[.bool true, .int .u64 ((a : Int) + ((k : Int) * 2 + (j : Int))), .int .u8 cc] 49)).cell? ⟨P, 1, none⟩ = some (.slice T TS.length ct) := (World.cell?_alloc_lt _ _ ⟨P, 1, none⟩ (HAT.out.lo P HAT.out.inP).2).trans d1
            have H63 : Hid (TS.length + 1 ≤ maxLen) := Lib.hid (by unfold maxLen; omega)
            have H24 : Hid ((TS.length + 1) * 24 ≤ 140737488355328) := Lib.hid (by omega)
            go_region_law (((refine step_append_lies _ rfl _ _ 30 rfl base 49 i0 _ 3 24 Try.underlying30 hi0 hz0 hz1 hz2 rfl (by decide) _ TS.length (tvs TS) rfl ((HAT.out.ownT.alloc _).drew) ⟨wr.heap.size, 0, none⟩ 1 1 (tv (true, a + (k * 2 + j), cc)) rfl rfl HNEWS.out (tv_one _) (by decide) H63.out H24.out HBASE.out (wr.heap.size + 1) HSZ.out ?_); intro gg cap1 w1 hown1 hgrow hat3 hltg; obtain ⟨q1, q2, q3⟩ := HAT.out.after _ (grown_of_drew hgrow)))
            all_goals
              have NEXT : Hid (RIn 32 base P F (wB bs a 2 vs k) (ts ++ wT a 2 vs k) (a + k * 2) v 2 w (.int .u64 ((v / 2 ^ (8 * (j + 1)) : Nat) : Int)) (.int .i64 ((j + 1 : Nat) : Int)) (w1.setCell ⟨P, 1, none⟩ (.slice (some ⟨gg, 0, none⟩) (TS.length + 1) cap1))) := Lib.hid (by
                have h1 := HAT.out
                have h2 := HT2.out
                have h3 := hown1
                have h4 := grown_of_drew hgrow
                rw [HPOS.out] at h1 h2 h3 h4
                exact ⟨j + 1, rfl, rfl, win_next HF2.out HTUR2.out HBB.out HTS.out HCC.out h1 h2 hjlt _ h3 h4 hat3⟩)
              have E1 := Lib.hid (rest_wrap x v j HX.out HVL.out)
              have E2 := Lib.hid (rest_int x v j HX.out)
              clear hown1 hgrow hat3 c0 b1 b2 d0 d1 d2 d4 e3 p0 p1 p2
              go_wp2_with fail
              go_roundw
              case rel => first | exact NEXT.out | (rw [E2.out]; exact NEXT.out) | (rw [E1.out]; exact NEXT.out)
              case measure => simp [intOf]; omega
          · obtain rfl : j = 2 := by omega
            have HM2 := Lib.hid hmem2
            clear hmem2 hF2 htur2 hx
            go_wp2_with fail
            go_roundw
            case rel => exact ⟨k + 1, F2, (lt_fit (by decide) hlt).2 HFIT.out, by go_num, HF2.out, by rw [← HVV.out, List.append_assoc] at HM2; exact HM2.out, HTUR2.out⟩
            case measure => simp [intOf]; omega
      · have HQK : Hid (q = k) := Lib.hid (by rw [← HQ.out]; exact fit_stop (by decide) HK.out hlt hfit)
        have HC8 : Hid (c = 8) := Lib.hid (by rw [← HC.out, HQK.out, if_neg (by omega)])
        have HT : Hid (decide (a + (k + 1) * 2 ≤ (wB bs a 2 vs k).length) = false) := Lib.hid (by rw [wB_length]; simpa using hfit)
        clear hfit
        go_wp2_with fail
        refine (fits_any HAT0.out HL5.out a HA.out 2 k (by decide) (by decide) (by omega) false HT.out).mono ?_
        rintro e w' ⟨rfl, rfl⟩
        go_wp2_with fail
        go_ret
        exact ⟨by rw [HC8.out]; rfl, F1, HF1.out, by rw [HQK.out]; exact HMEM.out, HTUR.out⟩
    · have HKL : Hid (k = vs.length) := Lib.hid (by omega)
      have HQK : Hid (q = k) := Lib.hid (by have h1 := HK.out; have h2 := fit_le bs.length a 2 vs.length; rw [HQ.out] at h1 h2; omega)
      have HC0 : Hid (c = 0) := Lib.hid (by rw [← HC.out, HQK.out, HKL.out, if_pos rfl])
      go_wp2_with fail
      go_ret
      exact ⟨by rw [HC0.out]; rfl, F1, HF1.out, by rw [HQK.out]; exact HMEM.out, HTUR.out⟩

set_option maxHeartbeats 2000000 in
set_option maxRecDepth 100000 in
theorem rwrite_4 {w : World} {base P : Nat} {F N : Nat → Prop} {bs : List Nat} {ts : List Tch} (h : MemIs 32 w base P F bs ts) (hbase : base ≤ w.heap.size) (hn : bs.length ≤ 5000) (ht : ts.length ≤ 1000000) (a : Nat) (ha : a < 18446744073709551616)
    (L : Option Addr) (lc : Nat) (vs : List Nat) (hvs : ∀ v ∈ vs, v < 18446744073709551616) (hlen : vs.length ≤ 16) (hl : Lies w N L (vs.map uv)) (hN : ∀ i, N i → i < w.heap.size ∧ ¬ F i) (q : Nat) (hq : fit bs.length a 4 vs.length = q) (c : Int) (hc : (if q = vs.length then 0 else 8) = c) :
    Calls Try.prog 12 #[.pointer (some ⟨P, 0, none⟩), .int .u64 a, .int .i64 32, .slice L vs.length lc] w (Wrote 32 base P F (wB bs a 4 vs q) (ts ++ wT a 4 vs q) c w) := by
  have HM := Lib.hid h
  have HB : Hid (mayM 32 vs.length = true) := Lib.hid (by simp [mayM, wid]; omega)
  have HL := Lib.hid hl
  have HN := Lib.hid hN
  have HA := Lib.hid ha
  have HV := Lib.hid hvs
  have HQ := Lib.hid hq
  have HC := Lib.hid hc
  clear h hl hN ha hvs hq hc
  obtain ⟨i0, hi0, hz0, hz1, hz2⟩ := info_parts info49
  go_enter Try.func12, Try.ntmps12
  go_wp2_with fail
  refine (rmay_any _ _ _).mono ?_
  rw [HB.out]
  rintro e w' ⟨rfl, rfl⟩
  go_wp2_with fail
  go_loopw [10] (fun i wr => WLoop 32 base P F bs ts a 4 vs w i wr) (fun i _ => vs.length - (intOf i).toNat)
  case atStart => exact ⟨0, F, Nat.zero_le _, rfl, fun j hj => .inl hj, by simpa [wB, wT] using HM.out, Turned.refl _ _⟩
  case round =>
    obtain ⟨k, F1, hk, rfl, hF1, hmem, htur⟩ := hrel
    have hkl : k ≤ vs.length := Nat.le_trans hk (fit_le _ _ _ _)
    have HF1 := Lib.hid hF1
    have HMEM := Lib.hid hmem
    have HTUR := Lib.hid htur
    have HK := Lib.hid hk
    clear hF1 hmem htur hk
    by_cases hlt : k < vs.length
    · obtain ⟨v, hv⟩ : ∃ v, vs.getD k 0 = v := ⟨_, rfl⟩
      have HVL : Hid (v < 18446744073709551616) := Lib.hid (by rw [← hv]; exact getD_lt HV.out k)
      have hk0 : (0 : Int) ≤ (k : Int) := by omega
      have hk1 : (k : Int) < (vs.length : Int) := by omega
      obtain ⟨lb, lo, rfl, hlb, hlc⟩ := (HL.out.turned HTUR.out HN.out).at_ (i := k) (by simpa using hlt)
      have hcell : wr.cell? ⟨lb, lo + k, none⟩ = some (.int .u64 v) := hlc k _ (by rw [List.getElem?_map, List.getElem?_eq_getElem hlt]; simp [uv, ← hv, List.getD, List.getElem?_eq_getElem hlt])
      clear hlc
      obtain ⟨A0, ca0, T0, ct0, hat0⟩ := HMEM.out
      have HAT0 := Lib.hid hat0
      have HL5 : Hid ((wB bs a 4 vs k).length ≤ 5000) := Lib.hid (by rw [wB_length]; exact hn)
      have HVV := Lib.hid hv
      clear hat0 hv
      by_cases hfit : a + (k + 1) * 4 ≤ bs.length
      · have HT : Hid (decide (a + (k + 1) * 4 ≤ (wB bs a 4 vs k).length) = true) := Lib.hid (by rw [wB_length]; simpa using hfit)
        have ha5 : a ≤ 5000 := by omega
        have HFIT := Lib.hid hfit
        have hpos : a + k * 4 + 4 ≤ bs.length := by omega
        clear hfit
        go_wp2_with fail
        refine (fits_any HAT0.out HL5.out a HA.out 4 k (by decide) (by decide) (by omega) true HT.out).mono ?_
        rintro e w' ⟨rfl, rfl⟩
        go_wp2_with fail
        clear hcell hk0 hk1
        go_loopw [11, 12] (fun x i wr => RIn 32 base P F (wB bs a 4 vs k) (ts ++ wT a 4 vs k) (a + k * 4) v 4 w x i wr) (fun _ i _ => 4 - (intOf i).toNat)
        case atStart => exact ⟨0, rfl, by simp, 0, F1, Nat.zero_le _, rfl, HF1.out, by simpa [put, tput] using HMEM.out, HTUR.out⟩
        case round =>
          obtain ⟨j, rfl, rfl, j', F2, hj, hjj, hF2, hmem2, htur2⟩ := hrel
          obtain rfl := int_inj hjj
          clear hjj
          have HF2 := Lib.hid hF2
          have HTUR2 := Lib.hid htur2
          obtain ⟨x, hx⟩ : ∃ x, v / 2 ^ (8 * j) = x := ⟨_, rfl⟩
          rw [hx]
          by_cases hjlt : j < 4
          · obtain ⟨A, ca, T, ct, hat⟩ := hmem2
            obtain ⟨B, hB⟩ : ∃ B, put (wB bs a 4 vs k) (a + k * 4) v j = B := ⟨_, rfl⟩
            obtain ⟨TS, hTS⟩ : ∃ TS, (ts ++ wT a 4 vs k) ++ tput (a + k * 4) v j = TS := ⟨_, rfl⟩
            rw [hB, hTS] at hat
            have hBl : bs.length = B.length := by rw [← hB]; simp
            have hTl : TS.length ≤ 1000200 := by rw [← hTS]; simp; omega
            have hfj : a + (k * 4 + j) < B.length := by omega
            have hB5 : B.length ≤ 5000 := by omega
            obtain ⟨g, rfl, hgF, hgP, hle, hcap⟩ := hat.formA (by omega)
            obtain ⟨cc, hcc⟩ : ∃ cc, byteAt v j = cc := ⟨_, rfl⟩
            have e3 := rest_byte x v j cc hx hcc
            have HPOS : Hid (a + (k * 4 + j) = a + k * 4 + j) := Lib.hid (by omega)
            obtain ⟨hat2, ht2⟩ := hat.byte (a + (k * 4 + j)) cc (by rw [← hcc]; exact byteAt_lt v j)
            have c0 := hat.cell0
            have b1 := hat.byteCell hfj
            have b2 := hat.byteFree (a + (k * 4 + j))
            have d0 := hat2.cell0
            have d1 := hat2.cell1
            have d2 := hat2.byteCell (j := a + (k * 4 + j)) (by simpa using hfj)
            have d3 : (B.set (a + (k * 4 + j)) cc).getD (a + (k * 4 + j)) 0 = cc := by simp [List.getD, hfj]
            rw [d3] at d2
            rw [List.length_set] at d0
            have HAT := Lib.hid hat2
            have HT2 := Lib.hid ht2
            have HBB := Lib.hid hB
            have HTS := Lib.hid hTS
            have HCC := Lib.hid hcc
            have HX := Lib.hid hx
            clear hF2 htur2 hat hat2 ht2 hB hTS hcc hBl hgP d3 hx
            go_wp2_with fail
            have p0 : (0 : Int) ≤ (a : Int) + ((k : Int) * 4 + (j : Int)) := by omega
            have p1 : (a : Int) + ((k : Int) * 4 + (j : Int)) < (B.length : Int) := by omega
            have p2 : ((a : Int) + ((k : Int) * 4 + (j : Int))).toNat = a + (k * 4 + j) := by omega
            have HBASE : Hid (base ≤ ((wr.setCell ⟨g, a + (k * 4 + j), none⟩ (.int .u8 cc)).alloc (.cells #[.bool true, .int .u64 ((a : Int) + ((k : Int) * 4 + (j : Int))), .int .u8 cc] 49)).drew.heap.size) := Lib.hid (by have := HTUR2.out.size; simp; omega)
            have HSZ : Hid (((wr.setCell ⟨g, a + (k * 4 + j), none⟩ (.int .u8 cc)).alloc (.cells #[.bool true, .int .u64 ((a : Int) + ((k : Int) * 4 + (j : Int))), .int .u8 cc] 49)).drew.heap.size = wr.heap.size + 1) := Lib.hid (by simp)
            have HNEWS := Lib.hid (news_drew (wr.setCell ⟨g, a + (k * 4 + j), none⟩ (.int .u8 cc)) wr.heap.size (by simp) (true, a + (k * 4 + j), cc) ((a : Int) + ((k : Int) * 4 + (j : Int))) (by simp))
            have d4 : ((wr.setCell ⟨g, a + (k * 4 + j), none⟩ (.int .u8 cc)).alloc (.cells #[.bool true, .int .u64 ((a : Int) + ((k : Int) * 4 + (j : Int))), .int .u8 cc] 49)).cell? ⟨P, 1, none⟩ = some (.slice T TS.length ct) := (World.cell?_alloc_lt _ _ ⟨P, 1, none⟩ (HAT.out.lo P HAT.out.inP).2).trans d1
            have H63 : Hid (TS.length + 1 ≤ maxLen) := Lib.hid (by unfold maxLen; omega)
            have H24 : Hid ((TS.length + 1) * 24 ≤ 140737488355328) := Lib.hid (by omega)
            go_region_law (((refine step_append_lies _ rfl _ _ 30 rfl base 49 i0 _ 3 24 Try.underlying30 hi0 hz0 hz1 hz2 rfl (by decide) _ TS.length (tvs TS) rfl ((HAT.out.ownT.alloc _).drew) ⟨wr.heap.size, 0, none⟩ 1 1 (tv (true, a + (k * 4 + j), cc)) rfl rfl HNEWS.out (tv_one _) (by decide) H63.out H24.out HBASE.out (wr.heap.size + 1) HSZ.out ?_); intro gg cap1 w1 hown1 hgrow hat3 hltg; obtain ⟨q1, q2, q3⟩ := HAT.out.after _ (grown_of_drew hgrow)))
            all_goals
              have NEXT : Hid (RIn 32 base P F (wB bs a 4 vs k) (ts ++ wT a 4 vs k) (a + k * 4) v 4 w (.int .u64 ((v / 2 ^ (8 * (j + 1)) : Nat) : Int)) (.int .i64 ((j + 1 : Nat) : Int)) (w1.setCell ⟨P, 1, none⟩ (.slice (some ⟨gg, 0, none⟩) (TS.length + 1) cap1))) := Lib.hid (by
                have h1 := HAT.out
                have h2 := HT2.out
                have h3 := hown1
                have h4 := grown_of_drew hgrow
                rw [HPOS.out] at h1 h2 h3 h4
                exact ⟨j + 1, rfl, rfl, win_next HF2.out HTUR2.out HBB.out HTS.out HCC.out h1 h2 hjlt _ h3 h4 hat3⟩)
              have E1 := Lib.hid (rest_wrap x v j HX.out HVL.out)
              have E2 := Lib.hid (rest_int x v j HX.out)
              clear hown1 hgrow hat3 c0 b1 b2 d0 d1 d2 d4 e3 p0 p1 p2
              go_wp2_with fail
              go_roundw
              case rel => first | exact NEXT.out | (rw [E2.out]; exact NEXT.out) | (rw [E1.out]; exact NEXT.out)
              case measure => simp [intOf]; omega
          · obtain rfl : j = 4 := by omega
            have HM2 := Lib.hid hmem2
            clear hmem2 hF2 htur2 hx
            go_wp2_with fail
            go_roundw
            case rel => exact ⟨k + 1, F2, (lt_fit (by decide) hlt).2 HFIT.out, by go_num, HF2.out, by rw [← HVV.out, List.append_assoc] at HM2; exact HM2.out, HTUR2.out⟩
            case measure => simp [intOf]; omega
      · have HQK : Hid (q = k) := Lib.hid (by rw [← HQ.out]; exact fit_stop (by decide) HK.out hlt hfit)
        have HC8 : Hid (c = 8) := Lib.hid (by rw [← HC.out, HQK.out, if_neg (by omega)])
        have HT : Hid (decide (a + (k + 1) * 4 ≤ (wB bs a 4 vs k).length) = false) := Lib.hid (by rw [wB_length]; simpa using hfit)
        clear hfit
        go_wp2_with fail
        refine (fits_any HAT0.out HL5.out a HA.out 4 k (by decide) (by decide) (by omega) false HT.out).mono ?_
        rintro e w' ⟨rfl, rfl⟩
        go_wp2_with fail
        go_ret
        exact ⟨by rw [HC8.out]; rfl, F1, HF1.out, by rw [HQK.out]; exact HMEM.out, HTUR.out⟩
    · have HKL : Hid (k = vs.length) := Lib.hid (by omega)
      have HQK : Hid (q = k) := Lib.hid (by have h1 := HK.out; have h2 := fit_le bs.length a 4 vs.length; rw [HQ.out] at h1 h2; omega)
      have HC0 : Hid (c = 0) := Lib.hid (by rw [← HC.out, HQK.out, HKL.out, if_pos rfl])
      go_wp2_with fail
      go_ret
      exact ⟨by rw [HC0.out]; rfl, F1, HF1.out, by rw [HQK.out]; exact HMEM.out, HTUR.out⟩

set_option maxHeartbeats 2000000 in
set_option maxRecDepth 100000 in
theorem rwrite_8 {w : World} {base P : Nat} {F N : Nat → Prop} {bs : List Nat} {ts : List Tch} (h : MemIs 32 w base P F bs ts) (hbase : base ≤ w.heap.size) (hn : bs.length ≤ 5000) (ht : ts.length ≤ 1000000) (a : Nat) (ha : a < 18446744073709551616)
    (L : Option Addr) (lc : Nat) (vs : List Nat) (hvs : ∀ v ∈ vs, v < 18446744073709551616) (hlen : vs.length ≤ 16) (hl : Lies w N L (vs.map uv)) (hN : ∀ i, N i → i < w.heap.size ∧ ¬ F i) (q : Nat) (hq : fit bs.length a 8 vs.length = q) (c : Int) (hc : (if q = vs.length then 0 else 8) = c) :
    Calls Try.prog 12 #[.pointer (some ⟨P, 0, none⟩), .int .u64 a, .int .i64 64, .slice L vs.length lc] w (Wrote 32 base P F (wB bs a 8 vs q) (ts ++ wT a 8 vs q) c w) := by
  have HM := Lib.hid h
  have HB : Hid (mayM 64 vs.length = true) := Lib.hid (by simp [mayM, wid]; omega)
  have HL := Lib.hid hl
  have HN := Lib.hid hN
  have HA := Lib.hid ha
  have HV := Lib.hid hvs
  have HQ := Lib.hid hq
  have HC := Lib.hid hc
  clear h hl hN ha hvs hq hc
  obtain ⟨i0, hi0, hz0, hz1, hz2⟩ := info_parts info49
  go_enter Try.func12, Try.ntmps12
  go_wp2_with fail
  refine (rmay_any _ _ _).mono ?_
  rw [HB.out]
  rintro e w' ⟨rfl, rfl⟩
  go_wp2_with fail
  go_loopw [10] (fun i wr => WLoop 32 base P F bs ts a 8 vs w i wr) (fun i _ => vs.length - (intOf i).toNat)
  case atStart => exact ⟨0, F, Nat.zero_le _, rfl, fun j hj => .inl hj, by simpa [wB, wT] using HM.out, Turned.refl _ _⟩
  case round =>
    obtain ⟨k, F1, hk, rfl, hF1, hmem, htur⟩ := hrel
    have hkl : k ≤ vs.length := Nat.le_trans hk (fit_le _ _ _ _)
    have HF1 := Lib.hid hF1
    have HMEM := Lib.hid hmem
    have HTUR := Lib.hid htur
    have HK := Lib.hid hk
    clear hF1 hmem htur hk
    by_cases hlt : k < vs.length
    · obtain ⟨v, hv⟩ : ∃ v, vs.getD k 0 = v := ⟨_, rfl⟩
      have HVL : Hid (v < 18446744073709551616) := Lib.hid (by rw [← hv]; exact getD_lt HV.out k)
      have hk0 : (0 : Int) ≤ (k : Int) := by omega
      have hk1 : (k : Int) < (vs.length : Int) := by omega
      obtain ⟨lb, lo, rfl, hlb, hlc⟩ := (HL.out.turned HTUR.out HN.out).at_ (i := k) (by simpa using hlt)
      have hcell : wr.cell? ⟨lb, lo + k, none⟩ = some (.int .u64 v) := hlc k _ (by rw [List.getElem?_map, List.getElem?_eq_getElem hlt]; simp [uv, ← hv, List.getD, List.getElem?_eq_getElem hlt])
      clear hlc
      obtain ⟨A0, ca0, T0, ct0, hat0⟩ := HMEM.out
      have HAT0 := Lib.hid hat0
      have HL5 : Hid ((wB bs a 8 vs k).length ≤ 5000) := Lib.hid (by rw [wB_length]; exact hn)
      have HVV := Lib.hid hv
      clear hat0 hv
      by_cases hfit : a + (k + 1) * 8 ≤ bs.length
      · have HT : Hid (decide (a + (k + 1) * 8 ≤ (wB bs a 8 vs k).length) = true) := Lib.hid (by rw [wB_length]; simpa using hfit)
        have ha5 : a ≤ 5000 := by omega
        have HFIT := Lib.hid hfit
        have hpos : a + k * 8 + 8 ≤ bs.length := by omega
        clear hfit
        go_wp2_with fail
        refine (fits_any HAT0.out HL5.out a HA.out 8 k (by decide) (by decide) (by omega) true HT.out).mono ?_
        rintro e w' ⟨rfl, rfl⟩
        go_wp2_with fail
        clear hcell hk0 hk1
        go_loopw [11, 12] (fun x i wr => RIn 32 base P F (wB bs a 8 vs k) (ts ++ wT a 8 vs k) (a + k * 8) v 8 w x i wr) (fun _ i _ => 8 - (intOf i).toNat)
        case atStart => exact ⟨0, rfl, by simp, 0, F1, Nat.zero_le _, rfl, HF1.out, by simpa [put, tput] using HMEM.out, HTUR.out⟩
        case round =>
          obtain ⟨j, rfl, rfl, j', F2, hj, hjj, hF2, hmem2, htur2⟩ := hrel
          obtain rfl := int_inj hjj
          clear hjj
          have HF2 := Lib.hid hF2
          have HTUR2 := Lib.hid htur2
          obtain ⟨x, hx⟩ : ∃ x, v / 2 ^ (8 * j) = x := ⟨_, rfl⟩
          rw [hx]
          by_cases hjlt : j < 8
          · obtain ⟨A, ca, T, ct, hat⟩ := hmem2
            obtain ⟨B, hB⟩ : ∃ B, put (wB bs a 8 vs k) (a + k * 8) v j = B := ⟨_, rfl⟩
            obtain ⟨TS, hTS⟩ : ∃ TS, (ts ++ wT a 8 vs k) ++ tput (a + k * 8) v j = TS := ⟨_, rfl⟩
            rw [hB, hTS] at hat
            have hBl : bs.length = B.length := by rw [← hB]; simp
            have hTl : TS.length ≤ 1000200 := by rw [← hTS]; simp; omega
            have hfj : a + (k * 8 + j) < B.length := by omega
            have hB5 : B.length ≤ 5000 := by omega
            obtain ⟨g, rfl, hgF, hgP, hle, hcap⟩ := hat.formA (by omega)
            obtain ⟨cc, hcc⟩ : ∃ cc, byteAt v j = cc := ⟨_, rfl⟩
            have e3 := rest_byte x v j cc hx hcc
            have HPOS : Hid (a + (k * 8 + j) = a + k * 8 + j) := Lib.hid (by omega)
            obtain ⟨hat2, ht2⟩ := hat.byte (a + (k * 8 + j)) cc (by rw [← hcc]; exact byteAt_lt v j)
            have c0 := hat.cell0
            have b1 := hat.byteCell hfj
            have b2 := hat.byteFree (a + (k * 8 + j))
            have d0 := hat2.cell0
            have d1 := hat2.cell1
            have d2 := hat2.byteCell (j := a + (k * 8 + j)) (by simpa using hfj)
            have d3 : (B.set (a + (k * 8 + j)) cc).getD (a + (k * 8 + j)) 0 = cc := by simp [List.getD, hfj]
            rw [d3] at d2
            rw [List.length_set] at d0
            have HAT := Lib.hid hat2
            have HT2 := Lib.hid ht2
            have HBB := Lib.hid hB
            have HTS := Lib.hid hTS
            have HCC := Lib.hid hcc
            have HX := Lib.hid hx
            clear hF2 htur2 hat hat2 ht2 hB hTS hcc hBl hgP d3 hx
            go_wp2_with fail
            have p0 : (0 : Int) ≤ (a : Int) + ((k : Int) * 8 + (j : Int)) := by omega
            have p1 : (a : Int) + ((k : Int) * 8 + (j : Int)) < (B.length : Int) := by omega
            have p2 : ((a : Int) + ((k : Int) * 8 + (j : Int))).toNat = a + (k * 8 + j) := by omega
            have HBASE : Hid (base ≤ ((wr.setCell ⟨g, a + (k * 8 + j), none⟩ (.int .u8 cc)).alloc (.cells #[.bool true, .int .u64 ((a : Int) + ((k : Int) * 8 + (j : Int))), .int .u8 cc] 49)).drew.heap.size) := Lib.hid (by have := HTUR2.out.size; simp; omega)
            have HSZ : Hid (((wr.setCell ⟨g, a + (k * 8 + j), none⟩ (.int .u8 cc)).alloc (.cells #[.bool true, .int .u64 ((a : Int) + ((k : Int) * 8 + (j : Int))), .int .u8 cc] 49)).drew.heap.size = wr.heap.size + 1) := Lib.hid (by simp)
            have HNEWS := Lib.hid (news_drew (wr.setCell ⟨g, a + (k * 8 + j), none⟩ (.int .u8 cc)) wr.heap.size (by simp) (true, a + (k * 8 + j), cc) ((a : Int) + ((k : Int) * 8 + (j : Int))) (by simp))
            have d4 : ((wr.setCell ⟨g, a + (k * 8 + j), none⟩ (.int .u8 cc)).alloc (.cells #[.bool true, .int .u64 ((a : Int) + ((k : Int) * 8 + (j : Int))), .int .u8 cc] 49)).cell? ⟨P, 1, none⟩ = some (.slice T TS.length ct) := (World.cell?_alloc_lt _ _ ⟨P, 1, none⟩ (HAT.out.lo P HAT.out.inP).2).trans d1
            have H63 : Hid (TS.length + 1 ≤ maxLen) := Lib.hid (by unfold maxLen; omega)
            have H24 : Hid ((TS.length + 1) * 24 ≤ 140737488355328) := Lib.hid (by omega)
            go_region_law (((refine step_append_lies _ rfl _ _ 30 rfl base 49 i0 _ 3 24 Try.underlying30 hi0 hz0 hz1 hz2 rfl (by decide) _ TS.length (tvs TS) rfl ((HAT.out.ownT.alloc _).drew) ⟨wr.heap.size, 0, none⟩ 1 1 (tv (true, a + (k * 8 + j), cc)) rfl rfl HNEWS.out (tv_one _) (by decide) H63.out H24.out HBASE.out (wr.heap.size + 1) HSZ.out ?_); intro gg cap1 w1 hown1 hgrow hat3 hltg; obtain ⟨q1, q2, q3⟩ := HAT.out.after _ (grown_of_drew hgrow)))
            all_goals
              have NEXT : Hid (RIn 32 base P F (wB bs a 8 vs k) (ts ++ wT a 8 vs k) (a + k * 8) v 8 w (.int .u64 ((v / 2 ^ (8 * (j + 1)) : Nat) : Int)) (.int .i64 ((j + 1 : Nat) : Int)) (w1.setCell ⟨P, 1, none⟩ (.slice (some ⟨gg, 0, none⟩) (TS.length + 1) cap1))) := Lib.hid (by
                have h1 := HAT.out
                have h2 := HT2.out
                have h3 := hown1
                have h4 := grown_of_drew hgrow
                rw [HPOS.out] at h1 h2 h3 h4
                exact ⟨j + 1, rfl, rfl, win_next HF2.out HTUR2.out HBB.out HTS.out HCC.out h1 h2 hjlt _ h3 h4 hat3⟩)
              have E1 := Lib.hid (rest_wrap x v j HX.out HVL.out)
              have E2 := Lib.hid (rest_int x v j HX.out)
              clear hown1 hgrow hat3 c0 b1 b2 d0 d1 d2 d4 e3 p0 p1 p2
              go_wp2_with fail
              go_roundw
              case rel => first | exact NEXT.out | (rw [E2.out]; exact NEXT.out) | (rw [E1.out]; exact NEXT.out)
              case measure => simp [intOf]; omega
          · obtain rfl : j = 8 := by omega
            have HM2 := Lib.hid hmem2
            clear hmem2 hF2 htur2 hx
            go_wp2_with fail
            go_roundw
            case rel => exact ⟨k + 1, F2, (lt_fit (by decide) hlt).2 HFIT.out, by go_num, HF2.out, by rw [← HVV.out, List.append_assoc] at HM2; exact HM2.out, HTUR2.out⟩
            case measure => simp [intOf]; omega
      · have HQK : Hid (q = k) := Lib.hid (by rw [← HQ.out]; exact fit_stop (by decide) HK.out hlt hfit)
        have HC8 : Hid (c = 8) := Lib.hid (by rw [← HC.out, HQK.out, if_neg (by omega)])
        have HT : Hid (decide (a + (k + 1) * 8 ≤ (wB bs a 8 vs k).length) = false) := Lib.hid (by rw [wB_length]; simpa using hfit)
        clear hfit
        go_wp2_with fail
        refine (fits_any HAT0.out HL5.out a HA.out 8 k (by decide) (by decide) (by omega) false HT.out).mono ?_
        rintro e w' ⟨rfl, rfl⟩
        go_wp2_with fail
        go_ret
        exact ⟨by rw [HC8.out]; rfl, F1, HF1.out, by rw [HQK.out]; exact HMEM.out, HTUR.out⟩
    · have HKL : Hid (k = vs.length) := Lib.hid (by omega)
      have HQK : Hid (q = k) := Lib.hid (by have h1 := HK.out; have h2 := fit_le bs.length a 8 vs.length; rw [HQ.out] at h1 h2; omega)
      have HC0 : Hid (c = 0) := Lib.hid (by rw [← HC.out, HQK.out, HKL.out, if_pos rfl])
      go_wp2_with fail
      go_ret
      exact ⟨by rw [HC0.out]; rfl, F1, HF1.out, by rw [HQK.out]; exact HMEM.out, HTUR.out⟩

theorem rwrite_any {w : World} {base P : Nat} {F N : Nat → Prop} {bs : List Nat} {ts : List Tch} (h : MemIs 32 w base P F bs ts) (hbase : base ≤ w.heap.size) (hn : bs.length ≤ 5000) (ht : ts.length ≤ 1000000) (a : Nat) (ha : a < 18446744073709551616) (b : Int)
    (L : Option Addr) (lc : Nat) (vs : List Nat) (hvs : ∀ v ∈ vs, v < 18446744073709551616) (hl : Lies w N L (vs.map uv)) (hN : ∀ i, N i → i < w.heap.size ∧ ¬ F i) :
    Calls Try.prog 12 #[.pointer (some ⟨P, 0, none⟩), .int .u64 a, .int .i64 b, .slice L vs.length lc] w (Wrote 32 base P F (outB bs a b vs) (outT bs ts a b vs) (outC bs.length a b vs.length) w) := by
  cases hm : mayM b vs.length with
  | false =>
    rw [outB_no hm, outT_no hm, outC_no hm]
    exact rwrite_arg h a b L vs.length lc hm
  | true =>
    obtain ⟨hb, _, h16⟩ := mayM_parts hm
    have eB : outB bs a b vs = wB bs a (b / 8).toNat vs (fit bs.length a (b / 8).toNat vs.length) := by unfold outB; rw [hm]; rfl
    have eT : outT bs ts a b vs = ts ++ wT a (b / 8).toNat vs (fit bs.length a (b / 8).toNat vs.length) := by unfold outT; rw [hm]; rfl
    have eC : outC bs.length a b vs.length = if fit bs.length a (b / 8).toNat vs.length = vs.length then 0 else 8 := by unfold outC; rw [hm]; rfl
    rw [eB, eT, eC]
    rcases hb with rfl | rfl | rfl | rfl
    · exact rwrite_1 h hbase hn ht a ha L lc vs hvs (by omega) hl hN _ rfl _ rfl
    · exact rwrite_2 h hbase hn ht a ha L lc vs hvs (by omega) hl hN _ rfl _ rfl
    · exact rwrite_4 h hbase hn ht a ha L lc vs hvs (by omega) hl hN _ rfl _ rfl
    · exact rwrite_8 h hbase hn ht a ha L lc vs hvs (by omega) hl hN _ rfl _ rfl
end Go.Proofs.Ytcnhnjbefhgaaaa
