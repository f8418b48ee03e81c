/- What (*mem.Mem).Write does. -/
import Derived.Test.YtcnhnjbefhgaaaaSmall
namespace Go.Proofs.Ytcnhnjbefhgaaaa
open Go.RowKit

theorem info49 : (Try.prog.info? 49).map (fun i => (i.zero, i.size, i.bytes)) = some (some (.agg #[.bool false, .int .u64 0, .int .u8 0]), 3, 24) := by kernel_rfl

theorem wrap_add (a p f : Nat) (hf : (a + p) % 18446744073709551616 = f) : IntKind.u64.wrap ((a : Int) + (p : Int)) = (f : Int) := by rw [u64_wrap]; omega
theorem first_at (a p s n f : Nat) (_ha : a < 18446744073709551616) (hf : (a + p) % 18446744073709551616 = f) (h : a + (p + s) ≤ n) (hn : n ≤ 5000) : f = a + p ∧ f + s ≤ n ∧ ¬ f < a := by
  have e : (a + p) % 18446744073709551616 = a + p := Nat.mod_eq_of_lt (by omega)
  omega
/-- beyond the end, or past the greatest address -/
theorem first_out (a p s n f : Nat) (hp : p ≤ 128) (ha : a < 18446744073709551616) (hf : (a + p) % 18446744073709551616 = f) (h : ¬ a + (p + s) ≤ n) : f < a ∨ (¬ f < a ∧ ¬ f + s ≤ n) := by omega

theorem byte_int (v j c : Nat) (h : byteAt v j = c) : (v : Int) / 2 ^ (8 * j) % 256 = (c : Int) := by
  rw [← h]; unfold byteAt; rw [Int.natCast_emod, Int.natCast_ediv, Int.natCast_pow]; rfl

/-- a number as a cell -/
def uv (v : Nat) : Value := .int .u64 v

/-- it came out so; the memory is this; nothing else of what there was has turned -/
def Wrote (ty : TypeId) (base P : Nat) (F : Nat → Prop) (bs : List Nat) (ts : List Tch) (c : Int) (w : World) (e : Ending) (w' : World) : Prop :=
  e = .returned (.int .i64 c) ∧ ∃ F', (∀ i, F' i → F i ∨ w.heap.size ≤ i) ∧ MemIs ty w' base P F' bs ts ∧ Turned F w w'

/-- at the head of a round: k numbers are written -/
def WLoop (ty : TypeId) (base P : Nat) (F : Nat → Prop) (bs : List Nat) (ts : List Tch) (a s : Nat) (vs : List Nat) (w : World) (i : Value) (wr : World) : Prop :=
  ∃ (k : Nat) (F' : Nat → Prop), k ≤ fit bs.length a s vs.length ∧ i = .int .i64 k ∧ (∀ j, F' j → F j ∨ w.heap.size ≤ j) ∧ MemIs ty wr base P F' (wB bs a s vs k) (ts ++ wT a s vs k) ∧ Turned F w wr
/-- at the head of a round within: j bytes of v are written from f on -/
def WIn (ty : TypeId) (base P : Nat) (F : Nat → Prop) (bs : List Nat) (ts : List Tch) (f v s : Nat) (w : World) (i : Value) (wr : World) : Prop :=
  ∃ (j : Nat) (F' : Nat → Prop), j ≤ s ∧ i = .int .i64 j ∧ (∀ j, F' j → F j ∨ w.heap.size ≤ j) ∧ MemIs ty wr base P F' (put bs f v j) (ts ++ tput f v j) ∧ Turned F w wr

theorem win_next {ty : TypeId} {base P : Nat} {F F2 : Nat → Prop} {bs B : List Nat} {ts TS : List Tch} {f v s j g ca ct gg cap1 c : Nat} {T : Option Addr} {w wr w1 : World}
    (hF2 : ∀ i, F2 i → F i ∨ w.heap.size ≤ i) (htur : Turned F w wr) (hB : put bs f v j = B) (hTS : ts ++ tput f v j = TS) (hc : byteAt v j = c)
    (hat : MemAt ty (wr.setCell ⟨g, f + j, none⟩ (.int .u8 c)) base P F2 (some ⟨g, 0, none⟩) ca T ct (B.set (f + j) c) TS) (ht : Turned F2 wr (wr.setCell ⟨g, f + j, none⟩ (.int .u8 c))) (hj : j < s) (o : Obj)
    (hown : w1.ownsRow base 49 3 (.slice (some ⟨gg, 0, none⟩) (TS.length + 1) cap1) (TS.length + 1) (tvs TS ++ tv (true, f + j, c)))
    (hg : ((wr.setCell ⟨g, f + j, none⟩ (.int .u8 c)).alloc o).grownBy w1 (Value.slice T TS.length ct).ownBlock) (hat3 : (Value.slice T TS.length ct).ownBlock = some gg ∨ gg = wr.heap.size + 1) :
    WIn ty base P F bs ts f v s w (.int .i64 ((j + 1 : Nat) : Int)) (w1.setCell ⟨P, 1, none⟩ (.slice (some ⟨gg, 0, none⟩) (TS.length + 1) cap1)) := by
  subst hB hTS hc
  have R := hat.push o (true, f + j, byteAt v j) hown hg (by simpa using hat3)
  refine ⟨j + 1, fun i => F2 i ∨ i = gg, by omega, rfl, ?_, ⟨some ⟨g, 0, none⟩, ca, some ⟨gg, 0, none⟩, cap1, ?_⟩, (htur.trans ht hF2).trans R.2 hF2⟩
  · intro i hi
    rcases hi with hi | rfl
    · exact hF2 i hi
    · rcases hat3 with e | e
      · exact hF2 i (hat.inT i e)
      · have := htur.size; exact .inr (by omega)
  · have h1 := R.1
    rw [List.append_assoc] at h1
    exact h1

theorem write_arg {w : World} {base P : Nat} {F : Nat → Prop} {bs : List Nat} {ts : List Tch} (h : MemIs 63 w base P F bs ts) (a : Nat) (b : Int) (L : Option Addr) (n lc : Nat) (hm : mayM b n = false) :
    Calls Try.prog 11 #[.pointer (some ⟨P, 0, none⟩), .int .u64 a, .int .i64 b, .slice L n lc] w (Wrote 63 base P F bs ts 1 w) := by
  have HM := Lib.hid h
  have HB := Lib.hid hm
  clear h hm
  go_enter Try.func11, Try.ntmps11
  go_wp2_with fail
  refine (may_any _ _ _).mono ?_
  rw [HB.out]
  rintro e w' ⟨rfl, rfl⟩
  go_wp2_with fail
  go_ret
  exact ⟨rfl, F, fun i hi => .inl hi, HM.out, Turned.refl _ _⟩

set_option maxHeartbeats 2000000 in
set_option maxRecDepth 100000 in
theorem write_1 {w : World} {base P : Nat} {F N : Nat → Prop} {bs : List Nat} {ts : List Tch} (h : MemIs 63 w base P F bs ts) (hbase : base ≤ w.heap.size) (hn : bs.length ≤ 5000) (ht : ts.length ≤ 1000000) (a : Nat) (ha : a < 18446744073709551616)
    (L : Option Addr) (lc : Nat) (vs : List Nat) (hlen : vs.length ≤ 16) (hl : Lies w N L (vs.map uv)) (hN : ∀ i, N i → i < w.heap.size ∧ ¬ F i) (q : Nat) (hq : fit bs.length a 1 vs.length = q) (c : Int) (hc : (if q = vs.length then 0 else 8) = c) :
    Calls Try.prog 11 #[.pointer (some ⟨P, 0, none⟩), .int .u64 a, .int .i64 8, .slice L vs.length lc] w (Wrote 63 base P F (wB bs a 1 vs q) (ts ++ wT a 1 vs q) c w) := by
  have HM := Lib.hid h
  have HB : Hid (mayM 8 vs.length = true) := Lib.hid (by simp [mayM, wid]; omega)
  have HL := Lib.hid hl
  have HN := Lib.hid hN
  have HA := Lib.hid ha
  have HQ := Lib.hid hq
  have HC := Lib.hid hc
  clear h hl hN ha hq hc
  obtain ⟨i0, hi0, hz0, hz1, hz2⟩ := info_parts info49
  go_enter Try.func11, Try.ntmps11
  go_wp2_with fail
  refine (may_any _ _ _).mono ?_
  rw [HB.out]
  rintro e w' ⟨rfl, rfl⟩
  go_wp2_with fail
  go_loopw [24] (fun i wr => WLoop 63 base P F bs ts a 1 vs w i wr) (fun i _ => vs.length - (intOf i).toNat)
  case atStart => exact ⟨0, F, Nat.zero_le _, rfl, fun j hj => .inl hj, by simpa [wB, wT] using HM.out, Turned.refl _ _⟩
  case round =>
    obtain ⟨k, F1, hk, rfl, hF1, hmem, htur⟩ := hrel
    have hkl : k ≤ vs.length := Nat.le_trans hk (fit_le _ _ _ _)
    have HF1 := Lib.hid hF1
    have HMEM := Lib.hid hmem
    have HTUR := Lib.hid htur
    have HK := Lib.hid hk
    clear hF1 hmem htur hk
    by_cases hlt : k < vs.length
    · obtain ⟨f, hf⟩ : ∃ f : Nat, (a + k * 1) % 18446744073709551616 = f := ⟨_, rfl⟩
      have e1 : IntKind.u64.wrap ((a : Int) + (k : Int)) = (f : Int) := by simpa using wrap_add a (k * 1) f hf
      obtain ⟨v, hv⟩ : ∃ v, vs.getD k 0 = v := ⟨_, rfl⟩
      have hk0 : (0 : Int) ≤ (k : Int) := by omega
      have hk1 : (k : Int) < (vs.length : Int) := by omega
      obtain ⟨lb, lo, rfl, hlb, hlc⟩ := (HL.out.turned HTUR.out HN.out).at_ (i := k) (by simpa using hlt)
      have hcell : wr.cell? ⟨lb, lo + k, none⟩ = some (.int .u64 v) := hlc k _ (by rw [List.getElem?_map, List.getElem?_eq_getElem hlt]; simp [uv, ← hv, List.getD, List.getElem?_eq_getElem hlt])
      clear hlc
      have HFL : Hid (f < 18446744073709551616) := Lib.hid (by rw [← hf]; exact Nat.mod_lt _ (by decide))
      by_cases hfit : a + (k + 1) * 1 ≤ bs.length
      · have hps3 := first_at a (k * 1) 1 bs.length f HA.out hf (by rw [Nat.add_mul, Nat.one_mul] at hfit; exact hfit) hn
        have t1 : decide (f < a) = false := by simpa using hps3.2.2
        obtain ⟨A0, ca0, T0, ct0, hat0⟩ := HMEM.out
        have HAT0 := Lib.hid hat0
        have HT : Hid (thereB (wB bs a 1 vs k).length f 1 = true) := Lib.hid (by rw [wB_length]; unfold thereB; simp; omega)
        have HL5 : Hid ((wB bs a 1 vs k).length ≤ 5000) := Lib.hid (by rw [wB_length]; exact hn)
        have HFP : Hid (f = a + k * 1) := Lib.hid hps3.1
        have HFS := hps3.2.1
        have HVV := Lib.hid hv
        have HFIT := Lib.hid hfit
        clear hf hv hps3 hfit hat0
        go_wp2_with fail
        refine (there_any HAT0.out HL5.out f HFL.out 1 true HT.out).mono ?_
        rintro e w' ⟨rfl, rfl⟩
        go_wp2_with fail
        clear t1 hcell hk0 hk1
        go_loopw [46] (fun i wr => WIn 63 base P F (wB bs a 1 vs k) (ts ++ wT a 1 vs k) f v 1 w i wr) (fun i _ => 1 - (intOf i).toNat)
        case atStart => exact ⟨0, F1, Nat.zero_le _, rfl, HF1.out, by simpa [put, tput] using HMEM.out, HTUR.out⟩
        case round =>
          obtain ⟨j, F2, hj, rfl, hF2, hmem2, htur2⟩ := hrel
          have HF2 := Lib.hid hF2
          have HTUR2 := Lib.hid htur2
          by_cases hjlt : j < 1
          · obtain ⟨A, ca, T, ct, hat⟩ := hmem2
            obtain ⟨B, hB⟩ : ∃ B, put (wB bs a 1 vs k) f v j = B := ⟨_, rfl⟩
            obtain ⟨TS, hTS⟩ : ∃ TS, (ts ++ wT a 1 vs k) ++ tput f v j = TS := ⟨_, rfl⟩
            rw [hB, hTS] at hat
            have hBl : bs.length = B.length := by rw [← hB]; simp
            have hTl : TS.length ≤ 1000200 := by rw [← hTS]; simp; omega
            have hfj : f + j < B.length := by omega
            have hB5 : B.length ≤ 5000 := by omega
            obtain ⟨g, rfl, hgF, hgP, hle, hcap⟩ := hat.formA (by omega)
            obtain ⟨cc, hcc⟩ : ∃ cc, byteAt v j = cc := ⟨_, rfl⟩
            have e3 := byte_int v j cc hcc
            obtain ⟨hat2, ht2⟩ := hat.byte (f + j) cc (by rw [← hcc]; exact byteAt_lt v j)
            have c0 := hat.cell0
            have b1 := hat.byteCell hfj
            have b2 := hat.byteFree (f + j)
            have d1 := hat2.cell1
            have HAT := Lib.hid hat2
            have HT2 := Lib.hid ht2
            have HBB := Lib.hid hB
            have HTS := Lib.hid hTS
            have HCC := Lib.hid hcc
            clear hF2 htur2 hat hat2 ht2 hB hTS hcc hBl hgP
            go_wp2_with (at_builtin; refine wpList_append_lies _ rfl _ _ 30 rfl base 49 i0 _ 3 24 Try.underlying30 hi0 hz0 hz1 hz2 rfl (by decide) _ TS.length (tvs TS) rfl (HAT.out.ownT.alloc _) _ 1 1 (tv (true, f + j, cc)) rfl (by rfl) ?c1 ?c2 (by decide) ?c3 ?c4 ?c5 _ rfl ?_)
            case c1 => exact news_touch _ _ (by simp) (true, f + j, cc) _ (by simp)
            case c2 => exact tv_one _
            case c3 => unfold maxLen; omega
            case c4 => omega
            case c5 => have := HTUR2.out.size; simp; omega
            intro gg cap1 w1 hown1 hgrow hat3 _
            obtain ⟨q1, q2, _⟩ := HAT.out.after _ hgrow
            have NEXT : Hid (WIn 63 base P F (wB bs a 1 vs k) (ts ++ wT a 1 vs k) f v 1 w (.int .i64 ((j + 1 : Nat) : Int)) (w1.setCell ⟨P, 1, none⟩ (.slice (some ⟨gg, 0, none⟩) (TS.length + 1) cap1))) :=
              Lib.hid (win_next HF2.out HTUR2.out HBB.out HTS.out HCC.out HAT.out HT2.out hjlt _ hown1 hgrow hat3)
            clear hown1 hgrow hat3 c0 b1 b2 d1 e3
            go_wp2_with fail
            go_roundw
            case rel => exact NEXT.out
            case measure => simp [intOf]; omega
          · obtain rfl : j = 1 := by omega
            have HM2 := Lib.hid hmem2
            clear hmem2 hF2 htur2
            go_wp2_with fail
            go_roundw
            case rel => exact ⟨k + 1, F2, (lt_fit (by decide) hlt).2 HFIT.out, by go_num, HF2.out, by rw [← HVV.out, HFP.out, List.append_assoc] at HM2; exact HM2.out, HTUR2.out⟩
            case measure => simp [intOf]; omega
      · have HQK : Hid (q = k) := Lib.hid (by rw [← HQ.out]; exact fit_stop (by decide) HK.out hlt hfit)
        have HC8 : Hid (c = 8) := Lib.hid (by rw [← HC.out, HQK.out, if_neg (by omega)])
        have hor := first_out a (k * 1) 1 bs.length f (by omega) HA.out hf (by rw [Nat.add_mul, Nat.one_mul] at hfit; exact hfit)
        rcases hor with hlt1 | ⟨hge, hnot⟩
        · have t1 : decide (f < a) = true := by simpa using hlt1
          clear hf hfit hlt1
          go_wp2_with fail
          go_ret
          exact ⟨by rw [HC8.out]; rfl, F1, HF1.out, by rw [HQK.out]; exact HMEM.out, HTUR.out⟩
        · have t1 : decide (f < a) = false := by simpa using hge
          obtain ⟨A0, ca0, T0, ct0, hat0⟩ := HMEM.out
          have HAT0 := Lib.hid hat0
          have HT : Hid (thereB (wB bs a 1 vs k).length f 1 = false) := Lib.hid (by rw [wB_length]; unfold thereB; simp; omega)
          have HL5 : Hid ((wB bs a 1 vs k).length ≤ 5000) := Lib.hid (by rw [wB_length]; exact hn)
          clear hf hfit hge hnot hat0
          go_wp2_with fail
          refine (there_any HAT0.out HL5.out f HFL.out 1 false HT.out).mono ?_
          rintro e w' ⟨rfl, rfl⟩
          go_wp2_with fail
          go_ret
          exact ⟨by rw [HC8.out]; rfl, F1, HF1.out, by rw [HQK.out]; exact HMEM.out, HTUR.out⟩
    · have HKL : Hid (k = vs.length) := Lib.hid (by omega)
      have HQK : Hid (q = k) := Lib.hid (by have h1 := HK.out; have h2 := fit_le bs.length a 1 vs.length; rw [HQ.out] at h1 h2; omega)
      have HC0 : Hid (c = 0) := Lib.hid (by rw [← HC.out, HQK.out, HKL.out, if_pos rfl])
      go_wp2_with fail
      go_ret
      exact ⟨by rw [HC0.out]; rfl, F1, HF1.out, by rw [HQK.out]; exact HMEM.out, HTUR.out⟩

set_option maxHeartbeats 2000000 in
set_option maxRecDepth 100000 in
theorem write_2 {w : World} {base P : Nat} {F N : Nat → Prop} {bs : List Nat} {ts : List Tch} (h : MemIs 63 w base P F bs ts) (hbase : base ≤ w.heap.size) (hn : bs.length ≤ 5000) (ht : ts.length ≤ 1000000) (a : Nat) (ha : a < 18446744073709551616)
    (L : Option Addr) (lc : Nat) (vs : List Nat) (hlen : vs.length ≤ 16) (hl : Lies w N L (vs.map uv)) (hN : ∀ i, N i → i < w.heap.size ∧ ¬ F i) (q : Nat) (hq : fit bs.length a 2 vs.length = q) (c : Int) (hc : (if q = vs.length then 0 else 8) = c) :
    Calls Try.prog 11 #[.pointer (some ⟨P, 0, none⟩), .int .u64 a, .int .i64 16, .slice L vs.length lc] w (Wrote 63 base P F (wB bs a 2 vs q) (ts ++ wT a 2 vs q) c w) := by
  have HM := Lib.hid h
  have HB : Hid (mayM 16 vs.length = true) := Lib.hid (by simp [mayM, wid]; omega)
  have HL := Lib.hid hl
  have HN := Lib.hid hN
  have HA := Lib.hid ha
  have HQ := Lib.hid hq
  have HC := Lib.hid hc
  clear h hl hN ha hq hc
  obtain ⟨i0, hi0, hz0, hz1, hz2⟩ := info_parts info49
  go_enter Try.func11, Try.ntmps11
  go_wp2_with fail
  refine (may_any _ _ _).mono ?_
  rw [HB.out]
  rintro e w' ⟨rfl, rfl⟩
  go_wp2_with fail
  go_loopw [24] (fun i wr => WLoop 63 base P F bs ts a 2 vs w i wr) (fun i _ => vs.length - (intOf i).toNat)
  case atStart => exact ⟨0, F, Nat.zero_le _, rfl, fun j hj => .inl hj, by simpa [wB, wT] using HM.out, Turned.refl _ _⟩
  case round =>
    obtain ⟨k, F1, hk, rfl, hF1, hmem, htur⟩ := hrel
    have hkl : k ≤ vs.length := Nat.le_trans hk (fit_le _ _ _ _)
    have HF1 := Lib.hid hF1
    have HMEM := Lib.hid hmem
    have HTUR := Lib.hid htur
    have HK := Lib.hid hk
    clear hF1 hmem htur hk
    by_cases hlt : k < vs.length
    · obtain ⟨f, hf⟩ : ∃ f : Nat, (a + k * 2) % 18446744073709551616 = f := ⟨_, rfl⟩
      have e1 : IntKind.u64.wrap ((a : Int) + (k : Int) * 2) = (f : Int) := by simpa using wrap_add a (k * 2) f hf
      obtain ⟨v, hv⟩ : ∃ v, vs.getD k 0 = v := ⟨_, rfl⟩
      have hk0 : (0 : Int) ≤ (k : Int) := by omega
      have hk1 : (k : Int) < (vs.length : Int) := by omega
      obtain ⟨lb, lo, rfl, hlb, hlc⟩ := (HL.out.turned HTUR.out HN.out).at_ (i := k) (by simpa using hlt)
      have hcell : wr.cell? ⟨lb, lo + k, none⟩ = some (.int .u64 v) := hlc k _ (by rw [List.getElem?_map, List.getElem?_eq_getElem hlt]; simp [uv, ← hv, List.getD, List.getElem?_eq_getElem hlt])
      clear hlc
      have HFL : Hid (f < 18446744073709551616) := Lib.hid (by rw [← hf]; exact Nat.mod_lt _ (by decide))
      by_cases hfit : a + (k + 1) * 2 ≤ bs.length
      · have hps3 := first_at a (k * 2) 2 bs.length f HA.out hf (by rw [Nat.add_mul, Nat.one_mul] at hfit; exact hfit) hn
        have t1 : decide (f < a) = false := by simpa using hps3.2.2
        obtain ⟨A0, ca0, T0, ct0, hat0⟩ := HMEM.out
        have HAT0 := Lib.hid hat0
        have HT : Hid (thereB (wB bs a 2 vs k).length f 2 = true) := Lib.hid (by rw [wB_length]; unfold thereB; simp; omega)
        have HL5 : Hid ((wB bs a 2 vs k).length ≤ 5000) := Lib.hid (by rw [wB_length]; exact hn)
        have HFP : Hid (f = a + k * 2) := Lib.hid hps3.1
        have HFS := hps3.2.1
        have HVV := Lib.hid hv
        have HFIT := Lib.hid hfit
        clear hf hv hps3 hfit hat0
        go_wp2_with fail
        refine (there_any HAT0.out HL5.out f HFL.out 2 true HT.out).mono ?_
        rintro e w' ⟨rfl, rfl⟩
        go_wp2_with fail
        clear t1 hcell hk0 hk1
        go_loopw [46] (fun i wr => WIn 63 base P F (wB bs a 2 vs k) (ts ++ wT a 2 vs k) f v 2 w i wr) (fun i _ => 2 - (intOf i).toNat)
        case atStart => exact ⟨0, F1, Nat.zero_le _, rfl, HF1.out, by simpa [put, tput] using HMEM.out, HTUR.out⟩
        case round =>
          obtain ⟨j, F2, hj, rfl, hF2, hmem2, htur2⟩ := hrel
          have HF2 := Lib.hid hF2
          have HTUR2 := Lib.hid htur2
          by_cases hjlt : j < 2
          · obtain ⟨A, ca, T, ct, hat⟩ := hmem2
            obtain ⟨B, hB⟩ : ∃ B, put (wB bs a 2 vs k) f v j = B := ⟨_, rfl⟩
            obtain ⟨TS, hTS⟩ : ∃ TS, (ts ++ wT a 2 vs k) ++ tput f v j = TS := ⟨_, rfl⟩
            rw [hB, hTS] at hat
            have hBl : bs.length = B.length := by rw [← hB]; simp
            have hTl : TS.length ≤ 1000200 := by rw [← hTS]; simp; omega
            have hfj : f + j < B.length := by omega
            have hB5 : B.length ≤ 5000 := by omega
            obtain ⟨g, rfl, hgF, hgP, hle, hcap⟩ := hat.formA (by omega)
            obtain ⟨cc, hcc⟩ : ∃ cc, byteAt v j = cc := ⟨_, rfl⟩
            have e3 := byte_int v j cc hcc
            obtain ⟨hat2, ht2⟩ := hat.byte (f + j) cc (by rw [← hcc]; exact byteAt_lt v j)
            have c0 := hat.cell0
            have b1 := hat.byteCell hfj
            have b2 := hat.byteFree (f + j)
            have d1 := hat2.cell1
            have HAT := Lib.hid hat2
            have HT2 := Lib.hid ht2
            have HBB := Lib.hid hB
            have HTS := Lib.hid hTS
            have HCC := Lib.hid hcc
            clear hF2 htur2 hat hat2 ht2 hB hTS hcc hBl hgP
            go_wp2_with (at_builtin; refine wpList_append_lies _ rfl _ _ 30 rfl base 49 i0 _ 3 24 Try.underlying30 hi0 hz0 hz1 hz2 rfl (by decide) _ TS.length (tvs TS) rfl (HAT.out.ownT.alloc _) _ 1 1 (tv (true, f + j, cc)) rfl (by rfl) ?c1 ?c2 (by decide) ?c3 ?c4 ?c5 _ rfl ?_)
            case c1 => exact news_touch _ _ (by simp) (true, f + j, cc) _ (by simp)
            case c2 => exact tv_one _
            case c3 => unfold maxLen; omega
            case c4 => omega
            case c5 => have := HTUR2.out.size; simp; omega
            intro gg cap1 w1 hown1 hgrow hat3 _
            obtain ⟨q1, q2, _⟩ := HAT.out.after _ hgrow
            have NEXT : Hid (WIn 63 base P F (wB bs a 2 vs k) (ts ++ wT a 2 vs k) f v 2 w (.int .i64 ((j + 1 : Nat) : Int)) (w1.setCell ⟨P, 1, none⟩ (.slice (some ⟨gg, 0, none⟩) (TS.length + 1) cap1))) :=
              Lib.hid (win_next HF2.out HTUR2.out HBB.out HTS.out HCC.out HAT.out HT2.out hjlt _ hown1 hgrow hat3)
            clear hown1 hgrow hat3 c0 b1 b2 d1 e3
            go_wp2_with fail
            go_roundw
            case rel => exact NEXT.out
            case measure => simp [intOf]; omega
          · obtain rfl : j = 2 := by omega
            have HM2 := Lib.hid hmem2
            clear hmem2 hF2 htur2
            go_wp2_with fail
            go_roundw
            case rel => exact ⟨k + 1, F2, (lt_fit (by decide) hlt).2 HFIT.out, by go_num, HF2.out, by rw [← HVV.out, HFP.out, List.append_assoc] at HM2; exact HM2.out, HTUR2.out⟩
            case measure => simp [intOf]; omega
      · have HQK : Hid (q = k) := Lib.hid (by rw [← HQ.out]; exact fit_stop (by decide) HK.out hlt hfit)
        have HC8 : Hid (c = 8) := Lib.hid (by rw [← HC.out, HQK.out, if_neg (by omega)])
        have hor := first_out a (k * 2) 2 bs.length f (by omega) HA.out hf (by rw [Nat.add_mul, Nat.one_mul] at hfit; exact hfit)
        rcases hor with hlt1 | ⟨hge, hnot⟩
        · have t1 : decide (f < a) = true := by simpa using hlt1
          clear hf hfit hlt1
          go_wp2_with fail
          go_ret
          exact ⟨by rw [HC8.out]; rfl, F1, HF1.out, by rw [HQK.out]; exact HMEM.out, HTUR.out⟩
        · have t1 : decide (f < a) = false := by simpa using hge
          obtain ⟨A0, ca0, T0, ct0, hat0⟩ := HMEM.out
          have HAT0 := Lib.hid hat0
          have HT : Hid (thereB (wB bs a 2 vs k).length f 2 = false) := Lib.hid (by rw [wB_length]; unfold thereB; simp; omega)
          have HL5 : Hid ((wB bs a 2 vs k).length ≤ 5000) := Lib.hid (by rw [wB_length]; exact hn)
          clear hf hfit hge hnot hat0
          go_wp2_with fail
          refine (there_any HAT0.out HL5.out f HFL.out 2 false HT.out).mono ?_
          rintro e w' ⟨rfl, rfl⟩
          go_wp2_with fail
          go_ret
          exact ⟨by rw [HC8.out]; rfl, F1, HF1.out, by rw [HQK.out]; exact HMEM.out, HTUR.out⟩
    · have HKL : Hid (k = vs.length) := Lib.hid (by omega)
      have HQK : Hid (q = k) := Lib.hid (by have h1 := HK.out; have h2 := fit_le bs.length a 2 vs.length; rw [HQ.out] at h1 h2; omega)
      have HC0 : Hid (c = 0) := Lib.hid (by rw [← HC.out, HQK.out, HKL.out, if_pos rfl])
      go_wp2_with fail
      go_ret
      exact ⟨by rw [HC0.out]; rfl, F1, HF1.out, by rw [HQK.out]; exact HMEM.out, HTUR.out⟩

set_option maxHeartbeats 2000000 in
set_option maxRecDepth 100000 in
theorem write_4 {w : World} {base P : Nat} {F N : Nat → Prop} {bs : List Nat} {ts : List Tch} (h : MemIs 63 w base P F bs ts) (hbase : base ≤ w.heap.size) (hn : bs.length ≤ 5000) (ht : ts.length ≤ 1000000) (a : Nat) (ha : a < 18446744073709551616)
    (L : Option Addr) (lc : Nat) (vs : List Nat) (hlen : vs.length ≤ 16) (hl : Lies w N L (vs.map uv)) (hN : ∀ i, N i → i < w.heap.size ∧ ¬ F i) (q : Nat) (hq : fit bs.length a 4 vs.length = q) (c : Int) (hc : (if q = vs.length then 0 else 8) = c) :
    Calls Try.prog 11 #[.pointer (some ⟨P, 0, none⟩), .int .u64 a, .int .i64 32, .slice L vs.length lc] w (Wrote 63 base P F (wB bs a 4 vs q) (ts ++ wT a 4 vs q) c w) := by
  have HM := Lib.hid h
  have HB : Hid (mayM 32 vs.length = true) := Lib.hid (by simp [mayM, wid]; omega)
  have HL := Lib.hid hl
  have HN := Lib.hid hN
  have HA := Lib.hid ha
  have HQ := Lib.hid hq
  have HC := Lib.hid hc
  clear h hl hN ha hq hc
  obtain ⟨i0, hi0, hz0, hz1, hz2⟩ := info_parts info49
  go_enter Try.func11, Try.ntmps11
  go_wp2_with fail
  refine (may_any _ _ _).mono ?_
  rw [HB.out]
  rintro e w' ⟨rfl, rfl⟩
  go_wp2_with fail
  go_loopw [24] (fun i wr => WLoop 63 base P F bs ts a 4 vs w i wr) (fun i _ => vs.length - (intOf i).toNat)
  case atStart => exact ⟨0, F, Nat.zero_le _, rfl, fun j hj => .inl hj, by simpa [wB, wT] using HM.out, Turned.refl _ _⟩
  case round =>
    obtain ⟨k, F1, hk, rfl, hF1, hmem, htur⟩ := hrel
    have hkl : k ≤ vs.length := Nat.le_trans hk (fit_le _ _ _ _)
    have HF1 := Lib.hid hF1
    have HMEM := Lib.hid hmem
    have HTUR := Lib.hid htur
    have HK := Lib.hid hk
    clear hF1 hmem htur hk
    by_cases hlt : k < vs.length
    · obtain ⟨f, hf⟩ : ∃ f : Nat, (a + k * 4) % 18446744073709551616 = f := ⟨_, rfl⟩
      have e1 : IntKind.u64.wrap ((a : Int) + (k : Int) * 4) = (f : Int) := by simpa using wrap_add a (k * 4) f hf
      obtain ⟨v, hv⟩ : ∃ v, vs.getD k 0 = v := ⟨_, rfl⟩
      have hk0 : (0 : Int) ≤ (k : Int) := by omega
      have hk1 : (k : Int) < (vs.length : Int) := by omega
      obtain ⟨lb, lo, rfl, hlb, hlc⟩ := (HL.out.turned HTUR.out HN.out).at_ (i := k) (by simpa using hlt)
      have hcell : wr.cell? ⟨lb, lo + k, none⟩ = some (.int .u64 v) := hlc k _ (by rw [List.getElem?_map, List.getElem?_eq_getElem hlt]; simp [uv, ← hv, List.getD, List.getElem?_eq_getElem hlt])
      clear hlc
      have HFL : Hid (f < 18446744073709551616) := Lib.hid (by rw [← hf]; exact Nat.mod_lt _ (by decide))
      by_cases hfit : a + (k + 1) * 4 ≤ bs.length
      · have hps3 := first_at a (k * 4) 4 bs.length f HA.out hf (by rw [Nat.add_mul, Nat.one_mul] at hfit; exact hfit) hn
        have t1 : decide (f < a) = false := by simpa using hps3.2.2
        obtain ⟨A0, ca0, T0, ct0, hat0⟩ := HMEM.out
        have HAT0 := Lib.hid hat0
        have HT : Hid (thereB (wB bs a 4 vs k).length f 4 = true) := Lib.hid (by rw [wB_length]; unfold thereB; simp; omega)
        have HL5 : Hid ((wB bs a 4 vs k).length ≤ 5000) := Lib.hid (by rw [wB_length]; exact hn)
        have HFP : Hid (f = a + k * 4) := Lib.hid hps3.1
        have HFS := hps3.2.1
        have HVV := Lib.hid hv
        have HFIT := Lib.hid hfit
        clear hf hv hps3 hfit hat0
        go_wp2_with fail
        refine (there_any HAT0.out HL5.out f HFL.out 4 true HT.out).mono ?_
        rintro e w' ⟨rfl, rfl⟩
        go_wp2_with fail
        clear t1 hcell hk0 hk1
        go_loopw [46] (fun i wr => WIn 63 base P F (wB bs a 4 vs k) (ts ++ wT a 4 vs k) f v 4 w i wr) (fun i _ => 4 - (intOf i).toNat)
        case atStart => exact ⟨0, F1, Nat.zero_le _, rfl, HF1.out, by simpa [put, tput] using HMEM.out, HTUR.out⟩
        case round =>
          obtain ⟨j, F2, hj, rfl, hF2, hmem2, htur2⟩ := hrel
          have HF2 := Lib.hid hF2
          have HTUR2 := Lib.hid htur2
          by_cases hjlt : j < 4
          · obtain ⟨A, ca, T, ct, hat⟩ := hmem2
            obtain ⟨B, hB⟩ : ∃ B, put (wB bs a 4 vs k) f v j = B := ⟨_, rfl⟩
            obtain ⟨TS, hTS⟩ : ∃ TS, (ts ++ wT a 4 vs k) ++ tput f v j = TS := ⟨_, rfl⟩
            rw [hB, hTS] at hat
            have hBl : bs.length = B.length := by rw [← hB]; simp
            have hTl : TS.length ≤ 1000200 := by rw [← hTS]; simp; omega
            have hfj : f + j < B.length := by omega
            have hB5 : B.length ≤ 5000 := by omega
            obtain ⟨g, rfl, hgF, hgP, hle, hcap⟩ := hat.formA (by omega)
            obtain ⟨cc, hcc⟩ : ∃ cc, byteAt v j = cc := ⟨_, rfl⟩
            have e3 := byte_int v j cc hcc
            obtain ⟨hat2, ht2⟩ := hat.byte (f + j) cc (by rw [← hcc]; exact byteAt_lt v j)
            have c0 := hat.cell0
            have b1 := hat.byteCell hfj
            have b2 := hat.byteFree (f + j)
            have d1 := hat2.cell1
            have HAT := Lib.hid hat2
            have HT2 := Lib.hid ht2
            have HBB := Lib.hid hB
            have HTS := Lib.hid hTS
            have HCC := Lib.hid hcc
            clear hF2 htur2 hat hat2 ht2 hB hTS hcc hBl hgP
            go_wp2_with (at_builtin; refine wpList_append_lies _ rfl _ _ 30 rfl base 49 i0 _ 3 24 Try.underlying30 hi0 hz0 hz1 hz2 rfl (by decide) _ TS.length (tvs TS) rfl (HAT.out.ownT.alloc _) _ 1 1 (tv (true, f + j, cc)) rfl (by rfl) ?c1 ?c2 (by decide) ?c3 ?c4 ?c5 _ rfl ?_)
            case c1 => exact news_touch _ _ (by simp) (true, f + j, cc) _ (by simp)
            case c2 => exact tv_one _
            case c3 => unfold maxLen; omega
            case c4 => omega
            case c5 => have := HTUR2.out.size; simp; omega
            intro gg cap1 w1 hown1 hgrow hat3 _
            obtain ⟨q1, q2, _⟩ := HAT.out.after _ hgrow
            have NEXT : Hid (WIn 63 base P F (wB bs a 4 vs k) (ts ++ wT a 4 vs k) f v 4 w (.int .i64 ((j + 1 : Nat) : Int)) (w1.setCell ⟨P, 1, none⟩ (.slice (some ⟨gg, 0, none⟩) (TS.length + 1) cap1))) :=
              Lib.hid (win_next HF2.out HTUR2.out HBB.out HTS.out HCC.out HAT.out HT2.out hjlt _ hown1 hgrow hat3)
            clear hown1 hgrow hat3 c0 b1 b2 d1 e3
            go_wp2_with fail
            go_roundw
            case rel => exact NEXT.out
            case measure => simp [intOf]; omega
          · obtain rfl : j = 4 := by omega
            have HM2 := Lib.hid hmem2
            clear hmem2 hF2 htur2
            go_wp2_with fail
            go_roundw
            case rel => exact ⟨k + 1, F2, (lt_fit (by decide) hlt).2 HFIT.out, by go_num, HF2.out, by rw [← HVV.out, HFP.out, List.append_assoc] at HM2; exact HM2.out, HTUR2.out⟩
            case measure => simp [intOf]; omega
      · have HQK : Hid (q = k) := Lib.hid (by rw [← HQ.out]; exact fit_stop (by decide) HK.out hlt hfit)
        have HC8 : Hid (c = 8) := Lib.hid (by rw [← HC.out, HQK.out, if_neg (by omega)])
        have hor := first_out a (k * 4) 4 bs.length f (by omega) HA.out hf (by rw [Nat.add_mul, Nat.one_mul] at hfit; exact hfit)
        rcases hor with hlt1 | ⟨hge, hnot⟩
        · have t1 : decide (f < a) = true := by simpa using hlt1
          clear hf hfit hlt1
          go_wp2_with fail
          go_ret
          exact ⟨by rw [HC8.out]; rfl, F1, HF1.out, by rw [HQK.out]; exact HMEM.out, HTUR.out⟩
        · have t1 : decide (f < a) = false := by simpa using hge
          obtain ⟨A0, ca0, T0, ct0, hat0⟩ := HMEM.out
          have HAT0 := Lib.hid hat0
          have HT : Hid (thereB (wB bs a 4 vs k).length f 4 = false) := Lib.hid (by rw [wB_length]; unfold thereB; simp; omega)
          have HL5 : Hid ((wB bs a 4 vs k).length ≤ 5000) := Lib.hid (by rw [wB_length]; exact hn)
          clear hf hfit hge hnot hat0
          go_wp2_with fail
          refine (there_any HAT0.out HL5.out f HFL.out 4 false HT.out).mono ?_
          rintro e w' ⟨rfl, rfl⟩
          go_wp2_with fail
          go_ret
          exact ⟨by rw [HC8.out]; rfl, F1, HF1.out, by rw [HQK.out]; exact HMEM.out, HTUR.out⟩
    · have HKL : Hid (k = vs.length) := Lib.hid (by omega)
      have HQK : Hid (q = k) := Lib.hid (by have h1 := HK.out; have h2 := fit_le bs.length a 4 vs.length; rw [HQ.out] at h1 h2; omega)
      have HC0 : Hid (c = 0) := Lib.hid (by rw [← HC.out, HQK.out, HKL.out, if_pos rfl])
      go_wp2_with fail
      go_ret
      exact ⟨by rw [HC0.out]; rfl, F1, HF1.out, by rw [HQK.out]; exact HMEM.out, HTUR.out⟩

set_option maxHeartbeats 2000000 in
set_option maxRecDepth 100000 in
theorem write_8 {w : World} {base P : Nat} {F N : Nat → Prop} {bs : List Nat} {ts : List Tch} (h : MemIs 63 w base P F bs ts) (hbase : base ≤ w.heap.size) (hn : bs.length ≤ 5000) (ht : ts.length ≤ 1000000) (a : Nat) (ha : a < 18446744073709551616)
    (L : Option Addr) (lc : Nat) (vs : List Nat) (hlen : vs.length ≤ 16) (hl : Lies w N L (vs.map uv)) (hN : ∀ i, N i → i < w.heap.size ∧ ¬ F i) (q : Nat) (hq : fit bs.length a 8 vs.length = q) (c : Int) (hc : (if q = vs.length then 0 else 8) = c) :
    Calls Try.prog 11 #[.pointer (some ⟨P, 0, none⟩), .int .u64 a, .int .i64 64, .slice L vs.length lc] w (Wrote 63 base P F (wB bs a 8 vs q) (ts ++ wT a 8 vs q) c w) := by
  have HM := Lib.hid h
  have HB : Hid (mayM 64 vs.length = true) := Lib.hid (by simp [mayM, wid]; omega)
  have HL := Lib.hid hl
  have HN := Lib.hid hN
  have HA := Lib.hid ha
  have HQ := Lib.hid hq
  have HC := Lib.hid hc
  clear h hl hN ha hq hc
  obtain ⟨i0, hi0, hz0, hz1, hz2⟩ := info_parts info49
  go_enter Try.func11, Try.ntmps11
  go_wp2_with fail
  refine (may_any _ _ _).mono ?_
  rw [HB.out]
  rintro e w' ⟨rfl, rfl⟩
  go_wp2_with fail
  go_loopw [24] (fun i wr => WLoop 63 base P F bs ts a 8 vs w i wr) (fun i _ => vs.length - (intOf i).toNat)
  case atStart => exact ⟨0, F, Nat.zero_le _, rfl, fun j hj => .inl hj, by simpa [wB, wT] using HM.out, Turned.refl _ _⟩
  case round =>
    obtain ⟨k, F1, hk, rfl, hF1, hmem, htur⟩ := hrel
    have hkl : k ≤ vs.length := Nat.le_trans hk (fit_le _ _ _ _)
    have HF1 := Lib.hid hF1
    have HMEM := Lib.hid hmem
    have HTUR := Lib.hid htur
    have HK := Lib.hid hk
    clear hF1 hmem htur hk
    by_cases hlt : k < vs.length
    · obtain ⟨f, hf⟩ : ∃ f : Nat, (a + k * 8) % 18446744073709551616 = f := ⟨_, rfl⟩
      have e1 : IntKind.u64.wrap ((a : Int) + (k : Int) * 8) = (f : Int) := by simpa using wrap_add a (k * 8) f hf
      obtain ⟨v, hv⟩ : ∃ v, vs.getD k 0 = v := ⟨_, rfl⟩
      have hk0 : (0 : Int) ≤ (k : Int) := by omega
      have hk1 : (k : Int) < (vs.length : Int) := by omega
      obtain ⟨lb, lo, rfl, hlb, hlc⟩ := (HL.out.turned HTUR.out HN.out).at_ (i := k) (by simpa using hlt)
      have hcell : wr.cell? ⟨lb, lo + k, none⟩ = some (.int .u64 v) := hlc k _ (by rw [List.getElem?_map, List.getElem?_eq_getElem hlt]; simp [uv, ← hv, List.getD, List.getElem?_eq_getElem hlt])
      clear hlc
      have HFL : Hid (f < 18446744073709551616) := Lib.hid (by rw [← hf]; exact Nat.mod_lt _ (by decide))
      by_cases hfit : a + (k + 1) * 8 ≤ bs.length
      · have hps3 := first_at a (k * 8) 8 bs.length f HA.out hf (by rw [Nat.add_mul, Nat.one_mul] at hfit; exact hfit) hn
        have t1 : decide (f < a) = false := by simpa using hps3.2.2
        obtain ⟨A0, ca0, T0, ct0, hat0⟩ := HMEM.out
        have HAT0 := Lib.hid hat0
        have HT : Hid (thereB (wB bs a 8 vs k).length f 8 = true) := Lib.hid (by rw [wB_length]; unfold thereB; simp; omega)
        have HL5 : Hid ((wB bs a 8 vs k).length ≤ 5000) := Lib.hid (by rw [wB_length]; exact hn)
        have HFP : Hid (f = a + k * 8) := Lib.hid hps3.1
        have HFS := hps3.2.1
        have HVV := Lib.hid hv
        have HFIT := Lib.hid hfit
        clear hf hv hps3 hfit hat0
        go_wp2_with fail
        refine (there_any HAT0.out HL5.out f HFL.out 8 true HT.out).mono ?_
        rintro e w' ⟨rfl, rfl⟩
        go_wp2_with fail
        clear t1 hcell hk0 hk1
        go_loopw [46] (fun i wr => WIn 63 base P F (wB bs a 8 vs k) (ts ++ wT a 8 vs k) f v 8 w i wr) (fun i _ => 8 - (intOf i).toNat)
        case atStart => exact ⟨0, F1, Nat.zero_le _, rfl, HF1.out, by simpa [put, tput] using HMEM.out, HTUR.out⟩
        case round =>
          obtain ⟨j, F2, hj, rfl, hF2, hmem2, htur2⟩ := hrel
          have HF2 := Lib.hid hF2
          have HTUR2 := Lib.hid htur2
          by_cases hjlt : j < 8
          · obtain ⟨A, ca, T, ct, hat⟩ := hmem2
            obtain ⟨B, hB⟩ : ∃ B, put (wB bs a 8 vs k) f v j = B := ⟨_, rfl⟩
            obtain ⟨TS, hTS⟩ : ∃ TS, (ts ++ wT a 8 vs k) ++ tput f v j = TS := ⟨_, rfl⟩
            rw [hB, hTS] at hat
            have hBl : bs.length = B.length := by rw [← hB]; simp
            have hTl : TS.length ≤ 1000200 := by rw [← hTS]; simp; omega
            have hfj : f + j < B.length := by omega
            have hB5 : B.length ≤ 5000 := by omega
            obtain ⟨g, rfl, hgF, hgP, hle, hcap⟩ := hat.formA (by omega)
            obtain ⟨cc, hcc⟩ : ∃ cc, byteAt v j = cc := ⟨_, rfl⟩
            have e3 := byte_int v j cc hcc
            obtain ⟨hat2, ht2⟩ := hat.byte (f + j) cc (by rw [← hcc]; exact byteAt_lt v j)
            have c0 := hat.cell0
            have b1 := hat.byteCell hfj
            have b2 := hat.byteFree (f + j)
            have d1 := hat2.cell1
            have HAT := Lib.hid hat2
            have HT2 := Lib.hid ht2
            have HBB := Lib.hid hB
            have HTS := Lib.hid hTS
            have HCC := Lib.hid hcc
            clear hF2 htur2 hat hat2 ht2 hB hTS hcc hBl hgP
            go_wp2_with (at_builtin; refine wpList_append_lies _ rfl _ _ 30 rfl base 49 i0 _ 3 24 Try.underlying30 hi0 hz0 hz1 hz2 rfl (by decide) _ TS.length (tvs TS) rfl (HAT.out.ownT.alloc _) _ 1 1 (tv (true, f + j, cc)) rfl (by rfl) ?c1 ?c2 (by decide) ?c3 ?c4 ?c5 _ rfl ?_)
            case c1 => exact news_touch _ _ (by simp) (true, f + j, cc) _ (by simp)
            case c2 => exact tv_one _
            case c3 => unfold maxLen; omega
            case c4 => omega
            case c5 => have := HTUR2.out.size; simp; omega
            intro gg cap1 w1 hown1 hgrow hat3 _
            obtain ⟨q1, q2, _⟩ := HAT.out.after _ hgrow
            have NEXT : Hid (WIn 63 base P F (wB bs a 8 vs k) (ts ++ wT a 8 vs k) f v 8 w (.int .i64 ((j + 1 : Nat) : Int)) (w1.setCell ⟨P, 1, none⟩ (.slice (some ⟨gg, 0, none⟩) (TS.length + 1) cap1))) :=
              Lib.hid (win_next HF2.out HTUR2.out HBB.out HTS.out HCC.out HAT.out HT2.out hjlt _ hown1 hgrow hat3)
            clear hown1 hgrow hat3 c0 b1 b2 d1 e3
            go_wp2_with fail
            go_roundw
            case rel => exact NEXT.out
            case measure => simp [intOf]; omega
          · obtain rfl : j = 8 := by omega
            have HM2 := Lib.hid hmem2
            clear hmem2 hF2 htur2
            go_wp2_with fail
            go_roundw
            case rel => exact ⟨k + 1, F2, (lt_fit (by decide) hlt).2 HFIT.out, by go_num, HF2.out, by rw [← HVV.out, HFP.out, List.append_assoc] at HM2; exact HM2.out, HTUR2.out⟩
            case measure => simp [intOf]; omega
      · have HQK : Hid (q = k) := Lib.hid (by rw [← HQ.out]; exact fit_stop (by decide) HK.out hlt hfit)
        have HC8 : Hid (c = 8) := Lib.hid (by rw [← HC.out, HQK.out, if_neg (by omega)])
        have hor := first_out a (k * 8) 8 bs.length f (by omega) HA.out hf (by rw [Nat.add_mul, Nat.one_mul] at hfit; exact hfit)
        rcases hor with hlt1 | ⟨hge, hnot⟩
        · have t1 : decide (f < a) = true := by simpa using hlt1
          clear hf hfit hlt1
          go_wp2_with fail
          go_ret
          exact ⟨by rw [HC8.out]; rfl, F1, HF1.out, by rw [HQK.out]; exact HMEM.out, HTUR.out⟩
        · have t1 : decide (f < a) = false := by simpa using hge
          obtain ⟨A0, ca0, T0, ct0, hat0⟩ := HMEM.out
          have HAT0 := Lib.hid hat0
          have HT : Hid (thereB (wB bs a 8 vs k).length f 8 = false) := Lib.hid (by rw [wB_length]; unfold thereB; simp; omega)
          have HL5 : Hid ((wB bs a 8 vs k).length ≤ 5000) := Lib.hid (by rw [wB_length]; exact hn)
          clear hf hfit hge hnot hat0
          go_wp2_with fail
          refine (there_any HAT0.out HL5.out f HFL.out 8 false HT.out).mono ?_
          rintro e w' ⟨rfl, rfl⟩
          go_wp2_with fail
          go_ret
          exact ⟨by rw [HC8.out]; rfl, F1, HF1.out, by rw [HQK.out]; exact HMEM.out, HTUR.out⟩
    · have HKL : Hid (k = vs.length) := Lib.hid (by omega)
      have HQK : Hid (q = k) := Lib.hid (by have h1 := HK.out; have h2 := fit_le bs.length a 8 vs.length; rw [HQ.out] at h1 h2; omega)
      have HC0 : Hid (c = 0) := Lib.hid (by rw [← HC.out, HQK.out, HKL.out, if_pos rfl])
      go_wp2_with fail
      go_ret
      exact ⟨by rw [HC0.out]; rfl, F1, HF1.out, by rw [HQK.out]; exact HMEM.out, HTUR.out⟩

/-- what Write leaves: the bytes, the trace, the code -/
def outB (bs : List Nat) (a : Nat) (b : Int) (vs : List Nat) : List Nat := if mayM b vs.length then wB bs a (b / 8).toNat vs (fit bs.length a (b / 8).toNat vs.length) else bs
def outT (bs : List Nat) (ts : List Tch) (a : Nat) (b : Int) (vs : List Nat) : List Tch := if mayM b vs.length then ts ++ wT a (b / 8).toNat vs (fit bs.length a (b / 8).toNat vs.length) else ts
def outC (n a : Nat) (b : Int) (c : Nat) : Int := if mayM b c then (if fit n a (b / 8).toNat c = c then 0 else 8) else 1
theorem outB_no {bs : List Nat} {a : Nat} {b : Int} {vs : List Nat} (h : mayM b vs.length = false) : outB bs a b vs = bs := by unfold outB; rw [h]; rfl
theorem outT_no {bs : List Nat} {ts : List Tch} {a : Nat} {b : Int} {vs : List Nat} (h : mayM b vs.length = false) : outT bs ts a b vs = ts := by unfold outT; rw [h]; rfl
theorem outC_no {n a c : Nat} {b : Int} (h : mayM b c = false) : outC n a b c = 1 := by unfold outC; rw [h]; rfl
theorem mayM_parts {b n : Int} (h : mayM b n = true) : (b = 8 ∨ b = 16 ∨ b = 32 ∨ b = 64) ∧ 0 ≤ n ∧ n ≤ 16 := by
  simp [mayM] at h; exact ⟨wid_cases h.1, h.2⟩

theorem write_any {w : World} {base P : Nat} {F N : Nat → Prop} {bs : List Nat} {ts : List Tch} (h : MemIs 63 w base P F bs ts) (hbase : base ≤ w.heap.size) (hn : bs.length ≤ 5000) (ht : ts.length ≤ 1000000) (a : Nat) (ha : a < 18446744073709551616) (b : Int)
    (L : Option Addr) (lc : Nat) (vs : List Nat) (hl : Lies w N L (vs.map uv)) (hN : ∀ i, N i → i < w.heap.size ∧ ¬ F i) :
    Calls Try.prog 11 #[.pointer (some ⟨P, 0, none⟩), .int .u64 a, .int .i64 b, .slice L vs.length lc] w (Wrote 63 base P F (outB bs a b vs) (outT bs ts a b vs) (outC bs.length a b vs.length) w) := by
  cases hm : mayM b vs.length with
  | false =>
    rw [outB_no hm, outT_no hm, outC_no hm]
    exact write_arg h a b L vs.length lc hm
  | true =>
    obtain ⟨hb, _, h16⟩ := mayM_parts hm
    have eB : outB bs a b vs = wB bs a (b / 8).toNat vs (fit bs.length a (b / 8).toNat vs.length) := by unfold outB; rw [hm]; rfl
    have eT : outT bs ts a b vs = ts ++ wT a (b / 8).toNat vs (fit bs.length a (b / 8).toNat vs.length) := by unfold outT; rw [hm]; rfl
    have eC : outC bs.length a b vs.length = if fit bs.length a (b / 8).toNat vs.length = vs.length then 0 else 8 := by unfold outC; rw [hm]; rfl
    rw [eB, eT, eC]
    rcases hb with rfl | rfl | rfl | rfl
    · exact write_1 h hbase hn ht a ha L lc vs (by omega) hl hN _ rfl _ rfl
    · exact write_2 h hbase hn ht a ha L lc vs (by omega) hl hN _ rfl _ rfl
    · exact write_4 h hbase hn ht a ha L lc vs (by omega) hl hN _ rfl _ rfl
    · exact write_8 h hbase hn ht a ha L lc vs (by omega) hl hN _ rfl _ rfl
end Go.Proofs.Ytcnhnjbefhgaaaa
