/- MemMany: true for every input. -/
import Derived.Test.YtcnhnjbefhgaaaaApartWalk
import Derived.Test.YtcnhnjbefhgaaaaOpenDo
import Derived.Deep.RegionHeld3
import Derived.Laws.BytesArg
namespace Go.Proofs.Ytcnhnjbefhgaaaa
open Go.RowKit

theorem put16 {B : List Nat} {ts : List Tch} {a v : Nat} (h : a + 2 ≤ B.length) : outB B a 16 [v] = put B a v 2 ∧ outT B ts a 16 [v] = ts ++ tput a v 2 ∧ outC B.length a 16 1 = 0 := by
  have e : fit B.length a 2 1 = 1 := by unfold fit; have : 1 ≤ (B.length - a) / 2 := (by omega); omega
  have m : mayM 16 1 = true := by decide
  refine ⟨?_, ?_, ?_⟩
  · unfold outB
    rw [show (([v].length : Nat) : Int) = 1 by rfl, m, if_pos rfl, show ((16 : Int) / 8).toNat = 2 by decide, show [v].length = 1 by rfl, e]
    rfl
  · unfold outT
    rw [show (([v].length : Nat) : Int) = 1 by rfl, m, if_pos rfl, show ((16 : Int) / 8).toNat = 2 by decide, show [v].length = 1 by rfl, e]
    simp [wT]
  · unfold outC
    rw [show ((1 : Nat) : Int) = 1 by rfl, m, if_pos rfl, show ((16 : Int) / 8).toNat = 2 by decide, e, if_pos rfl]
theorem put16_no {B : List Nat} {ts : List Tch} {a v : Nat} (h : ¬ a + 2 ≤ B.length) : outB B a 16 [v] = B ∧ outT B ts a 16 [v] = ts ∧ outC B.length a 16 1 = 8 := by
  have e : fit B.length a 2 1 = 0 := by unfold fit; have : (B.length - a) / 2 = 0 := (by omega); omega
  have m : mayM 16 1 = true := by decide
  refine ⟨?_, ?_, ?_⟩
  · unfold outB
    rw [show (([v].length : Nat) : Int) = 1 by rfl, m, if_pos rfl, show ((16 : Int) / 8).toNat = 2 by decide, show [v].length = 1 by rfl, e]
    rfl
  · unfold outT
    rw [show (([v].length : Nat) : Int) = 1 by rfl, m, if_pos rfl, show ((16 : Int) / 8).toNat = 2 by decide, show [v].length = 1 by rfl, e]
    simp [wT]
  · unfold outC
    rw [show ((1 : Nat) : Int) = 1 by rfl, m, if_pos rfl, show ((16 : Int) / 8).toNat = 2 by decide, e, if_neg (by omega)]
/-- all at once -/
theorem all16 {bs : List Nat} {a : Nat} {vs : List Nat} (h : vs.length ≤ 16) : outB bs a 16 vs = wB bs a 2 vs (fit bs.length a 2 vs.length) ∧ outT bs [] a 16 vs = wT a 2 vs (fit bs.length a 2 vs.length) ∧
    (fit bs.length a 2 vs.length = vs.length ∧ outC bs.length a 16 vs.length = 0 ∨ fit bs.length a 2 vs.length < vs.length ∧ outC bs.length a 16 vs.length = 8) := by
  have m : mayM 16 vs.length = true := by simp [mayM, wid]; omega
  have e : ((16 : Int) / 8).toNat = 2 := by decide
  refine ⟨?_, ?_, ?_⟩
  · unfold outB; rw [m, e]; rfl
  · unfold outT; rw [m, e]; simp
  · unfold outC; rw [m, e]
    have := fit_le bs.length a 2 vs.length
    by_cases h : fit bs.length a 2 vs.length = vs.length
    · exact .inl ⟨h, by simp [h]⟩
    · exact .inr ⟨by omega, by simp [h]⟩
theorem read16 {bs : List Nat} {a c : Nat} (h : c ≤ 16) : (fit bs.length a 2 c = c ∧ rdC bs.length a 16 c = 0 ∧ (rdV bs a 16 c).length = c) ∨ (fit bs.length a 2 c < c ∧ rdC bs.length a 16 c = 8) := by
  have m : mayM 16 c = true := by simp [mayM, wid]; omega
  have := fit_le bs.length a 2 c
  rcases rd_case (bs := bs) (a := a) m (show ((16 : Int) / 8).toNat = 2 by decide) with ⟨h1, h2, h3⟩ | ⟨h1, h2, h3⟩
  · exact .inl ⟨h1, h2, by rw [h3]; simp⟩
  · exact .inr ⟨by omega, h2⟩

theorem touches_eq (A B : Option Addr) (ca cb : Nat) (xs : List Tch) (n : Nat) (hn : xs.length = n) (hlen : n ≤ 4000000) (M N : Nat → Prop) (w : World) (ha : Lies w M A (tvs xs)) (hb : Lies w N B (tvs xs)) :
    Calls Try.prog 20 #[.slice A n ca, .slice B n cb] w (IsTrue w) := by
  subst hn; exact touches_any A B ca cb xs hlen M N w ha hb
theorem lies_one {w : World} {N : Nat → Prop} {A : Option Addr} {vs : List Nat} (h : Lies w N A (vs.map uv)) {k : Nat} (hk : k < vs.length) : ∃ b off, A = some ⟨b, off, none⟩ ∧ Lies w N (some ⟨b, off + k, none⟩) ([vs.getD k 0].map uv) := by
  obtain ⟨b, off, e, hb, hc⟩ := h.at_ (i := k) (by simpa using hk)
  refine ⟨b, off, e, fun _ => ⟨b, off + k, rfl, hb, fun j u hu => ?_⟩⟩
  rcases j with _ | j
  · simp at hu
    subst hu
    exact hc k _ (by simp [List.getElem?_map, List.getElem?_eq_getElem hk])
  · simp at hu

/-- the second memory, i numbers on: so far all, or the one that comes to a trap has been met -/
def ManyAt (w1 : World) (P Q : Nat) (F : Nat → Prop) (B : List Nat) (TS : List Tch) (bs : List Nat) (a : Nat) (vs : List Nat) (K : Nat) (fv iv : Value) (wr : World) : Prop :=
  ∃ (G : Nat → Prop) (i : Nat) (f : Int), iv = .int .i64 i ∧ fv = .int .i64 f ∧ Two 63 63 w1 P Q F G B TS (wB bs a 2 vs (min i K)) (wT a 2 vs (min i K)) wr ∧ (f = 0 ∧ i ≤ K ∨ f = 8 ∧ K < vs.length ∧ i = K + 1)

theorem many_step {bs : List Nat} {a i K : Nat} {vs : List Nat} (hK : fit bs.length a 2 vs.length = K) (hi : i ≤ K) (hlt : i < vs.length) :
    ∃ f : Int, outB (wB bs a 2 vs (min i K)) (a + i * 2) 16 [vs.getD i 0] = wB bs a 2 vs (min (i + 1) K) ∧ outT (wB bs a 2 vs (min i K)) (wT a 2 vs (min i K)) (a + i * 2) 16 [vs.getD i 0] = wT a 2 vs (min (i + 1) K) ∧
      outC (wB bs a 2 vs (min i K)).length (a + i * 2) 16 1 = f ∧ (f = 0 ∧ i + 1 ≤ K ∨ f = 8 ∧ K < vs.length ∧ i + 1 = K + 1) := by
  have key := lt_fit (n := bs.length) (a := a) (s := 2) (by decide) hlt
  rw [hK] at key
  by_cases h : i < K
  · have h2 := key.1 h
    obtain ⟨e1, e2, e3⟩ := put16 (B := wB bs a 2 vs (min i K)) (ts := wT a 2 vs (min i K)) (a := a + i * 2) (v := vs.getD i 0) (by rw [wB_length]; omega)
    refine ⟨0, ?_, ?_, e3, .inl ⟨rfl, h⟩⟩
    · rw [e1, Nat.min_eq_left (Nat.le_of_lt h), Nat.min_eq_left (Nat.succ_le_of_lt h)]; rfl
    · rw [e2, Nat.min_eq_left (Nat.le_of_lt h), Nat.min_eq_left (Nat.succ_le_of_lt h)]; rfl
  · obtain ⟨e1, e2, e3⟩ := put16_no (B := wB bs a 2 vs (min i K)) (ts := wT a 2 vs (min i K)) (a := a + i * 2) (v := vs.getD i 0) (by rw [wB_length]; omega)
    have hm : min i K = min (i + 1) K := by omega
    exact ⟨8, by rw [e1, hm], by rw [e2, hm], e3, .inr ⟨rfl, by omega, by omega⟩⟩

theorem many_at {a i : Nat} (ha : a < 256) (hi : i ≤ 16) : IntKind.u64.wrap ((a : Int) + IntKind.u64.wrap (wrap64 (2 * (i : Int)))) = ((a + i * 2 : Nat) : Int) := by
  have e1 : wrap64 (2 * (i : Int)) = ((i * 2 : Nat) : Int) := by unfold wrap64; omega
  have e2 : IntKind.u64.wrap ((i * 2 : Nat) : Int) = ((i * 2 : Nat) : Int) := by rw [u64_wrap]; omega
  rw [e1, e2, ← Int.natCast_add, u64_wrap]
  omega

theorem wrap_succ {i n : Nat} (h : i < n) (hn : n ≤ 1000000) : wrap64 ((i : Int) + 1) = ((i + 1 : Nat) : Int) := by unfold wrap64; omega
theorem measure_succ {i n : Nat} (h : i < n) (hn : n ≤ 1000000) : n - (intOf (.int .i64 (wrap64 ((i : Int) + 1)))).toNat < n - (intOf (.int .i64 (i : Int))).toNat := by
  rw [wrap_succ h hn]
  simp only [intOf, Int.toNat_natCast]
  omega

/-- a slice of bytes of the call's own as a string -/
theorem conv_own {w : World} {base n cx : Nat} {X : Option Addr} {bs : List Nat} (h : w.ownsRow base 5 1 (.slice X n cx) n (bs.map bv)) : (convert 22 9 (.slice X n cx)).run Try.prog w = .ok (.string (strOfNums (bs.map Int.ofNat))) w := by
  have hn : bs.length = n := by simpa using h.1
  rcases h.2 with ⟨e, h0⟩ | ⟨g, cap, cur, e, _⟩
  · injection e with e1 e2 e3
    subst e1 e2 e3
    obtain rfl : bs = [] := List.eq_nil_of_length_eq_zero hn
    exact run_convert_bytes_nil w 22 5 Try.underlying22 Try.underlying5 0 0 9 Try.underlying9
  · injection e with e1 e2 e3
    subst e1
    refine run_convert_bytes_arg w 22 5 Try.underlying22 Try.underlying5 g 0 _ _ _ (by simpa using hn) (fun i hi => ?_) 9 Try.underlying9
    have := h.cells (g := g) rfl i (bv (bs.getD i 0)) (by simp [List.getElem?_map, List.getElem?_eq_getElem (show i < bs.length by omega), List.getD])
    rw [Go.WideShapes.add_plain] at this
    rw [this]
    simp [bv, List.getD, List.getElem?_eq_getElem (show i < bs.length by omega)]
theorem own_grown {w w' : World} {base n cx : Nat} {X : Option Addr} {xs : List Value} {e : TypeId} {size : Nat} (h : w.ownsRow base e size (.slice X n cx) n xs) (hb : Below w.heap.size w w') : w'.ownsRow base e size (.slice X n cx) n xs :=
  own_turned h (Turned.of_below hb (fun _ => False)) (fun _ _ => id)

theorem many_read {B bs : List Nat} {a c K : Nat} {f : Int} (hB : B.length = bs.length) (hc : c ≤ 16) (hK : fit bs.length a 2 c = K) (h : K = c ∧ f = 0 ∨ K < c ∧ f = 8) : rdC B.length a 16 c = f ∧ (f = 0 ∧ (rdV B a 16 c).length = c ∨ f = 8) := by
  have := read16 (bs := B) (a := a) hc
  rw [hB, hK] at this
  rw [hB]
  rcases h with ⟨h1, rfl⟩ | ⟨h1, rfl⟩
  · rcases this with ⟨_, h3, h4⟩ | ⟨h2, _⟩
    · exact ⟨h3, .inl ⟨rfl, h4⟩⟩
    · omega
  · rcases this with ⟨h2, _, _⟩ | ⟨_, h3⟩
    · omega
    · exact ⟨h3, .inr rfl⟩

theorem many_big (A : Option Addr) (cap : Nat) (bs : List Nat) (a : Nat) (L : Option Addr) (lc : Nat) (vs : List Nat) (hbig : 200 < bs.length) (w : World) :
    Calls Try.prog 7 #[.slice A bs.length cap, .int .u8 a, .slice L vs.length lc] w (GrownTrue w) := by
  have t1 : decide ((200 : Int) < (bs.length : Int)) = true := by simp; omega
  clear hbig
  go_enter Try.func7, Try.ntmps7
  go_wp2_with fail
  refine (awake_any _).mono ?_
  rintro e w1 ⟨rfl, hb1⟩
  have HB1 := Lib.hid hb1
  clear hb1
  go_wp2_with fail
  go_ret
  exact ⟨rfl, HB1.out⟩
theorem many_long (A : Option Addr) (cap : Nat) (bs : List Nat) (a : Nat) (L : Option Addr) (lc : Nat) (vs : List Nat) (hsm : bs.length ≤ 200) (hbig : 16 < vs.length) (w : World) :
    Calls Try.prog 7 #[.slice A bs.length cap, .int .u8 a, .slice L vs.length lc] w (GrownTrue w) := by
  have t1 : decide ((200 : Int) < (bs.length : Int)) = false := by simp; omega
  have t2 : decide ((16 : Int) < (vs.length : Int)) = true := by simp; omega
  clear hbig hsm
  go_enter Try.func7, Try.ntmps7
  go_wp2_with fail
  refine (awake_any _).mono ?_
  rintro e w1 ⟨rfl, hb1⟩
  have HB1 := Lib.hid hb1
  clear hb1
  go_wp2_with fail
  go_ret
  exact ⟨rfl, HB1.out⟩
set_option maxHeartbeats 4000000 in
set_option maxRecDepth 100000 in
theorem many_small (A : Option Addr) (cap : Nat) (bs : List Nat) (a : Nat) (L : Option Addr) (lc : Nat) (vs : List Nat) (hA : A = none → bs.length = 0 ∧ cap = 0) (ho : Octets bs) (ha : a < 256) (hsm : bs.length ≤ 200) (hc : vs.length ≤ 16) (w : World)
    (hl : Lies w (fun i => i < w.heap.size) A (bs.map bv)) (hL : WordsAt w L lc vs) :
    Calls Try.prog 7 #[.slice A bs.length cap, .int .u8 a, .slice L vs.length lc] w (GrownTrue w) := by
  have HL := Lib.hid hl
  have HLL := Lib.hid hL
  have HA := Lib.hid hA
  have HO := Lib.hid ho
  have HSM := Lib.hid hsm
  have HC := Lib.hid hc
  have HX := Lib.hid ha
  have HLEN : Hid (bs.length ≤ 4096) := Lib.hid (by omega)
  have t1 : decide ((200 : Int) < (bs.length : Int)) = false := by simp; omega
  have t2 : decide ((16 : Int) < (vs.length : Int)) = false := by simp; omega
  have ea : IntKind.u64.wrap (a : Int) = (a : Int) := by rw [u64_wrap]; omega
  clear hl hL hA ho hsm hc ha
  go_enter Try.func7, Try.ntmps7
  go_wp2_with fail
  refine (awake_any _).mono ?_
  rintro e w1 ⟨rfl, hb1⟩
  have HB1 := Lib.hid hb1
  clear hb1
  go_wp2_with fail
  refine (new_any A cap bs HLEN.out HA.out HO.out _ _ (HL.out.arg HB1.out) (fun i hi => Nat.lt_of_lt_of_le hi HB1.out.size)).mono ?_
  rintro e w2 ⟨P, F, rfl, hmem, hb2⟩
  have M1 : Hid (Held 63 w1 P F bs [] w2) := Lib.hid ⟨hmem, hb2⟩
  clear hmem hb2
  go_wp2_with fail
  refine (new_any A cap bs HLEN.out HA.out HO.out _ _ (HL.out.arg (HB1.out.trans (M1.out.below.mono HB1.out.size))) (fun i hi => Nat.lt_of_lt_of_le hi (Nat.le_trans HB1.out.size M1.out.size))).mono ?_
  rintro e w3 ⟨Q, G, rfl, hmem, hb3⟩
  have T1 : Hid (Two 63 63 w1 P Q F G bs [] bs [] w3) := Lib.hid (Two.of_new M1.out hmem hb3)
  clear hmem hb3 M1
  go_wp2_with fail
  obtain ⟨B, hB⟩ : ∃ B, outB bs a 16 vs = B := ⟨_, rfl⟩
  obtain ⟨TS, hTS⟩ : ∃ TS, outT bs [] a 16 vs = TS := ⟨_, rfl⟩
  obtain ⟨K, hK⟩ : ∃ K, fit bs.length a 2 vs.length = K := ⟨_, rfl⟩
  obtain ⟨ec, hec⟩ : ∃ c, outC bs.length a 16 vs.length = c := ⟨_, rfl⟩
  have HW := Lib.hid (all16 (bs := bs) (a := a) HC.out)
  rw [hB, hTS, hK, hec] at HW
  refine (write_two T1.out (by have := HSM.out; omega) (by decide) a (by have := HX.out; omega) 16 L vs.length lc vs rfl (HLL.out.lies.arg (HB1.out.trans (T1.out.below.mono HB1.out.size)))
    (fun i hi => ⟨Nat.lt_of_lt_of_le hi (Nat.le_trans HB1.out.size T1.out.size), fun hf => absurd (T1.out.m.lo i hf).1 (by have := HB1.out.size; omega)⟩) B TS ec a hB hTS hec rfl).mono ?_
  rintro e w4 ⟨rfl, F4, _, h4, _⟩
  have T4 := Lib.hid h4
  have HEC := Lib.hid (hec.symm)
  have HK := Lib.hid hK
  clear h4 T1 hB hTS hK hec
  go_wp2_with fail
  go_loopw [12, 13] (fun f i wr => ManyAt w1 P Q F4 B TS bs a vs K f i wr) (fun _ i _ => vs.length - (intOf i).toNat)
  case atStart => exact ⟨G, 0, 0, rfl, rfl, by simpa [wB, wT] using T4.out, .inl ⟨rfl, Nat.zero_le _⟩⟩
  case round =>
    obtain ⟨G', i, f, rfl, rfl, h5, hf⟩ := hrel
    have T5 := Lib.hid h5
    clear h5 T4
    by_cases hgo : f = 0 ∧ i < vs.length
    · obtain ⟨rfl, hlt⟩ := hgo
      have hiK : i ≤ K := by rcases hf with h | h <;> omega
      obtain ⟨b, off, rfl, hone⟩ := lies_one (HLL.out.lies.arg (HB1.out.trans (T5.out.below.mono HB1.out.size))) hlt
      have i1 : (0 : Int) ≤ (i : Int) := by omega
      have i2 : (i : Int) + 1 ≤ (lc : Int) := by have := HLL.out.len; omega
      have e1 : wrap64 ((i : Int) + 1) = (i : Int) + 1 := by have := HC.out; unfold wrap64; omega
      have ONE := Lib.hid hone
      have HLT := Lib.hid hlt
      have HIK := Lib.hid hiK
      clear hone hiK hf
      go_wp2_with fail
      clear hlt
      obtain ⟨f', e1, e2, e3, hf'⟩ := many_step HK.out HIK.out HLT.out
      have HF := Lib.hid hf'
      clear hf'
      refine (write_two T5.out.swap (by rw [wB_length]; have := HSM.out; omega) (by rw [wT_length]; have := HC.out; have := HLT.out; omega) (a + i * 2) (by have := HX.out; have := HC.out; have := HLT.out; omega) 16 _ 1 _ [vs.getD i 0] rfl ONE.out
        (fun j hj => ⟨Nat.lt_of_lt_of_le hj (Nat.le_trans HB1.out.size T5.out.size), fun hf => absurd (T5.out.n.lo j hf).1 (by have := HB1.out.size; omega)⟩) _ _ f' _ e1 e2 e3
        (many_at HX.out (by have := HC.out; have := HLT.out; omega))).mono ?_
      rintro e w6 ⟨rfl, G6, _, h6, _⟩
      have T6 := Lib.hid h6.swap
      clear h6 e1 e2 e3
      go_wp2_with fail
      go_round
      case rel => exact ⟨G6, i + 1, f', by go_num, rfl, T6.out, HF.out⟩
      case measure => exact measure_succ HLT.out (by have := HC.out; omega)
    · have HEX : Hid (f = ec ∧ min i K = K) := Lib.hid (by
        rcases HW.out.2.2 with ⟨h1, h2⟩ | ⟨h1, h2⟩
        · rcases hf with h | h
          · have : ¬ i < vs.length := fun hl => hgo ⟨h.1, hl⟩
            exact ⟨by omega, by omega⟩
          · omega
        · rcases hf with h | h
          · have : ¬ i < vs.length := fun hl => hgo ⟨h.1, hl⟩
            omega
          · exact ⟨by omega, by omega⟩)
      have HOUT : Hid (i < vs.length → ¬ ec = 0) := Lib.hid (fun hl => by
        have : ¬ f = 0 := fun h => hgo ⟨h, hl⟩
        have e := HEX.out.1
        omega)
      have T6 : Hid (Two 63 63 w1 P Q F4 G' B TS B TS wr) := Lib.hid (by
        have h := T5.out
        rw [HEX.out.2, ← HW.out.1, ← HW.out.2.1] at h
        exact h)
      obtain ⟨rfl, _⟩ : f = ec ∧ True := ⟨HEX.out.1, trivial⟩
      clear hf hgo T5 HEX
      by_cases hlt : i < vs.length
      · have hne := HOUT.out hlt
        have hb : (f == 0) = false := by simpa using hne
        clear HOUT
        go_wp2_with fail
        have HBL : Hid (B.length ≤ 5000) := Lib.hid (by rw [HW.out.1, wB_length]; have := HSM.out; omega)
        have HTL : Hid (TS.length ≤ 100) := Lib.hid (by rw [HW.out.2.1, wT_length]; have := HC.out; have := HW.out.2.2; omega)
        have qP := Lib.hid (fun (w' : World) (h : Two 63 63 w1 P Q F4 G' B TS B TS w') => bytes_two h rfl HBL.out)
        have qQ := Lib.hid (fun (w' : World) (h : Two 63 63 w1 P Q F4 G' B TS B TS w') => bytes_two h.swap rfl HBL.out)
        have pP := Lib.hid (fun (w' : World) (h : Two 63 63 w1 P Q F4 G' B TS B TS w') => trace_two h rfl (Nat.le_trans HTL.out (by decide : 100 ≤ 2000000)))
        have pQ := Lib.hid (fun (w' : World) (h : Two 63 63 w1 P Q F4 G' B TS B TS w') => trace_two h.swap rfl (Nat.le_trans HTL.out (by decide : 100 ≤ 2000000)))
        have t0 : Two 63 63 w1 P Q F4 G' B TS B TS wr.drew := T6.out.drewN 1
        go_region_with (first
            | (go_at_call 19; (with_reducible refine (qP.out _ ?hh).mono ?_); (case hh => with_reducible assumption); rintro e wk ⟨X1, cx1, rfl, hown1, hbk⟩; have hcv := conv_own hown1; have t1 := t0.grown hbk)
            | (go_at_call 19; (with_reducible refine (qQ.out _ ?hi).mono ?_); (case hi => with_reducible assumption); rintro e wk ⟨X2, cx2, rfl, hown2, hbk⟩; have hcv2 := conv_own hown2; have hcv1 := conv_own (own_grown hown1 hbk); have t2 := t1.grown hbk)
            | (go_at_call 21; (with_reducible refine (pP.out _ ?hj).mono ?_); (case hj => with_reducible assumption); rintro e wk ⟨Z3, cz3, rfl, hown3, hbk⟩; have t3 := t2.grown hbk)
            | (go_at_call 21; (with_reducible refine (pQ.out _ ?hk).mono ?_); (case hk => with_reducible assumption); rintro e wk ⟨Z4, cz4, rfl, hown4, hbk⟩; have t4 := t3.grown hbk)
            | (go_at_call 20; (with_reducible refine (touches_eq Z3 Z4 cz3 cz4 TS _ rfl (Nat.le_trans HTL.out (by decide)) _ _ _ ((lies_own hown3).later hbk (fun i hi => hi.2)) (lies_own hown4)).mono ?_); rintro e wk2 ⟨rfl, m20, rfl⟩; have t5 := t4.drewN m20))
        all_goals
          have T9 := Lib.hid t5
          clear t5
          try clear t0
          try clear t1
          try clear t2
          try clear t3
          try clear t4
          go_wp2_with fail
          obtain ⟨V, hV⟩ : ∃ V, rdV B a 16 vs.length = V := ⟨_, rfl⟩
          have HR := Lib.hid (many_read (B := B) (by rw [HW.out.1, wB_length]) HC.out HK.out HW.out.2.2)
          rw [hV] at HR
          refine (read_two T9.out HBL.out (Nat.le_trans HTL.out (by decide)) a (by have := HX.out; omega) 16 vs.length V V.length _ _ a hV rfl rfl HR.out.1 rfl).mono ?_
          rintro e w10 ⟨X, cx, F10, rfl, _, h10, _, _, _⟩
          have T10 := Lib.hid h10
          clear h10
          rcases HR.out.2 with ⟨h1, h2⟩ | h1
          · exact absurd h1 hne
          · subst h1
            go_wp2_with fail
            go_ret
            exact ⟨rfl, HB1.out.trans (T10.out.below.mono HB1.out.size)⟩
      · clear HOUT
        go_wp2_with fail
        have HBL : Hid (B.length ≤ 5000) := Lib.hid (by rw [HW.out.1, wB_length]; have := HSM.out; omega)
        have HTL : Hid (TS.length ≤ 100) := Lib.hid (by rw [HW.out.2.1, wT_length]; have := HC.out; have := HW.out.2.2; omega)
        have qP := Lib.hid (fun (w' : World) (h : Two 63 63 w1 P Q F4 G' B TS B TS w') => bytes_two h rfl HBL.out)
        have qQ := Lib.hid (fun (w' : World) (h : Two 63 63 w1 P Q F4 G' B TS B TS w') => bytes_two h.swap rfl HBL.out)
        have pP := Lib.hid (fun (w' : World) (h : Two 63 63 w1 P Q F4 G' B TS B TS w') => trace_two h rfl (Nat.le_trans HTL.out (by decide : 100 ≤ 2000000)))
        have pQ := Lib.hid (fun (w' : World) (h : Two 63 63 w1 P Q F4 G' B TS B TS w') => trace_two h.swap rfl (Nat.le_trans HTL.out (by decide : 100 ≤ 2000000)))
        have t0 : Two 63 63 w1 P Q F4 G' B TS B TS wr.drew := T6.out.drewN 1
        go_region_with (first
            | (go_at_call 19; (with_reducible refine (qP.out _ ?hh).mono ?_); (case hh => with_reducible assumption); rintro e wk ⟨X1, cx1, rfl, hown1, hbk⟩; have hcv := conv_own hown1; have t1 := t0.grown hbk)
            | (go_at_call 19; (with_reducible refine (qQ.out _ ?hi).mono ?_); (case hi => with_reducible assumption); rintro e wk ⟨X2, cx2, rfl, hown2, hbk⟩; have hcv2 := conv_own hown2; have hcv1 := conv_own (own_grown hown1 hbk); have t2 := t1.grown hbk)
            | (go_at_call 21; (with_reducible refine (pP.out _ ?hj).mono ?_); (case hj => with_reducible assumption); rintro e wk ⟨Z3, cz3, rfl, hown3, hbk⟩; have t3 := t2.grown hbk)
            | (go_at_call 21; (with_reducible refine (pQ.out _ ?hk).mono ?_); (case hk => with_reducible assumption); rintro e wk ⟨Z4, cz4, rfl, hown4, hbk⟩; have t4 := t3.grown hbk)
            | (go_at_call 20; (with_reducible refine (touches_eq Z3 Z4 cz3 cz4 TS _ rfl (Nat.le_trans HTL.out (by decide)) _ _ _ ((lies_own hown3).later hbk (fun i hi => hi.2)) (lies_own hown4)).mono ?_); rintro e wk2 ⟨rfl, m20, rfl⟩; have t5 := t4.drewN m20))
        all_goals
          have T9 := Lib.hid t5
          clear t5
          try clear t0
          try clear t1
          try clear t2
          try clear t3
          try clear t4
          go_wp2_with fail
          obtain ⟨V, hV⟩ : ∃ V, rdV B a 16 vs.length = V := ⟨_, rfl⟩
          have HR := Lib.hid (many_read (B := B) (by rw [HW.out.1, wB_length]) HC.out HK.out HW.out.2.2)
          rw [hV] at HR
          refine (read_two T9.out HBL.out (Nat.le_trans HTL.out (by decide)) a (by have := HX.out; omega) 16 vs.length V V.length _ _ a hV rfl rfl HR.out.1 rfl).mono ?_
          rintro e w10 ⟨X, cx, F10, rfl, _, h10, _, _, _⟩
          have T10 := Lib.hid h10
          clear h10
          rcases HR.out.2 with ⟨h1, h2⟩ | h1
          · have HV := Lib.hid h2
            subst h1
            clear h2
            have e0 : ((V.length : Int) == (vs.length : Int)) = true := by simp [HV.out]
            go_wp2_with fail
            go_ret
            exact ⟨rfl, HB1.out.trans (T10.out.below.mono HB1.out.size)⟩
          · subst h1
            go_wp2_with fail
            go_ret
            exact ⟨rfl, HB1.out.trans (T10.out.below.mono HB1.out.size)⟩

theorem many_law (A : Option Addr) (cap : Nat) (bs : List Nat) (a : Nat) (L : Option Addr) (lc : Nat) (vs : List Nat) (hA : A = none → bs.length = 0 ∧ cap = 0) (ho : Octets bs) (ha : a < 256) (w : World)
    (hl : Lies w (fun i => i < w.heap.size) A (bs.map bv)) (hL : WordsAt w L lc vs) :
    Calls Try.prog 7 #[.slice A bs.length cap, .int .u8 a, .slice L vs.length lc] w (GrownTrue w) := by
  rcases Nat.lt_or_ge 200 bs.length with h | h
  · exact many_big A cap bs a L lc vs h w
  · rcases Nat.lt_or_ge 16 vs.length with h2 | h2
    · exact many_long A cap bs a L lc vs h h2 w
    · exact many_small A cap bs a L lc vs hA ho ha h h2 w hl hL
end Go.Proofs.Ytcnhnjbefhgaaaa
