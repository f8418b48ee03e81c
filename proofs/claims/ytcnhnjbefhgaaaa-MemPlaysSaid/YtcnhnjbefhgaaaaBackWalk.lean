/- MemBack: true for every input. -/
import Derived.Test.YtcnhnjbefhgaaaaApartWalk
import Derived.Test.YtcnhnjbefhgaaaaOpenDo
import Derived.Test.YtcnhnjbefhgaaaaWritten
namespace Go.Proofs.Ytcnhnjbefhgaaaa
open Go.RowKit

theorem ret_u64 {a b : Int} (h : a = b) : Ending.returned (.int .u64 a) = .returned (.int .u64 b) := by rw [h]
/-- the reference's Cut at a width of memory's -/
theorem cut_any (v : Nat) (hv : v < 18446744073709551616) (b : Int) (hb : wid b = true) (c : Nat) (hc : v % 2 ^ b.toNat = c) (w : World) : Calls Try.prog 23 #[.int .u64 v, .int .i64 b] w fun e w' => e = .returned (.int .u64 c) ∧ w' = w := by
  subst hc
  have HV := Lib.hid hv
  clear hv
  rcases wid_cases hb with rfl | rfl | rfl | rfl
  all_goals
    clear hb
    go_enter Try.func23, Try.ntmps23
    go_wp2
    go_ret
    refine ⟨ret_u64 ?_, rfl⟩
    have hv := HV.out
  · rw [show (8 : Int).toNat = 8 by rfl]; omega
  · rw [show (16 : Int).toNat = 16 by rfl]; omega
  · rw [show (32 : Int).toNat = 32 by rfl]; omega
  · rw [show (64 : Int).toNat = 64 by rfl]; omega

/-- all at once, a width of memory's -/
theorem all_wid {bs : List Nat} {a : Nat} {b : Int} {vs : List Nat} (h : mayM b vs.length = true) : ∃ s : Nat, b = 8 * s ∧ 0 < s ∧ s ≤ 8 ∧ outB bs a b vs = wB bs a s vs (fit bs.length a s vs.length) ∧ outT bs [] a b vs = wT a s vs (fit bs.length a s vs.length) ∧
    (fit bs.length a s vs.length = vs.length ∧ outC bs.length a b vs.length = 0 ∧ rdC bs.length a b vs.length = 0 ∧ rdV (outB bs a b vs) a b vs.length = rV (outB bs a b vs) a s vs.length ∨ fit bs.length a s vs.length < vs.length ∧ outC bs.length a b vs.length = 8) := by
  obtain ⟨hb, _, _⟩ := mayM_parts h
  obtain ⟨s, hs, h0, h8⟩ : ∃ s : Nat, b = 8 * s ∧ 0 < s ∧ s ≤ 8 := by
    rcases hb with rfl | rfl | rfl | rfl
    · exact ⟨1, rfl, by decide, by decide⟩
    · exact ⟨2, rfl, by decide, by decide⟩
    · exact ⟨4, rfl, by decide, by decide⟩
    · exact ⟨8, rfl, by decide, by decide⟩
  have e : (b / 8).toNat = s := by omega
  have hBl : (outB bs a b vs).length = bs.length := by unfold outB; rw [h, if_pos rfl, wB_length]
  refine ⟨s, hs, h0, h8, ?_, ?_, ?_⟩
  · unfold outB; rw [h, e]; rfl
  · unfold outT; rw [h, e]; simp
  · have := fit_le bs.length a s vs.length
    have hC : outC bs.length a b vs.length = if fit bs.length a s vs.length = vs.length then 0 else 8 := by unfold outC; rw [h, e]; rfl
    by_cases hf : fit bs.length a s vs.length = vs.length
    · refine .inl ⟨hf, by rw [hC, if_pos hf], ?_, ?_⟩
      · rcases rd_case (bs := bs) (a := a) h e with ⟨_, h2, _⟩ | ⟨h1, _⟩
        · exact h2
        · exact absurd hf h1
      · rcases rd_case (bs := outB bs a b vs) (a := a) h e with ⟨_, _, h3⟩ | ⟨h1, _⟩
        · exact h3
        · rw [hBl] at h1; exact absurd hf h1
    · exact .inr ⟨by omega, by rw [hC, if_neg hf]⟩

/-- append to a slice of the call's own that is empty: from a slice that came in, nil or not -/
theorem append_bytes {w : World} {ops : Array Oper} {rest : List Oper} {o : Oper} {a : Act} {Q : Exit → Act → World → Prop} (hgd : o.guard = none) (s x : Operand)
    (ho : o.op = .call { callee := .builtin .append, args := #[s, x], argTypes := #[22, 22] }) (base : Nat) (Y : Option Addr) (cy : Nat) (hs : a.eval s = .slice Y 0 cy) (hown : w.ownsRow base 5 1 (.slice Y 0 cy) 0 [])
    (A : Option Addr) (cap : Nat) (bs : List Nat) (hx : a.eval x = .slice A bs.length cap) (hA : A = none → bs.length = 0 ∧ cap = 0) (N : Nat → Prop) (hl : Lies w N A (bs.map bv)) (hlen : bs.length ≤ 2000000) (hbase : base ≤ w.heap.size)
    (h : ∀ X cx w', w'.ownsRow base 5 1 (.slice X bs.length cx) bs.length (bs.map bv) → w.grownBy w' (Value.slice Y 0 cy).ownBlock → wpList Try.prog ops Q rest (a.put o.dst (.slice X bs.length cx)) w') : wpList Try.prog ops Q (o :: rest) a w := by
  obtain ⟨i0, hi0, hz0, hz1, hz2⟩ := info_parts info5
  cases A with
  | none =>
    obtain ⟨h0, rfl⟩ := hA rfl
    obtain rfl : bs = [] := List.eq_nil_of_length_eq_zero h0
    exact wpList_append_own_none hgd s x 22 ho base 5 i0 1 Try.underlying22 hi0 _ 0 [] hs hown hx (h Y cy w hown ⟨rfl, rfl, rfl, Nat.le_refl _, fun _ _ _ => rfl⟩)
  | some ad =>
    refine wpList_append_own w hgd s x 22 ho base 5 i0 _ 1 1 Try.underlying22 hi0 hz0 hz1 hz2 rfl (by decide) _ 0 [] hs hown ad bs.length cap (bs.map bv) hx (by simp) (lies_cells hl) (bv_one bs) (by unfold maxLen; omega) (by omega) hbase ?_
    intro v' w' hown' hg _
    rw [Nat.zero_add, List.nil_append] at hown'
    obtain ⟨X, cx, rfl, _, _⟩ := own_form hown'
    exact h X cx w' hown' hg

/-- a touch of a trace -/
theorem tvs_get (ts : List Tch) (k : Nat) (t : Tch) (hk : ts[k]? = some t) : (tvs ts)[k * 3]? = some (.bool t.1) ∧ (tvs ts)[k * 3 + 1]? = some (.int .u64 t.2.1) ∧ (tvs ts)[k * 3 + 2]? = some (.int .u8 t.2.2) := by
  induction ts generalizing k with
  | nil => simp at hk
  | cons u ts ih =>
    cases k with
    | zero => simp at hk; subst hk; exact ⟨rfl, rfl, rfl⟩
    | succ k =>
      obtain ⟨h1, h2, h3⟩ := ih k (by simpa using hk)
      have e : tvs (u :: ts) = tv u ++ tvs ts := by simp [tvs]
      rw [e, List.getElem?_append_right (by simp [tv]; omega), List.getElem?_append_right (by simp [tv]; omega), List.getElem?_append_right (by simp [tv]; omega)]
      refine ⟨?_, ?_, ?_⟩
      · rw [show (k + 1) * 3 - (tv u).length = k * 3 by simp [tv]; omega]; exact h1
      · rw [show (k + 1) * 3 + 1 - (tv u).length = k * 3 + 1 by simp [tv]; omega]; exact h2
      · rw [show (k + 1) * 3 + 2 - (tv u).length = k * 3 + 2 by simp [tv]; omega]; exact h3

theorem wrap_next {i n : Nat} (h : i < n) (hn : n ≤ 1000000) : wrap64 ((i : Int) + 1) = ((i + 1 : Nat) : Int) := by unfold wrap64; omega
theorem measure_next {i n : Nat} (h : i < n) (hn : n ≤ 1000000) : n - (intOf (.int .i64 (wrap64 ((i : Int) + 1)))).toNat < n - (intOf (.int .i64 (i : Int))).toNat := by
  rw [wrap_next h hn]
  simp only [intOf, Int.toNat_natCast]
  omega
theorem same_is (A B : Option Addr) (ca cb : Nat) (xs : List Nat) (n m : Nat) (hn : xs.length = n) (hm : xs.length = m) (hlen : n ≤ 4000000) (M N : Nat → Prop) (w : World) (ha : Lies w M A (xs.map bv)) (hb : Lies w N B (xs.map bv)) :
    Calls Try.prog 18 #[.slice A n ca, .slice B m cb] w (IsTrue w) := by
  subst hn hm; exact same_any A B ca cb xs hlen M N w ha hb
theorem uv_at {w : World} {N : Nat → Prop} {A : Option Addr} {xs : List Nat} (h : Lies w N A (xs.map uv)) {k : Nat} (hk : k < xs.length) : ∃ b off, A = some ⟨b, off, none⟩ ∧ w.cell? ⟨b, off + k, none⟩ = some (.int .u64 (xs.getD k 0)) := by
  obtain ⟨b, off, e, _, hc⟩ := h.at_ (i := k) (by simpa using hk)
  exact ⟨b, off, e, hc k _ (by simp [List.getElem?_map, List.getElem?_eq_getElem hk, List.getD, uv])⟩

theorem back_big (A : Option Addr) (cap : Nat) (bs : List Nat) (a : Nat) (wr : Bool) (dat : Nat) (bits dn : Int) (L : Option Addr) (lc : Nat) (vs : List Nat) (hbig : 4096 < bs.length) (w : World) :
    Calls Try.prog 4 #[.slice A bs.length cap, .int .u64 a, .agg #[.bool wr, .int .u64 dat, .int .i64 bits, .int .i64 dn, .slice L vs.length lc]] w (GrownTrue w) := by
  have t1 : decide ((4096 : Int) < (bs.length : Int)) = true := by simp; omega
  have HBIG := Lib.hid hbig
  clear hbig
  go_enter Try.func4, Try.ntmps4
  go_wp2_with fail
  refine (awake_any _).mono ?_
  rintro e w1 ⟨rfl, hb1⟩
  have c2 : w1.cell? ⟨w.heap.size, 2, none⟩ = some (.int .i64 bits) := by rw [hb1.cell (by simp)]; simp
  have c4 : w1.cell? ⟨w.heap.size, 4, none⟩ = some (.slice L vs.length lc) := by rw [hb1.cell (by simp)]; simp
  have HB1 : Hid (Below w.heap.size w w1) := Lib.hid (((Below.refl w.heap.size w).alloc (Nat.le_refl _) _).trans (hb1.mono (by simp)))
  clear hb1
  go_wp2_with fail
  refine (new_big _ _ _ HBIG.out _).mono ?_
  rintro e w' ⟨rfl, rfl⟩
  go_wp2_with fail
  go_ret
  exact ⟨rfl, HB1.out⟩
/-- want, i touches on -/
def BackAt (w6 : World) (base : Nat) (X : Option Addr) (n cx : Nat) (TS : List Tch) (bs : List Nat) (iv : Value) (wr : World) : Prop :=
  ∃ i : Nat, i ≤ TS.length ∧ iv = .int .i64 i ∧ Turned (fun k => base ≤ k) w6 wr ∧ wr.ownsRow base 5 1 (.slice X n cx) n ((app (TS.take i) bs).map bv)

set_option maxHeartbeats 4000000 in
set_option maxRecDepth 100000 in
theorem back_arg (A : Option Addr) (cap : Nat) (bs : List Nat) (a : Nat) (wr : Bool) (dat : Nat) (bits dn : Int) (L : Option Addr) (lc : Nat) (vs : List Nat) (hA : A = none → bs.length = 0 ∧ cap = 0) (ho : Octets bs) (ha : a < 18446744073709551616) (hsm : bs.length ≤ 4096)
    (hmay : mayM bits vs.length = false) (w : World) (hl : Lies w (fun i => i < w.heap.size) A (bs.map bv)) (hL : WordsAt w L lc vs) :
    Calls Try.prog 4 #[.slice A bs.length cap, .int .u64 a, .agg #[.bool wr, .int .u64 dat, .int .i64 bits, .int .i64 dn, .slice L vs.length lc]] w (GrownTrue w) := by
  have HL := Lib.hid hl
  have HLL := Lib.hid hL
  have HA := Lib.hid hA
  have HO := Lib.hid ho
  have HSM := Lib.hid hsm
  have HX := Lib.hid ha
  have HM := Lib.hid hmay
  clear hl hL hA ho hsm ha hmay
  go_enter Try.func4, Try.ntmps4
  go_wp2_with fail
  refine (awake_any _).mono ?_
  rintro e w1 ⟨rfl, hb1⟩
  have c2 : w1.cell? ⟨w.heap.size, 2, none⟩ = some (.int .i64 bits) := by rw [hb1.cell (by simp)]; simp
  have c4 : w1.cell? ⟨w.heap.size, 4, none⟩ = some (.slice L vs.length lc) := by rw [hb1.cell (by simp)]; simp
  have HB1 : Hid (Below w.heap.size w w1) := Lib.hid (((Below.refl w.heap.size w).alloc (Nat.le_refl _) _).trans (hb1.mono (by simp)))
  clear hb1
  go_wp2_with fail
  clear c2 c4
  refine (new_any A cap bs HSM.out HA.out HO.out _ _ (HL.out.arg HB1.out) (fun i hi => Nat.lt_of_lt_of_le hi HB1.out.size)).mono ?_
  rintro e w2 ⟨P, F, rfl, hmem, hb2⟩
  have M1 : Hid (Held 63 w1 P F bs [] w2) := Lib.hid ⟨hmem, hb2⟩
  clear hmem hb2
  go_wp2_with fail
  refine (write_held M1.out (by have := HSM.out; omega) (by decide) a HX.out bits L vs.length lc vs rfl (HLL.out.lies.arg (HB1.out.trans (M1.out.below.mono HB1.out.size)))
    (fun i hi => ⟨Nat.lt_of_lt_of_le hi (Nat.le_trans HB1.out.size M1.out.size), fun hf => absurd (M1.out.mem.lo i hf).1 (by have := HB1.out.size; omega)⟩) bs [] 1 a (outB_no HM.out) (outT_no HM.out) (outC_no HM.out) rfl).mono ?_
  rintro e w3 ⟨rfl, F3, _, h3, _⟩
  have M3 := Lib.hid h3
  clear h3 M1
  go_wp2_with fail
  refine (rmay_any _ _ _).mono ?_
  rw [HM.out]
  rintro e w' ⟨rfl, rfl⟩
  go_wp2_with fail
  refine (trace_any M3.out.mem (by decide)).mono ?_
  rintro e w5 ⟨Z, cz, rfl, _, hb5⟩
  have M5 := Lib.hid (M3.out.grown hb5)
  clear hb5
  go_wp2_with fail
  go_ret
  exact ⟨rfl, HB1.out.trans (M5.out.below.mono HB1.out.size)⟩

set_option maxHeartbeats 4000000 in
set_option maxRecDepth 100000 in
theorem back_may (A : Option Addr) (cap : Nat) (bs : List Nat) (a : Nat) (wr : Bool) (dat : Nat) (bits dn : Int) (L : Option Addr) (lc : Nat) (vs : List Nat) (hA : A = none → bs.length = 0 ∧ cap = 0) (ho : Octets bs) (ha : a < 18446744073709551616) (hsm : bs.length ≤ 4096)
    (hmay : mayM bits vs.length = true) (w : World) (hl : Lies w (fun i => i < w.heap.size) A (bs.map bv)) (hL : WordsAt w L lc vs) :
    Calls Try.prog 4 #[.slice A bs.length cap, .int .u64 a, .agg #[.bool wr, .int .u64 dat, .int .i64 bits, .int .i64 dn, .slice L vs.length lc]] w (GrownTrue w) := by
  have HL := Lib.hid hl
  have HLL := Lib.hid hL
  have HA := Lib.hid hA
  have HO := Lib.hid ho
  have HSM := Lib.hid hsm
  have HX := Lib.hid ha
  have HM := Lib.hid hmay
  have HC : Hid (vs.length ≤ 16) := Lib.hid (by have := (mayM_parts hmay).2.2; omega)
  clear hl hL hA ho hsm ha hmay
  go_enter Try.func4, Try.ntmps4
  go_wp2_with fail
  refine (awake_any _).mono ?_
  rintro e w1 ⟨rfl, hb1⟩
  have c2 : w1.cell? ⟨w.heap.size, 2, none⟩ = some (.int .i64 bits) := by rw [hb1.cell (by simp)]; simp
  have c4 : w1.cell? ⟨w.heap.size, 4, none⟩ = some (.slice L vs.length lc) := by rw [hb1.cell (by simp)]; simp
  have HB1 : Hid (Below w.heap.size w w1) := Lib.hid (((Below.refl w.heap.size w).alloc (Nat.le_refl _) _).trans (hb1.mono (by simp)))
  clear hb1
  go_wp2_with fail
  clear c2 c4
  refine (new_any A cap bs HSM.out HA.out HO.out _ _ (HL.out.arg HB1.out) (fun i hi => Nat.lt_of_lt_of_le hi HB1.out.size)).mono ?_
  rintro e w2 ⟨P, F, rfl, hmem, hb2⟩
  have M1 : Hid (Held 63 w1 P F bs [] w2) := Lib.hid ⟨hmem, hb2⟩
  clear hmem hb2
  go_wp2_with fail
  obtain ⟨s, hs, hs0, hs8, eB, eT, hW⟩ := all_wid (bs := bs) (a := a) HM.out
  obtain ⟨B, hB⟩ : ∃ B, outB bs a bits vs = B := ⟨_, rfl⟩
  obtain ⟨TS, hTS⟩ : ∃ TS, outT bs [] a bits vs = TS := ⟨_, rfl⟩
  obtain ⟨K, hK⟩ : ∃ K, fit bs.length a s vs.length = K := ⟨_, rfl⟩
  obtain ⟨ec, hec⟩ : ∃ c, outC bs.length a bits vs.length = c := ⟨_, rfl⟩
  rw [hB] at eB hW
  rw [hTS] at eT
  rw [hK] at eB eT hW
  rw [hec] at hW
  refine (write_held M1.out (by have := HSM.out; omega) (by decide) a HX.out bits L vs.length lc vs rfl (HLL.out.lies.arg (HB1.out.trans (M1.out.below.mono HB1.out.size)))
    (fun i hi => ⟨Nat.lt_of_lt_of_le hi (Nat.le_trans HB1.out.size M1.out.size), fun hf => absurd (M1.out.mem.lo i hf).1 (by have := HB1.out.size; omega)⟩) B TS ec a hB hTS hec rfl).mono ?_
  rintro e w3 ⟨rfl, F3, _, h3, _⟩
  have M3 := Lib.hid h3
  have HBE := Lib.hid eB
  have HTE := Lib.hid eT
  have HW := Lib.hid hW
  have HS := Lib.hid (And.intro hs (And.intro hs0 hs8))
  have HBL : Hid (B.length = bs.length) := Lib.hid (by rw [eB, wB_length])
  have hfit := fit_le bs.length a s vs.length
  have HTL : Hid (TS.length ≤ 200) := Lib.hid (by
    rw [eT, wT_length]
    have h1 : K ≤ 16 := by rw [← hK]; have := HC.out; omega
    exact Nat.le_trans (Nat.mul_le_mul h1 hs8) (by decide))
  have HIN : Hid (Inside bs.length TS) := Lib.hid (by rw [eT]; exact inside_wT (by rw [← hK]; exact fit_inside hs0))
  have HAPP : Hid (app TS bs = B) := Lib.hid (by rw [eT, eB, app_wT])
  have HFI : Hid (a + K * s ≤ bs.length ∨ K = 0) := Lib.hid (by rw [← hK]; exact fit_inside hs0)
  clear h3 M1 eB eT hW hs hs0 hs8 hB hTS hK hec hfit
  go_wp2_with fail
  refine (rmay_any _ _ _).mono ?_
  rw [HM.out]
  rintro e w' ⟨rfl, rfl⟩
  go_wp2_with fail
  refine (trace_any M3.out.mem (by have := HTL.out; omega)).mono ?_
  rintro e w5 ⟨Z, cz, rfl, hown, hb5⟩
  have M5 := Lib.hid (M3.out.grown hb5)
  have LZ := Lib.hid (lies_own hown)
  have LA := Lib.hid (HL.out.arg (HB1.out.trans (M5.out.below.mono HB1.out.size)))
  have SW := Lib.hid (Nat.le_trans HB1.out.size M5.out.size)
  clear hown hb5
  go_wp2_with (at_builtin; refine append_bytes rfl _ _ rfl w5.heap.size _ _ rfl ?c0 A cap bs rfl HA.out (fun i => i < w.heap.size) ?c1 ?c2 ?c3 ?_)
  case c0 => exact World.ownsRow_lit _ #[] 0 (Nat.le_refl _) (by unfold maxLen; omega) rfl
  case c1 => exact LA.out.keep fun b hb => Below.heap_alloc w5 _ b (Nat.lt_of_lt_of_le hb SW.out)
  case c2 => have := HSM.out; omega
  case c3 => simp
  intro X cx w6 hown hgrow
  have B6 := Lib.hid (((Below.refl w5.heap.size w5).alloc (Nat.le_refl _) (Obj.cells #[] 5)).grown hgrow (by simp) (fun k hk => by simp [Value.ownBlock] at hk; omega))
  have OW := Lib.hid hown
  clear hown hgrow
  have M6 := Lib.hid (M5.out.grown B6.out)
  have LZ6 := Lib.hid (LZ.out.later B6.out (fun i hi => hi.2))
  clear LZ
  go_wp2_with fail
  go_loopw [14] (fun iv wr => BackAt w6 w5.heap.size X bs.length cx TS bs iv wr) (fun iv _ => TS.length - (intOf iv).toNat)
  case atStart => exact ⟨0, Nat.zero_le _, rfl, Turned.refl _ _, OW.out⟩
  case round =>
    obtain ⟨i, hi, rfl, htur, hown⟩ := hrel
    by_cases hlt : i < TS.length
    · obtain ⟨t, ht⟩ : ∃ t, TS[i]? = some t := ⟨_, List.getElem?_eq_getElem hlt⟩
      obtain ⟨htw, hta, htb⟩ := HIN.out t (List.mem_of_getElem? ht)
      obtain ⟨zb, zo, rfl, hzN, hzc⟩ := LZ6.out.at_ (i := i) (by simp; omega)
      obtain ⟨t0, t1, t2⟩ := tvs_get TS i t ht
      have a0 : wr.cell? ⟨zb, zo + i * 3, none⟩ = some (.bool t.1) := (htur.cell (p := ⟨zb, zo + i * 3, none⟩) (Nat.lt_of_lt_of_le hzN.2 B6.out.size) (Nat.not_le.2 hzN.2)).trans (hzc _ _ t0)
      have a1 : wr.cell? ⟨zb, zo + i * 3 + 1, none⟩ = some (.int .u64 t.2.1) := (htur.cell (p := ⟨zb, zo + i * 3 + 1, none⟩) (Nat.lt_of_lt_of_le hzN.2 B6.out.size) (Nat.not_le.2 hzN.2)).trans (hzc _ _ t1)
      have a2 : wr.cell? ⟨zb, zo + i * 3 + 2, none⟩ = some (.int .u8 t.2.2) := (htur.cell (p := ⟨zb, zo + i * 3 + 2, none⟩) (Nat.lt_of_lt_of_le hzN.2 B6.out.size) (Nat.not_le.2 hzN.2)).trans (hzc _ _ t2)
      have happ := app_succ TS bs i t ht
      obtain ⟨tw, ta, tc⟩ := t
      simp only at htw hta htb happ a0 a1 a2
      subst htw
      have X0 : ∃ g, X = some ⟨g, 0, none⟩ := by
        obtain ⟨A', cap', e, _, h⟩ := own_form hown
        injection e with e1
        subst e1
        rcases h with h | h
        · subst h
          rcases hown.2 with ⟨_, h0⟩ | ⟨g, _, _, e, _⟩
          · omega
          · cases e
        · exact h
      obtain ⟨g, rfl⟩ := X0
      have cg := hown.cellAt ta (by omega)
      have fg := hown.frozenAt ta
      have HOWN := Lib.hid hown
      have HTUR := Lib.hid htur
      have HAS := Lib.hid happ
      have HI := Lib.hid hi
      have en : IntKind.u64.wrap (bs.length : Int) = (bs.length : Int) := by have := HSM.out; rw [u64_wrap]; omega
      have e2 : decide (bs.length ≤ ta) = false := by simp; omega
      have i1 : (0 : Int) ≤ (i : Int) := by omega
      have i2 : (i : Int) < (TS.length : Int) := by omega
      have j1 : (0 : Int) ≤ (ta : Int) := by omega
      have j2 : (ta : Int) < (bs.length : Int) := by omega
      clear hown htur happ ht t0 t1 t2 hzc hzN hi
      go_wp2_with fail
      go_region
      all_goals
        go_wp2_with fail
        refine ⟨⟨i + 1, hlt, by rw [wrap_next hlt (by have := HTL.out; omega)], (HTUR.out.trans (Turned.setCell wr ⟨g, ta, none⟩ _) (fun k hk => .inl ?_)).drewN 1, ?_⟩, measure_next hlt (by have := HTL.out; omega)⟩
        · rw [hk]; exact (HOWN.out.lt g rfl).1
        · rw [HAS.out, List.map_set]; exact (HOWN.out.stored ta (.int .u8 tc)).1
    · obtain rfl : i = TS.length := by omega
      rw [List.take_length, HAPP.out] at hown
      have M7 : Hid (Held 63 w1 P F3 B TS wr) := Lib.hid ⟨M6.out.mem.apart htur (fun i hi => Nat.not_le.2 (M5.out.mem.lo i hi).2), M6.out.below.trans (htur.below (fun i hi => Nat.le_trans M5.out.size hi) M6.out.size)⟩
      have OX := Lib.hid (lies_own hown)
      clear hown htur hi hlt M6
      go_wp2_with fail
      refine (bytes_any M7.out.mem (by rw [HBL.out]; have := HSM.out; omega)).mono ?_
      rintro e w8 ⟨Y, cy, rfl, hown, hb8⟩
      have M8 := Lib.hid (M7.out.grown hb8)
      have OY := Lib.hid (lies_own hown)
      have OX8 := Lib.hid (OX.out.later hb8 (fun i hi => hi.2))
      clear hown hb8 OX M7
      go_wp2_with fail
      refine (same_is Y X cy cx B _ _ rfl HBL.out (by rw [HBL.out]; have := HSM.out; omega) _ _ _ OY.out OX8.out).mono ?_
      rintro e w9 ⟨rfl, m9, rfl⟩
      have M9 := Lib.hid (M8.out.grown (show Below w8.heap.size w8 (w8.drewN m9) from ⟨rfl, rfl, rfl, Nat.le_refl _, fun _ _ => rfl⟩))
      clear OY OX8 M8
      generalize w8.drewN m9 = w9 at *
      rcases HW.out with ⟨hk, he, hr1, hr2⟩ | ⟨hk, he⟩
      · subst he
        have HK := Lib.hid hk
        have R1 := Lib.hid hr1
        have R2 := Lib.hid hr2
        clear hk hr1 hr2
        go_wp2_with fail
        obtain ⟨V, hV⟩ : ∃ V, rV B a s vs.length = V := ⟨_, rfl⟩
        have HVL : Hid (V.length = vs.length) := Lib.hid (by rw [← hV, rV_length])
        have HV := Lib.hid hV
        clear hV
        refine (read_held M9.out (by rw [HBL.out]; have := HSM.out; omega) (by have := HTL.out; omega) a HX.out bits vs.length V vs.length _ 0 a (by rw [R2.out, HV.out]) HVL.out rfl (by rw [HBL.out]; exact R1.out) rfl).mono ?_
        rintro e w10 ⟨X2, cx2, F10, rfl, _, h10, hown, _, _⟩
        have M10 := Lib.hid h10
        have OV := Lib.hid (lies_own hown)
        have OL := Lib.hid (HLL.out.lies.arg (HB1.out.trans (M10.out.below.mono HB1.out.size)))
        clear h10 hown M9
        go_wp2_with fail
        go_loopw [17] (fun iv wr => OnlyDrawn vs.length w10 iv wr) (fun iv _ => vs.length - (intOf iv).toNat)
        case atStart => exact ⟨0, 0, Nat.zero_le _, rfl, rfl⟩
        case round =>
          obtain ⟨k, m, hk, rfl, rfl⟩ := hrel
          by_cases hlt : k < vs.length
          · obtain ⟨vb, vo, rfl, vc⟩ := uv_at OV.out (k := k) (by rw [HVL.out]; exact hlt)
            obtain ⟨lb, lo, rfl, lc0⟩ := uv_at OL.out (k := k) hlt
            obtain ⟨x, hx⟩ : ∃ x, vs.getD k 0 % 2 ^ bits.toNat = x := ⟨_, rfl⟩
            have hxv : V.getD k 0 = x := by
              rw [← hx, ← HV.out, HBE.out, HK.out, rV_wB (by have := HFI.out; rwa [HK.out] at this) k hlt, HS.out.1]
              congr 2
            have hvl : vs.getD k 0 < 18446744073709551616 := getD_lt HLL.out.lt k
            rw [hxv] at vc
            obtain ⟨y, hy⟩ : ∃ y, vs.getD k 0 = y := ⟨_, rfl⟩
            rw [hy] at lc0 hx hvl
            have q : ∀ n, Calls Try.prog 23 #[.int .u64 y, .int .i64 bits] (w10.drewN (m + n)) fun e w'' => e = .returned (.int .u64 x) ∧ ∃ k, w'' = w10.drewN (m + k) :=
              fun n => quiet_sum (cut_any y hvl bits (by have := HM.out; simp [mayM] at this; exact this.1) x hx _)
            have QC := Lib.hid q
            have i1 : (0 : Int) ≤ (k : Int) := by omega
            have i2 : (k : Int) < (vs.length : Int) := by omega
            clear q hx hxv hvl hy
            go_wp2_with fail
            go_quiet (with_reducible exact QC.out _)
            go_wp2
            go_round
            case rel => exact ⟨k + 1, m + nq, hlt, by rw [wrap_next hlt (by have := HC.out; omega)], by first | rfl | rw [World.drewN_drewN]⟩
            case measure => exact measure_next hlt (by have := HC.out; omega)
          · obtain rfl : k = vs.length := by omega
            go_wp2
            go_ret
            exact ⟨rfl, HB1.out.trans ((M10.out.grown (show Below w10.heap.size w10 (w10.drewN m) from ⟨rfl, rfl, rfl, Nat.le_refl _, fun _ _ => rfl⟩)).below.mono HB1.out.size)⟩
      · subst he
        go_wp2_with fail
        go_ret
        exact ⟨rfl, HB1.out.trans (M9.out.below.mono HB1.out.size)⟩

theorem back_law (A : Option Addr) (cap : Nat) (bs : List Nat) (a : Nat) (d : DoV) (hA : A = none → bs.length = 0 ∧ cap = 0) (ho : Octets bs) (ha : a < 18446744073709551616) (w : World)
    (hl : Lies w (fun i => i < w.heap.size) A (bs.map bv)) (hd : DoAt w d) :
    Calls Try.prog 4 #[.slice A bs.length cap, .int .u64 a, .agg #[.bool d.wr, .int .u64 d.at_, .int .i64 d.bits, .int .i64 d.n, .slice d.A d.vs.length d.cap]] w (GrownTrue w) := by
  rcases Nat.lt_or_ge 4096 bs.length with h | h
  · exact back_big A cap bs a d.wr d.at_ d.bits d.n d.A d.cap d.vs h w
  · cases hm : mayM d.bits d.vs.length with
    | false => exact back_arg A cap bs a d.wr d.at_ d.bits d.n d.A d.cap d.vs hA ho ha h hm w hl hd.words
    | true => exact back_may A cap bs a d.wr d.at_ d.bits d.n d.A d.cap d.vs hA ho ha h hm w hl hd.words
end Go.Proofs.Ytcnhnjbefhgaaaa
