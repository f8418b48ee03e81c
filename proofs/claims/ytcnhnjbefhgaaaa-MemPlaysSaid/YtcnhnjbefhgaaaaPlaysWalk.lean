/- MemPlays: true for every input. -/
import Derived.Test.YtcnhnjbefhgaaaaBackWalk
import Derived.Deep.RegionHeld3
namespace Go.Proofs.Ytcnhnjbefhgaaaa
open Go.RowKit

theorem outB_len (bs : List Nat) (a : Nat) (b : Int) (vs : List Nat) : (outB bs a b vs).length = bs.length := by
  unfold outB; split
  · rw [wB_length]
  · rfl
theorem wid_size {b : Int} (h : b = 8 ∨ b = 16 ∨ b = 32 ∨ b = 64) : (b / 8).toNat ≤ 8 := by rcases h with rfl | rfl | rfl | rfl <;> decide
theorem outT_len (bs : List Nat) (ts : List Tch) (a : Nat) (b : Int) (vs : List Nat) : (outT bs ts a b vs).length ≤ ts.length + 128 := by
  cases h : mayM b vs.length with
  | false => rw [outT_no h]; omega
  | true =>
    obtain ⟨hb, _, hc⟩ := mayM_parts h
    have h8 := wid_size hb
    have hf := fit_le bs.length a (b / 8).toNat vs.length
    have := Nat.mul_le_mul (show fit bs.length a (b / 8).toNat vs.length ≤ 16 by omega) h8
    unfold outT; rw [h, if_pos rfl, List.length_append, wT_length]
    omega
theorem rdT_len (bs : List Nat) (ts : List Tch) (a : Nat) (b n : Int) : (rdT bs ts a b n).length ≤ ts.length + 128 := by
  cases h : mayM b n with
  | false => rw [rdT_no h]; omega
  | true =>
    obtain ⟨hb, _, hc⟩ := mayM_parts h
    have h8 := wid_size hb
    have hf := fit_le bs.length a (b / 8).toNat n.toNat
    have := Nat.mul_le_mul (show fit bs.length a (b / 8).toNat n.toNat ≤ 16 by omega) h8
    unfold rdT; rw [h, if_pos rfl, List.length_append, rT_length]
    omega
theorem u8_succ (c : Nat) : Value.int .u8 (((c : Int) + 1) % 256) = bv ((c + 1) % 256) := by
  unfold bv
  congr 1

/-- own, i bytes on -/
def OwnAt (w6 : World) (base B : Nat) (X : Option Addr) (n cx : Nat) (iv : Value) (wr : World) : Prop :=
  ∃ (i : Nat) (ys : List Nat), i ≤ n ∧ iv = .int .i64 i ∧ ys.length = n ∧ Turned (fun k => base ≤ k ∧ k < B) w6 wr ∧ wr.ownsRow base 5 1 (.slice X n cx) n (ys.map bv) 
/-- the two memories, i steps on -/
def PlaysAt (w1 : World) (P Q n : Nat) (iv : Value) (wr : World) : Prop :=
  ∃ (F G : Nat → Prop) (bs : List Nat) (ts : List Tch) (i : Nat), iv = .int .i64 i ∧ i ≤ 60 ∧ ts.length ≤ i * 128 ∧ bs.length = n ∧ Two 63 32 w1 P Q F G bs ts bs ts wr

/-- a step's cells, as they lie in an argument -/
theorem dv_cells {w wr : World} {b o : Nat} {dw : Bool} {da : Nat} {db dn : Int} {L : Option Addr} {lc : Nat} {vs : List Nat} (hb : Below w.heap.size w wr) (hbw : b < w.heap.size) (hc : ∀ j u, (dvs ⟨dw, da, db, dn, L, lc, vs⟩)[j]? = some u → w.cell? ⟨b, o + j, none⟩ = some u) :
    wr.cell? ⟨b, o, none⟩ = some (.bool dw) ∧ wr.cell? ⟨b, o + 1, none⟩ = some (.int .u64 da) ∧ wr.cell? ⟨b, o + 2, none⟩ = some (.int .i64 db) ∧ wr.cell? ⟨b, o + 3, none⟩ = some (.int .i64 dn) ∧ wr.cell? ⟨b, o + 4, none⟩ = some (.slice L vs.length lc) :=
  ⟨(hb.cell (p := ⟨b, o, none⟩) hbw).trans (hc 0 _ rfl), (hb.cell (p := ⟨b, o + 1, none⟩) hbw).trans (hc 1 _ rfl), (hb.cell (p := ⟨b, o + 2, none⟩) hbw).trans (hc 2 _ rfl), (hb.cell (p := ⟨b, o + 3, none⟩) hbw).trans (hc 3 _ rfl), (hb.cell (p := ⟨b, o + 4, none⟩) hbw).trans (hc 4 _ rfl)⟩

theorem touches_it (A B : Option Addr) (ca cb : Nat) (xs : List Tch) (n : Nat) (hn : xs.length = n) (hlen : n ≤ 4000000) (M N : Nat → Prop) (w : World) (ha : Lies w M A (tvs xs)) (hb : Lies w N B (tvs xs)) :
    Calls Try.prog 20 #[.slice A n ca, .slice B n cb] w (IsTrue w) := by
  subst hn; exact touches_any A B ca cb xs hlen M N w ha hb
theorem words_it (A B : Option Addr) (ca cb : Nat) (xs : List Nat) (n : Nat) (hn : xs.length = n) (hlen : n ≤ 4000000) (M N : Nat → Prop) (w : World) (ha : Lies w M A (xs.map uv)) (hb : Lies w N B (xs.map uv)) :
    Calls Try.prog 15 #[.slice A n ca, .slice B n cb] w (IsTrue w) := by
  subst hn; exact words_any A B ca cb xs hlen M N w ha hb
theorem below_drewN (w : World) (n : Nat) : Below w.heap.size w (w.drewN n) := ⟨rfl, rfl, rfl, Nat.le_refl _, fun _ _ => rfl⟩
theorem there_quiet {u : TypeId} {w0 w : World} {P Q : Nat} {F G : Nat → Prop} {bs cs : List Nat} {ts us : List Tch} (h : Two 63 u w0 P Q F G bs ts cs us w) (hn : bs.length ≤ 5000) (a : Nat) (ha : a < 18446744073709551616) (k : Int) (r : Bool) (hr : thereB bs.length a k = r) (n : Nat) :
    Calls Try.prog 16 #[.pointer (some ⟨P, 0, none⟩), .int .u64 a, .int .i64 k] (w.drewN n) fun e w'' => e = .returned (.bool r) ∧ ∃ m, w'' = w.drewN m :=
  Calls.quiet_of_same ((there_two (h.drewN n) hn a ha k r a hr rfl).mono fun _ _ ⟨e, h⟩ => ⟨e, h.symm⟩)
theorem rthere_quiet {u : TypeId} {w0 w : World} {P Q : Nat} {F G : Nat → Prop} {bs cs : List Nat} {ts us : List Tch} (h : Two 32 u w0 P Q F G bs ts cs us w) (hn : bs.length ≤ 5000) (a : Nat) (ha : a < 18446744073709551616) (k : Int) (r : Bool) (hr : thereB bs.length a k = r) (n : Nat) :
    Calls Try.prog 17 #[.pointer (some ⟨P, 0, none⟩), .int .u64 a, .int .i64 k] (w.drewN n) fun e w'' => e = .returned (.bool r) ∧ ∃ m, w'' = w.drewN m :=
  Calls.quiet_of_same ((rthere_two (h.drewN n) hn a ha k r a hr rfl).mono fun _ _ ⟨e, h⟩ => ⟨e, h.symm⟩)
/-- what the last statement reads -/
theorem end_keep {w0 w w' : World} {P Q : Nat} {F G : Nat → Prop} {cs : List Nat} {ts : List Tch} {A T : Option Addr} {ca ct : Nat} (h : Two 63 32 w0 P Q F G cs ts cs ts w ∧ MemAt 32 w w0.heap.size Q G A ca T ct cs ts) (hb : Below w.heap.size w w') :
    Two 63 32 w0 P Q F G cs ts cs ts w' ∧ MemAt 32 w' w0.heap.size Q G A ca T ct cs ts ∧ w'.cell? ⟨Q, 0, none⟩ = some (.slice A cs.length ca) ∧ w'.cell? ⟨Q, 1, none⟩ = some (.slice T ts.length ct) :=
  have hm := h.2.apart (Turned.of_below hb (fun _ => False)) (fun _ _ => id)
  ⟨h.1.grown hb, hm, hm.cell0, hm.cell1⟩

theorem succ_plain (i : Nat) : Value.int .i64 ((i : Int) + 1) = .int .i64 ((i + 1 : Nat) : Int) := by rw [Int.natCast_add]; rfl
theorem measure_plain {i n : Nat} (h : i < n) : n - (intOf (.int .i64 ((i : Int) + 1))).toNat < n - (intOf (.int .i64 (i : Int))).toNat := by
  rw [succ_plain]
  simp only [intOf, Int.toNat_natCast]
  omega

theorem plays_huge (A : Option Addr) (cap : Nat) (bs : List Nat) (D : Option Addr) (dn dc : Nat) (hbig : 5000 < bs.length) (w : World) :
    Calls Try.prog 3 #[.slice A bs.length cap, .slice D dn dc] w (GrownTrue w) := by
  have t1 : decide ((5000 : Int) < (bs.length : Int)) = true := by simp; omega
  clear hbig
  go_enter Try.func3, Try.ntmps3
  go_wp2_with fail
  refine (awake_any _).mono ?_
  rintro e w1 ⟨rfl, hb1⟩
  have HB1 := Lib.hid hb1
  clear hb1
  go_wp2_with fail
  go_ret
  exact ⟨rfl, HB1.out⟩

set_option maxRecDepth 100000 in
theorem plays_big (A : Option Addr) (cap : Nat) (bs : List Nat) (D : Option Addr) (dn dc : Nat) (hbig : 4096 < bs.length) (h5 : bs.length ≤ 5000) (hA : A = none → bs.length = 0 ∧ cap = 0) (w : World) (hl : Lies w (fun i => i < w.heap.size) A (bs.map bv)) :
    Calls Try.prog 3 #[.slice A bs.length cap, .slice D dn dc] w (GrownTrue w) := by
  have t1 : decide ((5000 : Int) < (bs.length : Int)) = false := by simp; omega
  have t2 : decide ((4096 : Int) < (bs.length : Int)) = true := by simp; omega
  have HL := Lib.hid hl
  have HA := Lib.hid hA
  have HBIG := Lib.hid hbig
  have H5 := Lib.hid h5
  clear hbig h5 hl hA
  go_enter Try.func3, Try.ntmps3
  go_wp2_with fail
  refine (awake_any _).mono ?_
  rintro e w1 ⟨rfl, hb1⟩
  have HB1 := Lib.hid hb1
  have LA := Lib.hid (HL.out.arg HB1.out)
  clear hb1
  go_wp2_with (at_builtin; refine append_bytes rfl _ _ rfl w1.heap.size _ _ rfl ?c0 A cap bs rfl HA.out (fun i => i < w.heap.size) ?c1 ?c2 ?c3 ?_)
  case c0 => exact World.ownsRow_lit _ #[] 0 (Nat.le_refl _) (by unfold maxLen; omega) rfl
  case c1 => exact LA.out.keep fun b hb => Below.heap_alloc w1 _ b (Nat.lt_of_lt_of_le hb HB1.out.size)
  case c2 => have := H5.out; omega
  case c3 => simp
  intro X cx w6 hown hgrow
  have B6 := Lib.hid (((Below.refl w1.heap.size w1).alloc (Nat.le_refl _) (Obj.cells #[] 5)).grown hgrow (by simp) (fun k hk => by simp [Value.ownBlock] at hk; omega))
  clear hown hgrow
  go_wp2_with fail
  refine (new_big _ _ _ HBIG.out _).mono ?_
  rintro e w' ⟨rfl, rfl⟩
  go_wp2_with fail
  go_ret
  exact ⟨rfl, HB1.out.trans (B6.out.mono HB1.out.size)⟩

set_option maxHeartbeats 4000000 in
set_option maxRecDepth 100000 in
theorem plays_small (A : Option Addr) (cap : Nat) (bs : List Nat) (D : Option Addr) (dc : Nat) (ds : List DoV) (hA : A = none → bs.length = 0 ∧ cap = 0) (ho : Octets bs) (hsm : bs.length ≤ 4096) (hdn : ds.length ≤ 9223372036854775807) (w : World)
    (hl : Lies w (fun i => i < w.heap.size) A (bs.map bv)) (hd : DosAt w D ds) :
    Calls Try.prog 3 #[.slice A bs.length cap, .slice D ds.length dc] w (GrownTrue w) := by
  have t1 : decide ((5000 : Int) < (bs.length : Int)) = false := by simp; omega
  have t2 : decide ((4096 : Int) < (bs.length : Int)) = false := by simp; omega
  have HL := Lib.hid hl
  have HD := Lib.hid hd
  have HA := Lib.hid hA
  have HO := Lib.hid ho
  have HSM := Lib.hid hsm
  have HDN := Lib.hid hdn
  clear hl hd hA ho hsm hdn
  go_enter Try.func3, Try.ntmps3
  go_wp2_with fail
  refine (awake_any _).mono ?_
  rintro e w1 ⟨rfl, hb1⟩
  have HB1 := Lib.hid hb1
  have LA := Lib.hid (HL.out.arg HB1.out)
  clear hb1
  go_wp2_with (at_builtin; refine append_bytes rfl _ _ rfl w1.heap.size _ _ rfl ?c0 A cap bs rfl HA.out (fun i => i < w.heap.size) ?c1 ?c2 ?c3 ?_)
  case c0 => exact World.ownsRow_lit _ #[] 0 (Nat.le_refl _) (by unfold maxLen; omega) rfl
  case c1 => exact LA.out.keep fun b hb => Below.heap_alloc w1 _ b (Nat.lt_of_lt_of_le hb HB1.out.size)
  case c2 => have := HSM.out; omega
  case c3 => simp
  intro X cx w5 hown hgrow
  have B5 := Lib.hid (((Below.refl w1.heap.size w1).alloc (Nat.le_refl _) (Obj.cells #[] 5)).grown hgrow (by simp) (fun k hk => by simp [Value.ownBlock] at hk; omega))
  have OX := Lib.hid hown
  have FX : Hid (X = none → bs.length = 0 ∧ cx = 0) := Lib.hid (fun e => by
    subst e
    rcases hown.2 with ⟨e, h0⟩ | ⟨g, _, _, e, _⟩
    · injection e with _ _ e; exact ⟨h0, e⟩
    · cases e)
  have LX := Lib.hid (lies_own hown)
  clear hown hgrow
  go_wp2_with fail
  refine (new_any X cx bs HSM.out FX.out HO.out _ _ LX.out (fun i hi => hi.2)).mono ?_
  rintro e w6 ⟨P, F, rfl, hmem, hb6⟩
  have M6 : Hid (MemIs 63 w6 w5.heap.size P F bs []) := Lib.hid hmem
  have B6 := Lib.hid hb6
  have OX6 := Lib.hid (own_turned OX.out (Turned.of_below hb6 (fun _ => False)) (fun _ _ => id))
  clear hmem hb6 FX LX
  go_wp2_with fail
  go_loopw [8] (fun iv wr => OwnAt w6 w1.heap.size w5.heap.size X bs.length cx iv wr) (fun iv _ => bs.length - (intOf iv).toNat)
  case atStart => exact ⟨0, bs, Nat.zero_le _, rfl, rfl, Turned.refl _ _, OX6.out⟩
  case round =>
    obtain ⟨i, ys, hi, rfl, hys, htur, hown⟩ := hrel
    by_cases hlt : i < bs.length
    · have X0 : ∃ g, X = some ⟨g, 0, none⟩ := by
        obtain ⟨A', cap', e, _, h⟩ := own_form hown
        injection e with e1
        subst e1
        rcases h with h | h
        · subst h
          rcases hown.2 with ⟨_, h0⟩ | ⟨g, _, _, e, _⟩
          · omega
          · cases e
        · exact h
      obtain ⟨g, rfl⟩ := X0
      obtain ⟨c, hc⟩ : ∃ c, ys.getD i 0 = c := ⟨_, rfl⟩
      have cg : wr.cell? ⟨g, i, none⟩ = some (.int .u8 c) := by
        rw [hown.cellAt i (by omega), ← hc]
        simp [List.getElem?_map, List.getElem?_eq_getElem (show i < ys.length by omega), bv, List.getD]
      have fg := hown.frozenAt i
      have HOWN := Lib.hid hown
      have HTUR := Lib.hid htur
      have HYS := Lib.hid hys
      have i1 : (0 : Int) ≤ (i : Int) := by omega
      have i2 : (i : Int) < (bs.length : Int) := by omega
      clear hown htur hi hys hc
      go_wp2_with fail
      refine ⟨⟨i + 1, ys.set i ((c + 1) % 256), hlt, by rw [wrap_next hlt (by have := HSM.out; omega)], by rw [List.length_set]; exact HYS.out, HTUR.out.trans (Turned.setCell wr ⟨g, i, none⟩ _) (fun k hk => .inl ?_), ?_⟩, measure_next hlt (by have := HSM.out; omega)⟩
      · rw [hk]; exact OX.out.lt g rfl
      · rw [u8_succ, List.map_set]; exact (HOWN.out.stored i _).1
    · obtain rfl : i = bs.length := by omega
      have HT := Lib.hid htur
      have SP : Hid (∀ k, F k → w5.heap.size ≤ k ∧ k < w6.heap.size) := Lib.hid M6.out.lo
      have M7 : Hid (Held 63 w1 P F bs [] wr) := Lib.hid ⟨(M6.out.apart htur (fun k hf hk => absurd (SP.out k hf).1 (Nat.not_le.2 hk.2))).base B5.out.size,
        (B5.out.trans (B6.out.mono B5.out.size)).trans (htur.below (fun k hk => hk.1) (Nat.le_trans B5.out.size B6.out.size))⟩
      have LA7 := Lib.hid (HL.out.arg (HB1.out.trans (M7.out.below.mono HB1.out.size)))
      clear hown htur hi hlt hys M6 OX OX6 HT SP
      go_wp2_with (at_builtin; refine append_bytes rfl _ _ rfl wr.heap.size _ _ rfl ?c0 A cap bs rfl HA.out (fun i => i < w.heap.size) ?c1 ?c2 ?c3 ?_)
      case c0 => exact World.ownsRow_lit _ #[] 0 (Nat.le_refl _) (by unfold maxLen; omega) rfl
      case c1 => exact LA7.out.keep fun b hb => Below.heap_alloc wr _ b (Nat.lt_of_lt_of_le hb (Nat.le_trans HB1.out.size M7.out.size))
      case c2 => have := HSM.out; omega
      case c3 => simp
      intro X2 cx2 w8 hown hgrow
      have B8 := Lib.hid (((Below.refl wr.heap.size wr).alloc (Nat.le_refl _) (Obj.cells #[] 5)).grown hgrow (by simp) (fun k hk => by simp [Value.ownBlock] at hk; omega))
      obtain ⟨rm, rb⟩ := mem_new (ty := 32) ⟨by decide, by decide⟩ HO.out hown B8.out
      have T9 := Lib.hid (Two.of_new M7.out rm rb)
      clear hown hgrow rm rb B8 LA7
      go_wp2_with fail
      generalize w8.alloc (Obj.cells #[Value.slice X2 bs.length cx2, Value.slice none 0 0] 32) = w9 at *
      generalize w8.heap.size = Q at *
      go_loopw [10] (fun iv wr => PlaysAt w1 P Q bs.length iv wr) (fun iv _ => 60 - (intOf iv).toNat)
      case atStart => exact ⟨F, _, bs, [], 0, rfl, by omega, by simp, rfl, T9.out⟩
      case round =>
        obtain ⟨F5, G5, cs, ts, i, rfl, hi, hts, hcs, h5⟩ := hrel
        have T5 := Lib.hid h5
        have HTS := Lib.hid hts
        have HCS := Lib.hid hcs
        clear h5 hts hcs
        by_cases hgo : i < ds.length ∧ i < 60
        · obtain ⟨hlt, h60⟩ := hgo
          obtain ⟨b, off, rfl, hbw, hc⟩ := HD.out.lies i hlt
          have hdo := HD.out.each (ds.getD i default) (by rw [List.getD, List.getElem?_eq_getElem hlt]; exact List.getElem_mem hlt)
          generalize ds.getD i default = d at hc hdo
          obtain ⟨dw, da, db, dn, L, lc, vs⟩ := d
          obtain ⟨d0, d1, d2, d3, d4⟩ := dv_cells (HB1.out.trans (T5.out.below.mono HB1.out.size)) hbw hc
          have HDO := Lib.hid hdo
          have H60 := Lib.hid h60
          have HI := Lib.hid hi
          have i1 : (0 : Int) ≤ (i : Int) := by omega
          have i2 : (i : Int) < (ds.length : Int) := by omega
          clear hc hdo hi hbw
          have T6 := Lib.hid (T5.out.grown ((Below.refl wr.heap.size wr).alloc (Nat.le_refl _) (Obj.cells #[.bool dw, .int .u64 da, .int .i64 db, .int .i64 dn, .slice L vs.length lc] 36)))
          by_cases hbig : 100 < vs.length
          · have t3 : decide ((100 : Int) < (vs.length : Int)) = true := by simp; omega
            go_wp2_with fail
            go_ret
            exact ⟨rfl, HB1.out.trans (T6.out.below.mono HB1.out.size)⟩
          · have t3 : decide ((100 : Int) < (vs.length : Int)) = false := by simp; omega
            have HNF : Hid (∀ j, j < w.heap.size → ∀ x : World, ∀ F' G' : Nat → Prop, ∀ ba bb : List Nat, ∀ ta tb : List Tch, Two 63 32 w1 P Q F' G' ba ta bb tb x → j < x.heap.size ∧ ¬ F' j ∧ ¬ G' j) := Lib.hid (fun j hj x F' G' ba bb ta tb h =>
              ⟨Nat.lt_of_lt_of_le hj (Nat.le_trans HB1.out.size h.size), fun hf => absurd (h.m.lo j hf).1 (by have := HB1.out.size; omega), fun hf => absurd (h.n.lo j hf).1 (by have := HB1.out.size; omega)⟩)
            have HLA : Hid (∀ x : World, Below w1.heap.size w1 x → Lies x (fun i => i < w.heap.size) L (vs.map uv)) := Lib.hid (fun x h => HDO.out.words.lies.arg (HB1.out.trans (h.mono HB1.out.size)))
            have HCL : Hid (cs.length ≤ 5000) := Lib.hid (by have := HCS.out; have := HSM.out; omega)
            have HTL : Hid (ts.length ≤ 7680) := Lib.hid (by have := HTS.out; have := HI.out; omega)
            cases dw with
            | true =>
              go_wp2_with fail
              clear d0 d1 d2 d3 d4 t3 hbig
              have e1 : (wr.alloc (Obj.cells #[.bool true, .int .u64 da, .int .i64 db, .int .i64 dn, .slice L vs.length lc] 36)).cell? ⟨wr.heap.size, 1, none⟩ = some (.int .u64 da) := by simp
              have e2 : (wr.alloc (Obj.cells #[.bool true, .int .u64 da, .int .i64 db, .int .i64 dn, .slice L vs.length lc] 36)).cell? ⟨wr.heap.size, 2, none⟩ = some (.int .i64 db) := by simp
              have e3 : (wr.alloc (Obj.cells #[.bool true, .int .u64 da, .int .i64 db, .int .i64 dn, .slice L vs.length lc] 36)).cell? ⟨wr.heap.size, 3, none⟩ = some (.int .i64 dn) := by simp
              have e4 : (wr.alloc (Obj.cells #[.bool true, .int .u64 da, .int .i64 db, .int .i64 dn, .slice L vs.length lc] 36)).cell? ⟨wr.heap.size, 4, none⟩ = some (.slice L vs.length lc) := by simp
              have HH : Hid (wr.heap.size < (wr.alloc (Obj.cells #[.bool true, .int .u64 da, .int .i64 db, .int .i64 dn, .slice L vs.length lc] 36)).heap.size ∧ ¬ F5 wr.heap.size ∧ ¬ G5 wr.heap.size) :=
                Lib.hid ⟨by simp, fun hf => absurd (T5.out.m.lo _ hf).2 (Nat.lt_irrefl _), fun hf => absurd (T5.out.n.lo _ hf).2 (Nat.lt_irrefl _)⟩
              generalize wr.alloc (Obj.cells #[.bool true, .int .u64 da, .int .i64 db, .int .i64 dn, .slice L vs.length lc] 36) = w2 at *
              generalize wr.heap.size = H at *
              obtain ⟨B, hB⟩ : ∃ B, outB cs da db vs = B := ⟨_, rfl⟩
              obtain ⟨TS, hTS⟩ : ∃ TS, outT cs ts da db vs = TS := ⟨_, rfl⟩
              obtain ⟨ec, hec⟩ : ∃ c, outC cs.length da db vs.length = c := ⟨_, rfl⟩
              have qW := Lib.hid (fun (x : World) (h : Two 63 32 w1 P Q F5 G5 cs ts cs ts x) => write_two h HCL.out (by have := HTL.out; omega) da HDO.out.at_lt db L vs.length lc vs rfl (HLA.out x h.below)
                (fun j hj => ⟨(HNF.out j hj x _ _ _ _ _ _ h).1, (HNF.out j hj x _ _ _ _ _ _ h).2.1⟩) B TS ec da hB hTS hec rfl)
              have qR := Lib.hid (fun (x : World) (F6 : Nat → Prop) (h : Two 63 32 w1 P Q F6 G5 B TS cs ts x) => rwrite_two h.swap HCL.out (by have := HTL.out; omega) da HDO.out.at_lt db L vs.length lc vs rfl HDO.out.words.lt (HLA.out x h.below)
                (fun j hj => ⟨(HNF.out j hj x _ _ _ _ _ _ h).1, (HNF.out j hj x _ _ _ _ _ _ h).2.2⟩) B TS ec da hB hTS hec rfl)
              have HBL : Hid (B.length = cs.length) := Lib.hid (by rw [← hB, outB_len])
              have HTSL : Hid (TS.length ≤ ts.length + 128) := Lib.hid (by rw [← hTS]; exact outT_len _ _ _ _ _)
              have t0 : Two 63 32 w1 P Q F5 G5 cs ts cs ts w2.drew := T6.out.drewN 1
              have E3 := Lib.hid e3
              clear hB hTS hec e3
              go_region_held3 (fun w' => w'.cell? ⟨H, 1, none⟩ = some (.int .u64 da) ∧ w'.cell? ⟨H, 2, none⟩ = some (.int .i64 db) ∧ w'.cell? ⟨H, 4, none⟩ = some (.slice L vs.length lc))
                (first | exact ⟨e1, e2, e4⟩ | (rename_i hSat _ _; exact hSat) | (rename_i hSat _ _; exact ⟨(hT2.cell (p := ⟨H, 1, none⟩) hH1 hH2).trans hSat.1, (hT2.cell (p := ⟨H, 2, none⟩) hH1 hH2).trans hSat.2.1, (hT2.cell (p := ⟨H, 4, none⟩) hH1 hH2).trans hSat.2.2⟩) | (rename_i hSat _ _; exact ⟨(hT1.cell (p := ⟨H, 1, none⟩) HH.out.1 HH.out.2.1).trans hSat.1, (hT1.cell (p := ⟨H, 2, none⟩) HH.out.1 HH.out.2.1).trans hSat.2.1, (hT1.cell (p := ⟨H, 4, none⟩) HH.out.1 HH.out.2.1).trans hSat.2.2⟩))
                (first
                  | (go_at_call 11; (with_reducible refine (qW.out _ ?hh).mono ?_); (case hh => with_reducible exact t0); rintro e wk ⟨rfl, F6, hF6, t1, hT1⟩; have hH1 := Nat.lt_of_lt_of_le HH.out.1 hT1.size)
                  | (go_at_call 12; (with_reducible refine (qR.out _ F6 ?hi).mono ?_); (case hi => with_reducible exact t1); rintro e wk2 ⟨rfl, G6, hG6, t2, hT2⟩; have hH2 := HH.out.2.2))
              rename_i hSat
              have c1 := hSat.1
              have c3 : wk2.cell? ⟨H, 3, none⟩ = some (.int .i64 dn) := (hT2.cell (p := ⟨H, 3, none⟩) hH1 hH2).trans ((hT1.cell (p := ⟨H, 3, none⟩) HH.out.1 HH.out.2.1).trans E3.out)
              have TE := Lib.hid t2.swap
              clear hSat hT1 hT2 t0 t1 t2 hF6 hG6 e1 e2 e4 qW qR
              obtain ⟨r, hr⟩ : ∃ r, thereB B.length da dn = r := ⟨_, rfl⟩
              have q16 := Lib.hid (there_quiet TE.out (by rw [HBL.out]; exact HCL.out) da HDO.out.at_lt dn r hr)
              have q17 := Lib.hid (rthere_quiet TE.out.swap (by rw [HBL.out]; exact HCL.out) da HDO.out.at_lt dn r hr)
              clear hr
              go_wp2_with fail
              go_quiet (first | (with_reducible exact q16.out _) | (with_reducible exact q17.out _))
              clear c1 c3
              go_wp2
              go_round
              case rel => exact ⟨_, _, B, TS, i + 1, succ_plain i, H60.out, by have := HTSL.out; have := HTS.out; omega, by rw [HBL.out]; exact HCS.out, TE.out.drewN nq⟩
              case measure => exact measure_plain H60.out
            | false =>
              go_wp2_with fail
              clear d0 d1 d2 d3 d4 t3 hbig
              have e1 : (wr.alloc (Obj.cells #[.bool false, .int .u64 da, .int .i64 db, .int .i64 dn, .slice L vs.length lc] 36)).cell? ⟨wr.heap.size, 1, none⟩ = some (.int .u64 da) := by simp
              have e2 : (wr.alloc (Obj.cells #[.bool false, .int .u64 da, .int .i64 db, .int .i64 dn, .slice L vs.length lc] 36)).cell? ⟨wr.heap.size, 2, none⟩ = some (.int .i64 db) := by simp
              have e3 : (wr.alloc (Obj.cells #[.bool false, .int .u64 da, .int .i64 db, .int .i64 dn, .slice L vs.length lc] 36)).cell? ⟨wr.heap.size, 3, none⟩ = some (.int .i64 dn) := by simp
              have HH : Hid (wr.heap.size < (wr.alloc (Obj.cells #[.bool false, .int .u64 da, .int .i64 db, .int .i64 dn, .slice L vs.length lc] 36)).heap.size ∧ ¬ F5 wr.heap.size ∧ ¬ G5 wr.heap.size) :=
                Lib.hid ⟨by simp, fun hf => absurd (T5.out.m.lo _ hf).2 (Nat.lt_irrefl _), fun hf => absurd (T5.out.n.lo _ hf).2 (Nat.lt_irrefl _)⟩
              generalize (wr.alloc (Obj.cells #[.bool false, .int .u64 da, .int .i64 db, .int .i64 dn, .slice L vs.length lc] 36)) = w2 at *
              generalize wr.heap.size = H at *
              obtain ⟨V, hV⟩ : ∃ V, rdV cs da db dn = V := ⟨_, rfl⟩
              obtain ⟨TS, hTS⟩ : ∃ TS, rdT cs ts da db dn = TS := ⟨_, rfl⟩
              obtain ⟨ec, hec⟩ : ∃ c, rdC cs.length da db dn = c := ⟨_, rfl⟩
              have HTSL : Hid (TS.length ≤ ts.length + 128) := Lib.hid (by rw [← hTS]; exact rdT_len _ _ _ _ _)
              have HVL : Hid (V.length ≤ 4000000) := Lib.hid (by
                rw [← hV]
                unfold rdV
                split
                · rename_i h
                  rw [rV_length]
                  simp only [Bool.and_eq_true] at h
                  have := (mayM_parts h.1).2.2
                  omega
                · simp)
              have HVV := Lib.hid hV
              have HVT := Lib.hid hTS
              have HVC := Lib.hid hec
              clear hV hTS hec
              refine (read_two T6.out HCL.out (by have := HTL.out; omega) da HDO.out.at_lt db dn V V.length TS ec da HVV.out rfl HVT.out HVC.out rfl).mono ?_
              rintro e w3 ⟨X3, cx3, F7, rfl, hF7, h7, hown3, hoff3, hT3⟩
              have c1 : w3.cell? ⟨H, 1, none⟩ = some (.int .u64 da) := (hT3.cell (p := ⟨H, 1, none⟩) HH.out.1 HH.out.2.1).trans e1
              have c2 : w3.cell? ⟨H, 2, none⟩ = some (.int .i64 db) := (hT3.cell (p := ⟨H, 2, none⟩) HH.out.1 HH.out.2.1).trans e2
              have c3 : w3.cell? ⟨H, 3, none⟩ = some (.int .i64 dn) := (hT3.cell (p := ⟨H, 3, none⟩) HH.out.1 HH.out.2.1).trans e3
              have S3 : Hid (H < w3.heap.size) := Lib.hid (Nat.lt_of_lt_of_le HH.out.1 hT3.size)
              have T7 := Lib.hid h7
              have O3 := Lib.hid hown3
              have G2 : Hid (∀ k, G5 k → k < w2.heap.size) := Lib.hid (fun k hk => (T6.out.n.lo k hk).2)
              clear e1 e2 e3 hF7 h7 hown3 hoff3 hT3 T6
              go_wp2_with fail
              refine (rread_two T7.out.swap HCL.out (by have := HTL.out; omega) da HDO.out.at_lt db dn V V.length TS ec da HVV.out rfl HVT.out HVC.out rfl).mono ?_
              rintro e w4 ⟨X4, cx4, G7, rfl, hG7, h8, hown4, hoff4, hT4⟩
              have c1 : w4.cell? ⟨H, 1, none⟩ = some (.int .u64 da) := (hT4.cell (p := ⟨H, 1, none⟩) S3.out HH.out.2.2).trans c1
              have c3 : w4.cell? ⟨H, 3, none⟩ = some (.int .i64 dn) := (hT4.cell (p := ⟨H, 3, none⟩) S3.out HH.out.2.2).trans c3
              have T8 := Lib.hid h8.swap
              have LX3 := Lib.hid (lies_own (own_turned O3.out hT4 (fun g hg hG => absurd (G2.out g hG) (Nat.not_lt.2 (O3.out.lt g hg).1))))
              have LX4 := Lib.hid (lies_own hown4)
              have C1 := Lib.hid c1
              have C3 := Lib.hid c3
              clear hG7 h8 hown4 hoff4 hT4 T7 O3 G2 c2
              clear c1 c3
              try clear c1
              try clear c3
              go_wp2_with fail
              refine (words_it X3 X4 cx3 cx4 V _ rfl HVL.out _ _ _ LX3.out LX4.out).mono ?_
              rintro e w5 ⟨rfl, m5, rfl⟩
              have TE := Lib.hid (T8.out.drewN m5)
              have c1 : (w4.drewN m5).cell? ⟨H, 1, none⟩ = some (.int .u64 da) := C1.out
              have c3 : (w4.drewN m5).cell? ⟨H, 3, none⟩ = some (.int .i64 dn) := C3.out
              clear T8 LX3 LX4 C1 C3
              generalize w4.drewN m5 = w5 at *
              obtain ⟨r, hr⟩ : ∃ r, thereB cs.length da dn = r := ⟨_, rfl⟩
              have q16 := Lib.hid (there_quiet TE.out HCL.out da HDO.out.at_lt dn r hr)
              have q17 := Lib.hid (rthere_quiet TE.out.swap HCL.out da HDO.out.at_lt dn r hr)
              clear hr
              go_wp2_with fail
              go_quiet (first | (with_reducible exact q16.out _) | (with_reducible exact q17.out _))
              clear c1 c3
              go_wp2
              go_round
              case rel => exact ⟨_, _, cs, TS, i + 1, succ_plain i, H60.out, by have := HTSL.out; have := HTS.out; omega, HCS.out, TE.out.drewN nq⟩
              case measure => exact measure_plain H60.out
        · by_cases hlt : i < ds.length
          · have h60 : ¬ i < 60 := fun h => hgo ⟨hlt, h⟩
            have HI := Lib.hid hi
            clear hi hgo
            go_wp2_with fail
            obtain ⟨A4, ca4, T4, ct4, hM⟩ := T5.out.n
            have q19 := Lib.hid (fun (w' : World) (h : Two 63 32 w1 P Q F5 G5 cs ts cs ts w') => bytes_two h rfl (show cs.length ≤ 5000 by have := HCS.out; have := HSM.out; omega))
            have q21 := Lib.hid (fun (w' : World) (h : Two 63 32 w1 P Q F5 G5 cs ts cs ts w') => trace_two h rfl (show ts.length ≤ 2000000 by have := HTS.out; have := HI.out; omega))
            have L1 : Hid (cs.length ≤ 4000000) := Lib.hid (by have := HCS.out; have := HSM.out; omega)
            have L2 : Hid (ts.length ≤ 4000000) := Lib.hid (by have := HTS.out; have := HI.out; omega)
            have s0 := end_keep ⟨T5.out, hM⟩ (below_drewN wr 1)
            clear hM
            go_region_held3 (fun w' => Two 63 32 w1 P Q F5 G5 cs ts cs ts w' ∧ MemAt 32 w' w1.heap.size Q G5 A4 ca4 T4 ct4 cs ts ∧ w'.cell? ⟨Q, 0, none⟩ = some (.slice A4 cs.length ca4) ∧ w'.cell? ⟨Q, 1, none⟩ = some (.slice T4 ts.length ct4))
              (first | exact s0 | (rename_i hSat _ _; exact hSat) | (rename_i hSat _ _; exact end_keep ⟨hSat.1, hSat.2.1⟩ (below_drewN _ _)) | (rename_i hSat _ _; exact end_keep ⟨hSat.1, hSat.2.1⟩ hbk))
              (first
                | (go_at_call 19; (with_reducible refine (q19.out _ ?hh).mono ?_); (case hh => (rename_i hSat _ _; exact hSat.1)); rintro e wk ⟨Y, cy, rfl, hownY, hbk⟩)
                | (go_at_call 18; (rename_i hSat _ _; with_reducible refine (same_is Y A4 cy ca4 cs _ _ rfl rfl L1.out _ _ _ (lies_own hownY) (lies_own hSat.2.1.ownB)).mono ?_); rintro e wk2 ⟨rfl, m18, rfl⟩)
                | (go_at_call 21; (with_reducible refine (q21.out _ ?hi).mono ?_); (case hi => (rename_i hSat _ _; exact hSat.1)); rintro e wk ⟨Z, cz, rfl, hownZ, hbk⟩)
                | (go_at_call 20; (rename_i hSat _ _; with_reducible refine (touches_it Z T4 cz ct4 ts _ rfl L2.out _ _ _ (lies_own hownZ) (lies_own hSat.2.1.ownT)).mono ?_); rintro e wk2 ⟨rfl, m20, rfl⟩))
            rename_i hSat
            have T9 := Lib.hid hSat.1
            clear hSat
            go_wp2_with fail
            go_ret
            exact ⟨rfl, HB1.out.trans (T9.out.below.mono HB1.out.size)⟩
          · have HI := Lib.hid hi
            clear hi hgo
            go_wp2_with fail
            obtain ⟨A4, ca4, T4, ct4, hM⟩ := T5.out.n
            have q19 := Lib.hid (fun (w' : World) (h : Two 63 32 w1 P Q F5 G5 cs ts cs ts w') => bytes_two h rfl (show cs.length ≤ 5000 by have := HCS.out; have := HSM.out; omega))
            have q21 := Lib.hid (fun (w' : World) (h : Two 63 32 w1 P Q F5 G5 cs ts cs ts w') => trace_two h rfl (show ts.length ≤ 2000000 by have := HTS.out; have := HI.out; omega))
            have L1 : Hid (cs.length ≤ 4000000) := Lib.hid (by have := HCS.out; have := HSM.out; omega)
            have L2 : Hid (ts.length ≤ 4000000) := Lib.hid (by have := HTS.out; have := HI.out; omega)
            have s0 := end_keep ⟨T5.out, hM⟩ (below_drewN wr 1)
            clear hM
            go_region_held3 (fun w' => Two 63 32 w1 P Q F5 G5 cs ts cs ts w' ∧ MemAt 32 w' w1.heap.size Q G5 A4 ca4 T4 ct4 cs ts ∧ w'.cell? ⟨Q, 0, none⟩ = some (.slice A4 cs.length ca4) ∧ w'.cell? ⟨Q, 1, none⟩ = some (.slice T4 ts.length ct4))
              (first | exact s0 | (rename_i hSat _ _; exact hSat) | (rename_i hSat _ _; exact end_keep ⟨hSat.1, hSat.2.1⟩ (below_drewN _ _)) | (rename_i hSat _ _; exact end_keep ⟨hSat.1, hSat.2.1⟩ hbk))
              (first
                | (go_at_call 19; (with_reducible refine (q19.out _ ?hh).mono ?_); (case hh => (rename_i hSat _ _; exact hSat.1)); rintro e wk ⟨Y, cy, rfl, hownY, hbk⟩)
                | (go_at_call 18; (rename_i hSat _ _; with_reducible refine (same_is Y A4 cy ca4 cs _ _ rfl rfl L1.out _ _ _ (lies_own hownY) (lies_own hSat.2.1.ownB)).mono ?_); rintro e wk2 ⟨rfl, m18, rfl⟩)
                | (go_at_call 21; (with_reducible refine (q21.out _ ?hi).mono ?_); (case hi => (rename_i hSat _ _; exact hSat.1)); rintro e wk ⟨Z, cz, rfl, hownZ, hbk⟩)
                | (go_at_call 20; (rename_i hSat _ _; with_reducible refine (touches_it Z T4 cz ct4 ts _ rfl L2.out _ _ _ (lies_own hownZ) (lies_own hSat.2.1.ownT)).mono ?_); rintro e wk2 ⟨rfl, m20, rfl⟩))
            rename_i hSat
            have T9 := Lib.hid hSat.1
            clear hSat
            go_wp2_with fail
            go_ret
            exact ⟨rfl, HB1.out.trans (T9.out.below.mono HB1.out.size)⟩

theorem plays_law (A : Option Addr) (cap : Nat) (bs : List Nat) (D : Option Addr) (dc : Nat) (ds : List DoV) (hA : A = none → bs.length = 0 ∧ cap = 0) (ho : Octets bs) (hdn : ds.length ≤ 9223372036854775807) (w : World)
    (hl : Lies w (fun i => i < w.heap.size) A (bs.map bv)) (hd : DosAt w D ds) :
    Calls Try.prog 3 #[.slice A bs.length cap, .slice D ds.length dc] w (GrownTrue w) := by
  rcases Nat.lt_or_ge 5000 bs.length with h | h
  · exact plays_huge A cap bs D _ dc h w
  · rcases Nat.lt_or_ge 4096 bs.length with h2 | h2
    · exact plays_big A cap bs D _ dc h2 h hA w hl
    · exact plays_small A cap bs D dc ds hA ho h2 hdn w hl hd
end Go.Proofs.Ytcnhnjbefhgaaaa
