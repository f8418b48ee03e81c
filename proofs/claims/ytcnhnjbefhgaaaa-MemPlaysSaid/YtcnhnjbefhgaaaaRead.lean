/- What (*mem.Mem).Read does. -/
import Derived.Test.YtcnhnjbefhgaaaaWrite
import Derived.ScopeJumps
import Derived.WalkMore
namespace Go.Proofs.Ytcnhnjbefhgaaaa
open Go.RowKit

theorem info33 : (Try.prog.info? 33).map (fun i => (i.zero, i.size, i.bytes)) = some (some (.int .u64 0), 1, 8) := by kernel_rfl

/-- the memory, and a slice of numbers of the call's own beside it -/
def BesideAt (ty : TypeId) (base P : Nat) (F : Nat → Prop) (A : Option Addr) (ca : Nat) (bs : List Nat) (ts : List Tch) (X : Option Addr) (cx : Nat) (vs : List Nat) (w wr : World) : Prop :=
  ∃ F' T ct, (∀ j, F' j → F j ∨ w.heap.size ≤ j) ∧ MemAt ty wr base P F' A ca T ct bs ts ∧ Turned F w wr ∧ wr.ownsRow w.heap.size 33 1 (.slice X vs.length cx) vs.length (vs.map uv) ∧ (∀ g, (Value.slice X vs.length cx).ownBlock = some g → ¬ F' g)
def Beside (ty : TypeId) (base P : Nat) (F : Nat → Prop) (bs : List Nat) (ts : List Tch) (X : Option Addr) (cx : Nat) (vs : List Nat) (w wr : World) : Prop :=
  ∃ A ca, BesideAt ty base P F A ca bs ts X cx vs w wr
/-- what Read tells, and the memory behind it -/
def ReadIs (ty : TypeId) (base P : Nat) (F : Nat → Prop) (bs : List Nat) (ts : List Tch) (vs : List Nat) (c : Int) (w : World) (e : Ending) (w' : World) : Prop :=
  ∃ X cx, e = .returned (.tuple #[.slice X vs.length cx, .int .i64 c]) ∧ Beside ty base P F bs ts X cx vs w w'
/-- at the head of a round: k numbers are read -/
def RLoop (ty : TypeId) (base P : Nat) (F : Nat → Prop) (bs : List Nat) (ts : List Tch) (a s n : Nat) (w : World) (x i : Value) (wr : World) : Prop :=
  ∃ (k : Nat) (X : Option Addr) (cx : Nat), k ≤ fit bs.length a s n ∧ i = .int .i64 k ∧ x = .slice X k cx ∧ Beside ty base P F bs (ts ++ rT bs a s k) X cx (rV bs a s k) w wr
/-- at the head of a round within: j bytes are read from f on -/
def RdIn (ty : TypeId) (base P : Nat) (F : Nat → Prop) (A : Option Addr) (ca : Nat) (bs : List Nat) (ts : List Tch) (f s : Nat) (X : Option Addr) (cx : Nat) (vs : List Nat) (w : World) (x i : Value) (wr : World) : Prop :=
  ∃ j : Nat, j ≤ s ∧ i = .int .i64 j ∧ x = .int .u64 (word bs f j : Nat) ∧ BesideAt ty base P F A ca bs (ts ++ tget bs f j) X cx vs w wr

section
variable {ty : TypeId} {base P : Nat} {F F2 : Nat → Prop} {A T X : Option Addr} {ca ct cx : Nat} {bs : List Nat} {TS : List Tch} {vs : List Nat} {w wr w1 : World}
/-- a touch is appended to the trace -/
theorem beside_push (hF2 : ∀ i, F2 i → F i ∨ w.heap.size ≤ i) (hat : MemAt ty wr base P F2 A ca T ct bs TS) (htur : Turned F w wr) (hown : wr.ownsRow w.heap.size 33 1 (.slice X vs.length cx) vs.length (vs.map uv)) (hoff : ∀ g, (Value.slice X vs.length cx).ownBlock = some g → ¬ F2 g)
    (o : Obj) (t : Tch) {g cap : Nat} (hown1 : w1.ownsRow base 49 3 (.slice (some ⟨g, 0, none⟩) (TS.length + 1) cap) (TS.length + 1) (tvs TS ++ tv t))
    (hg : (wr.alloc o).grownBy w1 (Value.slice T TS.length ct).ownBlock) (hat3 : (Value.slice T TS.length ct).ownBlock = some g ∨ g = wr.heap.size + 1) :
    BesideAt ty base P F A ca bs (TS ++ [t]) X cx vs w (w1.setCell ⟨P, 1, none⟩ (.slice (some ⟨g, 0, none⟩) (TS.length + 1) cap)) := by
  have R := hat.push o t hown1 hg hat3
  refine ⟨fun i => F2 i ∨ i = g, _, _, ?_, R.1, htur.trans R.2 hF2, own_turned hown R.2 hoff, ?_⟩
  · intro i hi
    rcases hi with hi | rfl
    · exact hF2 i hi
    · rcases hat3 with e | e
      · exact hF2 i (hat.inT i e)
      · have := htur.size; exact .inr (by omega)
  · intro i hi hor
    rcases hor with h | rfl
    · exact hoff i hi h
    · rcases hat3 with e | e
      · exact hoff i hi (hat.inT i e)
      · have := (hown.lt i hi).2; omega
/-- a number is appended to the slice -/
theorem beside_app (v : Nat) (h : BesideAt ty base P F A ca bs TS X cx vs w wr) (o : Obj) {g cap : Nat} (hown1 : w1.ownsRow w.heap.size 33 1 (.slice (some ⟨g, 0, none⟩) (vs.length + 1) cap) (vs.length + 1) (vs.map uv ++ [uv v]))
    (hg : (wr.alloc o).grownBy w1 (Value.slice X vs.length cx).ownBlock) (hat3 : (Value.slice X vs.length cx).ownBlock = some g ∨ g = wr.heap.size + 1) :
    BesideAt ty base P F A ca bs TS (some ⟨g, 0, none⟩) cap (vs ++ [v]) w w1 := by
  obtain ⟨F2, T, ct, hF2, hat, htur, hown, hoff⟩ := h
  have t1 : Turned (fun i => (Value.slice X vs.length cx).ownBlock = some i) wr w1 := ((Turned.alloc wr o).more (fun _ _ hf => hf.elim)).trans (Turned.of_grown hg) (fun i hi => .inl hi)
  refine ⟨F2, T, ct, hF2, hat.apart t1 (fun i hi e => hoff i e hi), ?_, ?_, ?_⟩
  · refine ⟨t1.os.trans htur.os, t1.tape.trans htur.tape, t1.output.trans htur.output, Nat.le_trans htur.size t1.size, fun i hi hF => ?_⟩
    by_cases e : (Value.slice X vs.length cx).ownBlock = some i
    · have := (hown.lt i e).1; omega
    · exact (t1.block i (Nat.lt_of_lt_of_le hi htur.size) e).trans (htur.block i hi hF)
  · simpa using hown1
  · intro i hi
    simp [Value.ownBlock] at hi
    subst hi
    intro hF
    rcases hat3 with e | e
    · exact hoff _ e hF
    · have := (hat.lo _ hF).2; omega
end

theorem news_word (W : World) (H : Nat) (hH : W.heap.size = H) (v : Nat) : ∀ j u, ([uv v] : List Value)[j]? = some u → (W.alloc (.cells #[.int .u64 (v : Int)] 33)).cell? ((⟨H, 0, none⟩ : Addr).add j) = some u := by
  subst hH
  exact World.news_of_block (cs := #[.int .u64 (v : Int)]) (t := 33) (fr := (0, 0)) (heap_alloc_new W _)
theorem uv_one (v : Nat) : ∀ u ∈ ([uv v] : List Value), u.oneCell' = true := by
  intro u hu
  simp at hu
  subst hu
  rfl
theorem put_two (tm : Array Value) (h : tm.size = 88) (x y : Value) : ((tm.setIfInBounds 8 x).setIfInBounds 9 y).getD 8 undef = x ∧ ((tm.setIfInBounds 8 x).setIfInBounds 9 y).getD 9 undef = y := by
  constructor <;> simp [Array.getD, h]
/-- the next byte of a number, as the walk spells it -/
theorem or_int (bs : List Nat) (ho : Octets bs) (f j v c : Nat) (hj : j < 8) (hv : word bs f j = v) (hc : bs.getD (f + j) 0 = c) : bits .or .u64 (v : Int) (IntKind.u64.wrap ((c : Int) * 2 ^ (8 * j))) = ((word bs f (j + 1) : Nat) : Int) := by
  have hc8 : c < 256 := by rw [← hc]; exact ho.get _
  have hp : 2 ^ (8 * j) ≤ 2 ^ 56 := Nat.pow_le_pow_right (by decide) (by omega)
  have hm : c * 2 ^ (8 * j) ≤ 255 * 2 ^ 56 := Nat.mul_le_mul (by omega) hp
  have hvl : v < 2 ^ 56 := by rw [← hv]; exact Nat.lt_of_lt_of_le (word_lt ho f j) hp
  have e : IntKind.u64.wrap ((c : Int) * 2 ^ (8 * j)) = ((c * 2 ^ (8 * j) : Nat) : Int) := by
    rw [u64_wrap, Int.natCast_mul, Int.natCast_pow]
    have : ((c * 2 ^ (8 * j) : Nat) : Int) = (c : Int) * 2 ^ (8 * j) := by rw [Int.natCast_mul, Int.natCast_pow]; rfl
    have e2 : (((2 : Nat) : Int)) ^ (8 * j) = 2 ^ (8 * j) := rfl
    rw [e2, ← this]
    omega
  rw [e, u64_or_nat _ _ (by omega) (by omega), ← hv, ← hc, word_or ho]

theorem read_arg {w : World} {base P : Nat} {F : Nat → Prop} {bs : List Nat} {ts : List Tch} (h : MemIs 63 w base P F bs ts) (a : Nat) (b n : Int) (hm : mayM b n = false) :
    Calls Try.prog 13 #[.pointer (some ⟨P, 0, none⟩), .int .u64 a, .int .i64 b, .int .i64 n] w (ReadIs 63 base P F bs ts [] 1 w) := by
  have HM := Lib.hid h
  have HB := Lib.hid hm
  clear h hm
  go_enter Try.func13, Try.ntmps13
  go_wp2_with fail
  go_step3
  go_wp2_with fail
  refine (may_any _ _ _).mono ?_
  rw [HB.out]
  rintro e w' ⟨rfl, rfl⟩
  go_wp2_with fail
  rw [Exit.noGoto_ret]
  go_ret2
  obtain ⟨A0, ca0, T0, ct0, h0⟩ := HM.out
  exact ⟨none, 0, rfl, A0, ca0, F, T0, ct0, fun i hi => .inl hi, h0, Turned.refl _ _, World.ownsRow_nil _ _ _ _, fun g hg => by cases hg⟩

/-- where the trap is met: how the slots lie, and what the memory is -/
def AtTrap (base P : Nat) (F : Nat → Prop) (bs : List Nat) (ts : List Tch) (q n _a : Nat) (_b : Int) (w : World) (a' : Act) (w' : World) : Prop :=
  q ≠ n ∧ (∃ F', (∀ j, F' j → F j ∨ w.heap.size ≤ j) ∧ MemIs 63 w' base P F' bs ts ∧ Turned F w w') ∧ a'.defers = [] ∧ a'.tmps.size = 88

set_option maxHeartbeats 4000000 in
set_option maxRecDepth 100000 in
theorem read_1 {w : World} {base P : Nat} {F : Nat → Prop} {bs : List Nat} {ts : List Tch} (h : MemIs 63 w base P F bs ts) (hbase : base ≤ w.heap.size) (hn : bs.length ≤ 5000) (ht : ts.length ≤ 1000000) (a : Nat) (ha : a < 18446744073709551616)
    (n : Nat) (hlen : n ≤ 16) (q : Nat) (hq : fit bs.length a 1 n = q) (c : Int) (vs : List Nat) (hc : (q = n ∧ c = 0 ∧ vs = rV bs a 1 n) ∨ (q ≠ n ∧ c = 8 ∧ vs = [])) :
    Calls Try.prog 13 #[.pointer (some ⟨P, 0, none⟩), .int .u64 a, .int .i64 8, .int .i64 n] w (ReadIs 63 base P F bs (ts ++ rT bs a 1 q) vs c w) := by
  have HM := Lib.hid h
  have HB : Hid (mayM 8 n = true) := Lib.hid (by simp [mayM, wid]; omega)
  have HA := Lib.hid ha
  have HQ := Lib.hid hq
  have HC := Lib.hid hc
  clear h ha hq hc
  obtain ⟨i0, hi0, hz0, hz1, hz2⟩ := info_parts info49
  obtain ⟨k0, ki0, kz0, kz1, kz2⟩ := info_parts info33
  go_enter Try.func13, Try.ntmps13
  go_wp2_with fail
  refine wp_scope_jumps 0 (AtTrap base P F bs (ts ++ rT bs a 1 q) q n a 8 w) (fun _ _ => 0) rfl ?_ ?_
  · go_wp2_with fail
    refine (may_any _ _ _).mono ?_
    rw [HB.out]
    rintro e w' ⟨rfl, rfl⟩
    go_wp2_with fail
    go_loopw [10, 24] (fun x i wr => RLoop 63 base P F bs ts a 1 n w x i wr) (fun _ i _ => n - (intOf i).toNat)
    case atStart => 
      obtain ⟨A0, ca0, T0, ct0, h0⟩ := HM.out
      exact ⟨0, none, 0, Nat.zero_le _, rfl, rfl, A0, ca0, F, T0, ct0, fun j hj => .inl hj, by simpa [rT] using h0, Turned.refl _ _, World.ownsRow_nil _ _ _ _, fun g hg => by cases hg⟩
    case round =>
      obtain ⟨k, X, cx, hk, rfl, rfl, hbes⟩ := hrel
      have hkl : k ≤ n := Nat.le_trans hk (fit_le _ _ _ _)
      have HBES := Lib.hid hbes
      have HK := Lib.hid hk
      clear hbes hk
      by_cases hlt : k < n
      · obtain ⟨f, hf⟩ : ∃ f : Nat, (a + k * 1) % 18446744073709551616 = f := ⟨_, rfl⟩
        have e1 : IntKind.u64.wrap ((a : Int) + (k : Int)) = (f : Int) := by simpa using wrap_add a (k * 1) f hf
        have HFL : Hid (f < 18446744073709551616) := Lib.hid (by rw [← hf]; exact Nat.mod_lt _ (by decide))
        obtain ⟨A0, ca0, hbat⟩ := HBES.out
        have HBAT := Lib.hid hbat
        obtain ⟨F1, T0, ct0, hF1, hat0, htur, hown, hoff⟩ := hbat
        by_cases hfit : a + (k + 1) * 1 ≤ bs.length
        · have hps3 := first_at a (k * 1) 1 bs.length f HA.out hf (by rw [Nat.add_mul, Nat.one_mul] at hfit; exact hfit) hn
          have t1 : decide (f < a) = false := by simpa using hps3.2.2
          have HT : Hid (thereB bs.length f 1 = true) := Lib.hid (by unfold thereB; simp; omega)
          obtain ⟨g, rfl, hgF, hgP, hle, hcap⟩ := hat0.formA (by omega)
          have c0 := hat0.cell0
          have HAT0 := Lib.hid hat0
          have HFP : Hid (f = a + k * 1) := Lib.hid hps3.1
          have HFS := hps3.2.1
          have HFIT := Lib.hid hfit
          have hcf : (ca0 == f) = false := by simp; omega
          clear hf hps3 hfit hat0 hF1 htur hown hoff hgP
          go_wp2_with fail
          refine (there_any HAT0.out hn f HFL.out 1 true HT.out).mono ?_
          rintro e w' ⟨rfl, rfl⟩
          go_wp2_with fail
          clear t1 c0 hcf
          (try simp only [Nat.add_sub_cancel_left])
          go_loopw [13, 54] (fun x i wr => RdIn 63 base P F (some ⟨g, 0, none⟩) ca0 bs (ts ++ rT bs a 1 k) f 1 X cx (rV bs a 1 k) w x i wr) (fun _ i _ => 1 - (intOf i).toNat)
          case atStart => exact ⟨0, Nat.zero_le _, rfl, rfl, by simpa [tget] using HBAT.out⟩
          case round =>
            obtain ⟨j, hj, rfl, rfl, hbat2⟩ := hrel
            have HBAT2 := Lib.hid hbat2
            obtain ⟨v, hv⟩ : ∃ v, word bs f j = v := ⟨_, rfl⟩
            rw [hv]
            by_cases hjlt : j < 1
            · obtain ⟨F2, T, ct, hF2, hat, htur2, hown2, hoff2⟩ := hbat2
              obtain ⟨TS, hTS⟩ : ∃ TS, (ts ++ rT bs a 1 k) ++ tget bs f j = TS := ⟨_, rfl⟩
              obtain ⟨cc, hcc⟩ : ∃ cc, bs.getD (f + j) 0 = cc := ⟨_, rfl⟩
              rw [hTS] at hat
              have hTl : TS.length ≤ 1000200 := by rw [← hTS]; simp; omega
              have hfj : f + j < bs.length := by omega
              have b1 := hat.byteCell hfj
              rw [hcc] at b1
              have d1 := hat.cell1
              have hc8 : cc < 256 := by rw [← hcc]; exact hat.oct.get _
              have e5 := or_int bs hat.oct f j v cc (by omega) hv hcc
              have HAT := Lib.hid hat
              have HF2 := Lib.hid hF2
              have HTUR2 := Lib.hid htur2
              have HOWN2 := Lib.hid hown2
              have HOFF2 := Lib.hid hoff2
              have HTS := Lib.hid hTS
              have HCC := Lib.hid hcc
              clear hF2 htur2 hat hown2 hoff2 hTS hcc hv HBAT2 HBAT
              go_wp2_with (at_builtin; refine wpList_append_lies _ rfl _ _ 30 rfl base 49 i0 _ 3 24 Try.underlying30 hi0 hz0 hz1 hz2 rfl (by decide) _ TS.length (tvs TS) rfl (HAT.out.ownT.alloc _) _ 1 1 (tv (false, f + j, cc)) rfl (by rfl) ?c1 ?c2 (by decide) ?c3 ?c4 ?c5 _ rfl ?_)
              case c1 => exact news_touch _ _ rfl (false, f + j, cc) _ (by simp)
              case c2 => exact tv_one _
              case c3 => unfold maxLen; omega
              case c4 => omega
              case c5 => have := HTUR2.out.size; simp; omega
              intro gg cap1 w1 hown1 hgrow hat3 _
              obtain ⟨q1, q2, _⟩ := HAT.out.after _ hgrow
              have NEXT : Hid (RdIn 63 base P F (some ⟨g, 0, none⟩) ca0 bs (ts ++ rT bs a 1 k) f 1 X cx (rV bs a 1 k) w (.int .u64 ((word bs f (j + 1) : Nat) : Int)) (.int .i64 ((j + 1 : Nat) : Int)) (w1.setCell ⟨P, 1, none⟩ (.slice (some ⟨gg, 0, none⟩) (TS.length + 1) cap1))) := Lib.hid (by
                have h1 := beside_push HF2.out HAT.out HTUR2.out HOWN2.out HOFF2.out _ (false, f + j, cc) hown1 hgrow hat3
                refine ⟨j + 1, by omega, rfl, rfl, ?_⟩
                have e : ts ++ rT bs a 1 k ++ tget bs f (j + 1) = TS ++ [(false, f + j, cc)] := by rw [← HTS.out, ← HCC.out, tget, List.append_assoc (ts ++ rT bs a 1 k)]
                rw [e]
                exact h1)
              clear hown1 hgrow hat3 b1 d1 e5
              go_wp2_with fail
              go_roundw
              case rel => exact NEXT.out
              case measure => simp [intOf]; omega
            · obtain rfl : j = 1 := by omega
              have hXl : (rV bs a 1 k).length = k := by simp
              obtain ⟨F2, T, ct, hF2, hat, htur2, hown2, hoff2⟩ := hbat2
              have HZ := htur2.size
              have HOWN2 := Lib.hid hown2
              rw [hXl] at HOWN2
              have HV := Lib.hid hv
              clear hF2 hat htur2 hown2 hoff2 hv hXl
              go_wp2_with (at_builtin; refine wpList_append_lies _ rfl _ _ 34 rfl w.heap.size 33 k0 _ 1 8 Try.underlying34 ki0 kz0 kz1 kz2 rfl (by decide) _ k ((rV bs a 1 k).map uv) rfl (HOWN2.out.alloc _) _ 1 1 [uv v] rfl (by rfl) ?d1 ?d2 (by decide) ?d3 ?d4 ?d5 _ rfl ?_)
              case d1 => exact news_word _ _ rfl v
              case d2 => exact uv_one v
              case d3 => unfold maxLen; omega
              case d4 => omega
              case d5 => simp; omega
              intro gg cap1 w1 hown1 hgrow hat3 _
              have NEXT : Hid (RLoop 63 base P F bs ts a 1 n w (.slice (some ⟨gg, 0, none⟩) (k + 1) cap1) (.int .i64 ((k + 1 : Nat) : Int)) w1) := Lib.hid (by
                have hXl : (rV bs a 1 k).length = k := by simp
                have h1 : BesideAt 63 base P F (some ⟨g, 0, none⟩) ca0 bs (ts ++ rT bs a 1 k ++ tget bs f 1) (some ⟨gg, 0, none⟩) cap1 (rV bs a 1 k ++ [v]) w w1 := by
                  refine beside_app v HBAT2.out (Obj.cells #[.int .u64 (v : Int)] 33) ?_ ?_ ?_
                  · rw [hXl]; exact hown1
                  · rw [hXl]; exact hgrow
                  · rw [hXl]; exact hat3
                refine ⟨k + 1, some ⟨gg, 0, none⟩, cap1, (lt_fit (by decide) hlt).2 HFIT.out, rfl, rfl, some ⟨g, 0, none⟩, ca0, ?_⟩
                have e : ts ++ rT bs a 1 (k + 1) = ts ++ rT bs a 1 k ++ tget bs f 1 := by rw [HFP.out, rT, List.append_assoc]
                have e2 : rV bs a 1 (k + 1) = rV bs a 1 k ++ [v] := by rw [← HV.out, HFP.out, rV]
                rw [e, e2]
                exact h1)
              clear hown1 hgrow hat3 HZ
              go_wp2_with fail
              go_roundw
              case rel => exact NEXT.out
              case measure => simp [intOf]; omega
        · have HQK : Hid (q = k) := Lib.hid (by rw [← HQ.out]; exact fit_stop (by decide) HK.out hlt hfit)
          have TRAP : Hid (q ≠ n ∧ (∃ F', (∀ j, F' j → F j ∨ w.heap.size ≤ j) ∧ MemIs 63 wr base P F' bs (ts ++ rT bs a 1 q) ∧ Turned F w wr)) := Lib.hid (by
            refine ⟨by rw [HQK.out]; omega, F1, hF1, ?_, htur⟩
            rw [HQK.out]
            exact ⟨_, _, _, _, hat0⟩)
          have hor := first_out a (k * 1) 1 bs.length f (by omega) HA.out hf (by rw [Nat.add_mul, Nat.one_mul] at hfit; exact hfit)
          have HAT0 := Lib.hid hat0
          rcases hor with hlt1 | ⟨hge, hnot⟩
          · have t1 : decide (f < a) = true := by simpa using hlt1
            clear hf hfit hlt1 hF1 hat0 htur hown hoff
            go_wp2_with fail
            go_step3
            exact (show (0 : Nat) = 0 ∧ AtTrap base P F bs (ts ++ rT bs a 1 q) q n a 8 w _ _ from ⟨rfl, TRAP.out.1, TRAP.out.2, rfl, rfl⟩)
          · have t1 : decide (f < a) = false := by simpa using hge
            have HT : Hid (thereB bs.length f 1 = false) := Lib.hid (by unfold thereB; simp; omega)
            clear hf hfit hge hnot hF1 hat0 htur hown hoff
            go_wp2_with fail
            refine (there_any HAT0.out hn f HFL.out 1 false HT.out).mono ?_
            rintro e w' ⟨rfl, rfl⟩
            go_wp2_with fail
            go_step3
            exact (show (0 : Nat) = 0 ∧ AtTrap base P F bs (ts ++ rT bs a 1 q) q n a 8 w _ _ from ⟨rfl, TRAP.out.1, TRAP.out.2, rfl, rfl⟩)
      · have HKL : Hid (k = n) := Lib.hid (by omega)
        have HQK : Hid (q = k) := Lib.hid (by have h1 := HK.out; have h2 := fit_le bs.length a 1 n; rw [HQ.out] at h1 h2; omega)
        have HC0 : Hid (c = 0 ∧ vs = rV bs a 1 n) := Lib.hid (by rcases HC.out with h | h; exact h.2; exact absurd (HQK.out.trans HKL.out) h.1)
        go_wp2_with fail
        simp only [Exit.jump]
        go_ret2
        exact ⟨X, cx, by rw [HC0.out.1, HC0.out.2, rV_length, HKL.out]; rfl, by rw [HQK.out, HC0.out.2, ← HKL.out]; exact HBES.out⟩
  · rintro a' w' ⟨hne, ⟨F1, hF1, hmem, htur⟩, hdef, hsz⟩
    obtain ⟨tm, df⟩ := a'
    simp only at hdef hsz
    subst hdef
    have HF1 := Lib.hid hF1
    have HMEM := Lib.hid hmem
    have HTUR := Lib.hid htur
    have HC8 : Hid (c = 8 ∧ vs = []) := Lib.hid (by rcases HC.out with h | h; exact absurd h.1 hne; exact h.2)
    clear hF1 hmem htur hne
    go_wp2_with fail
    simp only [Exit.jump]
    go_ret2
    simp only [(put_two tm hsz _ _).1, (put_two tm hsz _ _).2]
    obtain ⟨A0, ca0, T0, ct0, h0⟩ := HMEM.out
    exact ⟨none, 0, by rw [HC8.out.1, HC8.out.2]; rfl, A0, ca0, F1, T0, ct0, HF1.out, h0, HTUR.out, by rw [HC8.out.2]; exact World.ownsRow_nil _ _ _ _, fun g hg => by cases hg⟩

set_option maxHeartbeats 4000000 in
set_option maxRecDepth 100000 in
theorem read_2 {w : World} {base P : Nat} {F : Nat → Prop} {bs : List Nat} {ts : List Tch} (h : MemIs 63 w base P F bs ts) (hbase : base ≤ w.heap.size) (hn : bs.length ≤ 5000) (ht : ts.length ≤ 1000000) (a : Nat) (ha : a < 18446744073709551616)
    (n : Nat) (hlen : n ≤ 16) (q : Nat) (hq : fit bs.length a 2 n = q) (c : Int) (vs : List Nat) (hc : (q = n ∧ c = 0 ∧ vs = rV bs a 2 n) ∨ (q ≠ n ∧ c = 8 ∧ vs = [])) :
    Calls Try.prog 13 #[.pointer (some ⟨P, 0, none⟩), .int .u64 a, .int .i64 16, .int .i64 n] w (ReadIs 63 base P F bs (ts ++ rT bs a 2 q) vs c w) := by
  have HM := Lib.hid h
  have HB : Hid (mayM 16 n = true) := Lib.hid (by simp [mayM, wid]; omega)
  have HA := Lib.hid ha
  have HQ := Lib.hid hq
  have HC := Lib.hid hc
  clear h ha hq hc
  obtain ⟨i0, hi0, hz0, hz1, hz2⟩ := info_parts info49
  obtain ⟨k0, ki0, kz0, kz1, kz2⟩ := info_parts info33
  go_enter Try.func13, Try.ntmps13
  go_wp2_with fail
  refine wp_scope_jumps 0 (AtTrap base P F bs (ts ++ rT bs a 2 q) q n a 16 w) (fun _ _ => 0) rfl ?_ ?_
  · go_wp2_with fail
    refine (may_any _ _ _).mono ?_
    rw [HB.out]
    rintro e w' ⟨rfl, rfl⟩
    go_wp2_with fail
    go_loopw [10, 24] (fun x i wr => RLoop 63 base P F bs ts a 2 n w x i wr) (fun _ i _ => n - (intOf i).toNat)
    case atStart => 
      obtain ⟨A0, ca0, T0, ct0, h0⟩ := HM.out
      exact ⟨0, none, 0, Nat.zero_le _, rfl, rfl, A0, ca0, F, T0, ct0, fun j hj => .inl hj, by simpa [rT] using h0, Turned.refl _ _, World.ownsRow_nil _ _ _ _, fun g hg => by cases hg⟩
    case round =>
      obtain ⟨k, X, cx, hk, rfl, rfl, hbes⟩ := hrel
      have hkl : k ≤ n := Nat.le_trans hk (fit_le _ _ _ _)
      have HBES := Lib.hid hbes
      have HK := Lib.hid hk
      clear hbes hk
      by_cases hlt : k < n
      · obtain ⟨f, hf⟩ : ∃ f : Nat, (a + k * 2) % 18446744073709551616 = f := ⟨_, rfl⟩
        have e1 : IntKind.u64.wrap ((a : Int) + (k : Int) * 2) = (f : Int) := by simpa using wrap_add a (k * 2) f hf
        have HFL : Hid (f < 18446744073709551616) := Lib.hid (by rw [← hf]; exact Nat.mod_lt _ (by decide))
        obtain ⟨A0, ca0, hbat⟩ := HBES.out
        have HBAT := Lib.hid hbat
        obtain ⟨F1, T0, ct0, hF1, hat0, htur, hown, hoff⟩ := hbat
        by_cases hfit : a + (k + 1) * 2 ≤ bs.length
        · have hps3 := first_at a (k * 2) 2 bs.length f HA.out hf (by rw [Nat.add_mul, Nat.one_mul] at hfit; exact hfit) hn
          have t1 : decide (f < a) = false := by simpa using hps3.2.2
          have HT : Hid (thereB bs.length f 2 = true) := Lib.hid (by unfold thereB; simp; omega)
          obtain ⟨g, rfl, hgF, hgP, hle, hcap⟩ := hat0.formA (by omega)
          have c0 := hat0.cell0
          have HAT0 := Lib.hid hat0
          have HFP : Hid (f = a + k * 2) := Lib.hid hps3.1
          have HFS := hps3.2.1
          have HFIT := Lib.hid hfit
          have hcf : (ca0 == f) = false := by simp; omega
          clear hf hps3 hfit hat0 hF1 htur hown hoff hgP
          go_wp2_with fail
          refine (there_any HAT0.out hn f HFL.out 2 true HT.out).mono ?_
          rintro e w' ⟨rfl, rfl⟩
          go_wp2_with fail
          clear t1 c0 hcf
          (try simp only [Nat.add_sub_cancel_left])
          go_loopw [13, 54] (fun x i wr => RdIn 63 base P F (some ⟨g, 0, none⟩) ca0 bs (ts ++ rT bs a 2 k) f 2 X cx (rV bs a 2 k) w x i wr) (fun _ i _ => 2 - (intOf i).toNat)
          case atStart => exact ⟨0, Nat.zero_le _, rfl, rfl, by simpa [tget] using HBAT.out⟩
          case round =>
            obtain ⟨j, hj, rfl, rfl, hbat2⟩ := hrel
            have HBAT2 := Lib.hid hbat2
            obtain ⟨v, hv⟩ : ∃ v, word bs f j = v := ⟨_, rfl⟩
            rw [hv]
            by_cases hjlt : j < 2
            · obtain ⟨F2, T, ct, hF2, hat, htur2, hown2, hoff2⟩ := hbat2
              obtain ⟨TS, hTS⟩ : ∃ TS, (ts ++ rT bs a 2 k) ++ tget bs f j = TS := ⟨_, rfl⟩
              obtain ⟨cc, hcc⟩ : ∃ cc, bs.getD (f + j) 0 = cc := ⟨_, rfl⟩
              rw [hTS] at hat
              have hTl : TS.length ≤ 1000200 := by rw [← hTS]; simp; omega
              have hfj : f + j < bs.length := by omega
              have b1 := hat.byteCell hfj
              rw [hcc] at b1
              have d1 := hat.cell1
              have hc8 : cc < 256 := by rw [← hcc]; exact hat.oct.get _
              have e5 := or_int bs hat.oct f j v cc (by omega) hv hcc
              have HAT := Lib.hid hat
              have HF2 := Lib.hid hF2
              have HTUR2 := Lib.hid htur2
              have HOWN2 := Lib.hid hown2
              have HOFF2 := Lib.hid hoff2
              have HTS := Lib.hid hTS
              have HCC := Lib.hid hcc
              clear hF2 htur2 hat hown2 hoff2 hTS hcc hv HBAT2 HBAT
              go_wp2_with (at_builtin; refine wpList_append_lies _ rfl _ _ 30 rfl base 49 i0 _ 3 24 Try.underlying30 hi0 hz0 hz1 hz2 rfl (by decide) _ TS.length (tvs TS) rfl (HAT.out.ownT.alloc _) _ 1 1 (tv (false, f + j, cc)) rfl (by rfl) ?c1 ?c2 (by decide) ?c3 ?c4 ?c5 _ rfl ?_)
              case c1 => exact news_touch _ _ rfl (false, f + j, cc) _ (by simp)
              case c2 => exact tv_one _
              case c3 => unfold maxLen; omega
              case c4 => omega
              case c5 => have := HTUR2.out.size; simp; omega
              intro gg cap1 w1 hown1 hgrow hat3 _
              obtain ⟨q1, q2, _⟩ := HAT.out.after _ hgrow
              have NEXT : Hid (RdIn 63 base P F (some ⟨g, 0, none⟩) ca0 bs (ts ++ rT bs a 2 k) f 2 X cx (rV bs a 2 k) w (.int .u64 ((word bs f (j + 1) : Nat) : Int)) (.int .i64 ((j + 1 : Nat) : Int)) (w1.setCell ⟨P, 1, none⟩ (.slice (some ⟨gg, 0, none⟩) (TS.length + 1) cap1))) := Lib.hid (by
                have h1 := beside_push HF2.out HAT.out HTUR2.out HOWN2.out HOFF2.out _ (false, f + j, cc) hown1 hgrow hat3
                refine ⟨j + 1, by omega, rfl, rfl, ?_⟩
                have e : ts ++ rT bs a 2 k ++ tget bs f (j + 1) = TS ++ [(false, f + j, cc)] := by rw [← HTS.out, ← HCC.out, tget, List.append_assoc (ts ++ rT bs a 2 k)]
                rw [e]
                exact h1)
              clear hown1 hgrow hat3 b1 d1 e5
              go_wp2_with fail
              go_roundw
              case rel => exact NEXT.out
              case measure => simp [intOf]; omega
            · obtain rfl : j = 2 := by omega
              have hXl : (rV bs a 2 k).length = k := by simp
              obtain ⟨F2, T, ct, hF2, hat, htur2, hown2, hoff2⟩ := hbat2
              have HZ := htur2.size
              have HOWN2 := Lib.hid hown2
              rw [hXl] at HOWN2
              have HV := Lib.hid hv
              clear hF2 hat htur2 hown2 hoff2 hv hXl
              go_wp2_with (at_builtin; refine wpList_append_lies _ rfl _ _ 34 rfl w.heap.size 33 k0 _ 1 8 Try.underlying34 ki0 kz0 kz1 kz2 rfl (by decide) _ k ((rV bs a 2 k).map uv) rfl (HOWN2.out.alloc _) _ 1 1 [uv v] rfl (by rfl) ?d1 ?d2 (by decide) ?d3 ?d4 ?d5 _ rfl ?_)
              case d1 => exact news_word _ _ rfl v
              case d2 => exact uv_one v
              case d3 => unfold maxLen; omega
              case d4 => omega
              case d5 => simp; omega
              intro gg cap1 w1 hown1 hgrow hat3 _
              have NEXT : Hid (RLoop 63 base P F bs ts a 2 n w (.slice (some ⟨gg, 0, none⟩) (k + 1) cap1) (.int .i64 ((k + 1 : Nat) : Int)) w1) := Lib.hid (by
                have hXl : (rV bs a 2 k).length = k := by simp
                have h1 : BesideAt 63 base P F (some ⟨g, 0, none⟩) ca0 bs (ts ++ rT bs a 2 k ++ tget bs f 2) (some ⟨gg, 0, none⟩) cap1 (rV bs a 2 k ++ [v]) w w1 := by
                  refine beside_app v HBAT2.out (Obj.cells #[.int .u64 (v : Int)] 33) ?_ ?_ ?_
                  · rw [hXl]; exact hown1
                  · rw [hXl]; exact hgrow
                  · rw [hXl]; exact hat3
                refine ⟨k + 1, some ⟨gg, 0, none⟩, cap1, (lt_fit (by decide) hlt).2 HFIT.out, rfl, rfl, some ⟨g, 0, none⟩, ca0, ?_⟩
                have e : ts ++ rT bs a 2 (k + 1) = ts ++ rT bs a 2 k ++ tget bs f 2 := by rw [HFP.out, rT, List.append_assoc]
                have e2 : rV bs a 2 (k + 1) = rV bs a 2 k ++ [v] := by rw [← HV.out, HFP.out, rV]
                rw [e, e2]
                exact h1)
              clear hown1 hgrow hat3 HZ
              go_wp2_with fail
              go_roundw
              case rel => exact NEXT.out
              case measure => simp [intOf]; omega
        · have HQK : Hid (q = k) := Lib.hid (by rw [← HQ.out]; exact fit_stop (by decide) HK.out hlt hfit)
          have TRAP : Hid (q ≠ n ∧ (∃ F', (∀ j, F' j → F j ∨ w.heap.size ≤ j) ∧ MemIs 63 wr base P F' bs (ts ++ rT bs a 2 q) ∧ Turned F w wr)) := Lib.hid (by
            refine ⟨by rw [HQK.out]; omega, F1, hF1, ?_, htur⟩
            rw [HQK.out]
            exact ⟨_, _, _, _, hat0⟩)
          have hor := first_out a (k * 2) 2 bs.length f (by omega) HA.out hf (by rw [Nat.add_mul, Nat.one_mul] at hfit; exact hfit)
          have HAT0 := Lib.hid hat0
          rcases hor with hlt1 | ⟨hge, hnot⟩
          · have t1 : decide (f < a) = true := by simpa using hlt1
            clear hf hfit hlt1 hF1 hat0 htur hown hoff
            go_wp2_with fail
            go_step3
            exact (show (0 : Nat) = 0 ∧ AtTrap base P F bs (ts ++ rT bs a 2 q) q n a 16 w _ _ from ⟨rfl, TRAP.out.1, TRAP.out.2, rfl, rfl⟩)
          · have t1 : decide (f < a) = false := by simpa using hge
            have HT : Hid (thereB bs.length f 2 = false) := Lib.hid (by unfold thereB; simp; omega)
            clear hf hfit hge hnot hF1 hat0 htur hown hoff
            go_wp2_with fail
            refine (there_any HAT0.out hn f HFL.out 2 false HT.out).mono ?_
            rintro e w' ⟨rfl, rfl⟩
            go_wp2_with fail
            go_step3
            exact (show (0 : Nat) = 0 ∧ AtTrap base P F bs (ts ++ rT bs a 2 q) q n a 16 w _ _ from ⟨rfl, TRAP.out.1, TRAP.out.2, rfl, rfl⟩)
      · have HKL : Hid (k = n) := Lib.hid (by omega)
        have HQK : Hid (q = k) := Lib.hid (by have h1 := HK.out; have h2 := fit_le bs.length a 2 n; rw [HQ.out] at h1 h2; omega)
        have HC0 : Hid (c = 0 ∧ vs = rV bs a 2 n) := Lib.hid (by rcases HC.out with h | h; exact h.2; exact absurd (HQK.out.trans HKL.out) h.1)
        go_wp2_with fail
        simp only [Exit.jump]
        go_ret2
        exact ⟨X, cx, by rw [HC0.out.1, HC0.out.2, rV_length, HKL.out]; rfl, by rw [HQK.out, HC0.out.2, ← HKL.out]; exact HBES.out⟩
  · rintro a' w' ⟨hne, ⟨F1, hF1, hmem, htur⟩, hdef, hsz⟩
    obtain ⟨tm, df⟩ := a'
    simp only at hdef hsz
    subst hdef
    have HF1 := Lib.hid hF1
    have HMEM := Lib.hid hmem
    have HTUR := Lib.hid htur
    have HC8 : Hid (c = 8 ∧ vs = []) := Lib.hid (by rcases HC.out with h | h; exact absurd h.1 hne; exact h.2)
    clear hF1 hmem htur hne
    go_wp2_with fail
    simp only [Exit.jump]
    go_ret2
    simp only [(put_two tm hsz _ _).1, (put_two tm hsz _ _).2]
    obtain ⟨A0, ca0, T0, ct0, h0⟩ := HMEM.out
    exact ⟨none, 0, by rw [HC8.out.1, HC8.out.2]; rfl, A0, ca0, F1, T0, ct0, HF1.out, h0, HTUR.out, by rw [HC8.out.2]; exact World.ownsRow_nil _ _ _ _, fun g hg => by cases hg⟩

set_option maxHeartbeats 4000000 in
set_option maxRecDepth 100000 in
theorem read_4 {w : World} {base P : Nat} {F : Nat → Prop} {bs : List Nat} {ts : List Tch} (h : MemIs 63 w base P F bs ts) (hbase : base ≤ w.heap.size) (hn : bs.length ≤ 5000) (ht : ts.length ≤ 1000000) (a : Nat) (ha : a < 18446744073709551616)
    (n : Nat) (hlen : n ≤ 16) (q : Nat) (hq : fit bs.length a 4 n = q) (c : Int) (vs : List Nat) (hc : (q = n ∧ c = 0 ∧ vs = rV bs a 4 n) ∨ (q ≠ n ∧ c = 8 ∧ vs = [])) :
    Calls Try.prog 13 #[.pointer (some ⟨P, 0, none⟩), .int .u64 a, .int .i64 32, .int .i64 n] w (ReadIs 63 base P F bs (ts ++ rT bs a 4 q) vs c w) := by
  have HM := Lib.hid h
  have HB : Hid (mayM 32 n = true) := Lib.hid (by simp [mayM, wid]; omega)
  have HA := Lib.hid ha
  have HQ := Lib.hid hq
  have HC := Lib.hid hc
  clear h ha hq hc
  obtain ⟨i0, hi0, hz0, hz1, hz2⟩ := info_parts info49
  obtain ⟨k0, ki0, kz0, kz1, kz2⟩ := info_parts info33
  go_enter Try.func13, Try.ntmps13
  go_wp2_with fail
  refine wp_scope_jumps 0 (AtTrap base P F bs (ts ++ rT bs a 4 q) q n a 32 w) (fun _ _ => 0) rfl ?_ ?_
  · go_wp2_with fail
    refine (may_any _ _ _).mono ?_
    rw [HB.out]
    rintro e w' ⟨rfl, rfl⟩
    go_wp2_with fail
    go_loopw [10, 24] (fun x i wr => RLoop 63 base P F bs ts a 4 n w x i wr) (fun _ i _ => n - (intOf i).toNat)
    case atStart => 
      obtain ⟨A0, ca0, T0, ct0, h0⟩ := HM.out
      exact ⟨0, none, 0, Nat.zero_le _, rfl, rfl, A0, ca0, F, T0, ct0, fun j hj => .inl hj, by simpa [rT] using h0, Turned.refl _ _, World.ownsRow_nil _ _ _ _, fun g hg => by cases hg⟩
    case round =>
      obtain ⟨k, X, cx, hk, rfl, rfl, hbes⟩ := hrel
      have hkl : k ≤ n := Nat.le_trans hk (fit_le _ _ _ _)
      have HBES := Lib.hid hbes
      have HK := Lib.hid hk
      clear hbes hk
      by_cases hlt : k < n
      · obtain ⟨f, hf⟩ : ∃ f : Nat, (a + k * 4) % 18446744073709551616 = f := ⟨_, rfl⟩
        have e1 : IntKind.u64.wrap ((a : Int) + (k : Int) * 4) = (f : Int) := by simpa using wrap_add a (k * 4) f hf
        have HFL : Hid (f < 18446744073709551616) := Lib.hid (by rw [← hf]; exact Nat.mod_lt _ (by decide))
        obtain ⟨A0, ca0, hbat⟩ := HBES.out
        have HBAT := Lib.hid hbat
        obtain ⟨F1, T0, ct0, hF1, hat0, htur, hown, hoff⟩ := hbat
        by_cases hfit : a + (k + 1) * 4 ≤ bs.length
        · have hps3 := first_at a (k * 4) 4 bs.length f HA.out hf (by rw [Nat.add_mul, Nat.one_mul] at hfit; exact hfit) hn
          have t1 : decide (f < a) = false := by simpa using hps3.2.2
          have HT : Hid (thereB bs.length f 4 = true) := Lib.hid (by unfold thereB; simp; omega)
          obtain ⟨g, rfl, hgF, hgP, hle, hcap⟩ := hat0.formA (by omega)
          have c0 := hat0.cell0
          have HAT0 := Lib.hid hat0
          have HFP : Hid (f = a + k * 4) := Lib.hid hps3.1
          have HFS := hps3.2.1
          have HFIT := Lib.hid hfit
          have hcf : (ca0 == f) = false := by simp; omega
          clear hf hps3 hfit hat0 hF1 htur hown hoff hgP
          go_wp2_with fail
          refine (there_any HAT0.out hn f HFL.out 4 true HT.out).mono ?_
          rintro e w' ⟨rfl, rfl⟩
          go_wp2_with fail
          clear t1 c0 hcf
          (try simp only [Nat.add_sub_cancel_left])
          go_loopw [13, 54] (fun x i wr => RdIn 63 base P F (some ⟨g, 0, none⟩) ca0 bs (ts ++ rT bs a 4 k) f 4 X cx (rV bs a 4 k) w x i wr) (fun _ i _ => 4 - (intOf i).toNat)
          case atStart => exact ⟨0, Nat.zero_le _, rfl, rfl, by simpa [tget] using HBAT.out⟩
          case round =>
            obtain ⟨j, hj, rfl, rfl, hbat2⟩ := hrel
            have HBAT2 := Lib.hid hbat2
            obtain ⟨v, hv⟩ : ∃ v, word bs f j = v := ⟨_, rfl⟩
            rw [hv]
            by_cases hjlt : j < 4
            · obtain ⟨F2, T, ct, hF2, hat, htur2, hown2, hoff2⟩ := hbat2
              obtain ⟨TS, hTS⟩ : ∃ TS, (ts ++ rT bs a 4 k) ++ tget bs f j = TS := ⟨_, rfl⟩
              obtain ⟨cc, hcc⟩ : ∃ cc, bs.getD (f + j) 0 = cc := ⟨_, rfl⟩
              rw [hTS] at hat
              have hTl : TS.length ≤ 1000200 := by rw [← hTS]; simp; omega
              have hfj : f + j < bs.length := by omega
              have b1 := hat.byteCell hfj
              rw [hcc] at b1
              have d1 := hat.cell1
              have hc8 : cc < 256 := by rw [← hcc]; exact hat.oct.get _
              have e5 := or_int bs hat.oct f j v cc (by omega) hv hcc
              have HAT := Lib.hid hat
              have HF2 := Lib.hid hF2
              have HTUR2 := Lib.hid htur2
              have HOWN2 := Lib.hid hown2
              have HOFF2 := Lib.hid hoff2
              have HTS := Lib.hid hTS
              have HCC := Lib.hid hcc
              clear hF2 htur2 hat hown2 hoff2 hTS hcc hv HBAT2 HBAT
              go_wp2_with (at_builtin; refine wpList_append_lies _ rfl _ _ 30 rfl base 49 i0 _ 3 24 Try.underlying30 hi0 hz0 hz1 hz2 rfl (by decide) _ TS.length (tvs TS) rfl (HAT.out.ownT.alloc _) _ 1 1 (tv (false, f + j, cc)) rfl (by rfl) ?c1 ?c2 (by decide) ?c3 ?c4 ?c5 _ rfl ?_)
              case c1 => exact news_touch _ _ rfl (false, f + j, cc) _ (by simp)
              case c2 => exact tv_one _
              case c3 => unfold maxLen; omega
              case c4 => omega
              case c5 => have := HTUR2.out.size; simp; omega
              intro gg cap1 w1 hown1 hgrow hat3 _
              obtain ⟨q1, q2, _⟩ := HAT.out.after _ hgrow
              have NEXT : Hid (RdIn 63 base P F (some ⟨g, 0, none⟩) ca0 bs (ts ++ rT bs a 4 k) f 4 X cx (rV bs a 4 k) w (.int .u64 ((word bs f (j + 1) : Nat) : Int)) (.int .i64 ((j + 1 : Nat) : Int)) (w1.setCell ⟨P, 1, none⟩ (.slice (some ⟨gg, 0, none⟩) (TS.length + 1) cap1))) := Lib.hid (by
                have h1 := beside_push HF2.out HAT.out HTUR2.out HOWN2.out HOFF2.out _ (false, f + j, cc) hown1 hgrow hat3
                refine ⟨j + 1, by omega, rfl, rfl, ?_⟩
                have e : ts ++ rT bs a 4 k ++ tget bs f (j + 1) = TS ++ [(false, f + j, cc)] := by rw [← HTS.out, ← HCC.out, tget, List.append_assoc (ts ++ rT bs a 4 k)]
                rw [e]
                exact h1)
              clear hown1 hgrow hat3 b1 d1 e5
              go_wp2_with fail
              go_roundw
              case rel => exact NEXT.out
              case measure => simp [intOf]; omega
            · obtain rfl : j = 4 := by omega
              have hXl : (rV bs a 4 k).length = k := by simp
              obtain ⟨F2, T, ct, hF2, hat, htur2, hown2, hoff2⟩ := hbat2
              have HZ := htur2.size
              have HOWN2 := Lib.hid hown2
              rw [hXl] at HOWN2
              have HV := Lib.hid hv
              clear hF2 hat htur2 hown2 hoff2 hv hXl
              go_wp2_with (at_builtin; refine wpList_append_lies _ rfl _ _ 34 rfl w.heap.size 33 k0 _ 1 8 Try.underlying34 ki0 kz0 kz1 kz2 rfl (by decide) _ k ((rV bs a 4 k).map uv) rfl (HOWN2.out.alloc _) _ 1 1 [uv v] rfl (by rfl) ?d1 ?d2 (by decide) ?d3 ?d4 ?d5 _ rfl ?_)
              case d1 => exact news_word _ _ rfl v
              case d2 => exact uv_one v
              case d3 => unfold maxLen; omega
              case d4 => omega
              case d5 => simp; omega
              intro gg cap1 w1 hown1 hgrow hat3 _
              have NEXT : Hid (RLoop 63 base P F bs ts a 4 n w (.slice (some ⟨gg, 0, none⟩) (k + 1) cap1) (.int .i64 ((k + 1 : Nat) : Int)) w1) := Lib.hid (by
                have hXl : (rV bs a 4 k).length = k := by simp
                have h1 : BesideAt 63 base P F (some ⟨g, 0, none⟩) ca0 bs (ts ++ rT bs a 4 k ++ tget bs f 4) (some ⟨gg, 0, none⟩) cap1 (rV bs a 4 k ++ [v]) w w1 := by
                  refine beside_app v HBAT2.out (Obj.cells #[.int .u64 (v : Int)] 33) ?_ ?_ ?_
                  · rw [hXl]; exact hown1
                  · rw [hXl]; exact hgrow
                  · rw [hXl]; exact hat3
                refine ⟨k + 1, some ⟨gg, 0, none⟩, cap1, (lt_fit (by decide) hlt).2 HFIT.out, rfl, rfl, some ⟨g, 0, none⟩, ca0, ?_⟩
                have e : ts ++ rT bs a 4 (k + 1) = ts ++ rT bs a 4 k ++ tget bs f 4 := by rw [HFP.out, rT, List.append_assoc]
                have e2 : rV bs a 4 (k + 1) = rV bs a 4 k ++ [v] := by rw [← HV.out, HFP.out, rV]
                rw [e, e2]
                exact h1)
              clear hown1 hgrow hat3 HZ
              go_wp2_with fail
              go_roundw
              case rel => exact NEXT.out
              case measure => simp [intOf]; omega
        · have HQK : Hid (q = k) := Lib.hid (by rw [← HQ.out]; exact fit_stop (by decide) HK.out hlt hfit)
          have TRAP : Hid (q ≠ n ∧ (∃ F', (∀ j, F' j → F j ∨ w.heap.size ≤ j) ∧ MemIs 63 wr base P F' bs (ts ++ rT bs a 4 q) ∧ Turned F w wr)) := Lib.hid (by
            refine ⟨by rw [HQK.out]; omega, F1, hF1, ?_, htur⟩
            rw [HQK.out]
            exact ⟨_, _, _, _, hat0⟩)
          have hor := first_out a (k * 4) 4 bs.length f (by omega) HA.out hf (by rw [Nat.add_mul, Nat.one_mul] at hfit; exact hfit)
          have HAT0 := Lib.hid hat0
          rcases hor with hlt1 | ⟨hge, hnot⟩
          · have t1 : decide (f < a) = true := by simpa using hlt1
            clear hf hfit hlt1 hF1 hat0 htur hown hoff
            go_wp2_with fail
            go_step3
            exact (show (0 : Nat) = 0 ∧ AtTrap base P F bs (ts ++ rT bs a 4 q) q n a 32 w _ _ from ⟨rfl, TRAP.out.1, TRAP.out.2, rfl, rfl⟩)
          · have t1 : decide (f < a) = false := by simpa using hge
            have HT : Hid (thereB bs.length f 4 = false) := Lib.hid (by unfold thereB; simp; omega)
            clear hf hfit hge hnot hF1 hat0 htur hown hoff
            go_wp2_with fail
            refine (there_any HAT0.out hn f HFL.out 4 false HT.out).mono ?_
            rintro e w' ⟨rfl, rfl⟩
            go_wp2_with fail
            go_step3
            exact (show (0 : Nat) = 0 ∧ AtTrap base P F bs (ts ++ rT bs a 4 q) q n a 32 w _ _ from ⟨rfl, TRAP.out.1, TRAP.out.2, rfl, rfl⟩)
      · have HKL : Hid (k = n) := Lib.hid (by omega)
        have HQK : Hid (q = k) := Lib.hid (by have h1 := HK.out; have h2 := fit_le bs.length a 4 n; rw [HQ.out] at h1 h2; omega)
        have HC0 : Hid (c = 0 ∧ vs = rV bs a 4 n) := Lib.hid (by rcases HC.out with h | h; exact h.2; exact absurd (HQK.out.trans HKL.out) h.1)
        go_wp2_with fail
        simp only [Exit.jump]
        go_ret2
        exact ⟨X, cx, by rw [HC0.out.1, HC0.out.2, rV_length, HKL.out]; rfl, by rw [HQK.out, HC0.out.2, ← HKL.out]; exact HBES.out⟩
  · rintro a' w' ⟨hne, ⟨F1, hF1, hmem, htur⟩, hdef, hsz⟩
    obtain ⟨tm, df⟩ := a'
    simp only at hdef hsz
    subst hdef
    have HF1 := Lib.hid hF1
    have HMEM := Lib.hid hmem
    have HTUR := Lib.hid htur
    have HC8 : Hid (c = 8 ∧ vs = []) := Lib.hid (by rcases HC.out with h | h; exact absurd h.1 hne; exact h.2)
    clear hF1 hmem htur hne
    go_wp2_with fail
    simp only [Exit.jump]
    go_ret2
    simp only [(put_two tm hsz _ _).1, (put_two tm hsz _ _).2]
    obtain ⟨A0, ca0, T0, ct0, h0⟩ := HMEM.out
    exact ⟨none, 0, by rw [HC8.out.1, HC8.out.2]; rfl, A0, ca0, F1, T0, ct0, HF1.out, h0, HTUR.out, by rw [HC8.out.2]; exact World.ownsRow_nil _ _ _ _, fun g hg => by cases hg⟩

set_option maxHeartbeats 4000000 in
set_option maxRecDepth 100000 in
theorem read_8 {w : World} {base P : Nat} {F : Nat → Prop} {bs : List Nat} {ts : List Tch} (h : MemIs 63 w base P F bs ts) (hbase : base ≤ w.heap.size) (hn : bs.length ≤ 5000) (ht : ts.length ≤ 1000000) (a : Nat) (ha : a < 18446744073709551616)
    (n : Nat) (hlen : n ≤ 16) (q : Nat) (hq : fit bs.length a 8 n = q) (c : Int) (vs : List Nat) (hc : (q = n ∧ c = 0 ∧ vs = rV bs a 8 n) ∨ (q ≠ n ∧ c = 8 ∧ vs = [])) :
    Calls Try.prog 13 #[.pointer (some ⟨P, 0, none⟩), .int .u64 a, .int .i64 64, .int .i64 n] w (ReadIs 63 base P F bs (ts ++ rT bs a 8 q) vs c w) := by
  have HM := Lib.hid h
  have HB : Hid (mayM 64 n = true) := Lib.hid (by simp [mayM, wid]; omega)
  have HA := Lib.hid ha
  have HQ := Lib.hid hq
  have HC := Lib.hid hc
  clear h ha hq hc
  obtain ⟨i0, hi0, hz0, hz1, hz2⟩ := info_parts info49
  obtain ⟨k0, ki0, kz0, kz1, kz2⟩ := info_parts info33
  go_enter Try.func13, Try.ntmps13
  go_wp2_with fail
  refine wp_scope_jumps 0 (AtTrap base P F bs (ts ++ rT bs a 8 q) q n a 64 w) (fun _ _ => 0) rfl ?_ ?_
  · go_wp2_with fail
    refine (may_any _ _ _).mono ?_
    rw [HB.out]
    rintro e w' ⟨rfl, rfl⟩
    go_wp2_with fail
    go_loopw [10, 24] (fun x i wr => RLoop 63 base P F bs ts a 8 n w x i wr) (fun _ i _ => n - (intOf i).toNat)
    case atStart => 
      obtain ⟨A0, ca0, T0, ct0, h0⟩ := HM.out
      exact ⟨0, none, 0, Nat.zero_le _, rfl, rfl, A0, ca0, F, T0, ct0, fun j hj => .inl hj, by simpa [rT] using h0, Turned.refl _ _, World.ownsRow_nil _ _ _ _, fun g hg => by cases hg⟩
    case round =>
      obtain ⟨k, X, cx, hk, rfl, rfl, hbes⟩ := hrel
      have hkl : k ≤ n := Nat.le_trans hk (fit_le _ _ _ _)
      have HBES := Lib.hid hbes
      have HK := Lib.hid hk
      clear hbes hk
      by_cases hlt : k < n
      · obtain ⟨f, hf⟩ : ∃ f : Nat, (a + k * 8) % 18446744073709551616 = f := ⟨_, rfl⟩
        have e1 : IntKind.u64.wrap ((a : Int) + (k : Int) * 8) = (f : Int) := by simpa using wrap_add a (k * 8) f hf
        have HFL : Hid (f < 18446744073709551616) := Lib.hid (by rw [← hf]; exact Nat.mod_lt _ (by decide))
        obtain ⟨A0, ca0, hbat⟩ := HBES.out
        have HBAT := Lib.hid hbat
        obtain ⟨F1, T0, ct0, hF1, hat0, htur, hown, hoff⟩ := hbat
        by_cases hfit : a + (k + 1) * 8 ≤ bs.length
        · have hps3 := first_at a (k * 8) 8 bs.length f HA.out hf (by rw [Nat.add_mul, Nat.one_mul] at hfit; exact hfit) hn
          have t1 : decide (f < a) = false := by simpa using hps3.2.2
          have HT : Hid (thereB bs.length f 8 = true) := Lib.hid (by unfold thereB; simp; omega)
          obtain ⟨g, rfl, hgF, hgP, hle, hcap⟩ := hat0.formA (by omega)
          have c0 := hat0.cell0
          have HAT0 := Lib.hid hat0
          have HFP : Hid (f = a + k * 8) := Lib.hid hps3.1
          have HFS := hps3.2.1
          have HFIT := Lib.hid hfit
          have hcf : (ca0 == f) = false := by simp; omega
          clear hf hps3 hfit hat0 hF1 htur hown hoff hgP
          go_wp2_with fail
          refine (there_any HAT0.out hn f HFL.out 8 true HT.out).mono ?_
          rintro e w' ⟨rfl, rfl⟩
          go_wp2_with fail
          clear t1 c0 hcf
          (try simp only [Nat.add_sub_cancel_left])
          go_loopw [13, 54] (fun x i wr => RdIn 63 base P F (some ⟨g, 0, none⟩) ca0 bs (ts ++ rT bs a 8 k) f 8 X cx (rV bs a 8 k) w x i wr) (fun _ i _ => 8 - (intOf i).toNat)
          case atStart => exact ⟨0, Nat.zero_le _, rfl, rfl, by simpa [tget] using HBAT.out⟩
          case round =>
            obtain ⟨j, hj, rfl, rfl, hbat2⟩ := hrel
            have HBAT2 := Lib.hid hbat2
            obtain ⟨v, hv⟩ : ∃ v, word bs f j = v := ⟨_, rfl⟩
            rw [hv]
            by_cases hjlt : j < 8
            · obtain ⟨F2, T, ct, hF2, hat, htur2, hown2, hoff2⟩ := hbat2
              obtain ⟨TS, hTS⟩ : ∃ TS, (ts ++ rT bs a 8 k) ++ tget bs f j = TS := ⟨_, rfl⟩
              obtain ⟨cc, hcc⟩ : ∃ cc, bs.getD (f + j) 0 = cc := ⟨_, rfl⟩
              rw [hTS] at hat
              have hTl : TS.length ≤ 1000200 := by rw [← hTS]; simp; omega
              have hfj : f + j < bs.length := by omega
              have b1 := hat.byteCell hfj
              rw [hcc] at b1
              have d1 := hat.cell1
              have hc8 : cc < 256 := by rw [← hcc]; exact hat.oct.get _
              have e5 := or_int bs hat.oct f j v cc (by omega) hv hcc
              have HAT := Lib.hid hat
              have HF2 := Lib.hid hF2
              have HTUR2 := Lib.hid htur2
              have HOWN2 := Lib.hid hown2
              have HOFF2 := Lib.hid hoff2
              have HTS := Lib.hid hTS
              have HCC := Lib.hid hcc
              clear hF2 htur2 hat hown2 hoff2 hTS hcc hv HBAT2 HBAT
              go_wp2_with (at_builtin; refine wpList_append_lies _ rfl _ _ 30 rfl base 49 i0 _ 3 24 Try.underlying30 hi0 hz0 hz1 hz2 rfl (by decide) _ TS.length (tvs TS) rfl (HAT.out.ownT.alloc _) _ 1 1 (tv (false, f + j, cc)) rfl (by rfl) ?c1 ?c2 (by decide) ?c3 ?c4 ?c5 _ rfl ?_)
              case c1 => exact news_touch _ _ rfl (false, f + j, cc) _ (by simp)
              case c2 => exact tv_one _
              case c3 => unfold maxLen; omega
              case c4 => omega
              case c5 => have := HTUR2.out.size; simp; omega
              intro gg cap1 w1 hown1 hgrow hat3 _
              obtain ⟨q1, q2, _⟩ := HAT.out.after _ hgrow
              have NEXT : Hid (RdIn 63 base P F (some ⟨g, 0, none⟩) ca0 bs (ts ++ rT bs a 8 k) f 8 X cx (rV bs a 8 k) w (.int .u64 ((word bs f (j + 1) : Nat) : Int)) (.int .i64 ((j + 1 : Nat) : Int)) (w1.setCell ⟨P, 1, none⟩ (.slice (some ⟨gg, 0, none⟩) (TS.length + 1) cap1))) := Lib.hid (by
                have h1 := beside_push HF2.out HAT.out HTUR2.out HOWN2.out HOFF2.out _ (false, f + j, cc) hown1 hgrow hat3
                refine ⟨j + 1, by omega, rfl, rfl, ?_⟩
                have e : ts ++ rT bs a 8 k ++ tget bs f (j + 1) = TS ++ [(false, f + j, cc)] := by rw [← HTS.out, ← HCC.out, tget, List.append_assoc (ts ++ rT bs a 8 k)]
                rw [e]
                exact h1)
              clear hown1 hgrow hat3 b1 d1 e5
              go_wp2_with fail
              go_roundw
              case rel => exact NEXT.out
              case measure => simp [intOf]; omega
            · obtain rfl : j = 8 := by omega
              have hXl : (rV bs a 8 k).length = k := by simp
              obtain ⟨F2, T, ct, hF2, hat, htur2, hown2, hoff2⟩ := hbat2
              have HZ := htur2.size
              have HOWN2 := Lib.hid hown2
              rw [hXl] at HOWN2
              have HV := Lib.hid hv
              clear hF2 hat htur2 hown2 hoff2 hv hXl
              go_wp2_with (at_builtin; refine wpList_append_lies _ rfl _ _ 34 rfl w.heap.size 33 k0 _ 1 8 Try.underlying34 ki0 kz0 kz1 kz2 rfl (by decide) _ k ((rV bs a 8 k).map uv) rfl (HOWN2.out.alloc _) _ 1 1 [uv v] rfl (by rfl) ?d1 ?d2 (by decide) ?d3 ?d4 ?d5 _ rfl ?_)
              case d1 => exact news_word _ _ rfl v
              case d2 => exact uv_one v
              case d3 => unfold maxLen; omega
              case d4 => omega
              case d5 => simp; omega
              intro gg cap1 w1 hown1 hgrow hat3 _
              have NEXT : Hid (RLoop 63 base P F bs ts a 8 n w (.slice (some ⟨gg, 0, none⟩) (k + 1) cap1) (.int .i64 ((k + 1 : Nat) : Int)) w1) := Lib.hid (by
                have hXl : (rV bs a 8 k).length = k := by simp
                have h1 : BesideAt 63 base P F (some ⟨g, 0, none⟩) ca0 bs (ts ++ rT bs a 8 k ++ tget bs f 8) (some ⟨gg, 0, none⟩) cap1 (rV bs a 8 k ++ [v]) w w1 := by
                  refine beside_app v HBAT2.out (Obj.cells #[.int .u64 (v : Int)] 33) ?_ ?_ ?_
                  · rw [hXl]; exact hown1
                  · rw [hXl]; exact hgrow
                  · rw [hXl]; exact hat3
                refine ⟨k + 1, some ⟨gg, 0, none⟩, cap1, (lt_fit (by decide) hlt).2 HFIT.out, rfl, rfl, some ⟨g, 0, none⟩, ca0, ?_⟩
                have e : ts ++ rT bs a 8 (k + 1) = ts ++ rT bs a 8 k ++ tget bs f 8 := by rw [HFP.out, rT, List.append_assoc]
                have e2 : rV bs a 8 (k + 1) = rV bs a 8 k ++ [v] := by rw [← HV.out, HFP.out, rV]
                rw [e, e2]
                exact h1)
              clear hown1 hgrow hat3 HZ
              go_wp2_with fail
              go_roundw
              case rel => exact NEXT.out
              case measure => simp [intOf]; omega
        · have HQK : Hid (q = k) := Lib.hid (by rw [← HQ.out]; exact fit_stop (by decide) HK.out hlt hfit)
          have TRAP : Hid (q ≠ n ∧ (∃ F', (∀ j, F' j → F j ∨ w.heap.size ≤ j) ∧ MemIs 63 wr base P F' bs (ts ++ rT bs a 8 q) ∧ Turned F w wr)) := Lib.hid (by
            refine ⟨by rw [HQK.out]; omega, F1, hF1, ?_, htur⟩
            rw [HQK.out]
            exact ⟨_, _, _, _, hat0⟩)
          have hor := first_out a (k * 8) 8 bs.length f (by omega) HA.out hf (by rw [Nat.add_mul, Nat.one_mul] at hfit; exact hfit)
          have HAT0 := Lib.hid hat0
          rcases hor with hlt1 | ⟨hge, hnot⟩
          · have t1 : decide (f < a) = true := by simpa using hlt1
            clear hf hfit hlt1 hF1 hat0 htur hown hoff
            go_wp2_with fail
            go_step3
            exact (show (0 : Nat) = 0 ∧ AtTrap base P F bs (ts ++ rT bs a 8 q) q n a 64 w _ _ from ⟨rfl, TRAP.out.1, TRAP.out.2, rfl, rfl⟩)
          · have t1 : decide (f < a) = false := by simpa using hge
            have HT : Hid (thereB bs.length f 8 = false) := Lib.hid (by unfold thereB; simp; omega)
            clear hf hfit hge hnot hF1 hat0 htur hown hoff
            go_wp2_with fail
            refine (there_any HAT0.out hn f HFL.out 8 false HT.out).mono ?_
            rintro e w' ⟨rfl, rfl⟩
            go_wp2_with fail
            go_step3
            exact (show (0 : Nat) = 0 ∧ AtTrap base P F bs (ts ++ rT bs a 8 q) q n a 64 w _ _ from ⟨rfl, TRAP.out.1, TRAP.out.2, rfl, rfl⟩)
      · have HKL : Hid (k = n) := Lib.hid (by omega)
        have HQK : Hid (q = k) := Lib.hid (by have h1 := HK.out; have h2 := fit_le bs.length a 8 n; rw [HQ.out] at h1 h2; omega)
        have HC0 : Hid (c = 0 ∧ vs = rV bs a 8 n) := Lib.hid (by rcases HC.out with h | h; exact h.2; exact absurd (HQK.out.trans HKL.out) h.1)
        go_wp2_with fail
        simp only [Exit.jump]
        go_ret2
        exact ⟨X, cx, by rw [HC0.out.1, HC0.out.2, rV_length, HKL.out]; rfl, by rw [HQK.out, HC0.out.2, ← HKL.out]; exact HBES.out⟩
  · rintro a' w' ⟨hne, ⟨F1, hF1, hmem, htur⟩, hdef, hsz⟩
    obtain ⟨tm, df⟩ := a'
    simp only at hdef hsz
    subst hdef
    have HF1 := Lib.hid hF1
    have HMEM := Lib.hid hmem
    have HTUR := Lib.hid htur
    have HC8 : Hid (c = 8 ∧ vs = []) := Lib.hid (by rcases HC.out with h | h; exact absurd h.1 hne; exact h.2)
    clear hF1 hmem htur hne
    go_wp2_with fail
    simp only [Exit.jump]
    go_ret2
    simp only [(put_two tm hsz _ _).1, (put_two tm hsz _ _).2]
    obtain ⟨A0, ca0, T0, ct0, h0⟩ := HMEM.out
    exact ⟨none, 0, by rw [HC8.out.1, HC8.out.2]; rfl, A0, ca0, F1, T0, ct0, HF1.out, h0, HTUR.out, by rw [HC8.out.2]; exact World.ownsRow_nil _ _ _ _, fun g hg => by cases hg⟩

/-- what Read tells, and what it leaves of the trace -/
def rdV (bs : List Nat) (a : Nat) (b : Int) (n : Int) : List Nat := if mayM b n && decide (fit bs.length a (b / 8).toNat n.toNat = n.toNat) then rV bs a (b / 8).toNat n.toNat else []
def rdT (bs : List Nat) (ts : List Tch) (a : Nat) (b : Int) (n : Int) : List Tch := if mayM b n then ts ++ rT bs a (b / 8).toNat (fit bs.length a (b / 8).toNat n.toNat) else ts
def rdC (n a : Nat) (b c : Int) : Int := if mayM b c then (if fit n a (b / 8).toNat c.toNat = c.toNat then 0 else 8) else 1
theorem rdC_no {n a : Nat} {b c : Int} (h : mayM b c = false) : rdC n a b c = 1 := by unfold rdC; rw [h]; rfl
theorem rdV_no {bs : List Nat} {a : Nat} {b n : Int} (h : mayM b n = false) : rdV bs a b n = [] := by unfold rdV; rw [h]; rfl
theorem rdT_no {bs : List Nat} {ts : List Tch} {a : Nat} {b n : Int} (h : mayM b n = false) : rdT bs ts a b n = ts := by unfold rdT; rw [h]; rfl

/-- a case of the code and the numbers -/
theorem rd_case {bs : List Nat} {a : Nat} {b : Int} {n s : Nat} (hm : mayM b n = true) (hs : (b / 8).toNat = s) :
    (fit bs.length a s n = n ∧ rdC bs.length a b n = 0 ∧ rdV bs a b n = rV bs a s n) ∨ (fit bs.length a s n ≠ n ∧ rdC bs.length a b n = 8 ∧ rdV bs a b n = []) := by
  by_cases h : fit bs.length a s n = n
  · refine .inl ⟨h, ?_, ?_⟩
    · unfold rdC; rw [hm, hs, if_pos rfl]; simp [h]
    · unfold rdV; rw [hm, hs]; simp [h]
  · refine .inr ⟨h, ?_, ?_⟩
    · unfold rdC; rw [hm, hs, if_pos rfl]; simp [h]
    · unfold rdV; rw [hm, hs]; simp [h]

theorem read_any {w : World} {base P : Nat} {F : Nat → Prop} {bs : List Nat} {ts : List Tch} (h : MemIs 63 w base P F bs ts) (hbase : base ≤ w.heap.size) (hn : bs.length ≤ 5000) (ht : ts.length ≤ 1000000) (a : Nat) (ha : a < 18446744073709551616) (b n : Int) :
    Calls Try.prog 13 #[.pointer (some ⟨P, 0, none⟩), .int .u64 a, .int .i64 b, .int .i64 n] w (ReadIs 63 base P F bs (rdT bs ts a b n) (rdV bs a b n) (rdC bs.length a b n) w) := by
  cases hm : mayM b n with
  | false =>
    rw [rdV_no hm, rdT_no hm, rdC_no hm]
    exact read_arg h a b n hm
  | true =>
    obtain ⟨hb, h0, h16⟩ := mayM_parts hm
    obtain ⟨N, rfl⟩ : ∃ N : Nat, n = N := ⟨n.toNat, by omega⟩
    have hN : N ≤ 16 := by omega
    rcases hb with rfl | rfl | rfl | rfl
    · have e : rdT bs ts a 8 N = ts ++ rT bs a 1 (fit bs.length a 1 N) := by unfold rdT; rw [hm]; rfl
      rw [e]; exact read_1 h hbase hn ht a ha N hN _ rfl _ _ (rd_case hm rfl)
    · have e : rdT bs ts a 16 N = ts ++ rT bs a 2 (fit bs.length a 2 N) := by unfold rdT; rw [hm]; rfl
      rw [e]; exact read_2 h hbase hn ht a ha N hN _ rfl _ _ (rd_case hm rfl)
    · have e : rdT bs ts a 32 N = ts ++ rT bs a 4 (fit bs.length a 4 N) := by unfold rdT; rw [hm]; rfl
      rw [e]; exact read_4 h hbase hn ht a ha N hN _ rfl _ _ (rd_case hm rfl)
    · have e : rdT bs ts a 64 N = ts ++ rT bs a 8 (fit bs.length a 8 N) := by unfold rdT; rw [hm]; rfl
      rw [e]; exact read_8 h hbase hn ht a ha N hN _ rfl _ _ (rd_case hm rfl)
end Go.Proofs.Ytcnhnjbefhgaaaa
