/- Two memories side by side: what is done to one leaves the other. -/
import Derived.Test.YtcnhnjbefhgaaaaThereWalk
import Derived.Deep.Onto
namespace Go.Proofs.Ytcnhnjbefhgaaaa
open Go.RowKit

theorem MemIs.base {ty : TypeId} {w : World} {b b' P : Nat} {F : Nat → Prop} {bs : List Nat} {ts : List Tch} (h : MemIs ty w b' P F bs ts) (hb : b ≤ b') : MemIs ty w b P F bs ts := by
  obtain ⟨A, ca, T, ct, h⟩ := h
  exact ⟨A, ca, T, ct, h.hty, h.blk, h.ownB.mono hb, h.ownT.mono hb, h.oct, h.inP, h.inA, h.inT, fun i hi => ⟨Nat.le_trans hb (h.lo i hi).1, (h.lo i hi).2⟩⟩
theorem MemIs.grown {ty : TypeId} {w w' : World} {b P : Nat} {F : Nat → Prop} {bs : List Nat} {ts : List Tch} (h : MemIs ty w b P F bs ts) (hb : Below w.heap.size w w') : MemIs ty w' b P F bs ts :=
  h.apart (Turned.of_below hb (fun _ => False)) (fun _ _ => id)
theorem Held.of_new {w0 w w' : World} {P : Nat} {F : Nat → Prop} {bs : List Nat} (h0 : Below w0.heap.size w0 w) (hm : MemIs 63 w' w.heap.size P F bs []) (hb : Below w.heap.size w w') : Held 63 w0 P F bs [] w' :=
  ⟨hm.base h0.size, h0.trans (hb.mono h0.size)⟩
/-- an argument's cells still lie there -/
theorem Lies.arg {w0 w : World} {A : Option Addr} {xs : List Value} (hl : Lies w0 (fun i => i < w0.heap.size) A xs) (h : Below w0.heap.size w0 w) : Lies w (fun i => i < w0.heap.size) A xs := hl.keep h.block

structure Two (t u : TypeId) (w0 : World) (P Q : Nat) (F G : Nat → Prop) (bs : List Nat) (ts : List Tch) (cs : List Nat) (us : List Tch) (w : World) : Prop where
  m : MemIs t w w0.heap.size P F bs ts
  n : MemIs u w w0.heap.size Q G cs us
  apart : ∀ i, F i → ¬ G i
  below : Below w0.heap.size w0 w
section
variable {t u : TypeId} {w0 w w' : World} {P Q : Nat} {F G F' : Nat → Prop} {bs cs bs' : List Nat} {ts us ts' : List Tch}
theorem Two.swap (h : Two t u w0 P Q F G bs ts cs us w) : Two u t w0 Q P G F cs us bs ts w := ⟨h.n, h.m, fun i hg hf => h.apart i hf hg, h.below⟩
theorem Two.size (h : Two t u w0 P Q F G bs ts cs us w) : w0.heap.size ≤ w.heap.size := h.below.size
theorem Two.grown (h : Two t u w0 P Q F G bs ts cs us w) (hb : Below w.heap.size w w') : Two t u w0 P Q F G bs ts cs us w' :=
  ⟨h.m.grown hb, h.n.grown hb, h.apart, h.below.trans (hb.mono h.size)⟩
theorem Two.drewN (h : Two t u w0 P Q F G bs ts cs us w) (k : Nat) : Two t u w0 P Q F G bs ts cs us (w.drewN k) := h.grown ⟨rfl, rfl, rfl, Nat.le_refl _, fun _ _ => rfl⟩
theorem Two.turn (h : Two t u w0 P Q F G bs ts cs us w) (hm : MemIs t w' w0.heap.size P F' bs' ts') (hT : Turned F w w') (hF : ∀ i, F' i → F i ∨ w.heap.size ≤ i) : Two t u w0 P Q F' G bs' ts' cs us w' :=
  ⟨hm, h.n.apart hT (fun i hg hf => h.apart i hf hg), fun i hf hg => (hF i hf).elim (fun hf => h.apart i hf hg) (fun hs => absurd (h.n.lo i hg).2 (Nat.not_lt.2 hs)), h.below.trans (hT.below (fun i hi => (h.m.lo i hi).1) h.size)⟩
/-- a second one is made -/
theorem Two.of_new {ty : TypeId} (h : Held t w0 P F bs ts w) (hm : MemIs ty w' w.heap.size Q G cs []) (hb : Below w.heap.size w w') : Two t ty w0 P Q F G bs ts cs [] w' :=
  ⟨(h.grown hb).mem, hm.base h.size, fun i hf hg => absurd (h.mem.lo i hf).2 (Nat.not_lt.2 (hm.lo i hg).1), (h.grown hb).below⟩
end
def WroteTwo (t u : TypeId) (w0 : World) (P Q : Nat) (F G : Nat → Prop) (bs : List Nat) (ts : List Tch) (cs : List Nat) (us : List Tch) (c : Int) (w : World) (e : Ending) (w' : World) : Prop :=
  e = .returned (.int .i64 c) ∧ ∃ F', (∀ i, F' i → F i ∨ w.heap.size ≤ i) ∧ Two t u w0 P Q F' G bs ts cs us w' ∧ Turned F w w'
def ReadTwo (t u : TypeId) (w0 : World) (P Q : Nat) (F G : Nat → Prop) (bs : List Nat) (ts : List Tch) (cs : List Nat) (us : List Tch) (n : Nat) (vs : List Nat) (c : Int) (w : World) (e : Ending) (w' : World) : Prop :=
  ∃ X cx F', e = .returned (.tuple #[.slice X n cx, .int .i64 c]) ∧ (∀ i, F' i → F i ∨ w.heap.size ≤ i) ∧ Two t u w0 P Q F' G bs ts cs us w' ∧ w'.ownsRow w.heap.size 33 1 (.slice X n cx) n (vs.map uv) ∧ (∀ g, (Value.slice X n cx).ownBlock = some g → ¬ F' g) ∧ Turned F w w'

theorem write_two {u : TypeId} {w0 w : World} {P Q : Nat} {F G N : Nat → Prop} {bs cs : List Nat} {ts us : List Tch} (h : Two 63 u w0 P Q F G bs ts cs us w) (hn : bs.length ≤ 5000) (ht : ts.length ≤ 1000000) (a : Nat) (ha : a < 18446744073709551616) (b : Int)
    (L : Option Addr) (n lc : Nat) (vs : List Nat) (hvn : vs.length = n) (hl : Lies w N L (vs.map uv)) (hN : ∀ i, N i → i < w.heap.size ∧ ¬ F i) (bs' : List Nat) (ts' : List Tch) (c a' : Int)
    (hb' : outB bs a b vs = bs') (ht' : outT bs ts a b vs = ts') (hc : outC bs.length a b vs.length = c) (ha' : a' = a) :
    Calls Try.prog 11 #[.pointer (some ⟨P, 0, none⟩), .int .u64 a', .int .i64 b, .slice L n lc] w (WroteTwo 63 u w0 P Q F G bs' ts' cs us c w) := by
  subst hvn hb' ht' hc ha'
  refine (write_any h.m h.size hn ht a ha b L lc vs hl hN).mono ?_
  rintro e w' ⟨rfl, F', hF', hm, hT⟩
  exact ⟨rfl, F', hF', h.turn hm hT hF', hT⟩
theorem read_two {u : TypeId} {w0 w : World} {P Q : Nat} {F G : Nat → Prop} {bs cs : List Nat} {ts us : List Tch} (h : Two 63 u w0 P Q F G bs ts cs us w) (hn : bs.length ≤ 5000) (ht : ts.length ≤ 1000000) (a : Nat) (ha : a < 18446744073709551616) (b k : Int)
    (vs : List Nat) (n : Nat) (ts' : List Tch) (c a' : Int) (hv : rdV bs a b k = vs) (hvn : vs.length = n) (ht' : rdT bs ts a b k = ts') (hc : rdC bs.length a b k = c) (ha' : a' = a) :
    Calls Try.prog 13 #[.pointer (some ⟨P, 0, none⟩), .int .u64 a', .int .i64 b, .int .i64 k] w (ReadTwo 63 u w0 P Q F G bs ts' cs us n vs c w) := by
  subst hvn hv ht' hc ha'
  refine (read_any h.m h.size hn ht a ha b k).mono ?_
  rintro e w' ⟨X, cx, rfl, A, ca, F', T, ct, hF', hm, hT, hown, hoff⟩
  exact ⟨X, cx, F', rfl, hF', h.turn ⟨A, ca, T, ct, hm⟩ hT hF', hown, hoff, hT⟩
theorem there_two {u : TypeId} {w0 w : World} {P Q : Nat} {F G : Nat → Prop} {bs cs : List Nat} {ts us : List Tch} (h : Two 63 u w0 P Q F G bs ts cs us w) (hn : bs.length ≤ 5000) (a : Nat) (ha : a < 18446744073709551616) (k : Int) (r : Bool) (a' : Int) (hr : thereB bs.length a k = r) (ha' : a' = a) :
    Calls Try.prog 16 #[.pointer (some ⟨P, 0, none⟩), .int .u64 a', .int .i64 k] w fun e w' => e = .returned (.bool r) ∧ w = w' := by
  subst ha'
  obtain ⟨A, ca, T, ct, hm⟩ := h.m
  exact there_any hm hn a ha k r hr

theorem rwrite_two {u : TypeId} {w0 w : World} {P Q : Nat} {F G N : Nat → Prop} {bs cs : List Nat} {ts us : List Tch} (h : Two 32 u w0 P Q F G bs ts cs us w) (hn : bs.length ≤ 5000) (ht : ts.length ≤ 1000000) (a : Nat) (ha : a < 18446744073709551616) (b : Int)
    (L : Option Addr) (n lc : Nat) (vs : List Nat) (hvn : vs.length = n) (hvs : ∀ v ∈ vs, v < 18446744073709551616) (hl : Lies w N L (vs.map uv)) (hN : ∀ i, N i → i < w.heap.size ∧ ¬ F i) (bs' : List Nat) (ts' : List Tch) (c a' : Int)
    (hb' : outB bs a b vs = bs') (ht' : outT bs ts a b vs = ts') (hc : outC bs.length a b vs.length = c) (ha' : a' = a) :
    Calls Try.prog 12 #[.pointer (some ⟨P, 0, none⟩), .int .u64 a', .int .i64 b, .slice L n lc] w (WroteTwo 32 u w0 P Q F G bs' ts' cs us c w) := by
  subst hvn hb' ht' hc ha'
  refine (rwrite_any h.m h.size hn ht a ha b L lc vs hvs hl hN).mono ?_
  rintro e w' ⟨rfl, F', hF', hm, hT⟩
  exact ⟨rfl, F', hF', h.turn hm hT hF', hT⟩
theorem rread_two {u : TypeId} {w0 w : World} {P Q : Nat} {F G : Nat → Prop} {bs cs : List Nat} {ts us : List Tch} (h : Two 32 u w0 P Q F G bs ts cs us w) (hn : bs.length ≤ 5000) (ht : ts.length ≤ 1000000) (a : Nat) (ha : a < 18446744073709551616) (b k : Int)
    (vs : List Nat) (n : Nat) (ts' : List Tch) (c a' : Int) (hv : rdV bs a b k = vs) (hvn : vs.length = n) (ht' : rdT bs ts a b k = ts') (hc : rdC bs.length a b k = c) (ha' : a' = a) :
    Calls Try.prog 14 #[.pointer (some ⟨P, 0, none⟩), .int .u64 a', .int .i64 b, .int .i64 k] w (ReadTwo 32 u w0 P Q F G bs ts' cs us n vs c w) := by
  subst hvn hv ht' hc ha'
  refine (rread_any h.m h.size hn ht a ha b k).mono ?_
  rintro e w' ⟨X, cx, rfl, A, ca, F', T, ct, hF', hm, hT, hown, hoff⟩
  exact ⟨X, cx, F', rfl, hF', h.turn ⟨A, ca, T, ct, hm⟩ hT hF', hown, hoff, hT⟩
theorem rthere_two {u : TypeId} {w0 w : World} {P Q : Nat} {F G : Nat → Prop} {bs cs : List Nat} {ts us : List Tch} (h : Two 32 u w0 P Q F G bs ts cs us w) (hn : bs.length ≤ 5000) (a : Nat) (ha : a < 18446744073709551616) (k : Int) (r : Bool) (a' : Int) (hr : thereB bs.length a k = r) (ha' : a' = a) :
    Calls Try.prog 17 #[.pointer (some ⟨P, 0, none⟩), .int .u64 a', .int .i64 k] w fun e w' => e = .returned (.bool r) ∧ w = w' := by
  subst ha'
  obtain ⟨A, ca, T, ct, hm⟩ := h.m
  exact rthere_any hm hn a ha k r hr

theorem put_getD (bs : List Nat) (f v k i : Nat) (hi : i < bs.length) : (put bs f v k).getD i 0 = if f ≤ i ∧ i < f + k then byteAt v (i - f) else bs.getD i 0 := by
  induction k with
  | zero => rw [if_neg (by omega)]; rfl
  | succ k ih =>
    rw [put]
    by_cases e : f + k = i
    · subst e
      rw [if_pos (by omega), Nat.add_sub_cancel_left]
      simp [List.getD, hi]
    · have : ((put bs f v k).set (f + k) (byteAt v k)).getD i 0 = (put bs f v k).getD i 0 := by simp [List.getD, List.getElem?_set_ne e]
      rw [this, ih]
      by_cases c : f ≤ i ∧ i < f + k
      · rw [if_pos c, if_pos (by omega)]
      · rw [if_neg c, if_neg (by omega)]
end Go.Proofs.Ytcnhnjbefhgaaaa
