/- What the laws ask first: 'awake' gives true. -/
import Derived.Test.YtcnhnjbefhgaaaaSame
import Derived.Test.YtcnhnjbefhgaaaaRefRead
namespace Go.Proofs.Ytcnhnjbefhgaaaa
open Go.RowKit

def GrownTrue (w : World) (e : Ending) (w' : World) : Prop := e = .returned (.bool true) ∧ Below w.heap.size w w'

theorem lies_new (w : World) (cs : Array Value) (e : TypeId) (xs : List Value) (h : cs.toList = xs) : Lies (w.alloc (.cells cs e)) (fun i => i = w.heap.size) (some ⟨w.heap.size, 0, none⟩) xs := by
  subst h
  intro _
  refine ⟨w.heap.size, 0, rfl, rfl, fun j u hu => ?_⟩
  have := World.cell?_alloc_new w cs e j
  simp only [Nat.zero_add]
  rw [this]
  simpa using hu

/-- the memory's blocks lie above b; what lay below b is as it was at w0 -/
structure Held (ty : TypeId) (w0 : World) (P : Nat) (F : Nat → Prop) (bs : List Nat) (ts : List Tch) (w : World) : Prop where
  mem : MemIs ty w w0.heap.size P F bs ts
  below : Below w0.heap.size w0 w
theorem Held.size {ty : TypeId} {w0 : World} {P : Nat} {F : Nat → Prop} {bs : List Nat} {ts : List Tch} {w : World} (h : Held ty w0 P F bs ts w) : w0.heap.size ≤ w.heap.size := h.below.size
theorem Held.turn {ty : TypeId} {w0 : World} {P : Nat} {F F' : Nat → Prop} {bs bs' : List Nat} {ts ts' : List Tch} {w w' : World} (h : Held ty w0 P F bs ts w) (hm : MemIs ty w' w0.heap.size P F' bs' ts') (ht : Turned F w w') : Held ty w0 P F' bs' ts' w' :=
  ⟨hm, h.below.trans ((ht.below (fun i hi => (h.mem.lo i hi).1) h.size))⟩
theorem Held.grown {ty : TypeId} {w0 : World} {P : Nat} {F : Nat → Prop} {bs : List Nat} {ts : List Tch} {w w' : World} (h : Held ty w0 P F bs ts w) (hb : Below w.heap.size w w') : Held ty w0 P F bs ts w' :=
  ⟨h.mem.apart (Turned.of_below hb (fun _ => False)) (fun _ _ => id), h.below.trans (hb.mono h.size)⟩

def WroteH (ty : TypeId) (w0 : World) (P : Nat) (F : Nat → Prop) (bs : List Nat) (ts : List Tch) (c : Int) (w : World) (e : Ending) (w' : World) : Prop :=
  e = .returned (.int .i64 c) ∧ ∃ F', (∀ i, F' i → F i ∨ w.heap.size ≤ i) ∧ Held ty w0 P F' bs ts w' ∧ Turned F w w'
theorem write_held {w0 w : World} {P : Nat} {F N : Nat → Prop} {bs : List Nat} {ts : List Tch} (h : Held 63 w0 P F bs ts w) (hn : bs.length ≤ 5000) (ht : ts.length ≤ 1000000) (a : Nat) (ha : a < 18446744073709551616) (b : Int)
    (L : Option Addr) (n lc : Nat) (vs : List Nat) (hvn : vs.length = n) (hl : Lies w N L (vs.map uv)) (hN : ∀ i, N i → i < w.heap.size ∧ ¬ F i) (bs' : List Nat) (ts' : List Tch) (c a' : Int)
    (hb' : outB bs a b vs = bs') (ht' : outT bs ts a b vs = ts') (hc : outC bs.length a b vs.length = c) (ha' : a' = a) :
    Calls Try.prog 11 #[.pointer (some ⟨P, 0, none⟩), .int .u64 a', .int .i64 b, .slice L n lc] w (WroteH 63 w0 P F bs' ts' c w) := by
  subst hvn hb' ht' hc ha'
  refine (write_any h.mem h.size hn ht a ha b L lc vs hl hN).mono ?_
  rintro e w' ⟨rfl, F', hF', hm, hT⟩
  exact ⟨rfl, F', hF', h.turn hm hT, hT⟩
def ReadH (ty : TypeId) (w0 : World) (P : Nat) (F : Nat → Prop) (bs : List Nat) (ts : List Tch) (n : Nat) (vs : List Nat) (c : Int) (w : World) (e : Ending) (w' : World) : Prop :=
  ∃ X cx F', e = .returned (.tuple #[.slice X n cx, .int .i64 c]) ∧ (∀ i, F' i → F i ∨ w.heap.size ≤ i) ∧ Held ty w0 P F' bs ts w' ∧ w'.ownsRow w.heap.size 33 1 (.slice X n cx) n (vs.map uv) ∧ (∀ g, (Value.slice X n cx).ownBlock = some g → ¬ F' g) ∧ Turned F w w'
theorem read_held {w0 w : World} {P : Nat} {F : Nat → Prop} {bs : List Nat} {ts : List Tch} (h : Held 63 w0 P F bs ts w) (hn : bs.length ≤ 5000) (ht : ts.length ≤ 1000000) (a : Nat) (ha : a < 18446744073709551616) (b k : Int)
    (vs : List Nat) (n : Nat) (ts' : List Tch) (c a' : Int) (hv : rdV bs a b k = vs) (hvn : vs.length = n) (ht' : rdT bs ts a b k = ts') (hc : rdC bs.length a b k = c) (ha' : a' = a) :
    Calls Try.prog 13 #[.pointer (some ⟨P, 0, none⟩), .int .u64 a', .int .i64 b, .int .i64 k] w (ReadH 63 w0 P F bs ts' n vs c w) := by
  subst hvn hv ht' hc ha'
  refine (read_any h.mem h.size hn ht a ha b k).mono ?_
  rintro e w' ⟨X, cx, rfl, A, ca, F', T, ct, hF', hm, hT, hown, hoff⟩
  exact ⟨X, cx, F', rfl, hF', h.turn ⟨A, ca, T, ct, hm⟩ hT, hown, hoff, hT⟩
theorem there_held {w0 w : World} {P : Nat} {F : Nat → Prop} {bs : List Nat} {ts : List Tch} (h : Held 63 w0 P F bs ts w) (hn : bs.length ≤ 5000) (a : Nat) (ha : a < 18446744073709551616) (k : Int) (r : Bool) (a' : Int) (hr : thereB bs.length a k = r) (ha' : a' = a) :
    Calls Try.prog 16 #[.pointer (some ⟨P, 0, none⟩), .int .u64 a', .int .i64 k] w fun e w' => e = .returned (.bool r) ∧ w = w' := by
  subst ha'
  obtain ⟨A, ca, T, ct, hm⟩ := h.mem
  exact there_any hm hn a ha k r hr

theorem own_at {w : World} {base : Nat} {e : TypeId} {g n cap : Nat} {xs : List Value} (h : w.ownsRow base e 1 (.slice (some ⟨g, 0, none⟩) n cap) n xs) : base ≤ g ∧ g < w.heap.size := h.lt g rfl
theorem own_lies {w : World} {base : Nat} {e : TypeId} {n : Nat} {A : Option Addr} {cap : Nat} {xs : List Value} (h : w.ownsRow base e 1 (.slice A n cap) n xs) {k : Nat} {u : Value} (hk : xs[k]? = some u) (hx : xs.length = n) : ∃ g, A = some ⟨g, 0, none⟩ ∧ w.cell? ⟨g, k, none⟩ = some u := by
  rcases h.2 with ⟨_, h0⟩ | ⟨g, cap', cur, e', _⟩
  · subst h0; rw [List.eq_nil_of_length_eq_zero hx] at hk; simp at hk
  · injection e' with e1
    subst e1
    have := h.cells (g := g) rfl k u hk
    rw [Go.WideShapes.add_plain, Nat.zero_add] at this
    exact ⟨g, rfl, this⟩

theorem oct9 : Octets [9, 9, 9, 9] := by intro c hc; simp at hc; omega

set_option maxHeartbeats 2000000 in
set_option maxRecDepth 100000 in
theorem awake_any (w : World) : Calls Try.prog 9 #[] w (GrownTrue w) := by
  go_enter Try.func9, Try.ntmps9
  go_wp2_with fail
  have B0 : Below w.heap.size w (w.alloc (.cells #[.int .u8 9, .int .u8 9, .int .u8 9, .int .u8 9] 5)) := (Below.refl _ _).alloc (Nat.le_refl _) _
  have L0 := lies_new w #[.int .u8 9, .int .u8 9, .int .u8 9, .int .u8 9] 5 ([9, 9, 9, 9].map bv) rfl
  have hsz : w.heap.size < (w.alloc (.cells #[.int .u8 9, .int .u8 9, .int .u8 9, .int .u8 9] 5)).heap.size := by simp
  generalize w.alloc (.cells #[.int .u8 9, .int .u8 9, .int .u8 9, .int .u8 9] 5) = w0 at *
  have HB0 := Lib.hid B0
  clear B0
  refine (new_any _ 4 [9, 9, 9, 9] (by decide) (fun h => by cases h) oct9 _ _ L0 (fun i hi => by rw [hi]; exact hsz)).mono ?_
  clear L0 hsz
  rintro e w1 ⟨P, F, rfl, hmem, hb⟩
  have H1 : Hid (Held 63 w0 P F [9, 9, 9, 9] [] w1) := Lib.hid ⟨hmem, hb⟩
  clear hmem hb
  go_wp2_with fail
  have H2 := Lib.hid (H1.out.grown ((Below.refl w1.heap.size w1).alloc (Nat.le_refl _) (.cells #[.int .u64 258] 33)))
  have L0 := lies_new w1 #[.int .u64 258] 33 ([258].map uv) rfl
  have hsz : w1.heap.size < (w1.alloc (.cells #[.int .u64 258] 33)).heap.size := by simp
  have hF : ¬ F w1.heap.size := fun hf => absurd (H1.out.mem.lo _ hf).2 (by omega)
  generalize w1.alloc (.cells #[.int .u64 258] 33) = w2 at *
  refine (write_held H2.out (by decide) (by decide) 2 (by decide) 16 _ 1 1 [258] rfl L0 (fun i hi => by rw [hi]; exact ⟨hsz, hF⟩) [9, 9, 2, 1] [(true, 2, 2), (true, 3, 1)] 0 2 rfl rfl rfl rfl).mono ?_
  clear L0 hsz hF
  rintro e w3 ⟨rfl, F3, _, h3, _⟩
  have H3 := Lib.hid h3
  clear h3 H2 H1
  go_wp2_with fail
  refine (read_held H3.out (by decide) (by decide) 0 (by decide) 32 1 [16910601] 1 [(true, 2, 2), (true, 3, 1), (false, 0, 9), (false, 1, 9), (false, 2, 2), (false, 3, 1)] 0 0 rfl rfl rfl rfl rfl).mono ?_
  rintro e w4 ⟨X, cx, F4, rfl, _, h4, hown, hoff, _⟩
  have H4 := Lib.hid h4
  obtain ⟨g, rfl, hcell⟩ := own_lies hown (k := 0) (u := .int .u64 16910601) rfl rfl
  have hg : Hid (g < w4.heap.size ∧ ¬ F4 g) := Lib.hid ⟨(own_at hown).2, hoff g rfl⟩
  have HC := Lib.hid hcell
  clear h4 hown hoff hcell H3
  go_wp2_with fail
  refine (read_held H4.out (by decide) (by decide) 1 (by decide) 32 1 [] 0 [(true, 2, 2), (true, 3, 1), (false, 0, 9), (false, 1, 9), (false, 2, 2), (false, 3, 1)] 8 1 rfl rfl rfl rfl rfl).mono ?_
  rintro e w5 ⟨X5, cx5, F5, rfl, _, h5, _, _, ht5⟩
  have H5 := Lib.hid h5
  have HC5 := Lib.hid ((ht5.cell (p := ⟨g, 0, none⟩) hg.out.1 hg.out.2).trans HC.out)
  have hg5 : Hid (g < w5.heap.size) := Lib.hid (Nat.lt_of_lt_of_le hg.out.1 ht5.size)
  clear h5 ht5 hg HC H4
  go_wp2_with fail
  refine (bytes_any H5.out.mem (by decide)).mono ?_
  rintro e w6 ⟨Y, cy, rfl, hown, hb6⟩
  have H6 := Lib.hid (H5.out.grown hb6)
  obtain ⟨y, rfl, c2⟩ := own_lies hown (k := 2) (u := .int .u8 2) rfl rfl
  obtain ⟨_, e1, c3⟩ := own_lies hown (k := 3) (u := .int .u8 1) rfl rfl
  cases e1
  have c0 : w6.cell? ⟨g, 0, none⟩ = some (.int .u64 16910601) := (hb6.cell (p := ⟨g, 0, none⟩) hg5.out).trans HC5.out
  clear hown hb6 hg5 HC5 H5
  go_wp2_with fail
  refine (trace_any H6.out.mem (by decide)).mono ?_
  rintro e w7 ⟨Z, cz, rfl, _, hb7⟩
  have H7 := Lib.hid (H6.out.grown hb7)
  clear hb7 c0 c2 c3
  go_wp2_with fail
  refine (there_held H7.out (by decide) 3 (by decide) 1 true 3 (by decide) rfl).mono ?_
  rintro e w' ⟨rfl, rfl⟩
  go_wp2_with fail
  refine (there_held H7.out (by decide) 3 (by decide) 2 false 3 (by decide) rfl).mono ?_
  rintro e w' ⟨rfl, rfl⟩
  go_wp2_with fail
  go_ret
  exact ⟨rfl, HB0.out.trans (H7.out.below.mono HB0.out.size)⟩
end Go.Proofs.Ytcnhnjbefhgaaaa
