/- What Clone, New, Bytes and Trace give; lists that are the same are found the same. -/
import Derived.Test.YtcnhnjbefhgaaaaWrite
namespace Go.Proofs.Ytcnhnjbefhgaaaa
open Go.RowKit

theorem info5 : (Try.prog.info? 5).map (fun i => (i.zero, i.size, i.bytes)) = some (some (.int .u8 0), 1, 1) := by kernel_rfl

theorem Turned.drewN {F : Nat → Prop} {a w : World} (h : Turned F a w) (n : Nat) : Turned F a (w.drewN n) := ⟨h.os, h.tape, h.output, h.size, h.block⟩
theorem bv_one (bs : List Nat) : ∀ u ∈ bs.map bv, u.oneCell' = true := by
  intro u hu
  simp at hu
  obtain ⟨c, _, rfl⟩ := hu
  rfl
theorem tvs_one (ts : List Tch) : ∀ u ∈ tvs ts, u.oneCell' = true := by
  intro u hu
  simp only [tvs, List.mem_flatMap] at hu
  obtain ⟨t, _, hu⟩ := hu
  exact tv_one t u hu
theorem lies_cells {w : World} {N : Nat → Prop} {ad : Addr} {xs : List Value} (h : Lies w N (some ad) xs) : ∀ j u, xs[j]? = some u → w.cell? (ad.add j) = some u := by
  intro j u hu
  have hj : j < xs.length := by
    rcases Nat.lt_or_ge j xs.length with hlt | hge
    · exact hlt
    · rw [List.getElem?_eq_none hge] at hu; cases hu
  obtain ⟨b, off, e, _, hc⟩ := h (by omega)
  injection e with e
  subst e
  have := hc j u hu
  rw [Go.WideShapes.add_plain]
  exact this
theorem lies_own {w : World} {base : Nat} {e : TypeId} {size n cap : Nat} {A : Option Addr} {xs : List Value} (h : w.ownsRow base e size (.slice A n cap) n xs) : Lies w (fun i => base ≤ i ∧ i < w.heap.size) A xs := by
  intro hl
  rcases h.2 with ⟨_, h0⟩ | ⟨g, cap', cur, e', hb, hg, _⟩
  · have := h.1; rw [h0] at this; omega
  · injection e' with e1 e2 e3
    subst e1
    refine ⟨g, 0, rfl, ⟨hb, lt_of_block hg⟩, fun j u hu => ?_⟩
    have := h.cells (g := g) rfl j u hu
    rw [Go.WideShapes.add_plain] at this
    exact this

/-- a slice of the call's own, of n elements; nothing that existed has changed -/
def Fresh (e : TypeId) (size n : Nat) (xs : List Value) (w : World) (en : Ending) (w' : World) : Prop :=
  ∃ X cx, en = .returned (.slice X n cx) ∧ w'.ownsRow w.heap.size e size (.slice X n cx) n xs ∧ Below w.heap.size w w'





theorem bclone_nil (w : World) : Calls Try.prog 24 #[.slice none 0 0] w (Fresh 5 1 0 [] w) := by
  have hn := fun w => Lib.run_eql_slice_nil (P := Try.prog) w 22 5 none 0 0 0 0 Try.underlying22
  go_enter Try.func24, Try.ntmps24
  go_wp2
  go_ret
  exact ⟨none, 0, rfl, World.ownsRow_nil _ _ _ _, Below.refl _ _⟩
theorem bclone_some (ad : Addr) (cap : Nat) (bs : List Nat) (hlen : bs.length ≤ 2000000) (N : Nat → Prop) (w : World) (hl : Lies w N (some ad) (bs.map bv)) (hN : ∀ i, N i → i < w.heap.size) :
    Calls Try.prog 24 #[.slice (some ad) bs.length cap] w (Fresh 5 1 bs.length (bs.map bv) w) := by
  have hn := fun w => Lib.run_eql_slice_nil (P := Try.prog) w 22 5 (some ad) bs.length cap 0 0 Try.underlying22
  have HL := Lib.hid hl
  have HN := Lib.hid hN
  clear hl hN
  obtain ⟨i0, hi0, hz0, hz1, hz2⟩ := info_parts info5
  go_enter Try.func24, Try.ntmps24
  go_wp2_with (at_builtin; refine wpList_append_own _ rfl _ _ 22 rfl w.heap.size 5 i0 _ 1 1 Try.underlying22 hi0 hz0 hz1 hz2 rfl (by decide) _ 0 [] rfl ?c0 ad bs.length cap (bs.map bv) rfl (by simp) ?c1 (bv_one bs) ?c3 ?c4 ?c5 ?_)
  case c0 => exact World.ownsRow_lit _ #[] 0 (Nat.le_refl _) (by unfold maxLen; omega) rfl
  case c1 => exact lies_cells (HL.out.keep fun b hb => Below.heap_alloc w _ b (HN.out b hb))
  case c3 => unfold maxLen; omega
  case c4 => omega
  case c5 => simp
  intro v' w1 hown hgrow _
  obtain ⟨X, cx, rfl, _, _⟩ := own_form hown
  have HB := Lib.hid (((Below.refl w.heap.size w).alloc (Nat.le_refl _) (Obj.cells #[] 5)).grown hgrow (by simp) (fun k hk => by simp [Value.ownBlock] at hk; omega))
  have HO := Lib.hid hown
  clear hown hgrow
  go_wp2_with fail
  go_ret
  exact ⟨X, cx, rfl, HO.out, HB.out⟩
theorem bclone_any (A : Option Addr) (cap : Nat) (bs : List Nat) (hlen : bs.length ≤ 2000000) (hA : A = none → bs.length = 0 ∧ cap = 0) (N : Nat → Prop) (w : World) (hl : Lies w N A (bs.map bv)) (hN : ∀ i, N i → i < w.heap.size) :
    Calls Try.prog 24 #[.slice A bs.length cap] w (Fresh 5 1 bs.length (bs.map bv) w) := by
  cases A with
  | none =>
    obtain ⟨h0, rfl⟩ := hA rfl
    obtain rfl : bs = [] := List.eq_nil_of_length_eq_zero h0
    exact bclone_nil w
  | some ad => exact bclone_some ad cap bs hlen N w hl hN

theorem tclone_nil (w : World) : Calls Try.prog 27 #[.slice none 0 0] w (Fresh 49 3 0 [] w) := by
  have hn := fun w => Lib.run_eql_slice_nil (P := Try.prog) w 30 49 none 0 0 0 0 Try.underlying30
  go_enter Try.func27, Try.ntmps27
  go_wp2
  go_ret
  exact ⟨none, 0, rfl, World.ownsRow_nil _ _ _ _, Below.refl _ _⟩
theorem tclone_some (ad : Addr) (cap : Nat) (bs : List Tch) (hlen : bs.length ≤ 2000000) (N : Nat → Prop) (w : World) (hl : Lies w N (some ad) (tvs bs)) (hN : ∀ i, N i → i < w.heap.size) :
    Calls Try.prog 27 #[.slice (some ad) bs.length cap] w (Fresh 49 3 bs.length (tvs bs) w) := by
  have hn := fun w => Lib.run_eql_slice_nil (P := Try.prog) w 30 49 (some ad) bs.length cap 0 0 Try.underlying30
  have HL := Lib.hid hl
  have HN := Lib.hid hN
  clear hl hN
  obtain ⟨i0, hi0, hz0, hz1, hz2⟩ := info_parts info49
  go_enter Try.func27, Try.ntmps27
  go_wp2_with (at_builtin; refine wpList_append_own _ rfl _ _ 30 rfl w.heap.size 49 i0 _ 3 24 Try.underlying30 hi0 hz0 hz1 hz2 rfl (by decide) _ 0 [] rfl ?c0 ad bs.length cap (tvs bs) rfl (by simp) ?c1 (tvs_one bs) ?c3 ?c4 ?c5 ?_)
  case c0 => exact World.ownsRow_lit _ #[] 0 (Nat.le_refl _) (by unfold maxLen; omega) rfl
  case c1 => exact lies_cells (HL.out.keep fun b hb => Below.heap_alloc w _ b (HN.out b hb))
  case c3 => unfold maxLen; omega
  case c4 => omega
  case c5 => simp
  intro v' w1 hown hgrow _
  obtain ⟨X, cx, rfl, _, _⟩ := own_form hown
  have HB := Lib.hid (((Below.refl w.heap.size w).alloc (Nat.le_refl _) (Obj.cells #[] 49)).grown hgrow (by simp) (fun k hk => by simp [Value.ownBlock] at hk; omega))
  have HO := Lib.hid hown
  clear hown hgrow
  go_wp2_with fail
  go_ret
  exact ⟨X, cx, rfl, HO.out, HB.out⟩
theorem tclone_any (A : Option Addr) (cap : Nat) (bs : List Tch) (hlen : bs.length ≤ 2000000) (hA : A = none → bs.length = 0 ∧ cap = 0) (N : Nat → Prop) (w : World) (hl : Lies w N A (tvs bs)) (hN : ∀ i, N i → i < w.heap.size) :
    Calls Try.prog 27 #[.slice A bs.length cap] w (Fresh 49 3 bs.length (tvs bs) w) := by
  cases A with
  | none =>
    obtain ⟨h0, rfl⟩ := hA rfl
    obtain rfl : bs = [] := List.eq_nil_of_length_eq_zero h0
    exact tclone_nil w
  | some ad => exact tclone_some ad cap bs hlen N w hl hN

/-- a new memory, from what is read in a slice -/
def NewIs (bs : List Nat) (w : World) (e : Ending) (w' : World) : Prop :=
  ∃ P F, e = .returned (.tuple #[.pointer (some ⟨P, 0, none⟩), .int .i64 0]) ∧ MemIs 63 w' w.heap.size P F bs [] ∧ Below w.heap.size w w'

theorem mem_new {ty : TypeId} (hty : 5 ≠ ty ∧ 49 ≠ ty) {w w1 : World} {bs : List Nat} {X : Option Addr} {cx : Nat} (ho : Octets bs) (hown : w1.ownsRow w.heap.size 5 1 (.slice X bs.length cx) bs.length (bs.map bv)) (hb : Below w.heap.size w w1) :
    MemIs ty (w1.alloc (.cells #[.slice X bs.length cx, .slice none 0 0] ty)) w.heap.size w1.heap.size (fun i => w.heap.size ≤ i ∧ i < w1.heap.size + 1) bs [] ∧ Below w.heap.size w (w1.alloc (.cells #[.slice X bs.length cx, .slice none 0 0] ty)) := by
  refine ⟨⟨X, cx, none, 0, hty, heap_alloc_new w1 _, hown.alloc _, World.ownsRow_nil _ _ _ _, ho, ⟨hb.size, by omega⟩, fun g hg => ?_, (fun g hg => by cases hg), fun i hi => ⟨hi.1, by simpa using hi.2⟩⟩, hb.alloc hb.size _⟩
  have := hown.lt g hg
  exact ⟨this.1, by omega⟩

theorem new_big (A : Option Addr) (n cap : Nat) (h : 4096 < n) (w : World) :
    Calls Try.prog 10 #[.slice A n cap] w fun e w' => e = .returned (.tuple #[.pointer none, .int .i64 4]) ∧ w = w' := by
  go_enter Try.func10, Try.ntmps10
  go_wp2
  go_ret2
  exact ⟨rfl, rfl⟩
theorem new_any (A : Option Addr) (cap : Nat) (bs : List Nat) (hlen : bs.length ≤ 4096) (hA : A = none → bs.length = 0 ∧ cap = 0) (ho : Octets bs) (N : Nat → Prop) (w : World) (hl : Lies w N A (bs.map bv)) (hN : ∀ i, N i → i < w.heap.size) :
    Calls Try.prog 10 #[.slice A bs.length cap] w (NewIs bs w) := by
  have HL := Lib.hid hl
  have HN := Lib.hid hN
  have HA := Lib.hid hA
  have HO := Lib.hid ho
  clear hl hN hA ho
  go_enter Try.func10, Try.ntmps10
  go_wp2_with fail
  refine (bclone_any A cap bs (by omega) HA.out N _ HL.out HN.out).mono ?_
  rintro e w1 ⟨X, cx, rfl, hown, hb⟩
  have R := Lib.hid (mem_new (ty := 63) ⟨by decide, by decide⟩ HO.out hown hb)
  clear hown hb
  go_wp2_with fail
  go_ret2
  exact ⟨_, _, rfl, R.out.1, R.out.2⟩

theorem bytes_any {w : World} {base P : Nat} {F : Nat → Prop} {bs : List Nat} {ts : List Tch} (h : MemIs 63 w base P F bs ts) (hn : bs.length ≤ 5000) :
    Calls Try.prog 19 #[.pointer (some ⟨P, 0, none⟩)] w (Fresh 5 1 bs.length (bs.map bv) w) := by
  obtain ⟨A, ca, T, ct, h⟩ := h
  have c0 := h.cell0
  have HM := Lib.hid h
  have HA : Hid (A = none → bs.length = 0 ∧ ca = 0) := Lib.hid (fun e => by
    rcases h.ownB.2 with ⟨e1, h0⟩ | ⟨g, cap, cur, e1, _⟩
    · injection e1 with _ _ e1; exact ⟨h0, e1⟩
    · injection e1 with e1; rw [e] at e1; cases e1)
  clear h
  go_enter Try.func19, Try.ntmps19
  go_wp2_with fail
  refine (bclone_any A ca bs (by omega) HA.out _ _ (lies_own HM.out.ownB) (fun i hi => hi.2)).mono ?_
  rintro e w1 ⟨X, cx, rfl, hown, hb⟩
  have HO := Lib.hid hown
  have HB := Lib.hid hb
  clear hown hb
  go_wp2_with fail
  go_ret
  exact ⟨X, cx, rfl, HO.out, HB.out⟩
theorem trace_any {w : World} {base P : Nat} {F : Nat → Prop} {bs : List Nat} {ts : List Tch} (h : MemIs 63 w base P F bs ts) (hn : ts.length ≤ 2000000) :
    Calls Try.prog 21 #[.pointer (some ⟨P, 0, none⟩)] w (Fresh 49 3 ts.length (tvs ts) w) := by
  obtain ⟨A, ca, T, ct, h⟩ := h
  have c0 := h.cell1
  have HM := Lib.hid h
  have HA : Hid (T = none → ts.length = 0 ∧ ct = 0) := Lib.hid (fun e => by
    rcases h.ownT.2 with ⟨e1, h0⟩ | ⟨g, cap, cur, e1, _⟩
    · injection e1 with _ _ e1; exact ⟨h0, e1⟩
    · injection e1 with e1; rw [e] at e1; cases e1)
  clear h
  go_enter Try.func21, Try.ntmps21
  go_wp2_with fail
  refine (tclone_any T ct ts (by omega) HA.out _ _ (lies_own HM.out.ownT) (fun i hi => hi.2)).mono ?_
  rintro e w1 ⟨X, cx, rfl, hown, hb⟩
  have HO := Lib.hid hown
  have HB := Lib.hid hb
  clear hown hb
  go_wp2_with fail
  go_ret
  exact ⟨X, cx, rfl, HO.out, HB.out⟩
end Go.Proofs.Ytcnhnjbefhgaaaa
