/- A memory in the world: a block of two slices, each of the call's own; what turns, and what stays. -/
import Derived.Test.YtcnhnjbefhgaaaaRows
import Derived.Test.YtcnhnjbefhgaaaaPure
import Derived.WalkSpells
import Derived.WalkLawsBesides
import Derived.Lib.Hide
import Derived.Laws.OwnMore
import Derived.OneCell
import Derived.Deep.AppendLies
import Derived.Laws.AppendOwnNone
import Derived.Below
namespace Go.Proofs.Ytcnhnjbefhgaaaa
open Go.RowKit

/-- of the blocks that were there only those of F may have turned -/
structure Turned (F : Nat → Prop) (w w' : World) : Prop where
  os : w'.os = w.os
  tape : w'.tape = w.tape
  output : w'.output = w.output
  size : w.heap.size ≤ w'.heap.size
  block : ∀ k, k < w.heap.size → ¬ F k → w'.heap[k]? = w.heap[k]?

theorem Turned.refl (F : Nat → Prop) (w : World) : Turned F w w := ⟨rfl, rfl, rfl, Nat.le_refl _, fun _ _ _ => rfl⟩
theorem Turned.trans {F G : Nat → Prop} {a b c : World} (h : Turned F a b) (k : Turned G b c) (hG : ∀ i, G i → F i ∨ a.heap.size ≤ i) : Turned F a c :=
  ⟨k.os.trans h.os, k.tape.trans h.tape, k.output.trans h.output, Nat.le_trans h.size k.size, fun i hi hF =>
    (k.block i (Nat.lt_of_lt_of_le hi h.size) (fun g => (hG i g).elim hF (fun l => absurd hi (Nat.not_lt.2 l)))).trans (h.block i hi hF)⟩
theorem Turned.more {F G : Nat → Prop} {a b : World} (h : Turned F a b) (hG : ∀ i, i < a.heap.size → F i → G i) : Turned G a b :=
  ⟨h.os, h.tape, h.output, h.size, fun i hi hn => h.block i hi (fun f => hn (hG i hi f))⟩
theorem Turned.of_below {a b : World} (h : Below a.heap.size a b) (F : Nat → Prop) : Turned F a b := ⟨h.os, h.tape, h.output, h.size, fun i hi _ => h.block i hi⟩
theorem Turned.below {F : Nat → Prop} {B : Nat} {a b : World} (h : Turned F a b) (hF : ∀ i, F i → B ≤ i) (hB : B ≤ a.heap.size) : Below B a b :=
  ⟨h.os, h.tape, h.output, h.size, fun i hi => h.block i (Nat.lt_of_lt_of_le hi hB) (fun f => absurd hi (Nat.not_lt.2 (hF i f)))⟩
theorem Turned.cell {F : Nat → Prop} {a b : World} (h : Turned F a b) {p : Addr} (hp : p.block < a.heap.size) (hn : ¬ F p.block) : b.cell? p = a.cell? p := World.cell?_of_block (w := a) (h.block p.block hp hn)
theorem Turned.of_grown {a b : World} {row : Option Nat} (h : a.grownBy b row) : Turned (fun i => row = some i) a b :=
  ⟨h.os, h.tape, h.output, h.size, fun i hi hn => h.block i hi (fun e => hn e.symm)⟩
theorem Turned.setCell (a : World) (p : Addr) (u : Value) : Turned (fun i => i = p.block) a (a.setCell p u) :=
  ⟨rfl, rfl, rfl, by simp [World.setCell], fun i _ hn => Below.heap_setCell a p u i hn⟩
theorem Turned.alloc (a : World) (o : Obj) : Turned (fun _ => False) a (a.alloc o) :=
  ⟨rfl, rfl, rfl, by simp, fun i hi _ => Below.heap_alloc a o i hi⟩

/-- a slice's address holds these cells, in a block of N -/
def Lies (w : World) (N : Nat → Prop) (A : Option Addr) (xs : List Value) : Prop :=
  0 < xs.length → ∃ b off, A = some ⟨b, off, none⟩ ∧ N b ∧ ∀ j u, xs[j]? = some u → w.cell? ⟨b, off + j, none⟩ = some u
theorem Lies.keep {w w' : World} {N : Nat → Prop} {A : Option Addr} {xs : List Value} (h : Lies w N A xs) (hk : ∀ b, N b → w'.heap[b]? = w.heap[b]?) : Lies w' N A xs := by
  intro hl
  obtain ⟨b, off, hA, hb, hc⟩ := h hl
  exact ⟨b, off, hA, hb, fun j u hu => (World.cell?_of_block (w := w) (w' := w') (a := ⟨b, off + j, none⟩) (hk b hb)).trans (hc j u hu)⟩
theorem Lies.turned {w w' : World} {F N : Nat → Prop} {A : Option Addr} {xs : List Value} (h : Lies w N A xs) (ht : Turned F w w') (hN : ∀ b, N b → b < w.heap.size ∧ ¬ F b) : Lies w' N A xs :=
  h.keep fun b hb => ht.block b (hN b hb).1 (hN b hb).2
theorem Lies.weak {w : World} {N M : Nat → Prop} {A : Option Addr} {xs : List Value} (h : Lies w N A xs) (hN : ∀ b, N b → M b) : Lies w M A xs := by
  intro hl
  obtain ⟨b, off, hA, hb, hc⟩ := h hl
  exact ⟨b, off, hA, hN b hb, hc⟩
theorem Lies.at_ {w : World} {N : Nat → Prop} {A : Option Addr} {xs : List Value} (h : Lies w N A xs) {i : Nat} (hi : i < xs.length) :
    ∃ b off, A = some ⟨b, off, none⟩ ∧ N b ∧ ∀ j u, xs[j]? = some u → w.cell? ⟨b, off + j, none⟩ = some u := h (by omega)

theorem own_turned {w w' : World} {F : Nat → Prop} {base : Nat} {e : TypeId} {size : Nat} {v : Value} {n : Nat} {xs : List Value} (h : w.ownsRow base e size v n xs) (ht : Turned F w w') (hn : ∀ g, v.ownBlock = some g → ¬ F g) : w'.ownsRow base e size v n xs := by
  refine ⟨h.1, ?_⟩
  rcases h.2 with hl | ⟨g, cap, cur, rfl, hb, hg, h1, h2, h3, h4⟩
  · exact .inl hl
  · exact .inr ⟨g, cap, cur, rfl, hb, (ht.block g (lt_of_block hg) (hn g rfl)).trans hg, h1, h2, h3, h4⟩
/-- what a value looks like that owns a row -/
theorem own_form {w : World} {base : Nat} {e : TypeId} {size : Nat} {v : Value} {n : Nat} {xs : List Value} (h : w.ownsRow base e size v n xs) : ∃ A cap, v = .slice A n cap ∧ n ≤ cap ∧ (A = none ∨ ∃ g, A = some ⟨g, 0, none⟩) := by
  rcases h.2 with ⟨rfl, rfl⟩ | ⟨g, cap, cur, rfl, _, _, h1, _⟩
  · exact ⟨none, 0, rfl, Nat.le_refl _, .inl rfl⟩
  · exact ⟨some ⟨g, 0, none⟩, cap, rfl, h1, .inr ⟨g, rfl⟩⟩
theorem own_ne {w : World} {base P : Nat} {e ty : TypeId} {size : Nat} {v : Value} {n : Nat} {xs : List Value} {cs : Array Value} (h : w.ownsRow base e size v n xs) (hP : w.heap[P]? = some (.cells cs ty (0, 0))) (hne : e ≠ ty) : v.ownBlock ≠ some P := by
  rcases h.2 with ⟨rfl, _⟩ | ⟨g, cap, cur, rfl, _, hg, _⟩
  · intro he; cases he
  · intro he
    have : g = P := by simpa [Value.ownBlock] using he
    subst this
    rw [hP] at hg
    injection hg with hg
    injection hg with _ ht
    exact hne ht.symm
theorem own_ne2 {w : World} {base base' : Nat} {e e' : TypeId} {size size' : Nat} {v v' : Value} {n n' : Nat} {xs xs' : List Value} (h : w.ownsRow base e size v n xs) (h' : w.ownsRow base' e' size' v' n' xs') (hne : e ≠ e') {g : Nat} (hg : v.ownBlock = some g) : v'.ownBlock ≠ some g := by
  rcases h.2 with ⟨rfl, _⟩ | ⟨g1, cap, cur, rfl, _, hg1, _⟩
  · cases hg
  · have : g1 = g := by simpa [Value.ownBlock] using hg
    subst this
    exact own_ne h' hg1 (fun e => hne e.symm)

/-- a byte, a touch as cells -/
def bv (c : Nat) : Value := .int .u8 c
def tv (t : Tch) : List Value := [.bool t.1, .int .u64 t.2.1, .int .u8 t.2.2]
def tvs (ts : List Tch) : List Value := ts.flatMap tv
@[simp] theorem tvs_length (ts : List Tch) : (tvs ts).length = ts.length * 3 := by
  induction ts with
  | nil => rfl
  | cons t ts ih => simp only [tvs, List.flatMap_cons, List.length_append, tv] at *; simp only [List.length_cons, List.length_nil]; omega
theorem tvs_snoc (ts : List Tch) (t : Tch) : tvs (ts ++ [t]) = tvs ts ++ tv t := by simp [tvs]

/-- A memory at block P: its bytes, its trace; all of it in blocks of F. -/
structure MemAt (ty : TypeId) (w : World) (base P : Nat) (F : Nat → Prop) (A : Option Addr) (ca : Nat) (T : Option Addr) (ct : Nat) (bs : List Nat) (ts : List Tch) : Prop where
  hty : 5 ≠ ty ∧ 49 ≠ ty
  blk : w.heap[P]? = some (.cells #[.slice A bs.length ca, .slice T ts.length ct] ty (0, 0))
  ownB : w.ownsRow base 5 1 (.slice A bs.length ca) bs.length (bs.map bv)
  ownT : w.ownsRow base 49 3 (.slice T ts.length ct) ts.length (tvs ts)
  oct : Octets bs
  inP : F P
  inA : ∀ g, (Value.slice A bs.length ca).ownBlock = some g → F g
  inT : ∀ g, (Value.slice T ts.length ct).ownBlock = some g → F g
  lo : ∀ i, F i → base ≤ i ∧ i < w.heap.size
def MemIs (ty : TypeId) (w : World) (base P : Nat) (F : Nat → Prop) (bs : List Nat) (ts : List Tch) : Prop := ∃ A ca T ct, MemAt ty w base P F A ca T ct bs ts

section
variable {ty : TypeId} {w w' : World} {base P : Nat} {F G : Nat → Prop} {A T : Option Addr} {ca ct : Nat} {bs : List Nat} {ts : List Tch}
theorem MemAt.apart (h : MemAt ty w base P F A ca T ct bs ts) (ht : Turned G w w') (hd : ∀ i, F i → ¬ G i) : MemAt ty w' base P F A ca T ct bs ts :=
  ⟨h.hty, (ht.block P (h.lo P h.inP).2 (hd P h.inP)).trans h.blk, own_turned h.ownB ht (fun g hg => hd g (h.inA g hg)), own_turned h.ownT ht (fun g hg => hd g (h.inT g hg)), h.oct, h.inP, h.inA, h.inT,
    fun i hi => ⟨(h.lo i hi).1, Nat.lt_of_lt_of_le (h.lo i hi).2 ht.size⟩⟩
theorem MemIs.apart (h : MemIs ty w base P F bs ts) (ht : Turned G w w') (hd : ∀ i, F i → ¬ G i) : MemIs ty w' base P F bs ts := by
  obtain ⟨A, ca, T, ct, h⟩ := h
  exact ⟨A, ca, T, ct, h.apart ht hd⟩
theorem MemIs.lo (h : MemIs ty w base P F bs ts) : ∀ i, F i → base ≤ i ∧ i < w.heap.size := by obtain ⟨_, _, _, _, h⟩ := h; exact h.lo
theorem MemIs.oct (h : MemIs ty w base P F bs ts) : Octets bs := by obtain ⟨_, _, _, _, h⟩ := h; exact h.oct
theorem MemAt.cell0 (h : MemAt ty w base P F A ca T ct bs ts) : w.cell? ⟨P, 0, none⟩ = some (.slice A bs.length ca) := by simp [World.cell?, h.blk]
theorem MemAt.cell1 (h : MemAt ty w base P F A ca T ct bs ts) : w.cell? ⟨P, 1, none⟩ = some (.slice T ts.length ct) := by simp [World.cell?, h.blk]
theorem MemAt.free (h : MemAt ty w base P F A ca T ct bs ts) (i : Nat) : w.frozen? ⟨P, i, none⟩ = false := by simp [World.frozen?, h.blk]
/-- the slice of bytes, where there is one -/
theorem MemAt.formA (h : MemAt ty w base P F A ca T ct bs ts) (hn : 0 < bs.length) : ∃ g, A = some ⟨g, 0, none⟩ ∧ F g ∧ g ≠ P ∧ bs.length ≤ ca ∧ ca ≤ 9223372036854775807 := by
  rcases h.ownB.2 with ⟨_, h0⟩ | ⟨g, cap, cur, e, _, hg, h1, h2, _⟩
  · omega
  · injection e with e1 e2 e3
    subst e1 e3
    refine ⟨g, rfl, h.inA g rfl, fun e => own_ne h.ownB h.blk h.hty.1 (by rw [← e]; rfl), h1, by unfold maxLen at h2; omega⟩
theorem MemAt.byteCell {g : Nat} (h : MemAt ty w base P F (some ⟨g, 0, none⟩) ca T ct bs ts) {j : Nat} (hj : j < bs.length) : w.cell? ⟨g, j, none⟩ = some (.int .u8 (bs.getD j 0)) := by
  rw [h.ownB.cellAt j (by omega)]
  simp [List.getElem?_map, List.getElem?_eq_getElem hj, bv, List.getD]
theorem MemAt.byteFree {g : Nat} (h : MemAt ty w base P F (some ⟨g, 0, none⟩) ca T ct bs ts) (j : Nat) : w.frozen? ⟨g, j, none⟩ = false := h.ownB.frozenAt j

/-- a byte is stored -/
theorem MemAt.byte {g : Nat} (h : MemAt ty w base P F (some ⟨g, 0, none⟩) ca T ct bs ts) (j c : Nat) (hc : c < 256) :
    MemAt ty (w.setCell ⟨g, j, none⟩ (.int .u8 c)) base P F (some ⟨g, 0, none⟩) ca T ct (bs.set j c) ts ∧ Turned F w (w.setCell ⟨g, j, none⟩ (.int .u8 c)) := by
  have ht := Turned.setCell w ⟨g, j, none⟩ (.int .u8 c)
  have hg : F g := h.inA g rfl
  have hne : g ≠ P := fun e => own_ne h.ownB h.blk h.hty.1 (by rw [← e]; rfl)
  obtain ⟨h1, h2⟩ := h.ownB.stored j (.int .u8 c)
  have hl : (bs.set j c).length = bs.length := List.length_set
  refine ⟨⟨h.hty, ?_, ?_, ?_, h.oct.set j c hc, h.inP, ?_, h.inT, fun i hi => ⟨(h.lo i hi).1, Nat.lt_of_lt_of_le (h.lo i hi).2 ht.size⟩⟩, ht.more fun i _ e => by rw [e]; exact hg⟩
  · rw [hl]; exact (ht.block P (h.lo P h.inP).2 (fun e => hne e.symm)).trans h.blk
  · rw [hl, List.map_set]; exact h1
  · exact own_turned h.ownT ht (fun i hi e => own_ne2 h.ownT h.ownB (by decide) hi (by rw [e]; rfl))
  · rw [hl]; exact h.inA

/-- a touch is appended to the trace: a new block for it, the append, the field -/
theorem MemAt.push (h : MemAt ty w base P F A ca T ct bs ts) (o : Obj) (t : Tch) {w1 : World} {g cap : Nat}
    (hown : w1.ownsRow base 49 3 (.slice (some ⟨g, 0, none⟩) (ts.length + 1) cap) (ts.length + 1) (tvs ts ++ tv t))
    (hg : (w.alloc o).grownBy w1 (Value.slice T ts.length ct).ownBlock) (hat : (Value.slice T ts.length ct).ownBlock = some g ∨ g = w.heap.size + 1) :
    MemAt ty (w1.setCell ⟨P, 1, none⟩ (.slice (some ⟨g, 0, none⟩) (ts.length + 1) cap)) base P (fun i => F i ∨ i = g) A ca (some ⟨g, 0, none⟩) cap bs (ts ++ [t]) ∧
    Turned F w (w1.setCell ⟨P, 1, none⟩ (.slice (some ⟨g, 0, none⟩) (ts.length + 1) cap)) := by
  have t1 : Turned (fun i => (Value.slice T ts.length ct).ownBlock = some i) w w1 := ((Turned.alloc w o).more (fun _ _ hf => hf.elim)).trans (Turned.of_grown hg) (fun i hi => .inl hi)
  have t2 := Turned.setCell w1 ⟨P, 1, none⟩ (.slice (some ⟨g, 0, none⟩) (ts.length + 1) cap)
  have hl : (ts ++ [t]).length = ts.length + 1 := by simp
  have hPlt := (h.lo P h.inP).2
  have hPT : (Value.slice T ts.length ct).ownBlock ≠ some P := own_ne h.ownT h.blk h.hty.2
  have hPg : g ≠ P := by
    rcases hat with e | e
    · intro e'; exact hPT (by rw [e, e'])
    · omega
  have tF : Turned F w (w1.setCell ⟨P, 1, none⟩ (.slice (some ⟨g, 0, none⟩) (ts.length + 1) cap)) :=
    (t1.more (fun i _ hi => h.inT i hi)).trans t2 (fun i hi => .inl (by rw [hi]; exact h.inP))
  have tB : Turned (fun i => (Value.slice T ts.length ct).ownBlock = some i ∨ i = P) w (w1.setCell ⟨P, 1, none⟩ (.slice (some ⟨g, 0, none⟩) (ts.length + 1) cap)) :=
    (t1.more (fun i _ hi => .inl hi)).trans t2 (fun i hi => .inl (.inr hi))
  have hb1 : w1.heap[P]? = some (.cells #[.slice A bs.length ca, .slice T ts.length ct] ty (0, 0)) := (t1.block P hPlt hPT).trans h.blk
  have hglt := hown.lt g rfl
  refine ⟨⟨h.hty, ?_, ?_, ?_, h.oct, .inl h.inP, fun i hi => .inl (h.inA i hi), ?_, ?_⟩, tF⟩
  · rw [hl, heap_setCell_same w1 P 1 _ ty _ hb1]; rfl
  · refine own_turned h.ownB tB (fun i hi hor => ?_)
    rcases hor with e | e
    · exact own_ne2 h.ownB h.ownT (by decide) hi e
    · exact own_ne h.ownB h.blk h.hty.1 (by rw [hi, e])
  · rw [hl, tvs_snoc]
    exact own_turned hown t2 (fun i hi e => hPg (by simp [Value.ownBlock] at hi; rw [hi, e]))
  · intro i hi
    rw [hl] at hi
    simp [Value.ownBlock] at hi
    exact .inr hi.symm
  · intro i hi
    rcases hi with hi | rfl
    · exact ⟨(h.lo i hi).1, Nat.lt_of_lt_of_le (h.lo i hi).2 tF.size⟩
    · exact ⟨hglt.1, Nat.lt_of_lt_of_le hglt.2 t2.size⟩

/-- behind the append: the field of the trace is as it was -/
theorem MemAt.after (h : MemAt ty w base P F A ca T ct bs ts) (o : Obj) {w1 : World} (hg : (w.alloc o).grownBy w1 (Value.slice T ts.length ct).ownBlock) :
    w1.cell? ⟨P, 1, none⟩ = some (.slice T ts.length ct) ∧ w1.frozen? ⟨P, 1, none⟩ = false ∧ w1.cell? ⟨P, 0, none⟩ = some (.slice A bs.length ca) := by
  have hPT : (Value.slice T ts.length ct).ownBlock ≠ some P := own_ne h.ownT h.blk h.hty.2
  have hb : w1.heap[P]? = some (.cells #[.slice A bs.length ca, .slice T ts.length ct] ty (0, 0)) :=
    (hg.block P (by have := (h.lo P h.inP).2; simp; omega) (fun e => hPT e.symm)).trans ((Below.heap_alloc w o P (h.lo P h.inP).2).trans h.blk)
  exact ⟨by simp [World.cell?, hb], by simp [World.frozen?, hb], by simp [World.cell?, hb]⟩
/-- the cells of a touch that has just been laid -/
theorem news_touch (W : World) (H : Nat) (hH : W.heap.size = H) (t : Tch) (x : Int) (hx : x = t.2.1) : ∀ j u, (tv t)[j]? = some u → (W.alloc (.cells #[.bool t.1, .int .u64 x, .int .u8 t.2.2] 49)).cell? ((⟨H, 0, none⟩ : Addr).add j) = some u := by
  subst hH hx
  exact World.news_of_block (cs := #[.bool t.1, .int .u64 t.2.1, .int .u8 t.2.2]) (t := 49) (fr := (0, 0)) (heap_alloc_new W _)
theorem tv_one (t : Tch) : ∀ u ∈ tv t, u.oneCell' = true := by
  intro u hu
  simp [tv] at hu
  rcases hu with rfl | rfl | rfl <;> rfl
end
end Go.Proofs.Ytcnhnjbefhgaaaa
