/- Two slices that hold the same are found the same. -/
import Derived.Test.YtcnhnjbefhgaaaaClone
import Derived.Deep.QuietTactic
import Derived.BigQuiet
import Derived.Deep.MidRow
namespace Go.Proofs.Ytcnhnjbefhgaaaa
open Go.RowKit

theorem tvs_at (ts : List Tch) (k : Nat) (hk : k < ts.length) : ∃ t : Tch, (tvs ts)[k * 3]? = some (.bool t.1) ∧ (tvs ts)[k * 3 + 1]? = some (.int .u64 t.2.1) ∧ (tvs ts)[k * 3 + 2]? = some (.int .u8 t.2.2) := by
  induction ts generalizing k with
  | nil => simp at hk
  | cons t ts ih =>
    cases k with
    | zero => exact ⟨t, rfl, rfl, rfl⟩
    | succ k =>
      obtain ⟨u, h1, h2, h3⟩ := ih k (by simpa using hk)
      refine ⟨u, ?_, ?_, ?_⟩
      · rw [show (k + 1) * 3 = k * 3 + 1 + 1 + 1 by omega]; exact h1
      · rw [show (k + 1) * 3 + 1 = k * 3 + 1 + 1 + 1 + 1 by omega]; exact h2
      · rw [show (k + 1) * 3 + 2 = k * 3 + 2 + 1 + 1 + 1 by omega]; exact h3
theorem info49s : (Try.prog.info? 49).map (·.size) = some 3 := by kernel_rfl
theorem touch_range {w : World} {b o k : Nat} {xs : List Value} {x y z : Value} (h : ∀ j u, xs[j]? = some u → w.cell? ⟨b, o + j, none⟩ = some u) (h0 : xs[k * 3]? = some x) (h1 : xs[k * 3 + 1]? = some y) (h2 : xs[k * 3 + 2]? = some z) : w.rangeAt b (o + k * 3) [x, y, z] := by
  intro j v hv
  rcases j with _ | _ | _ | j
  · simp at hv; subst hv; exact h _ _ h0
  · simp at hv; subst hv; exact h _ _ h1
  · simp at hv; subst hv; exact h _ _ h2
  · simp at hv
/-- true, and nothing but draws -/
def IsTrue (w : World) (e : Ending) (w' : World) : Prop := e = .returned (.bool true) ∧ ∃ m, w' = w.drewN m
def SameIn (n : Nat) (w : World) (i : Value) (wr : World) : Prop := ∃ k m : Nat, k ≤ n ∧ i = .int .i64 k ∧ wr = w.drewN m


theorem same_any (A B : Option Addr) (ca cb : Nat) (xs : List Nat) (hlen : xs.length ≤ 4000000) (M N : Nat → Prop) (w : World) (ha : Lies w M A (xs.map bv)) (hb : Lies w N B (xs.map bv)) :
    Calls Try.prog 18 #[.slice A xs.length ca, .slice B xs.length cb] w (IsTrue w) := by
  have HA := Lib.hid ha
  have HB := Lib.hid hb
  clear ha hb
  go_enter Try.func18, Try.ntmps18
  go_wp2
  go_loopw [5] (fun i wr => SameIn xs.length w i wr) (fun i _ => xs.length - (intOf i).toNat)
  case atStart => exact ⟨0, 0, Nat.zero_le _, rfl, rfl⟩
  case round =>
    obtain ⟨k, m, hk, rfl, rfl⟩ := hrel
    by_cases hlt : k < xs.length
    · obtain ⟨ba, oa, rfl, _, hac⟩ := HA.out.at_ (i := k) (by simpa using hlt)
      obtain ⟨bb, ob, rfl, _, hbc⟩ := HB.out.at_ (i := k) (by simpa using hlt)
      have a0 := hac k (bv (xs.getD k 0)) (by simp [List.getElem?_map, List.getElem?_eq_getElem hlt, List.getD])
      have b0 := hbc k (bv (xs.getD k 0)) (by simp [List.getElem?_map, List.getElem?_eq_getElem hlt, List.getD])
      generalize xs.getD k 0 = c at a0 b0
      simp only [bv] at a0 b0
      clear hac hbc
      have hi1 : (0 : Int) ≤ (k : Int) := by omega
      have hi2 : (k : Int) < (xs.length : Int) := by omega
      go_wp2_with fail
      go_quiet (fail)
      go_wp2
      go_round
      case rel => exact ⟨k + 1, m + nq, by omega, by go_num, by first | rfl | rw [World.drewN_drewN]⟩
      case measure => simp [intOf]; omega
    · obtain rfl : k = xs.length := by omega
      go_wp2
      go_ret
      exact ⟨rfl, m, rfl⟩

theorem words_any (A B : Option Addr) (ca cb : Nat) (xs : List Nat) (hlen : xs.length ≤ 4000000) (M N : Nat → Prop) (w : World) (ha : Lies w M A (xs.map uv)) (hb : Lies w N B (xs.map uv)) :
    Calls Try.prog 15 #[.slice A xs.length ca, .slice B xs.length cb] w (IsTrue w) := by
  have HA := Lib.hid ha
  have HB := Lib.hid hb
  clear ha hb
  go_enter Try.func15, Try.ntmps15
  go_wp2
  go_loopw [5] (fun i wr => SameIn xs.length w i wr) (fun i _ => xs.length - (intOf i).toNat)
  case atStart => exact ⟨0, 0, Nat.zero_le _, rfl, rfl⟩
  case round =>
    obtain ⟨k, m, hk, rfl, rfl⟩ := hrel
    by_cases hlt : k < xs.length
    · obtain ⟨ba, oa, rfl, _, hac⟩ := HA.out.at_ (i := k) (by simpa using hlt)
      obtain ⟨bb, ob, rfl, _, hbc⟩ := HB.out.at_ (i := k) (by simpa using hlt)
      have a0 := hac k (uv (xs.getD k 0)) (by simp [List.getElem?_map, List.getElem?_eq_getElem hlt, List.getD])
      have b0 := hbc k (uv (xs.getD k 0)) (by simp [List.getElem?_map, List.getElem?_eq_getElem hlt, List.getD])
      generalize xs.getD k 0 = c at a0 b0
      simp only [uv] at a0 b0
      clear hac hbc
      have hi1 : (0 : Int) ≤ (k : Int) := by omega
      have hi2 : (k : Int) < (xs.length : Int) := by omega
      go_wp2_with fail
      go_quiet (fail)
      go_wp2
      go_round
      case rel => exact ⟨k + 1, m + nq, by omega, by go_num, by first | rfl | rw [World.drewN_drewN]⟩
      case measure => simp [intOf]; omega
    · obtain rfl : k = xs.length := by omega
      go_wp2
      go_ret
      exact ⟨rfl, m, rfl⟩

theorem touches_any (A B : Option Addr) (ca cb : Nat) (xs : List Tch) (hlen : xs.length ≤ 4000000) (M N : Nat → Prop) (w : World) (ha : Lies w M A (tvs xs)) (hb : Lies w N B (tvs xs)) :
    Calls Try.prog 20 #[.slice A xs.length ca, .slice B xs.length cb] w (IsTrue w) := by
  have HA := Lib.hid ha
  have HB := Lib.hid hb
  clear ha hb
  go_enter Try.func20, Try.ntmps20
  go_wp2
  go_loopw [5] (fun i wr => SameIn xs.length w i wr) (fun i _ => xs.length - (intOf i).toNat)
  case atStart => exact ⟨0, 0, Nat.zero_le _, rfl, rfl⟩
  case round =>
    obtain ⟨k, m, hk, rfl, rfl⟩ := hrel
    by_cases hlt : k < xs.length
    · obtain ⟨ba, oa, rfl, _, hac⟩ := HA.out.at_ (i := k) (by simp; omega)
      obtain ⟨bb, ob, rfl, _, hbc⟩ := HB.out.at_ (i := k) (by simp; omega)
      obtain ⟨t, t0, t1, t2⟩ := tvs_at xs k hlt
      have a0 : w.cell? ⟨ba, oa + k * 3, none⟩ = _ := hac _ _ t0
      have a1 : w.cell? ⟨ba, oa + k * 3 + 1, none⟩ = _ := hac _ _ t1
      have a2 : w.cell? ⟨ba, oa + k * 3 + 2, none⟩ = _ := hac _ _ t2
      have b0 : w.cell? ⟨bb, ob + k * 3, none⟩ = _ := hbc _ _ t0
      have b1 : w.cell? ⟨bb, ob + k * 3 + 1, none⟩ = _ := hbc _ _ t1
      have b2 : w.cell? ⟨bb, ob + k * 3 + 2, none⟩ = _ := hbc _ _ t2
      obtain ⟨tw, ta, tc⟩ := t
      clear t0 t1 t2 hac hbc
      have hi1 : (0 : Int) ≤ (k : Int) := by omega
      have hi2 : (k : Int) < (xs.length : Int) := by omega
      go_wp2_with fail
      go_quiet (fail)
      go_wp2
      go_round
      case rel => exact ⟨k + 1, m + nq, by omega, by go_num, by first | rfl | rw [World.drewN_drewN]⟩
      case measure => simp [intOf]; omega
    · obtain rfl : k = xs.length := by omega
      go_wp2
      go_ret
      exact ⟨rfl, m, rfl⟩
end Go.Proofs.Ytcnhnjbefhgaaaa
