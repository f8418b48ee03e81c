/- The walk of CostBest: it gives true. -/
import Derived.Test.YtffebplkjajafaaBest
import Derived.Test.YtffebplkjajafaaAppend
import Derived.Deep.RegionHeld3
namespace Go.Proofs.Ytffebplkjajafaa
open Go.RowKit

/-- a slice's address A holds the pairs ps -/
def Prts (w : World) (B : Nat) (A : Option Addr) (ps : List (Int × Int)) : Prop :=
  0 < ps.length → ∃ b off, A = some ⟨b, off, none⟩ ∧ b < B ∧ ∀ i, i < ps.length →
    w.cell? ⟨b, off + i * 2, none⟩ = some (.int .i32 (ps.getD i (0, 0)).1) ∧ w.cell? ⟨b, off + i * 2 + 1, none⟩ = some (.int .i32 (ps.getD i (0, 0)).2)
theorem Prts.at_ {w : World} {B : Nat} {A : Option Addr} {ps : List (Int × Int)} (h : Prts w B A ps) {i : Nat} (hi : i < ps.length) :
    ∃ b off X Y, A = some ⟨b, off, none⟩ ∧ b < B ∧ Hid (ps.getD i (0, 0) = (X, Y)) ∧ w.cell? ⟨b, off + i * 2, none⟩ = some (.int .i32 X) ∧ w.cell? ⟨b, off + i * 2 + 1, none⟩ = some (.int .i32 Y) := by
  obtain ⟨b, off, hA, hb, hc⟩ := h (by omega)
  exact ⟨b, off, _, _, hA, hb, Lib.hid rfl, (hc i hi).1, (hc i hi).2⟩
theorem Prts.below {w w' : World} {B : Nat} {A : Option Addr} {ps : List (Int × Int)} (h : Prts w B A ps) (hb : Below B w w') : Prts w' B A ps := by
  intro hl
  obtain ⟨b, off, hA, hlt, hc⟩ := h hl
  exact ⟨b, off, hA, hlt, fun i hi => ⟨(hb.cell hlt).trans (hc i hi).1, (hb.cell hlt).trans (hc i hi).2⟩⟩

/-- a pair as a cost -/
def cx (p : Int × Int) : Value := .complex .f64 (floatOfInt .f64 p.1) (floatOfInt .f64 p.2)
theorem take_get (ps : List (Int × Int)) (k : Nat) (h : k < ps.length) : ps.take (k + 1) = ps.take k ++ [ps.getD k (0, 0)] := by
  rw [List.take_succ_eq_append_getElem h]; simp [List.getD, List.getElem?_eq_getElem h]

theorem info31 : (Try.prog.info? 31).map (fun i => (i.zero, i.size, i.bytes)) = some (some (.complex .f64 0 0), 1, 16) := by kernel_rfl

theorem cxs_of_own {w : World} {base : Nat} {A : Option Addr} {cap : Nat} {ps : List (Int × Int)} (h : w.ownsRow base 31 1 (.slice A ps.length cap) ps.length (ps.map cx)) : Cxs w w.heap.size A ps := by
  intro h0
  rcases h.2 with ⟨e, h1⟩ | ⟨g, cap', cur, e, _, hh, _⟩
  · omega
  · injection e with e1 e2 e3
    subst e1
    refine ⟨g, 0, rfl, (Array.getElem?_eq_some_iff.1 hh).1, fun i hi => ?_⟩
    have := h.cells (g := g) rfl i (cx (ps.getD i (0, 0))) (by simp [List.getD, List.getElem?_eq_getElem hi])
    rw [Go.WideShapes.add_plain] at this
    exact this

set_option maxHeartbeats 4000000 in
theorem bestlaw_any (A : Option Addr) (cap : Nat) (ps : List (Int × Int)) (hlen : ps.length ≤ 9223372036854775807) (h32 : In32 ps) (w : World) (hl : Prts w w.heap.size A ps) :
    Calls Try.prog 7 #[.slice A ps.length cap] w (GrownTrue w) := by
  have HL := Lib.hid hl
  have H32 := Lib.hid h32
  clear hl h32
  by_cases hbig : 1000 < ps.length
  · go_enter Try.func7, Try.ntmps7
    go_wp2_with fail
    refine (awake_any _).mono ?_
    rintro e w1 ⟨rfl, hb1⟩
    go_wp2
    go_ret
    exact ⟨rfl, hb1⟩
  · have hlen' : ps.length ≤ 1000 := by omega
    obtain ⟨i0, hi0, hz0, hz1, hz2⟩ := info_parts info31
    go_enter Try.func7, Try.ntmps7
    go_wp2_with fail
    refine (awake_any _).mono ?_
    rintro e w1 ⟨rfl, hb1⟩
    have HB1 := Lib.hid hb1
    clear hb1
    go_wp2_with fail
    go_loopw [3, 4] (fun v i wr => ∃ (k : Nat) (A' : Option Addr) (cp' : Nat), k ≤ ps.length ∧ i = .int .i64 k ∧ v = .slice A' k cp' ∧ wr.ownsRow w.heap.size 31 1 (.slice A' k cp') k ((ps.take k).map cx) ∧ Below w.heap.size w wr) (fun _ i _ => ps.length - (intOf i).toNat)
    case atStart => exact ⟨0, none, 0, Nat.zero_le _, rfl, rfl, by simpa using World.ownsRow_nil _ _ _ _, HB1.out⟩
    case round =>
      clear HB1
      obtain ⟨k, A', cp', hk, rfl, rfl, hown, hbw⟩ := hrel
      have HB := Lib.hid hbw
      clear hbw
      by_cases hlt : k < ps.length
      · have hl' := HL.out.below HB.out
        obtain ⟨b, off, X, Y, rfl, hb, HE, h1, h2⟩ := hl'.at_ hlt
        have bd := H32.out k hlt
        rw [HE.out] at bd
        obtain ⟨bd1, bd2, bd3, bd4⟩ := bd
        simp only [] at bd1 bd2 bd3 bd4
        have hk0 : (0 : Int) ≤ (k : Int) := by omega
        have hk1 : (k : Int) < (ps.length : Int) := by omega
        have hbz : b < wr.heap.size := by have := HB.out.size; omega
        have hne : (Value.slice A' k cp').ownBlock ≠ some b := by
          intro e
          have := (hown.lt b e).1
          omega
        have hbne : some b ≠ (Value.slice A' k cp').ownBlock := fun e => hne e.symm
        have wX : IntKind.i64.wrap X = X := IntWalk.i64_in _ (by omega)
        have wY : IntKind.i64.wrap Y = Y := IntWalk.i64_in _ (by omega)
        go_wp2
        go_region_held3 (fun w' => w'.cell? ⟨b, off + k * 2, none⟩ = some (.int .i32 X) ∧ w'.cell? ⟨b, off + k * 2 + 1, none⟩ = some (.int .i32 Y))
          (first
            | go_keep
            | (go_split_ands
               refine ⟨?_, ?_⟩
               · (rw [hgrow.cell_far _ (by simp; omega) hbne]; assumption)
               · (rw [hgrow.cell_far _ (by simp; omega) hbne]; assumption)))
          (first
            | (go_at_call 12; refine (pair_any X Y _).mono ?_; rintro e w' ⟨rfl, rfl⟩)
            | (refine step_append_lies _ rfl _ _ _ rfl w.heap.size 31 i0 _ 1 16 Try.underlying47 hi0 hz0 hz1 hz2 rfl ?h1 (.slice A' k cp') k ((ps.take k).map cx) rfl ?hown ⟨wr.heap.size, 0, none⟩ 1 1 [cx (X, Y)] rfl rfl ?hnews ?hone ?hm ?h63 ?hb ?hbase (wr.heap.size + 1) ?hH ?hgo
               case h1 => decide
               case hown => exact (hown.alloc _).drew
               case hnews => exact (World.news_of_block (cs := #[cx (X, Y)]) (t := 31) (fr := (0, 0)) (heap_alloc_new wr _))
               case hone => (intro u hu; simp at hu; subst hu; rfl)
               case hm => decide
               case h63 => (unfold maxLen; omega)
               case hb => omega
               case hbase => (have := HB.out.size; simp; omega)
               case hH => simp
               intro gg cap1 w1 hown1 hgrow hat hltg))
        rename_i hHeld
        obtain ⟨c1, c2⟩ := hHeld
        have hlk : ((ps.take k).map cx).length = k := by simp; omega
        have cN : w1.cell? ⟨gg, k, none⟩ = some (.complex .f64 (floatOfInt .f64 X) (floatOfInt .f64 Y)) := by
          have := hown1.cells (g := gg) rfl k (cx (X, Y)) (by rw [List.getElem?_append_right (by omega), hlk]; simp)
          rw [Go.WideShapes.add_plain, Nat.zero_add] at this
          exact this
        have e := take_get ps k hlt
        rw [HE.out] at e
        have OWN1 : Hid (w1.ownsRow w.heap.size 31 1 (.slice (some ⟨gg, 0, none⟩) (k + 1) cap1) (k + 1) ((ps.take (k + 1)).map cx)) := Lib.hid (by rw [e]; simpa using hown1)
        have HB2 := Lib.hid ((HB.out.alloc HB.out.size _).drew.grown hgrow (by have := HB.out.size; simp; omega) (fun g hg => (hown.lt g hg).1))
        clear e hown1 hgrow hown HB hl' hat hne hbne
        clear hlk
        go_wp2
        go_quiet ((with_reducible exact Calls.quiet_of_same (gain_int X Y bd1 bd2 bd3 bd4 _)))
        go_wp2
        go_roundw
        case rel => exact ⟨k + 1, some ⟨gg, 0, none⟩, cap1, by omega, by go_num, rfl, OWN1.out, below_drewN HB2.out _⟩
        case measure => simp [intOf]; omega
      · obtain rfl : k = ps.length := by omega
        have CX : Hid (Cxs wr wr.heap.size A' ps) := Lib.hid (cxs_of_own (by rw [List.take_length] at hown; exact hown))
        clear hown
        go_wp2_with fail
        refine (best_any _ _ _ hlen' H32.out _ CX.out).mono ?_
        rintro e w4 ⟨hb4, hor⟩
        have HB4 := Lib.hid (HB.out.trans (hb4.mono HB.out.size))
        clear hb4
        rcases hor with ⟨h0, rfl⟩ | ⟨j, hj, rfl⟩
        · have h0' : (ps.length : Int) ≤ 0 := by omega
          have h0'' : (((ps.length : Int)) == 0) = true := by simp [h0]
          clear h0
          go_wp2
          go_ret
          exact ⟨rfl, HB4.out⟩
        · have hj1 := hj.1
          have HJ := Lib.hid hj
          clear hj
          have h0'' : (((ps.length : Int)) == 0) = false := by simp; intro h; subst h; simp at hj1
          obtain ⟨b, off, X, Y, rfl, hb, HE, h1, h2⟩ := (HL.out.below HB4.out).at_ hj1
          have bd := H32.out j hj1
          rw [HE.out] at bd
          obtain ⟨bd1, bd2, bd3, bd4⟩ := bd
          simp only [] at bd1 bd2 bd3 bd4
          have hj0 : (0 : Int) ≤ (j : Int) := by omega
          have hj2 : (j : Int) < (ps.length : Int) := by omega
          have G2 : Hid (gn ps j = X - Y) := Lib.hid (by unfold gn; rw [HE.out])
          have d1 : decide ((j : Int) < 0) = false := by simp
          have d2 : decide (ps.length ≤ j) = false := by simp; omega
          have d3 : decide ((1000 : Int) < (ps.length : Int)) = false := by simp; omega
          go_wp2
          go_quiet (fail)
          go_wp2
          go_loopw [7] (fun i wr => ∃ k : Nat, k ≤ ps.length ∧ i = .int .i64 k ∧ Below w.heap.size w wr) (fun i _ => ps.length - (intOf i).toNat)
          case atStart => exact ⟨0, Nat.zero_le _, rfl, below_drewN HB4.out _⟩
          case round =>
            clear HB HB4 h1 h2 CX
            obtain ⟨k, hk, rfl, hbw⟩ := hrel
            have HB5 := Lib.hid hbw
            clear hbw
            by_cases hlt : k < ps.length
            · obtain ⟨b', off', X', Y', hA', hb', HE', h1, h2⟩ := (HL.out.below HB5.out).at_ hlt
              injection hA' with hA'
              injection hA' with e1 e2
              subst e1 e2
              have bd := H32.out k hlt
              rw [HE'.out] at bd
              obtain ⟨ad1, ad2, ad3, ad4⟩ := bd
              simp only [] at ad1 ad2 ad3 ad4
              have hk0 : (0 : Int) ≤ (k : Int) := by omega
              have hk2 : (k : Int) < (ps.length : Int) := by omega
              have G1 : gn ps k = X' - Y' := by unfold gn; rw [HE'.out]
              have hbest := HJ.out.2 k hlt
              rw [G1, G2.out] at hbest
              obtain ⟨le, ltj⟩ := hbest
              clear G1
              by_cases hgt : X' - Y' < X - Y
              · have hne : ((X' - Y') == (X - Y)) = false := by simp; omega
                clear ltj
                go_wp2
                go_quiet (fail)
                go_wp2
                go_roundw
                case rel => exact ⟨k + 1, by omega, by go_num, below_drewN HB5.out _⟩
                case measure => simp [intOf]; omega
              · have hne : ((X' - Y') == (X - Y)) = true := by simp; omega
                have hge : j ≤ k := by
                  rcases Nat.lt_or_ge k j with h | h
                  · exact absurd (ltj h) hgt
                  · exact h
                clear ltj
                go_wp2
                go_quiet (fail)
                go_wp2
                go_roundw
                case rel => exact ⟨k + 1, by omega, by go_num, below_drewN HB5.out _⟩
                case measure => simp [intOf]; omega
            · obtain rfl : k = ps.length := by omega
              go_wp2
              go_ret
              exact ⟨rfl, HB5.out⟩
end Go.Proofs.Ytffebplkjajafaa
