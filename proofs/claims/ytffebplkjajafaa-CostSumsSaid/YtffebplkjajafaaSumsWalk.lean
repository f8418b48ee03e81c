/- The walk of CostSums: it gives true. -/
import Derived.Test.YtffebplkjajafaaAppend
namespace Go.Proofs.Ytffebplkjajafaa
open Go.RowKit

theorem tsp_app (l m : List (Int × Nat)) : tsp (l ++ m) = tsp l + tsp m := by simp [tsp, List.sum_append]
theorem tth_app (l m : List (Int × Nat)) : tth (l ++ m) = tth l + tth m := by simp [tth, List.sum_append]
theorem fits_app {l m : List (Int × Nat)} (hl : Fits l) (hm : Fits m) (h1 : l.length ≤ 1000) (h2 : m.length ≤ 1000) : Fits (l ++ m) := by
  refine ⟨by simp; omega, fun j hj => ?_⟩
  by_cases c : j < l.length
  · have := hl.2 j c
    simpa [List.getD, List.getElem?_append_left c] using this
  · have := hm.2 (j - l.length) (by simp at hj; omega)
    simpa [List.getD, List.getElem?_append_right (show l.length ≤ j by omega)] using this

set_option maxHeartbeats 4000000 in
theorem sums_any (A : Option Addr) (cap : Nat) (l : List (Int × Nat)) (B : Option Addr) (cbp : Nat) (m : List (Int × Nat)) (hlen : l.length ≤ 9223372036854775807) (hlen' : m.length ≤ 9223372036854775807) (w : World) (hl : Nds w w.heap.size A l) (hm : Nds w w.heap.size B m) :
    Calls Try.prog 4 #[.slice A l.length cap, .slice B m.length cbp] w (GrownTrue w) := by
  have HL := Lib.hid hl
  have HM := Lib.hid hm
  clear hl hm
  cases hs : smallB l with
  | false =>
    have HS := Lib.hid hs
    clear hs
    go_enter Try.func4, Try.ntmps4
    go_wp2_with fail
    refine (awake_any _).mono ?_
    rintro e w1 ⟨rfl, hb1⟩
    go_wp2_with fail
    refine (small_no _ _ _ HS.out hlen _ (HL.out.next hb1)).mono ?_
    rintro e w2 ⟨rfl, rfl⟩
    go_wp2
    go_ret
    exact ⟨rfl, hb1⟩
  | true =>
  have HS := Lib.hid hs
  clear hs
  cases hs : smallB m with
  | false =>
    have HS' := Lib.hid hs
    clear hs
    go_enter Try.func4, Try.ntmps4
    go_wp2_with fail
    refine (awake_any _).mono ?_
    rintro e w1 ⟨rfl, hb1⟩
    go_wp2_with fail
    refine (small_yes _ _ _ HS.out hlen _ (HL.out.next hb1)).mono ?_
    rintro e w2 ⟨rfl, rfl⟩
    go_wp2_with fail
    refine (small_no _ _ _ HS'.out hlen' _ (HM.out.next hb1)).mono ?_
    rintro e w2 ⟨rfl, rfl⟩
    go_wp2
    go_ret
    exact ⟨rfl, hb1⟩
  | true =>
    have HS' := Lib.hid hs
    clear hs
    have fitl := (fits_of HS.out).1
    have fitm := (fits_of HS'.out).1
    have bdl := tree_bd l fitl.2 l.length (Nat.le_refl _)
    have bdm := tree_bd m fitm.2 m.length (Nat.le_refl _)
    rw [List.take_length] at bdl bdm
    have hll := (fits_of HS.out).2
    have hlm := (fits_of HS'.out).2
    have FL := Lib.hid fitl
    have FM := Lib.hid fitm
    clear fitl fitm
    go_enter Try.func4, Try.ntmps4
    go_wp2_with fail
    refine (awake_any _).mono ?_
    rintro e w1 ⟨rfl, hb1⟩
    have HB1 := Lib.hid hb1
    clear hb1
    go_wp2_with fail
    refine (small_yes _ _ _ HS.out hlen _ (HL.out.next HB1.out)).mono ?_
    rintro e w2 ⟨rfl, rfl⟩
    go_wp2_with fail
    refine (small_yes _ _ _ HS'.out hlen' _ (HM.out.next HB1.out)).mono ?_
    rintro e w2 ⟨rfl, rfl⟩
    go_wp2_with fail
    refine (ctree_any _ _ _ FL.out _ (HL.out.next HB1.out)).mono ?_
    rintro e w2 ⟨r1, t1, rfl, f1, f2, hb2⟩
    have HB2 := Lib.hid (HB1.out.trans (hb2.mono HB1.out.size))
    clear hb2
    go_wp2_with fail
    refine (ctree_any _ _ _ FM.out _ (HM.out.next HB2.out)).mono ?_
    rintro e w3 ⟨r2, t2, rfl, g1, g2, hb3⟩
    have HB3 := Lib.hid (HB2.out.trans (hb3.mono HB2.out.size))
    clear hb3
    have made := World.ownsRow_made (base := w3.heap.size) (e := 30) (size := 3) w3 #[] 0 (Nat.le_refl _) (by decide) rfl
    have MADE := Lib.hid made
    clear made
    go_wp2_with (first | (at_builtin; refine wpList_append_nodes _ rfl (.tmp 23) (.tmp 24) rfl w3.heap.size _ 0 [] rfl MADE.out w.heap.size A cap l rfl ?_ HL.out.none_ ?_ ?_ ?_))
    · exact (HL.out.below HB3.out).below ((Below.refl _ _).alloc HB3.out.size _)
    · omega
    · simp
    intro v1 wa news1 nc1 own1 gb1 at1
    have OWN1 := Lib.hid own1
    have NC1 := Lib.hid nc1
    have HBa := Lib.hid ((HB3.out.alloc HB3.out.size (.cells #[] 30)).grown gb1 (by have := HB3.out.size; simp; omega) (fun k hk => by simp [Value.ownBlock] at hk; have := HB3.out.size; omega))
    have hr1 : ∀ k, v1.ownBlock = some k → w.heap.size ≤ k := by
      intro k hk
      have := HB3.out.size
      rcases at1 with e | e <;> rw [e] at hk <;> simp [Value.ownBlock] at hk <;> omega
    have HR1 := Lib.hid hr1
    have hza : w3.heap.size ≤ wa.heap.size := by have := gb1.size; simp at this; omega
    clear own1 nc1 gb1 at1 hr1 MADE
    go_wp2_with (first | (at_builtin; refine wpList_append_nodes _ rfl (.tmp 25) (.tmp 26) rfl w3.heap.size _ l.length news1 rfl OWN1.out w.heap.size B cbp m rfl ?_ HM.out.none_ ?_ ?_ ?_))
    · exact HM.out.below HBa.out
    · omega
    · exact hza
    intro v2 wb news2 nc2 own2 gb2 at2
    obtain ⟨lm, hlm'⟩ : ∃ lm, lm = l ++ m := ⟨_, rfl⟩
    have hlen3 : l.length + m.length = lm.length := by rw [hlm']; simp
    have ncs : NC lm (news1 ++ news2) := by rw [hlm']; exact NC1.out.app nc2
    rw [hlen3] at own2
    obtain ⟨A3, cap3, hv, hn3, _⟩ := nds_of_own own2 ncs
    have HBb := Lib.hid (HBa.out.grown gb2 HBa.out.size HR1.out)
    have HN3 := Lib.hid hn3
    have F3 : Hid (Fits lm) := Lib.hid (by rw [hlm']; exact fits_app FL.out FM.out hll hlm)
    have T3 : Hid (tsp lm = tsp l + tsp m ∧ tth lm = tth l + tth m) := Lib.hid ⟨by rw [hlm', tsp_app], by rw [hlm', tth_app]⟩
    clear own2 ncs hlm' hlen3 gb2 at2 nc2 hn3
    rw [hv]
    clear hv
    go_wp2_with fail
    refine (ctree_any _ _ _ F3.out _ HN3.out).mono ?_
    rintro e wc ⟨r3, t3, rfl, h3, k3, hb4⟩
    rw [T3.out.1] at h3
    rw [T3.out.2] at k3
    have HB4 := Lib.hid (HBb.out.trans (hb4.mono HBb.out.size))
    clear hb4
    obtain ⟨r4, t4, hrs, q1, q2⟩ := csum_some f1 f2 g1 g2 (by omega) (by omega)
    have hop := fun t' w => run_complex_sum (P := Try.prog) w .add (Or.inl rfl) t' .f64 _ _ _ _ r4 t4 hrs
    have o1 := order_eq h3 q1 rfl
    have o2 := order_eq k3 q2 rfl
    have hn : ∀ w, (Op.unary .neg (.float .f64 t1)).run Try.prog w = .ok (.float .f64 (Op.negFloat .f64 t1)) w := fun w => rfl
    have o3 := order_eq (fi_neg (fi_neg f1)) f1 (by omega)
    have o4 := order_eq (fi_neg (fi_neg f2)) f2 (by omega)
    have o5 := order_eq (fi_neg f2) (fi_neg f2) rfl
    have o6 := order_eq f1 f1 rfl
    clear hrs q1 q2
    go_wp2_with fail
    refine (turn_any _ _ _).mono ?_
    rintro e wd ⟨rfl, rfl⟩
    go_wp2_with fail
    refine (gain_is _ _ _ _ (tsp l - tth l + (tsp m - tth m)) (by omega) h3 k3 (by omega) (by omega) (by omega) (by omega) _).mono ?_
    rintro e wd ⟨rfl, rfl⟩
    go_wp2_with fail
    refine (gain_is _ _ _ _ (tsp l - tth l) (by omega) f1 f2 (by omega) (by omega) (by omega) (by omega) _).mono ?_
    rintro e wd ⟨rfl, rfl⟩
    go_wp2_with fail
    refine (gain_is _ _ _ _ (tsp m - tth m) (by omega) g1 g2 (by omega) (by omega) (by omega) (by omega) _).mono ?_
    rintro e wd ⟨rfl, rfl⟩
    go_wp2_with fail
    refine (turn_any _ _ _).mono ?_
    rintro e wd ⟨rfl, rfl⟩
    go_wp2_with fail
    refine (turn_any _ _ _).mono ?_
    rintro e wd ⟨rfl, rfl⟩
    go_wp2_with fail
    refine (turn_any _ _ _).mono ?_
    rintro e wd ⟨rfl, rfl⟩
    go_wp2
    go_ret
    exact ⟨rfl, HB4.out⟩
end Go.Proofs.Ytffebplkjajafaa
