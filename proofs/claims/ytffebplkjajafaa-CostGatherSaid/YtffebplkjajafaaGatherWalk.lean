/- The walk of CostGather: it gives true. -/
import Derived.Test.YtffebplkjajafaaAppend
import Derived.Deep.OwnRows
namespace Go.Proofs.Ytffebplkjajafaa
open Go.RowKit Go.Deep

/-- a slice of bytes of that length, whatever they are -/
def Octs (w : World) (B : Nat) (A : Option Addr) (len : Nat) : Prop :=
  0 < len → ∃ b off, A = some ⟨b, off, none⟩ ∧ b < B ∧ ∀ i, i < len → ∃ c, w.cell? ⟨b, off + i, none⟩ = some (.int .u8 c) ∧ 0 ≤ c ∧ c ≤ 255
theorem Octs.next {w w' : World} {A : Option Addr} {len : Nat} (h : Octs w w.heap.size A len) (hb : Below w.heap.size w w') : Octs w' w.heap.size A len := by
  intro h0
  obtain ⟨b, off, hA, hlt, hc⟩ := h h0
  refine ⟨b, off, hA, hlt, fun i hi => ?_⟩
  obtain ⟨c, h1, h2⟩ := hc i hi
  exact ⟨c, (hb.cell hlt).trans h1, h2⟩

theorem info3 : (Try.prog.info? 3).map (fun i => (i.zero, i.size, i.bytes)) = some (some (.int .i64 0), 1, 8) := by kernel_rfl

theorem four_cell (w : World) (i : Int) (h0 : 0 ≤ i) (h1 : i < 4) :
    ∃ n : Nat, 2 ≤ n ∧ n ≤ 16 ∧ (w.alloc (.cells #[.int .i64 2, .int .i64 4, .int .i64 8, .int .i64 16] 3)).cell? ⟨w.heap.size, i.toNat, none⟩ = some (.int .i64 (n : Int)) := by
  obtain rfl | rfl | rfl | rfl : i = 0 ∨ i = 1 ∨ i = 2 ∨ i = 3 := by omega
  · exact ⟨2, by omega, by omega, by go_simp⟩
  · exact ⟨4, by omega, by omega, by go_simp⟩
  · exact ⟨8, by omega, by omega, by go_simp⟩
  · exact ⟨16, by omega, by omega, by go_simp⟩

theorem made_all (w1 : World) (o1 o2 : Obj) (base : Nat) (hb : base ≤ w1.heap.size) (p : Option Addr) (c n : Nat) :
    (((w1.alloc o1).alloc o2).alloc (.cells #[.int .i64 21, .slice p n c, .slice none 0 0] 30)).ownsRow base 30 3 (.slice (some ⟨w1.heap.size + 1 + 1, 0, none⟩) 1 1) 1 [.int .i64 21, .slice p n c, .slice none 0 0] := by
  have := World.ownsRow_lit (base := base) (e := 30) (size := 3) ((w1.alloc o1).alloc o2) #[.int .i64 21, .slice p n c, .slice none 0 0] 1 (by simp; omega) (by decide) rfl
  simpa using this

theorem made_one (w1 : World) (o1 : Obj) (base : Nat) (hb : base ≤ w1.heap.size) (K : Int) (p : Option Addr) (c n : Nat) :
    ((w1.alloc o1).alloc (.cells #[.int .i64 K, .slice p n c, .slice none 0 0] 30)).ownsRow base 30 3 (.slice (some ⟨w1.heap.size + 1, 0, none⟩) 1 1) 1 [.int .i64 K, .slice p n c, .slice none 0 0] := by
  have := World.ownsRow_lit (base := base) (e := 30) (size := 3) (w1.alloc o1) #[.int .i64 K, .slice p n c, .slice none 0 0] 1 (by simp; omega) (by decide) rfl
  simpa using this

theorem nds_of_own_at {w : World} {base : Nat} {A : Option Addr} {n cap : Nat} {l : List (Int × Nat)} {xs : List Value} (h : w.ownsRow base 30 3 (.slice A n cap) l.length xs) (hc : NC l xs) : Nds w w.heap.size A l := by
  obtain ⟨A', cap', hv, hn, _⟩ := nds_of_own h hc
  injection hv with h1 h2 h3
  rw [h1]; exact hn

theorem own_below {w w' : World} {base : Nat} {v : Value} {n : Nat} {xs : List Value} (h : w.ownsRow base 30 3 v n xs) (hb : Below w.heap.size w w') : w'.ownsRow base 30 3 v n xs :=
  h.kept (row := none) ⟨hb.os, hb.tape, hb.output, hb.size, fun k hk _ => hb.block k hk⟩ (by cases v.ownBlock <;> simp)

theorem spared_op {K : Int} {n : Nat} (h1 : 1 ≤ K) (h2 : K ≤ 9) : spared K n = n ∧ there K n = 1 := by
  unfold spared there
  rw [if_pos (.inl ⟨h1, h2⟩), if_pos (.inl ⟨h1, h2⟩)]
  exact ⟨rfl, rfl⟩

/-- what is known of the tree that grows: k operations of n lanes behind the one that gathers -/
structure Gath (n k : Nat) (l : List (Int × Nat)) : Prop where
  len : l.length = k + 1
  vals : ∀ j, j < l.length → (l.getD j (0, 0)).2 ≤ 16
  gain : ∃ S : Nat, tsp l = S ∧ S ≤ 16 * k ∧ tth l = n + k
theorem Gath.one {n : Nat} (hn : n ≤ 16) : Gath n 0 [(21, n)] := by
  refine ⟨rfl, fun j hj => ?_, ⟨0, ?_, by omega, ?_⟩⟩
  · obtain rfl : j = 0 := by simp at hj; omega
    exact hn
  · simp [tsp, spared]
  · simp [tth, there]
theorem Gath.more {n k : Nat} {l : List (Int × Nat)} (h : Gath n k l) (hn : n ≤ 16) {K : Int} (h1 : 1 ≤ K) (h2 : K ≤ 9) : Gath n (k + 1) (l ++ [(K, n)]) := by
  obtain ⟨S, e1, e2, e3⟩ := h.gain
  refine ⟨by simp [h.len], fun j hj => ?_, ⟨S + n, ?_, by omega, ?_⟩⟩
  · by_cases c : j < l.length
    · have := h.vals j c
      simpa [List.getD, List.getElem?_append_left c] using this
    · obtain rfl : j = l.length := by simp at hj; omega
      simpa [List.getD] using hn
  · rw [tsp_snoc, e1]; simp only []; rw [(spared_op h1 h2).1]; simp
  · rw [tth_snoc, e3]; simp only []; rw [(spared_op h1 h2).2]; omega
theorem Gath.fits {n k : Nat} {l : List (Int × Nat)} (h : Gath n k l) (hk : k ≤ 50) : Fits l :=
  ⟨by rw [h.len]; omega, fun j hj => by have := h.vals j hj; omega⟩

set_option maxHeartbeats 4000000 in
theorem gather_any (a : Int) (ha0 : 0 ≤ a) (ha1 : a ≤ 255) (A : Option Addr) (len cap : Nat) (hlen : len ≤ 9223372036854775807) (w : World) (hk : Octs w w.heap.size A len) :
    Calls Try.prog 5 #[.int .u8 a, .slice A len cap] w (GrownTrue w) := by
  have HK := Lib.hid hk
  clear hk
  go_enter Try.func5, Try.ntmps5
  go_wp2_with fail
  refine (awake_any _).mono ?_
  rintro e w1 ⟨rfl, hb1⟩
  have HB1 := Lib.hid hb1
  clear hb1
  have hm0 : 0 ≤ a % 4 := by omega
  have hm1 : a % 4 < 4 := by omega
  obtain ⟨n, hn2, hn16, hcell⟩ := four_cell w1 (a % 4) hm0 hm1
  by_cases hbig : 50 < len
  · go_wp2_with fail
    go_ret
    exact ⟨rfl, HB1.out.alloc HB1.out.size _⟩
  · have hmk := fun W => run_make_row' (P := Try.prog) 28 3 (.int .i64 0) 8 Try.underlying28 info3 rfl .i64 .i64 n (by omega) (by omega) W
    have OWN := Lib.hid (fun o1 o2 p c => made_all w1 o1 o2 w.heap.size HB1.out.size p c n)
    have G0 := Lib.hid (Gath.one hn16)
    go_wp2_with fail
    refine (ctree_any _ 1 [(21, n)] (G0.out.fits (by omega)) _ (nds_of_own_at (OWN.out _ _ _ _) (NC.one 21 n _ _ _ _ _))).mono ?_
    rintro e w2 ⟨r1, t1, rfl, f1, f2, hb2⟩
    have hb3 := hb2
    have HB2 := Lib.hid ((((HB1.out.alloc HB1.out.size _).alloc (by have := HB1.out.size; simp; omega) _).alloc (by have := HB1.out.size; simp; omega) _).trans (hb2.mono (by have := HB1.out.size; simp; omega)))
    have OWN2 := Lib.hid (own_below (OWN.out _ _ _ _) hb2)
    clear hb2 hb3 OWN
    have e1 : tsp [(21, n)] = 0 := by simp [tsp, spared]
    have e2 : tth [(21, n)] = n := by simp [tth, there]
    rw [e1] at f1
    rw [e2] at f2
    clear e1 e2
    go_wp2_with fail
    refine (gain_is _ _ _ _ (-(n : Int)) (by omega) f1 f2 (by omega) (by omega) (by omega) (by omega) _).mono ?_
    rintro e w3 ⟨rfl, rfl⟩
    go_wp2_with fail
    refine (seed_any _ 1 [(21, n)] n (G0.out.fits (by omega)) (by omega) (by omega) _ (nds_of_own_at OWN2.out (NC.one 21 n _ _ _ _ _))).mono ?_
    rintro e w3 ⟨r2, t2, rfl, f3, f4, hb3⟩
    have e1 : tsp [(21, n)] = 0 := by simp [tsp, spared]
    have e2 : tth [(21, n)] = n := by simp [tth, there]
    rw [e1] at f3
    rw [e2] at f4
    clear e1 e2
    have HB3 := Lib.hid (HB2.out.trans (hb3.mono HB2.out.size))
    have OWN3 := Lib.hid (own_below OWN2.out hb3)
    clear hb3 OWN2
    go_wp2_with fail
    refine (gain_is _ _ _ _ (-1) (by omega) f3 f4 (by omega) (by omega) (by omega) (by omega) _).mono ?_
    rintro e w4 ⟨rfl, rfl⟩
    clear f1 f2 f3 f4
    go_wp2_with fail
    have hlen50 : len ≤ 50 := by omega
    go_loopw [6, 7, 8] (fun v g i wr => ∃ (k : Nat) (G : Int) (lm : List (Int × Nat)) (xs : List Value) (A' : Option Addr) (cp' : Nat), k ≤ len ∧ i = .int .i64 k ∧ v = .slice A' lm.length cp' ∧ g = .int .i64 G ∧ Gath n k lm ∧ G = tsp lm - tth lm ∧ NC lm xs ∧ wr.ownsRow w.heap.size 30 3 (.slice A' lm.length cp') lm.length xs ∧ Below w.heap.size w wr) (fun _ _ i _ => len - (intOf i).toNat)
    case atStart => exact ⟨0, -(n : Int), [(21, n)], _, _, _, Nat.zero_le _, rfl, rfl, rfl, G0.out, by simp [tsp, tth, spared, there], NC.one 21 n _ _ _ _ _, OWN3.out, HB3.out⟩
    case round =>
      clear G0 OWN3 HB3 HB2 hcell HB1
      obtain ⟨k, G, lm, xs, A', cp', hk, rfl, rfl, rfl, hG, hGe, hnc, hown, hbw⟩ := hrel
      obtain ⟨S, hS1, hS2, hS3⟩ := hG.gain
      have hGb : -100 ≤ G ∧ G ≤ 800 := by omega
      have hll : lm.length ≤ 60 := by have := hG.len; omega
      have HG := Lib.hid hG
      have HGE := Lib.hid hGe
      have HNC := Lib.hid hnc
      have HOWN := Lib.hid hown
      have HB := Lib.hid hbw
      clear hG hGe hnc hown hbw hS1 hS2 hS3
      by_cases hlt : k < len
      · obtain ⟨b, off, rfl, hb, hc⟩ := (HK.out.next HB.out) (by omega)
        obtain ⟨c, hc1, hc2, hc3⟩ := hc k hlt
        clear hc
        have hm9 : 0 ≤ c % 9 := by omega
        have hm9' : c % 9 < 9 := by omega
        have ONE := Lib.hid (fun o1 p c' => made_one wr o1 w.heap.size HB.out.size (1 + c % 9) p c' n)
        go_wp2_with (first | (at_builtin; refine wpList_append_nodes _ rfl (.tmp 53) (.tmp 58) rfl w.heap.size _ lm.length xs rfl ?_ _ (some _) 1 [(1 + c % 9, n)] rfl (nds_of_own_at (ONE.out _ _ _) (NC.one _ n _ _ _ _ _)) ?_ ?_ ?_ ?_))
        · exact (HOWN.out.alloc _).alloc _
        · intro h; cases h
        · simp; omega
        · have := HB.out.size; simp; omega
        intro v' w' news nc' own' gb' _
        obtain ⟨lm', hlm'⟩ : ∃ lm', lm' = lm ++ [(1 + c % 9, n)] := ⟨_, rfl⟩
        have hL : lm.length + 1 = lm'.length := by rw [hlm']; simp
        rw [hL] at own'
        have ncs : NC lm' (xs ++ news) := by rw [hlm']; exact HNC.out.app nc'
        obtain ⟨A'', cp'', hv, _, _⟩ := nds_of_own own' ncs
        have HBW := Lib.hid (((HB.out.alloc HB.out.size _).alloc (by have := HB.out.size; simp; omega) _).grown gb' (by have := HB.out.size; simp; omega) (fun k hk => (HOWN.out.lt k hk).1))
        have HGN := Lib.hid (HG.out.more hn16 (K := 1 + c % 9) (by omega) (by omega))
        have HGE' : Hid (G + n - 1 = tsp lm' - tth lm') := Lib.hid (by
          rw [hlm', tsp_snoc, tth_snoc]
          have := spared_op (K := 1 + c % 9) (n := n) (by omega) (by omega)
          simp only []
          rw [this.1, this.2, HGE.out]; omega)
        rw [← hlm'] at HGN
        have NCS := Lib.hid ncs
        rw [hv] at own'
        have OWN' := Lib.hid own'
        rw [hv]
        clear hv own' ncs hlm' hL gb' nc' ONE
        go_wp2
        go_roundw
        case rel => exact ⟨k + 1, G + n - 1, lm', xs ++ news, A'', cp'', by omega, by go_num, rfl, rfl, HGN.out, HGE'.out, NCS.out, OWN'.out, HBW.out⟩
        case measure => simp [intOf]; omega
      · obtain rfl : k = len := by omega
        have ND := Lib.hid (nds_of_own_at HOWN.out HNC.out)
        have FT := Lib.hid (HG.out.fits hlen50)
        have bd := tree_bd lm FT.out.2 lm.length (Nat.le_refl _)
        rw [List.take_length] at bd
        go_wp2_with fail
        refine (ctree_any _ _ _ FT.out _ ND.out).mono ?_
        rintro e w4 ⟨r1, t1, rfl, f1, f2, hb4⟩
        have HB4 := Lib.hid (HB.out.trans (hb4.mono HB.out.size))
        have ND4 := Lib.hid (ND.out.next hb4)
        clear hb4
        go_wp2_with fail
        refine (gain_is _ _ _ _ G HGE.out f1 f2 (by omega) (by omega) (by omega) (by omega) _).mono ?_
        rintro e w5 ⟨rfl, rfl⟩
        go_wp2_with fail
        refine (seed_any _ _ _ n FT.out (by omega) (by omega) _ ND4.out).mono ?_
        rintro e w5 ⟨r2, t2, rfl, f3, f4, hb5⟩
        have HB5 := Lib.hid (HB4.out.trans (hb5.mono HB4.out.size))
        clear hb5
        go_wp2_with fail
        refine (gain_is _ _ _ _ (G + n - 1) (by rw [HGE.out]; omega) f3 f4 (by omega) (by omega) (by omega) (by omega) _).mono ?_
        rintro e w6 ⟨rfl, rfl⟩
        go_wp2
        go_ret
        exact ⟨rfl, HB5.out⟩
end Go.Proofs.Ytffebplkjajafaa
