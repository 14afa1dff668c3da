/- Walks of the program's functions, and words that they use -/
import Derived.Test.YtcdcpcdfcmokkaaGreatDoorO05
set_option linter.unusedVariables false
set_option linter.unusedSimpArgs false
namespace Go.Proofs.YtcdcpcdfcmokkaaGreatDoor.P
open Go.RowKit Go.Proofs.YtcdcpcdfcmokkaaGreatDoorW.PrintWords Go.Proofs.YtcdcpcdfcmokkaaGreatDoorW.PrintLast Go.Proofs.YtcdcpcdfcmokkaaGreatDoorW.PrintMore
open Go.Proofs.YtcdcpcdfcmokkaaGreatDoor (str_gtr str_leq str_geq bne_empty)
attribute [local go_sem] max2_int min2_int max_two min_two max_three min_three max_four min_four str_gtr str_leq str_geq   -- for this text's walks alone
set_option linter.unusedVariables false
set_option linter.unusedSimpArgs false
mutual
def graftbedlaw19_theirs.l0 : Nat → Int → List (S41) → List (S59) → List (S45) → Option ((List (S45)) × (List (S72)))
 | 0, _, _, _, _ => none
 | k + 1, x4, x457000, x457001, x459000 => if x4 < (x457000.length : Int) then (if 0 ≤ x4 then (if x459000.length < 1256584717458 then (graftbedlaw19_theirs.l0 k (wrap64 (x4 + 1)) x457000 x457001 (x459000 ++ [(⟨(⟨(rd_T41 x457000 x4).f0.f0, (rd_T41 x457000 x4).f0.f1⟩ : S38), (rd_T41 x457000 x4).f1, (rd_T41 x457000 x4).f2, (⟨(rd_T41 x457000 x4).f3.f0, (rd_T41 x457000 x4).f3.f1⟩ : S38), (rd_T41 x457000 x4).f4⟩ : S45)])) else (none)) else (none)) else (graftbedlaw19_theirs.l1 k 0 x457000 x457001 x459000 ([] : List (S72)))
def graftbedlaw19_theirs.l1 : Nat → Int → List (S41) → List (S59) → List (S45) → List (S72) → Option ((List (S45)) × (List (S72)))
 | 0, _, _, _, _, _ => none
 | k + 1, x6, x457000, x457001, x459000, x459001 => if x6 < (x457001.length : Int) then (if 0 ≤ x6 then (if x459001.length < 2199023255552 then (graftbedlaw19_theirs.l1 k (wrap64 (x6 + 1)) x457000 x457001 x459000 (x459001 ++ [(⟨(⟨(rd_T59 x457001 x6).f0.f0, (rd_T59 x457001 x6).f0.f1⟩ : S38), (⟨(rd_T59 x457001 x6).f1.f0, (rd_T59 x457001 x6).f1.f1⟩ : S38)⟩ : S72)])) else (none)) else (none)) else (some (x459000, x459001))
end
def graftbedlaw19_theirs.f (k : Nat) (l0_0 : List (S41)) (l0_1 : List (S59)) : Option ((List (S45)) × (List (S72))) := graftbedlaw19_theirs.l0 k 0 l0_0 l0_1 ([] : List (S45))
def graftbedlaw19_theirs.T10 : Bool × List (List Nat × List Nat) := (true, [([], []), ([0], [0]), ([], []), ([2], [2]), ([], []), ([3, 4], [3, 4]), ([5], [5]), ([6], [6]), ([1, 7], [1, 7]), ([0, 1, 2, 3, 4, 5, 6, 7, 8], []), ([9, 8, 8, 0, 1, 2, 3, 4, 5, 6, 7, 8], [8, 9])])
def graftbedlaw19_theirs.B10 : List Nat := [0, 1, 0, 4, 0, 28, 60, 124, 255, 511, 1023]
theorem graftbedlaw19_theirs.tab10 : rtab .any (opsOf Tryz.f12 10) = graftbedlaw19_theirs.T10 := by kernel_rfl
theorem graftbedlaw19_theirs.bits10 : waitsOk graftbedlaw19_theirs.T10.2 graftbedlaw19_theirs.B10 = true := by kernel_rfl
set_option maxHeartbeats 8000000 in
set_option maxRecDepth 100000 in
theorem graftbedlaw19_theirs.calls (k : Nat) (P0_0_ : Nat → Prop) (A0_0 : Option Addr) (c0_0 : Nat) (l0_0 : List (S41)) (A0_1 : Option Addr) (c0_1 : Nat) (l0_1 : List (S59)) (r1 : List (S45)) (r2 : List (S72)) (w : World) (hs0_0 : Kd.V k41 41 w w.heap.size (fun k_ => P0_0_ k_) (.slice A0_0 l0_0.length c0_0) l0_0) (hr0_1 : Kd.C k59 w A0_1 l0_1.length l0_1) (hc0_1 : l0_1.length ≤ c0_1) (h : graftbedlaw19_theirs.f k l0_0 l0_1 = some (r1, r2)) :
  Calls Tryz.prog 12 #[.agg #[.slice A0_0 l0_0.length c0_0, .slice A0_1 l0_1.length c0_1]] w fun e w' => ∃ v0_ v1_ : Value, e = .returned (.agg #[v0_, v1_]) ∧ Kd.N k45 45 w' w.heap.size (fun k_ => (P0_0_ k_ ∨ w.heap.size ≤ k_) ∧ some k_ ≠ (v1_ : Value).ownBlock) v0_ r1 ∧ Kd.R k72 72 w' w.heap.size (fun k_ => (w.heap.size ≤ k_)) v1_ r2 ∧ Below w.heap.size w w' := by
 have hu25 := Tryz.underlying25
 have hu35 := Tryz.underlying35
 have hu41 := Tryz.underlying41
 have hu38 := Tryz.underlying38
 have hu45 := Tryz.underlying45
 have hu59 := Tryz.underlying59
 have HO0_0 := Aside0.mk (show Kd.V k41 41 w w.heap.size (fun k_ => (P0_0_ k_ ∨ w.heap.size ≤ k_)) (.slice A0_0 l0_0.length c0_0) l0_0 from Kd.V_mono hs0_0 (fun k_ hk => .inl hk))
 have HR0_1 := Aside0.mk hr0_1
 have HC0_1 := Aside0.mk hc0_1
 clear hr0_1 hc0_1
 have HB := Aside0.mk (Below.refl w.heap.size w)
 have H : (graftbedlaw19_theirs.l0 k 0 l0_0 l0_1 ([] : List (S45))) = some (r1, r2) := h
 clear h
 have H' := Aside0.mk H
 clear H
 go_enter Tryz.func12, Tryz.ntmps12
 go_wp2_with (first | ((with_reducible refine gate_dst (N := 1) rfl ?_); refine box_event ?hg (N := 1) ?hd (cs := #[.slice A0_0 l0_0.length c0_0, .slice A0_1 l0_1.length c0_1]) (t := 25) ?hr ?_; (case hd => rfl); (case hg => rfl); (case hr => first | (go_simp; done) | (go_simp; rfl)); intro gb456 hg w2 hbox hb; have n0_ := Aside0.mk (Kd.V_below (Kd.V_elderB (by (with_reducible repeat (first | apply Kd.V_alloc | apply Kd.V_drewN | apply Kd.V_drew)); exact HO0_0.out) gb456 (Nat.le_of_eq hg.symm)) hb); have n1_ := Aside0.mk (below_step (by repeat (first | (with_reducible first | exact HB.out | apply below_alloc | apply pw_below_drewN | apply below_drew1) | exact HB.out)) hb); have n2_ := Aside0.mk (hbox); have n3_ := Aside0.mk ((by rw [hg]; exact (below_size (by repeat (first | (with_reducible first | exact HB.out | apply below_alloc | apply pw_below_drewN | apply below_drew1) | exact HB.out))) : w.heap.size ≤ gb456)); have n4_ := Aside0.mk ((by rw [hg]; exact (below_size (by repeat (first | (with_reducible first | exact HB.out | apply below_alloc | apply pw_below_drewN | apply below_drew1) | exact HB.out))) : w.heap.size ≤ gb456)); clear HO0_0; clear HB; have HO0_0 := n0_; have HB := n1_; have BK456 := n2_; have GW456 := n3_; have GE456 := n4_; clear n0_ n1_ n2_ n3_ n4_; clear hb hbox hg) | ((with_reducible refine gate_dst (N := 2) rfl ?_); refine box_event ?hg (N := 2) ?hd (cs := #[.slice none 0 0, .slice none 0 0]) (t := 35) ?hr ?_; (case hd => rfl); (case hg => rfl); (case hr => first | (go_simp; done) | (go_simp; rfl)); intro gb457 hg w3 hbox hb; have n0_ := Aside0.mk (Kd.V_below (Kd.V_elderB (by (with_reducible repeat (first | apply Kd.V_alloc | apply Kd.V_drewN | apply Kd.V_drew)); exact HO0_0.out) gb457 (Nat.le_of_eq hg.symm)) hb); have n1_ := Aside0.mk (blk_below (g := gb456) (o := .cells #[.slice A0_0 l0_0.length c0_0, .slice A0_1 l0_1.length c0_1] 25 (0, 0)) (by (with_reducible repeat (first | refine blk_drewN ?_ _ | refine blk_drew ?_ | refine blk_alloc ?_ _)); exact BK456.out) hb); have n2_ := Aside0.mk (below_step (by repeat (first | (with_reducible first | exact HB.out | apply below_alloc | apply pw_below_drewN | apply below_drew1 | refine below_set ?_ GE456.out) | exact HB.out)) hb); have n3_ := Aside0.mk (hbox); have n4_ := Aside0.mk ((by rw [hg]; exact (below_size (by repeat (first | (with_reducible first | exact HB.out | apply below_alloc | apply pw_below_drewN | apply below_drew1 | refine below_set ?_ GE456.out) | exact HB.out))) : w.heap.size ≤ gb457)); have n5_ := Aside0.mk ((by rw [hg]; exact (below_size (by repeat (first | (with_reducible first | exact HB.out | apply below_alloc | apply pw_below_drewN | apply below_drew1 | refine below_set ?_ GE456.out) | exact HB.out))) : w.heap.size ≤ gb457)); have n6_ := Aside0.mk ((by rw [hg]; exact Nat.ne_of_lt (blk_lt (g := gb456) (o := .cells #[.slice A0_0 l0_0.length c0_0, .slice A0_1 l0_1.length c0_1] 25 (0, 0)) (by (with_reducible repeat (first | refine blk_drewN ?_ _ | refine blk_drew ?_ | refine blk_alloc ?_ _)); exact BK456.out)) : gb456 ≠ gb457)); have n7_ := Aside0.mk ((by rw [hg]; exact Nat.ne_of_gt (blk_lt (g := gb456) (o := .cells #[.slice A0_0 l0_0.length c0_0, .slice A0_1 l0_1.length c0_1] 25 (0, 0)) (by (with_reducible repeat (first | refine blk_drewN ?_ _ | refine blk_drew ?_ | refine blk_alloc ?_ _)); exact BK456.out)) : gb457 ≠ gb456)); clear HO0_0; clear BK456; clear HB; have HO0_0 := n0_; have BK456 := n1_; have HB := n2_; have BK457 := n3_; have GW457 := n4_; have GE457 := n5_; have NB456_457 := n6_; have NB457_456 := n7_; clear n0_ n1_ n2_ n3_ n4_ n5_ n6_ n7_; clear hb hbox hg) | ((with_reducible refine gate_dst (N := 3) rfl ?_); refine box_event ?hg (N := 3) ?hd (cs := #[.slice none 0 0, .slice none 0 0]) (t := 35) ?hr ?_; (case hd => rfl); (case hg => rfl); (case hr => first | (go_simp; done) | (go_simp; rfl)); intro gb458 hg w4 hbox hb; have n0_ := Aside0.mk (Kd.V_below (Kd.V_elderB (by (with_reducible repeat (first | apply Kd.V_alloc | apply Kd.V_drewN | apply Kd.V_drew)); exact HO0_0.out) gb458 (Nat.le_of_eq hg.symm)) hb); have n1_ := Aside0.mk (blk_below (g := gb456) (o := .cells #[.slice A0_0 l0_0.length c0_0, .slice A0_1 l0_1.length c0_1] 25 (0, 0)) (by (with_reducible repeat (first | refine blk_drewN ?_ _ | refine blk_drew ?_ | refine blk_alloc ?_ _)); exact BK456.out) hb); have n2_ := Aside0.mk (blk_below (g := gb457) (o := .cells #[.slice none 0 0, .slice none 0 0] 35 (0, 0)) (by (with_reducible repeat (first | refine blk_drewN ?_ _ | refine blk_drew ?_ | refine blk_alloc ?_ _)); exact BK457.out) hb); have n3_ := Aside0.mk (below_step (by repeat (first | (with_reducible first | exact HB.out | apply below_alloc | apply pw_below_drewN | apply below_drew1 | refine below_set ?_ GE456.out | refine below_set ?_ GE457.out) | exact HB.out)) hb); have n4_ := Aside0.mk (hbox); have n5_ := Aside0.mk ((by rw [hg]; exact (below_size (by repeat (first | (with_reducible first | exact HB.out | apply below_alloc | apply pw_below_drewN | apply below_drew1 | refine below_set ?_ GE456.out | refine below_set ?_ GE457.out) | exact HB.out))) : w.heap.size ≤ gb458)); have n6_ := Aside0.mk ((by rw [hg]; exact (below_size (by repeat (first | (with_reducible first | exact HB.out | apply below_alloc | apply pw_below_drewN | apply below_drew1 | refine below_set ?_ GE456.out | refine below_set ?_ GE457.out) | exact HB.out))) : w.heap.size ≤ gb458)); have n7_ := Aside0.mk ((by rw [hg]; exact Nat.ne_of_lt (blk_lt (g := gb456) (o := .cells #[.slice A0_0 l0_0.length c0_0, .slice A0_1 l0_1.length c0_1] 25 (0, 0)) (by (with_reducible repeat (first | refine blk_drewN ?_ _ | refine blk_drew ?_ | refine blk_alloc ?_ _)); exact BK456.out)) : gb456 ≠ gb458)); have n8_ := Aside0.mk ((by rw [hg]; exact Nat.ne_of_gt (blk_lt (g := gb456) (o := .cells #[.slice A0_0 l0_0.length c0_0, .slice A0_1 l0_1.length c0_1] 25 (0, 0)) (by (with_reducible repeat (first | refine blk_drewN ?_ _ | refine blk_drew ?_ | refine blk_alloc ?_ _)); exact BK456.out)) : gb458 ≠ gb456)); have n9_ := Aside0.mk ((by rw [hg]; exact Nat.ne_of_lt (blk_lt (g := gb457) (o := .cells #[.slice none 0 0, .slice none 0 0] 35 (0, 0)) (by (with_reducible repeat (first | refine blk_drewN ?_ _ | refine blk_drew ?_ | refine blk_alloc ?_ _)); exact BK457.out)) : gb457 ≠ gb458)); have n10_ := Aside0.mk ((by rw [hg]; exact Nat.ne_of_gt (blk_lt (g := gb457) (o := .cells #[.slice none 0 0, .slice none 0 0] 35 (0, 0)) (by (with_reducible repeat (first | refine blk_drewN ?_ _ | refine blk_drew ?_ | refine blk_alloc ?_ _)); exact BK457.out)) : gb458 ≠ gb457)); clear HO0_0; clear BK456; clear BK457; clear HB; have HO0_0 := n0_; have BK456 := n1_; have BK457 := n2_; have HB := n3_; have BK458 := n4_; have GW458 := n5_; have GE458 := n6_; have NB456_458 := n7_; have NB458_456 := n8_; have NB457_458 := n9_; have NB458_457 := n10_; clear n0_ n1_ n2_ n3_ n4_ n5_ n6_ n7_ n8_ n9_ n10_; clear hb hbox hg; have hnb5 := NB458_456.out; have hnc5 := NB456_458.out; have hnb6 := NB458_457.out; have hnc6 := NB457_458.out; have hcz7_0 : w4.cell? ⟨gb458, 0, none⟩ = some (.slice none 0 0) := (blk_cell BK458.out 0).trans rfl; have hcz7_1 : w4.cell? ⟨gb458, 1, none⟩ = some (.slice none 0 0) := (blk_cell BK458.out 1).trans rfl; have hfz7_0 := blk_frozen BK458.out 0; have hfz7_1 := blk_frozen BK458.out 1))
 go_loopg [4] k (fun kq v4 w' => ∃ (x4_1 : Int) (x459000_1 : List (S45)) (u459000 : Value), v4 = .int .i64 x4_1 ∧ Aside0 (graftbedlaw19_theirs.l0 kq x4_1 l0_0 l0_1 x459000_1 = some (r1, r2)) ∧ Aside0 (kq ≤ k) ∧ Aside0 (Kd.V k41 41 w' w.heap.size (fun k_ => (P0_0_ k_ ∨ w.heap.size ≤ k_) ∧ some k_ ≠ (u459000 : Value).ownBlock ∧ k_ ≠ gb456 ∧ k_ ≠ gb457 ∧ k_ ≠ gb458) (.slice A0_0 l0_0.length c0_0) l0_0) ∧ Aside0 (Kd.N k45 45 w' w.heap.size (fun k_ => (P0_0_ k_ ∨ w.heap.size ≤ k_) ∧ k_ ≠ gb456 ∧ k_ ≠ gb457 ∧ k_ ≠ gb458) u459000 x459000_1) ∧ Aside0 (w'.heap[gb456]? = some (.cells #[(.slice A0_0 l0_0.length c0_0), (.slice A0_1 l0_1.length c0_1)] 25 (0, 0))) ∧ Aside0 (w'.heap[gb457]? = some (.cells #[(.slice none 0 0), (.slice none 0 0)] 35 (0, 0))) ∧ Aside0 (w'.heap[gb458]? = some (.cells #[u459000, (.slice none 0 0)] 35 (0, 0))) ∧ Aside0 (Below w.heap.size w w'))
 case atStart => exact ⟨(0), (([] : List (S45))), (.slice none 0 0), (by first | rfl | (simp; done) | (simp [*]; done) | (simp [bne_empty, *]; done)), H', ⟨Nat.le_refl _⟩, ⟨by (with_reducible repeat (first | apply Kd.V_alloc | apply Kd.V_drewN | apply Kd.V_drew)); exact Kd.V_mono (Kd.V_far (p := ⟨gb458, 1, none⟩) (Kd.V_far (p := ⟨gb458, 0, none⟩) (Kd.V_mono HO0_0.out (fun k_ hk => (⟨hk, hk.2⟩ : _ ∧ k_ ≠ gb458))) (fun _ hk => hk.2) (.slice none 0 0)) (fun _ hk => hk.2) (.slice none 0 0)) (fun _ hk => ⟨hk.1.1.1.1, ⟨(by simp [Value.ownBlock]), ⟨hk.1.1.1.2, ⟨hk.1.1.2, hk.1.2⟩⟩⟩⟩)⟩, ⟨by first | exact Kd.S_nil _ _ _ _ _ | exact Kd.N_nil _ _ _ _ _ | exact Kd.V_nil _ _ _ _ _ | exact Kd.Q_nil _ _ _ _ _ | exact Kd.R_nil _ _ _ _ _⟩, ⟨by (with_reducible repeat (first | refine blk_drewN ?_ _ | refine blk_drew ?_ | refine blk_alloc ?_ _)); refine blk_far ?_ NB456_458.out _; (with_reducible repeat (first | refine blk_drewN ?_ _ | refine blk_drew ?_ | refine blk_alloc ?_ _)); refine blk_far ?_ NB456_458.out _; (with_reducible repeat (first | refine blk_drewN ?_ _ | refine blk_drew ?_ | refine blk_alloc ?_ _)); exact BK456.out⟩, ⟨by (with_reducible repeat (first | refine blk_drewN ?_ _ | refine blk_drew ?_ | refine blk_alloc ?_ _)); refine blk_far ?_ NB457_458.out _; (with_reducible repeat (first | refine blk_drewN ?_ _ | refine blk_drew ?_ | refine blk_alloc ?_ _)); refine blk_far ?_ NB457_458.out _; (with_reducible repeat (first | refine blk_drewN ?_ _ | refine blk_drew ?_ | refine blk_alloc ?_ _)); exact BK457.out⟩, ⟨by (with_reducible repeat (first | refine blk_drewN ?_ _ | refine blk_drew ?_ | refine blk_alloc ?_ _)); refine blk_put (cs := #[.slice none 0 0, .slice none 0 0]) ?_ 1 _ rfl; (with_reducible repeat (first | refine blk_drewN ?_ _ | refine blk_drew ?_ | refine blk_alloc ?_ _)); refine blk_put (cs := #[.slice none 0 0, .slice none 0 0]) ?_ 0 _ rfl; (with_reducible repeat (first | refine blk_drewN ?_ _ | refine blk_drew ?_ | refine blk_alloc ?_ _)); exact BK458.out⟩, ⟨by repeat (first | (with_reducible first | exact HB.out | apply below_alloc | apply pw_below_drewN | apply below_drew1 | refine below_set ?_ GE456.out | refine below_set ?_ GE457.out | refine below_set ?_ GE458.out) | exact HB.out)⟩⟩
 case round =>
  clear H'
  try clear c1
  try clear p2
  try clear c5
  try clear c6
  try clear hcz7_0
  try clear hcz7_1
  try clear hfz7_0
  try clear hfz7_1
  obtain ⟨x4_1, x459000_1, u459000, rfl, HA, HK1, HO_457000, HO_459000, BK456, BK457, BK458, HB⟩ := hrel
  cases gk with
  | zero => exact absurd HA.out (by simp [graftbedlaw19_theirs.l0])
  | succ k1 =>
   have H := HA.out
   clear HA
   simp only [graftbedlaw19_theirs.l0] at H
   by_cases c8 : x4_1 < (l0_0.length : Int)
   ·rw [if_pos c8] at H
    have c8b0 : decide (x4_1 < (l0_0.length : Int)) = true := decide_eq_true c8
    clear c8
    by_cases c9 : 0 ≤ x4_1
    ·rw [if_pos c9] at H
     have c9b0 : decide (0 ≤ x4_1) = true := decide_eq_true c9
     clear c9
     by_cases c10 : x459000_1.length < 1256584717458
     ·rw [if_pos c10] at H
      have LMc10 := Aside0.mk c10
      clear c10
      obtain ⟨y461, hy461⟩ : ∃ y_ : List (S45), y_ = (x459000_1 ++ [(⟨(⟨(rd_T41 l0_0 x4_1).f0.f0, (rd_T41 l0_0 x4_1).f0.f1⟩ : S38), (rd_T41 l0_0 x4_1).f1, (rd_T41 l0_0 x4_1).f2, (⟨(rd_T41 l0_0 x4_1).f3.f0, (rd_T41 l0_0 x4_1).f3.f1⟩ : S38), (rd_T41 l0_0 x4_1).f4⟩ : S45)]) := ⟨_, rfl⟩
      replace H : (graftbedlaw19_theirs.l0 k1 (wrap64 (x4_1 + 1)) l0_0 l0_1 y461) = some (r1, r2) := by first | (rw [hy461]; with_reducible exact H) | (have H2_ := (Option.bind_some _ _).symm.trans H; rw [hy461]; with_reducible exact H2_) | (have H2_ := (Option.bind_some _ _).symm.trans H; with_reducible exact H2_) | with_reducible exact H | (rw [hy461]; exact H) | exact H
      have Ny461 := Aside0.mk hy461
      clear hy461
      have H' := Aside0.mk H
      clear H
      have hnb11 := NB456_457.out
      have hnc11 := NB457_456.out
      have hnb12 := NB456_458.out
      have hnc12 := NB458_456.out
      have hcz13_0 : wr.cell? ⟨gb456, 0, none⟩ = some (.slice A0_0 l0_0.length c0_0) := (blk_cell BK456.out 0).trans rfl
      have hcz13_1 : wr.cell? ⟨gb456, 1, none⟩ = some (.slice A0_1 l0_1.length c0_1) := (blk_cell BK456.out 1).trans rfl
      have hfz13_0 := blk_frozen BK456.out 0
      have hfz13_1 := blk_frozen BK456.out 1
      have p459 : 0 ≤ (x4_1 : Int) := of_decide_eq_true (by first | (with_reducible assumption) | assumption)
      have q459 : x4_1 < (l0_0.length : Int) := of_decide_eq_true (by first | (with_reducible assumption) | assumption)
      obtain ⟨ad459, A459_6, c459_6, e459, hx459_0, hx459_1, hx459_2, hx459_3, hx459_4, hx459_5, hx459_6, hl459_6, hi459_6⟩ := at_T41 (Kd.V_reads' HO_457000.out).2.2 x4_1 p459 q459
      cases e459
      obtain ⟨ce459, hce459, hMe459, hcc459⟩ := Kd.V_get HO_457000.out z41 x4_1 p459 (by first | exact q459 | exact of_decide_eq_true (by first | (with_reducible assumption) | assumption) | (have e_ := (Kd.V_reads' HO_457000.out).1; omega))
      obtain ⟨ua459_6, uc459_6, rfl, ul459_6, ge459_6⟩ := k41_openF hMe459
      have hv459_6 := hcc459 6 _ rfl
      rw [add_field _ _ 6 (by omega)] at hv459_6
      replace hv459_6 := Option.some.inj (hv459_6.symm.trans hx459_6)
      injection hv459_6 with hva_ hvn_ hvc_
      rw [hva_] at ge459_6
      rw [hvc_] at ul459_6
      have HL459_6 := Aside0.mk (show Kd.V Kd.string 9 _ w.heap.size _ _ ((rd_T41 l0_0 x4_1).f4) from Kd.V_mk ul459_6 ge459_6)
      clear hva_ hvn_ hvc_ ge459_6 ul459_6
      clear hcc459 hce459
      have HR459_6 := Aside0.mk hi459_6
      have HC459_6 := Aside0.mk hl459_6
      clear hi459_6 hl459_6
      replace p459 := eq_true p459
      replace q459 := eq_true q459
      go_wp2_with (first | ((with_reducible refine gate_dst (N := 5) rfl ?_); refine box_event ?hg (N := 5) ?hd (cs := #[.string (⟨#[]⟩ : ByteArray), .string (⟨#[]⟩ : ByteArray), .bool false, .string (⟨#[]⟩ : ByteArray), .string (⟨#[]⟩ : ByteArray), .string (⟨#[]⟩ : ByteArray), .slice none 0 0]) (t := 41) ?hr ?_; (case hd => rfl); (case hg => rfl); (case hr => first | (go_simp; done) | (go_simp; rfl)); intro gb460 hg w14 hbox hb; have n0_ := Aside0.mk (Kd.V_below (Kd.V_elderB (by (with_reducible repeat (first | apply Kd.V_alloc | apply Kd.V_drewN | apply Kd.V_drew)); exact HO_457000.out) gb460 (Nat.le_of_eq hg.symm)) hb); have n1_ := Aside0.mk (Kd.N_below (Kd.N_elderB (by (with_reducible repeat (first | apply Kd.N_alloc | apply Kd.N_drewN | apply Kd.N_drew)); exact HO_459000.out) gb460 (Nat.le_of_eq hg.symm)) hb); have n2_ := Aside0.mk (Kd.V_below (Kd.V_elderB (by (with_reducible repeat (first | apply Kd.V_alloc | apply Kd.V_drewN | apply Kd.V_drew)); exact HL459_6.out) gb460 (Nat.le_of_eq hg.symm)) hb); have n3_ := Aside0.mk (blk_below (g := gb456) (o := .cells #[.slice (some ad459) l0_0.length c0_0, .slice A0_1 l0_1.length c0_1] 25 (0, 0)) (by (with_reducible repeat (first | refine blk_drewN ?_ _ | refine blk_drew ?_ | refine blk_alloc ?_ _)); exact BK456.out) hb); have n4_ := Aside0.mk (blk_below (g := gb457) (o := .cells #[.slice none 0 0, .slice none 0 0] 35 (0, 0)) (by (with_reducible repeat (first | refine blk_drewN ?_ _ | refine blk_drew ?_ | refine blk_alloc ?_ _)); exact BK457.out) hb); have n5_ := Aside0.mk (blk_below (g := gb458) (o := .cells #[u459000, .slice none 0 0] 35 (0, 0)) (by (with_reducible repeat (first | refine blk_drewN ?_ _ | refine blk_drew ?_ | refine blk_alloc ?_ _)); exact BK458.out) hb); have n6_ := Aside0.mk (Kd.C_below (by repeat (first | (with_reducible exact HR459_6.out) | (with_reducible refine Kd.C_alloc ?_ _) | (with_reducible refine Kd.C_drewN ?_ _) | (with_reducible refine Kd.C_drew ?_) | exact HR459_6.out)) hb); have n7_ := Aside0.mk (below_step (by repeat (first | (with_reducible first | exact HB.out | apply below_alloc | apply pw_below_drewN | apply below_drew1 | refine below_set ?_ GE456.out | refine below_set ?_ GE457.out | refine below_set ?_ GE458.out) | exact HB.out)) hb); have n8_ := Aside0.mk (hbox); have n9_ := Aside0.mk ((by rw [hg]; exact (below_size (by repeat (first | (with_reducible first | exact HB.out | apply below_alloc | apply pw_below_drewN | apply below_drew1 | refine below_set ?_ GE456.out | refine below_set ?_ GE457.out | refine below_set ?_ GE458.out) | exact HB.out))) : w.heap.size ≤ gb460)); have n10_ := Aside0.mk ((by rw [hg]; exact (below_size (by repeat (first | (with_reducible first | exact HB.out | apply below_alloc | apply pw_below_drewN | apply below_drew1 | refine below_set ?_ GE456.out | refine below_set ?_ GE457.out | refine below_set ?_ GE458.out) | exact HB.out))) : w.heap.size ≤ gb460)); have n11_ := Aside0.mk ((by rw [hg]; exact Nat.ne_of_lt (blk_lt (g := gb456) (o := .cells #[.slice (some ad459) l0_0.length c0_0, .slice A0_1 l0_1.length c0_1] 25 (0, 0)) (by (with_reducible repeat (first | refine blk_drewN ?_ _ | refine blk_drew ?_ | refine blk_alloc ?_ _)); exact BK456.out)) : gb456 ≠ gb460)); have n12_ := Aside0.mk ((by rw [hg]; exact Nat.ne_of_gt (blk_lt (g := gb456) (o := .cells #[.slice (some ad459) l0_0.length c0_0, .slice A0_1 l0_1.length c0_1] 25 (0, 0)) (by (with_reducible repeat (first | refine blk_drewN ?_ _ | refine blk_drew ?_ | refine blk_alloc ?_ _)); exact BK456.out)) : gb460 ≠ gb456)); have n13_ := Aside0.mk ((by rw [hg]; exact Nat.ne_of_lt (blk_lt (g := gb457) (o := .cells #[.slice none 0 0, .slice none 0 0] 35 (0, 0)) (by (with_reducible repeat (first | refine blk_drewN ?_ _ | refine blk_drew ?_ | refine blk_alloc ?_ _)); exact BK457.out)) : gb457 ≠ gb460)); have n14_ := Aside0.mk ((by rw [hg]; exact Nat.ne_of_gt (blk_lt (g := gb457) (o := .cells #[.slice none 0 0, .slice none 0 0] 35 (0, 0)) (by (with_reducible repeat (first | refine blk_drewN ?_ _ | refine blk_drew ?_ | refine blk_alloc ?_ _)); exact BK457.out)) : gb460 ≠ gb457)); have n15_ := Aside0.mk ((by rw [hg]; exact Nat.ne_of_lt (blk_lt (g := gb458) (o := .cells #[u459000, .slice none 0 0] 35 (0, 0)) (by (with_reducible repeat (first | refine blk_drewN ?_ _ | refine blk_drew ?_ | refine blk_alloc ?_ _)); exact BK458.out)) : gb458 ≠ gb460)); have n16_ := Aside0.mk ((by rw [hg]; exact Nat.ne_of_gt (blk_lt (g := gb458) (o := .cells #[u459000, .slice none 0 0] 35 (0, 0)) (by (with_reducible repeat (first | refine blk_drewN ?_ _ | refine blk_drew ?_ | refine blk_alloc ?_ _)); exact BK458.out)) : gb460 ≠ gb458)); clear HO_457000; clear HO_459000; clear HL459_6; clear BK456; clear BK457; clear BK458; clear HR459_6; clear HB; have HO_457000 := n0_; have HO_459000 := n1_; have HL459_6 := n2_; have BK456 := n3_; have BK457 := n4_; have BK458 := n5_; have HR459_6 := n6_; have HB := n7_; have BK460 := n8_; have GW460 := n9_; have GE460 := n10_; have NB456_460 := n11_; have NB460_456 := n12_; have NB457_460 := n13_; have NB460_457 := n14_; have NB458_460 := n15_; have NB460_458 := n16_; clear n0_ n1_ n2_ n3_ n4_ n5_ n6_ n7_ n8_ n9_ n10_ n11_ n12_ n13_ n14_ n15_ n16_; clear hb hbox hg; have hnb15 := NB460_456.out; have hnc15 := NB456_460.out; have hnb16 := NB460_457.out; have hnc16 := NB457_460.out; have hnb17 := NB460_458.out; have hnc17 := NB458_460.out; have hcz18_0 : w14.cell? ⟨gb460, 0, none⟩ = some (.string (⟨#[]⟩ : ByteArray)) := (blk_cell BK460.out 0).trans rfl; have hcz18_1 : w14.cell? ⟨gb460, 1, none⟩ = some (.string (⟨#[]⟩ : ByteArray)) := (blk_cell BK460.out 1).trans rfl; have hcz18_2 : w14.cell? ⟨gb460, 2, none⟩ = some (.bool false) := (blk_cell BK460.out 2).trans rfl; have hcz18_3 : w14.cell? ⟨gb460, 3, none⟩ = some (.string (⟨#[]⟩ : ByteArray)) := (blk_cell BK460.out 3).trans rfl; have hcz18_4 : w14.cell? ⟨gb460, 4, none⟩ = some (.string (⟨#[]⟩ : ByteArray)) := (blk_cell BK460.out 4).trans rfl; have hcz18_5 : w14.cell? ⟨gb460, 5, none⟩ = some (.string (⟨#[]⟩ : ByteArray)) := (blk_cell BK460.out 5).trans rfl; have hcz18_6 : w14.cell? ⟨gb460, 6, none⟩ = some (.slice none 0 0) := (blk_cell BK460.out 6).trans rfl; have hfz18_0 := blk_frozen BK460.out 0; have hfz18_1 := blk_frozen BK460.out 1; have hfz18_2 := blk_frozen BK460.out 2; have hfz18_3 := blk_frozen BK460.out 3; have hfz18_4 := blk_frozen BK460.out 4; have hfz18_5 := blk_frozen BK460.out 5; have hfz18_6 := blk_frozen BK460.out 6) | ((with_reducible refine gate_store (t := 41) (p := 5) rfl ?_); refine store_event (t := 41) (p := 5) (v := ?vo_w19) (w1 := (((((((w14.setCell ⟨gb460, 0, none⟩ (.string ((rd_T41 l0_0 x4_1).f0.f0))).setCell ⟨gb460, 1, none⟩ (.string ((rd_T41 l0_0 x4_1).f0.f1))).setCell ⟨gb460, 2, none⟩ (.bool ((rd_T41 l0_0 x4_1).f1))).setCell ⟨gb460, 3, none⟩ (.string ((rd_T41 l0_0 x4_1).f2))).setCell ⟨gb460, 4, none⟩ (.string ((rd_T41 l0_0 x4_1).f3.f0))).setCell ⟨gb460, 5, none⟩ (.string ((rd_T41 l0_0 x4_1).f3.f1))).setCell ⟨gb460, 6, none⟩ (.slice A459_6 ((rd_T41 l0_0 x4_1).f4).length c459_6))) ?hg ?ho ?hn ?hr ?_; (case ho => rfl); (case hg => rfl); (case hn => rfl); (case hr => first | (go_simp; done) | (go_simp; rfl)); intro w19 hw; have n0_ : Aside0 (Kd.V k41 41 w19 w.heap.size (fun k_ => (P0_0_ k_ ∨ w.heap.size ≤ k_) ∧ some k_ ≠ (u459000 : Value).ownBlock ∧ k_ ≠ gb456 ∧ k_ ≠ gb457 ∧ k_ ≠ gb458 ∧ k_ ≠ gb460) (.slice (some ad459) l0_0.length c0_0) l0_0) := ⟨(by rw [hw]; exact (by (with_reducible repeat (first | apply Kd.V_alloc | apply Kd.V_drewN | apply Kd.V_drew)); exact Kd.V_mono (Kd.V_far (p := ⟨gb460, 6, none⟩) (Kd.V_far (p := ⟨gb460, 5, none⟩) (Kd.V_far (p := ⟨gb460, 4, none⟩) (Kd.V_far (p := ⟨gb460, 3, none⟩) (Kd.V_far (p := ⟨gb460, 2, none⟩) (Kd.V_far (p := ⟨gb460, 1, none⟩) (Kd.V_far (p := ⟨gb460, 0, none⟩) (Kd.V_mono HO_457000.out (fun k_ hk => (⟨hk, hk.2⟩ : _ ∧ k_ ≠ gb460))) (fun _ hk => hk.2) (.string ((rd_T41 l0_0 x4_1).f0.f0))) (fun _ hk => hk.2) (.string ((rd_T41 l0_0 x4_1).f0.f1))) (fun _ hk => hk.2) (.bool ((rd_T41 l0_0 x4_1).f1))) (fun _ hk => hk.2) (.string ((rd_T41 l0_0 x4_1).f2))) (fun _ hk => hk.2) (.string ((rd_T41 l0_0 x4_1).f3.f0))) (fun _ hk => hk.2) (.string ((rd_T41 l0_0 x4_1).f3.f1))) (fun _ hk => hk.2) (.slice A459_6 ((rd_T41 l0_0 x4_1).f4).length c459_6)) (fun _ hk => ⟨hk.1.1.1, ⟨hk.1.1.2.1, ⟨hk.1.1.2.2.1, ⟨hk.1.1.2.2.2.1, ⟨hk.1.1.2.2.2.2, hk.1.2⟩⟩⟩⟩⟩)))⟩; have n1_ : Aside0 (Kd.N k45 45 w19 w.heap.size (fun k_ => (P0_0_ k_ ∨ w.heap.size ≤ k_) ∧ k_ ≠ gb456 ∧ k_ ≠ gb457 ∧ k_ ≠ gb458 ∧ k_ ≠ gb460) u459000 x459000_1) := ⟨(by rw [hw]; exact (by (with_reducible repeat (first | apply Kd.N_alloc | apply Kd.N_drewN | apply Kd.N_drew)); exact Kd.N_mono (Kd.N_far (p := ⟨gb460, 6, none⟩) (Kd.N_far (p := ⟨gb460, 5, none⟩) (Kd.N_far (p := ⟨gb460, 4, none⟩) (Kd.N_far (p := ⟨gb460, 3, none⟩) (Kd.N_far (p := ⟨gb460, 2, none⟩) (Kd.N_far (p := ⟨gb460, 1, none⟩) (Kd.N_far (p := ⟨gb460, 0, none⟩) (Kd.N_mono HO_459000.out (fun k_ hk => (⟨hk, hk.2⟩ : _ ∧ k_ ≠ gb460))) (fun _ hk => hk.2) (.string ((rd_T41 l0_0 x4_1).f0.f0))) (fun _ hk => hk.2) (.string ((rd_T41 l0_0 x4_1).f0.f1))) (fun _ hk => hk.2) (.bool ((rd_T41 l0_0 x4_1).f1))) (fun _ hk => hk.2) (.string ((rd_T41 l0_0 x4_1).f2))) (fun _ hk => hk.2) (.string ((rd_T41 l0_0 x4_1).f3.f0))) (fun _ hk => hk.2) (.string ((rd_T41 l0_0 x4_1).f3.f1))) (fun _ hk => hk.2) (.slice A459_6 ((rd_T41 l0_0 x4_1).f4).length c459_6)) (fun _ hk => ⟨hk.1.1.1, ⟨hk.1.1.2.1, ⟨hk.1.1.2.2.1, ⟨hk.1.1.2.2.2, hk.1.2⟩⟩⟩⟩)))⟩; have n2_ : Aside0 (Kd.V Kd.string 9 w19 w.heap.size (fun k_ => (P0_0_ k_ ∨ w.heap.size ≤ k_) ∧ some k_ ≠ (u459000 : Value).ownBlock ∧ k_ ≠ gb456 ∧ k_ ≠ gb457 ∧ k_ ≠ gb458 ∧ k_ ≠ gb460) (.slice A459_6 ((rd_T41 l0_0 x4_1).f4).length c459_6) ((rd_T41 l0_0 x4_1).f4)) := ⟨(by rw [hw]; exact (by (with_reducible repeat (first | apply Kd.V_alloc | apply Kd.V_drewN | apply Kd.V_drew)); exact Kd.V_mono (Kd.V_far (p := ⟨gb460, 6, none⟩) (Kd.V_far (p := ⟨gb460, 5, none⟩) (Kd.V_far (p := ⟨gb460, 4, none⟩) (Kd.V_far (p := ⟨gb460, 3, none⟩) (Kd.V_far (p := ⟨gb460, 2, none⟩) (Kd.V_far (p := ⟨gb460, 1, none⟩) (Kd.V_far (p := ⟨gb460, 0, none⟩) (Kd.V_mono HL459_6.out (fun k_ hk => (⟨hk, hk.2⟩ : _ ∧ k_ ≠ gb460))) (fun _ hk => hk.2) (.string ((rd_T41 l0_0 x4_1).f0.f0))) (fun _ hk => hk.2) (.string ((rd_T41 l0_0 x4_1).f0.f1))) (fun _ hk => hk.2) (.bool ((rd_T41 l0_0 x4_1).f1))) (fun _ hk => hk.2) (.string ((rd_T41 l0_0 x4_1).f2))) (fun _ hk => hk.2) (.string ((rd_T41 l0_0 x4_1).f3.f0))) (fun _ hk => hk.2) (.string ((rd_T41 l0_0 x4_1).f3.f1))) (fun _ hk => hk.2) (.slice A459_6 ((rd_T41 l0_0 x4_1).f4).length c459_6)) (fun _ hk => ⟨hk.1.1.1, ⟨hk.1.1.2.1, ⟨hk.1.1.2.2.1, ⟨hk.1.1.2.2.2.1, ⟨hk.1.1.2.2.2.2, hk.1.2⟩⟩⟩⟩⟩)))⟩; have n3_ : Aside0 (w19.heap[gb456]? = some (.cells #[.slice (some ad459) l0_0.length c0_0, .slice A0_1 l0_1.length c0_1] 25 (0, 0))) := ⟨(by rw [hw]; exact (by (with_reducible repeat (first | refine blk_drewN ?_ _ | refine blk_drew ?_ | refine blk_alloc ?_ _)); refine blk_far ?_ NB456_460.out _; (with_reducible repeat (first | refine blk_drewN ?_ _ | refine blk_drew ?_ | refine blk_alloc ?_ _)); refine blk_far ?_ NB456_460.out _; (with_reducible repeat (first | refine blk_drewN ?_ _ | refine blk_drew ?_ | refine blk_alloc ?_ _)); refine blk_far ?_ NB456_460.out _; (with_reducible repeat (first | refine blk_drewN ?_ _ | refine blk_drew ?_ | refine blk_alloc ?_ _)); refine blk_far ?_ NB456_460.out _; (with_reducible repeat (first | refine blk_drewN ?_ _ | refine blk_drew ?_ | refine blk_alloc ?_ _)); refine blk_far ?_ NB456_460.out _; (with_reducible repeat (first | refine blk_drewN ?_ _ | refine blk_drew ?_ | refine blk_alloc ?_ _)); refine blk_far ?_ NB456_460.out _; (with_reducible repeat (first | refine blk_drewN ?_ _ | refine blk_drew ?_ | refine blk_alloc ?_ _)); refine blk_far ?_ NB456_460.out _; (with_reducible repeat (first | refine blk_drewN ?_ _ | refine blk_drew ?_ | refine blk_alloc ?_ _)); exact BK456.out))⟩; have n4_ : Aside0 (w19.heap[gb457]? = some (.cells #[.slice none 0 0, .slice none 0 0] 35 (0, 0))) := ⟨(by rw [hw]; exact (by (with_reducible repeat (first | refine blk_drewN ?_ _ | refine blk_drew ?_ | refine blk_alloc ?_ _)); refine blk_far ?_ NB457_460.out _; (with_reducible repeat (first | refine blk_drewN ?_ _ | refine blk_drew ?_ | refine blk_alloc ?_ _)); refine blk_far ?_ NB457_460.out _; (with_reducible repeat (first | refine blk_drewN ?_ _ | refine blk_drew ?_ | refine blk_alloc ?_ _)); refine blk_far ?_ NB457_460.out _; (with_reducible repeat (first | refine blk_drewN ?_ _ | refine blk_drew ?_ | refine blk_alloc ?_ _)); refine blk_far ?_ NB457_460.out _; (with_reducible repeat (first | refine blk_drewN ?_ _ | refine blk_drew ?_ | refine blk_alloc ?_ _)); refine blk_far ?_ NB457_460.out _; (with_reducible repeat (first | refine blk_drewN ?_ _ | refine blk_drew ?_ | refine blk_alloc ?_ _)); refine blk_far ?_ NB457_460.out _; (with_reducible repeat (first | refine blk_drewN ?_ _ | refine blk_drew ?_ | refine blk_alloc ?_ _)); refine blk_far ?_ NB457_460.out _; (with_reducible repeat (first | refine blk_drewN ?_ _ | refine blk_drew ?_ | refine blk_alloc ?_ _)); exact BK457.out))⟩; have n5_ : Aside0 (w19.heap[gb458]? = some (.cells #[u459000, .slice none 0 0] 35 (0, 0))) := ⟨(by rw [hw]; exact (by (with_reducible repeat (first | refine blk_drewN ?_ _ | refine blk_drew ?_ | refine blk_alloc ?_ _)); refine blk_far ?_ NB458_460.out _; (with_reducible repeat (first | refine blk_drewN ?_ _ | refine blk_drew ?_ | refine blk_alloc ?_ _)); refine blk_far ?_ NB458_460.out _; (with_reducible repeat (first | refine blk_drewN ?_ _ | refine blk_drew ?_ | refine blk_alloc ?_ _)); refine blk_far ?_ NB458_460.out _; (with_reducible repeat (first | refine blk_drewN ?_ _ | refine blk_drew ?_ | refine blk_alloc ?_ _)); refine blk_far ?_ NB458_460.out _; (with_reducible repeat (first | refine blk_drewN ?_ _ | refine blk_drew ?_ | refine blk_alloc ?_ _)); refine blk_far ?_ NB458_460.out _; (with_reducible repeat (first | refine blk_drewN ?_ _ | refine blk_drew ?_ | refine blk_alloc ?_ _)); refine blk_far ?_ NB458_460.out _; (with_reducible repeat (first | refine blk_drewN ?_ _ | refine blk_drew ?_ | refine blk_alloc ?_ _)); refine blk_far ?_ NB458_460.out _; (with_reducible repeat (first | refine blk_drewN ?_ _ | refine blk_drew ?_ | refine blk_alloc ?_ _)); exact BK458.out))⟩; have n6_ : Aside0 (w19.heap[gb460]? = some (.cells #[.string ((rd_T41 l0_0 x4_1).f0.f0), .string ((rd_T41 l0_0 x4_1).f0.f1), .bool ((rd_T41 l0_0 x4_1).f1), .string ((rd_T41 l0_0 x4_1).f2), .string ((rd_T41 l0_0 x4_1).f3.f0), .string ((rd_T41 l0_0 x4_1).f3.f1), .slice A459_6 ((rd_T41 l0_0 x4_1).f4).length c459_6] 41 (0, 0))) := ⟨(by rw [hw]; exact (by (with_reducible repeat (first | refine blk_drewN ?_ _ | refine blk_drew ?_ | refine blk_alloc ?_ _)); refine blk_put (cs := #[.string ((rd_T41 l0_0 x4_1).f0.f0), .string ((rd_T41 l0_0 x4_1).f0.f1), .bool ((rd_T41 l0_0 x4_1).f1), .string ((rd_T41 l0_0 x4_1).f2), .string ((rd_T41 l0_0 x4_1).f3.f0), .string ((rd_T41 l0_0 x4_1).f3.f1), .slice none 0 0]) ?_ 6 _ rfl; (with_reducible repeat (first | refine blk_drewN ?_ _ | refine blk_drew ?_ | refine blk_alloc ?_ _)); refine blk_put (cs := #[.string ((rd_T41 l0_0 x4_1).f0.f0), .string ((rd_T41 l0_0 x4_1).f0.f1), .bool ((rd_T41 l0_0 x4_1).f1), .string ((rd_T41 l0_0 x4_1).f2), .string ((rd_T41 l0_0 x4_1).f3.f0), .string (⟨#[]⟩ : ByteArray), .slice none 0 0]) ?_ 5 _ rfl; (with_reducible repeat (first | refine blk_drewN ?_ _ | refine blk_drew ?_ | refine blk_alloc ?_ _)); refine blk_put (cs := #[.string ((rd_T41 l0_0 x4_1).f0.f0), .string ((rd_T41 l0_0 x4_1).f0.f1), .bool ((rd_T41 l0_0 x4_1).f1), .string ((rd_T41 l0_0 x4_1).f2), .string (⟨#[]⟩ : ByteArray), .string (⟨#[]⟩ : ByteArray), .slice none 0 0]) ?_ 4 _ rfl; (with_reducible repeat (first | refine blk_drewN ?_ _ | refine blk_drew ?_ | refine blk_alloc ?_ _)); refine blk_put (cs := #[.string ((rd_T41 l0_0 x4_1).f0.f0), .string ((rd_T41 l0_0 x4_1).f0.f1), .bool ((rd_T41 l0_0 x4_1).f1), .string (⟨#[]⟩ : ByteArray), .string (⟨#[]⟩ : ByteArray), .string (⟨#[]⟩ : ByteArray), .slice none 0 0]) ?_ 3 _ rfl; (with_reducible repeat (first | refine blk_drewN ?_ _ | refine blk_drew ?_ | refine blk_alloc ?_ _)); refine blk_put (cs := #[.string ((rd_T41 l0_0 x4_1).f0.f0), .string ((rd_T41 l0_0 x4_1).f0.f1), .bool false, .string (⟨#[]⟩ : ByteArray), .string (⟨#[]⟩ : ByteArray), .string (⟨#[]⟩ : ByteArray), .slice none 0 0]) ?_ 2 _ rfl; (with_reducible repeat (first | refine blk_drewN ?_ _ | refine blk_drew ?_ | refine blk_alloc ?_ _)); refine blk_put (cs := #[.string ((rd_T41 l0_0 x4_1).f0.f0), .string (⟨#[]⟩ : ByteArray), .bool false, .string (⟨#[]⟩ : ByteArray), .string (⟨#[]⟩ : ByteArray), .string (⟨#[]⟩ : ByteArray), .slice none 0 0]) ?_ 1 _ rfl; (with_reducible repeat (first | refine blk_drewN ?_ _ | refine blk_drew ?_ | refine blk_alloc ?_ _)); refine blk_put (cs := #[.string (⟨#[]⟩ : ByteArray), .string (⟨#[]⟩ : ByteArray), .bool false, .string (⟨#[]⟩ : ByteArray), .string (⟨#[]⟩ : ByteArray), .string (⟨#[]⟩ : ByteArray), .slice none 0 0]) ?_ 0 _ rfl; (with_reducible repeat (first | refine blk_drewN ?_ _ | refine blk_drew ?_ | refine blk_alloc ?_ _)); exact BK460.out))⟩; have n7_ : Aside0 (Below w.heap.size w w19) := ⟨(by rw [hw]; exact (by repeat (first | (with_reducible first | exact HB.out | apply below_alloc | apply pw_below_drewN | apply below_drew1 | refine below_set ?_ GE456.out | refine below_set ?_ GE457.out | refine below_set ?_ GE458.out | refine below_set ?_ GE460.out) | exact HB.out)))⟩; clear hw; clear HO_457000; clear HO_459000; clear HL459_6; clear BK456; clear BK457; clear BK458; clear BK460; clear HB; have HO_457000 := n0_; have HO_459000 := n1_; have HL459_6 := n2_; have BK456 := n3_; have BK457 := n4_; have BK458 := n5_; have BK460 := n6_; have HB := n7_; clear n0_ n1_ n2_ n3_ n4_ n5_ n6_ n7_; have hnb20 := NB458_457.out; have hnc20 := NB457_458.out; have hcz21_0 : w19.cell? ⟨gb458, 0, none⟩ = some (u459000) := (blk_cell BK458.out 0).trans rfl; have hcz21_1 : w19.cell? ⟨gb458, 1, none⟩ = some (.slice none 0 0) := (blk_cell BK458.out 1).trans rfl; have hfz21_0 := blk_frozen BK458.out 0; have hfz21_1 := blk_frozen BK458.out 1; have hcz22_0 : w19.cell? ⟨gb460, 0, none⟩ = some (.string ((rd_T41 l0_0 x4_1).f0.f0)) := (blk_cell BK460.out 0).trans rfl; have hcz22_1 : w19.cell? ⟨gb460, 1, none⟩ = some (.string ((rd_T41 l0_0 x4_1).f0.f1)) := (blk_cell BK460.out 1).trans rfl; have hcz22_2 : w19.cell? ⟨gb460, 2, none⟩ = some (.bool ((rd_T41 l0_0 x4_1).f1)) := (blk_cell BK460.out 2).trans rfl; have hcz22_3 : w19.cell? ⟨gb460, 3, none⟩ = some (.string ((rd_T41 l0_0 x4_1).f2)) := (blk_cell BK460.out 3).trans rfl; have hcz22_4 : w19.cell? ⟨gb460, 4, none⟩ = some (.string ((rd_T41 l0_0 x4_1).f3.f0)) := (blk_cell BK460.out 4).trans rfl; have hcz22_5 : w19.cell? ⟨gb460, 5, none⟩ = some (.string ((rd_T41 l0_0 x4_1).f3.f1)) := (blk_cell BK460.out 5).trans rfl; have hcz22_6 : w19.cell? ⟨gb460, 6, none⟩ = some (.slice A459_6 ((rd_T41 l0_0 x4_1).f4).length c459_6) := (blk_cell BK460.out 6).trans rfl; have hfz22_0 := blk_frozen BK460.out 0; have hfz22_1 := blk_frozen BK460.out 1; have hfz22_2 := blk_frozen BK460.out 2; have hfz22_3 := blk_frozen BK460.out 3; have hfz22_4 := blk_frozen BK460.out 4; have hfz22_5 := blk_frozen BK460.out 5; have hfz22_6 := blk_frozen BK460.out 6) | ((with_reducible refine gate_builtin (b := .append) (xs := #[.tmp 21, .tmp 33]) rfl ?_); at_builtin; refine Kd.N_append k45 (w0 := w) w.heap.size rfl (.tmp 21) (.tmp 33) 32 45 (.agg #[(.string ⟨#[]⟩), (.string ⟨#[]⟩), (.bool false), (.string ⟨#[]⟩), (.string ⟨#[]⟩), (.string ⟨#[]⟩), (.slice none 0 0)]) 112 rfl Tryz.underlying32 info45 rfl (by decide) (by omega) u459000 x459000_1 (⟨(⟨(rd_T41 l0_0 x4_1).f0.f0, (rd_T41 l0_0 x4_1).f0.f1⟩ : S38), (rd_T41 l0_0 x4_1).f1, (rd_T41 l0_0 x4_1).f2, (⟨(rd_T41 l0_0 x4_1).f3.f0, (rd_T41 l0_0 x4_1).f3.f1⟩ : S38), (rd_T41 l0_0 x4_1).f4⟩ : S45) [.string ((rd_T41 l0_0 x4_1).f0.f0), .string ((rd_T41 l0_0 x4_1).f0.f1), .bool ((rd_T41 l0_0 x4_1).f1), .string ((rd_T41 l0_0 x4_1).f2), .string ((rd_T41 l0_0 x4_1).f3.f0), .string ((rd_T41 l0_0 x4_1).f3.f1), .slice A459_6 ((rd_T41 l0_0 x4_1).f4).length c459_6] (fun k_ => (P0_0_ k_ ∨ w.heap.size ≤ k_) ∧ k_ ≠ gb456 ∧ k_ ≠ gb457 ∧ k_ ≠ gb458 ∧ k_ ≠ gb460) (fun k_ => ((fun k_ => (P0_0_ k_ ∨ w.heap.size ≤ k_) ∧ k_ ≠ gb456 ∧ k_ ≠ gb457 ∧ k_ ≠ gb458 ∧ k_ ≠ gb460)) k_ ∧ some k_ ≠ (u459000 : Value).ownBlock) rfl rfl ?aP (fun _ hk => hk) ?aF ?aO ?aB ?aS ?aL ?_; (case aP => exact (k45_mkF _ _ (⟨(⟨(rd_T41 l0_0 x4_1).f0.f0, (rd_T41 l0_0 x4_1).f0.f1⟩ : S38), (rd_T41 l0_0 x4_1).f1, (rd_T41 l0_0 x4_1).f2, (⟨(rd_T41 l0_0 x4_1).f3.f0, (rd_T41 l0_0 x4_1).f3.f1⟩ : S38), (rd_T41 l0_0 x4_1).f4⟩ : S45) (Kd.V_reads' (Kd.V_mono (ok' := (fun k_ => ((fun k_ => (P0_0_ k_ ∨ w.heap.size ≤ k_) ∧ k_ ≠ gb456 ∧ k_ ≠ gb457 ∧ k_ ≠ gb458 ∧ k_ ≠ gb460)) k_ ∧ some k_ ≠ (u459000 : Value).ownBlock)) (HL459_6.out) (fun k_ hk => ⟨⟨hk.1, ⟨hk.2.2.1, ⟨hk.2.2.2.1, ⟨hk.2.2.2.2.1, hk.2.2.2.2.2⟩⟩⟩⟩, hk.2.1⟩))).2.1 (Kd.V_F (Kd.V_mono (ok' := (fun k_ => ((fun k_ => (P0_0_ k_ ∨ w.heap.size ≤ k_) ∧ k_ ≠ gb456 ∧ k_ ≠ gb457 ∧ k_ ≠ gb458 ∧ k_ ≠ gb460)) k_ ∧ some k_ ≠ (u459000 : Value).ownBlock)) (HL459_6.out) (fun k_ hk => ⟨⟨hk.1, ⟨hk.2.2.1, ⟨hk.2.2.2.1, ⟨hk.2.2.2.2.1, hk.2.2.2.2.2⟩⟩⟩⟩, hk.2.1⟩))))); (case aB => exact (by repeat (first | (with_reducible first | exact HB.out | apply below_alloc | apply pw_below_drewN | apply below_drew1 | refine below_set ?_ GE456.out | refine below_set ?_ GE457.out | refine below_set ?_ GE458.out | refine below_set ?_ GE460.out) | exact HB.out))); (case aF => exact (fun k_ hk => ⟨(.inr (Nat.le_trans (below_size (by repeat (first | (with_reducible first | exact HB.out | apply below_alloc | apply pw_below_drewN | apply below_drew1 | refine below_set ?_ GE456.out | refine below_set ?_ GE457.out | refine below_set ?_ GE458.out | refine below_set ?_ GE460.out) | exact HB.out))) hk)), Kd.freshB (g := gb456) (o := .cells #[.slice (some ad459) l0_0.length c0_0, .slice A0_1 l0_1.length c0_1] 25 (0, 0)) (by (with_reducible repeat (first | refine blk_drewN ?_ _ | refine blk_drew ?_ | refine blk_alloc ?_ _)); exact BK456.out) k_ hk, Kd.freshB (g := gb457) (o := .cells #[.slice none 0 0, .slice none 0 0] 35 (0, 0)) (by (with_reducible repeat (first | refine blk_drewN ?_ _ | refine blk_drew ?_ | refine blk_alloc ?_ _)); exact BK457.out) k_ hk, Kd.freshB (g := gb458) (o := .cells #[u459000, .slice none 0 0] 35 (0, 0)) (by (with_reducible repeat (first | refine blk_drewN ?_ _ | refine blk_drew ?_ | refine blk_alloc ?_ _)); exact BK458.out) k_ hk, Kd.freshB (g := gb460) (o := .cells #[.string ((rd_T41 l0_0 x4_1).f0.f0), .string ((rd_T41 l0_0 x4_1).f0.f1), .bool ((rd_T41 l0_0 x4_1).f1), .string ((rd_T41 l0_0 x4_1).f2), .string ((rd_T41 l0_0 x4_1).f3.f0), .string ((rd_T41 l0_0 x4_1).f3.f1), .slice A459_6 ((rd_T41 l0_0 x4_1).f4).length c459_6] 41 (0, 0)) (by (with_reducible repeat (first | refine blk_drewN ?_ _ | refine blk_drew ?_ | refine blk_alloc ?_ _)); exact BK460.out) k_ hk⟩)); (case aO => exact (by (with_reducible repeat (first | apply Kd.N_alloc | apply Kd.N_drewN | apply Kd.N_drew)); exact HO_459000.out)); (case aS => exact (below_size (by repeat (first | (with_reducible first | exact HB.out | apply below_alloc | apply pw_below_drewN | apply below_drew1 | refine below_set ?_ GE456.out | refine below_set ?_ GE457.out | refine below_set ?_ GE458.out | refine below_set ?_ GE460.out) | exact HB.out)))); (case aL => have := LMc10.out; omega); intro v462 w23 ho hb hg hat; rw [← Ny461.out] at ho; have n0_ := Aside0.mk (Kd.V_afterv (ok := (fun k_ => (P0_0_ k_ ∨ w.heap.size ≤ k_) ∧ k_ ≠ gb456 ∧ k_ ≠ gb457 ∧ k_ ≠ gb458 ∧ k_ ≠ gb460)) (by (with_reducible repeat (first | apply Kd.V_alloc | apply Kd.V_drewN | apply Kd.V_drew)); exact Kd.V_mono HO_457000.out (fun _ hk => ⟨⟨hk.1, ⟨hk.2.2.1, ⟨hk.2.2.2.1, ⟨hk.2.2.2.2.1, hk.2.2.2.2.2⟩⟩⟩⟩, hk.2.1⟩)) hg hat); have n1_ := Aside0.mk (blk_grown (g := gb456) (o := .cells #[.slice (some ad459) l0_0.length c0_0, .slice A0_1 l0_1.length c0_1] 25 (0, 0)) (by (with_reducible repeat (first | refine blk_drewN ?_ _ | refine blk_drew ?_ | refine blk_alloc ?_ _)); exact BK456.out) hg (Kd.N_ne HO_459000.out BK456.out (by decide))); have n2_ := Aside0.mk (blk_grown (g := gb457) (o := .cells #[.slice none 0 0, .slice none 0 0] 35 (0, 0)) (by (with_reducible repeat (first | refine blk_drewN ?_ _ | refine blk_drew ?_ | refine blk_alloc ?_ _)); exact BK457.out) hg (Kd.N_ne HO_459000.out BK457.out (by decide))); have n3_ := Aside0.mk (blk_grown (g := gb458) (o := .cells #[u459000, .slice none 0 0] 35 (0, 0)) (by (with_reducible repeat (first | refine blk_drewN ?_ _ | refine blk_drew ?_ | refine blk_alloc ?_ _)); exact BK458.out) hg (Kd.N_ne HO_459000.out BK458.out (by decide))); have n4_ := Aside0.mk (Kd.V_afterv (ok := (fun k_ => (P0_0_ k_ ∨ w.heap.size ≤ k_) ∧ k_ ≠ gb456 ∧ k_ ≠ gb457 ∧ k_ ≠ gb458 ∧ k_ ≠ gb460)) (by (with_reducible repeat (first | apply Kd.V_alloc | apply Kd.V_drewN | apply Kd.V_drew)); exact Kd.V_mono HL459_6.out (fun _ hk => ⟨⟨hk.1, ⟨hk.2.2.1, ⟨hk.2.2.2.1, ⟨hk.2.2.2.2.1, hk.2.2.2.2.2⟩⟩⟩⟩, hk.2.1⟩)) hg hat); have n5_ := Aside0.mk (blk_grown (g := gb460) (o := .cells #[.string ((rd_T41 l0_0 x4_1).f0.f0), .string ((rd_T41 l0_0 x4_1).f0.f1), .bool ((rd_T41 l0_0 x4_1).f1), .string ((rd_T41 l0_0 x4_1).f2), .string ((rd_T41 l0_0 x4_1).f3.f0), .string ((rd_T41 l0_0 x4_1).f3.f1), .slice A459_6 ((rd_T41 l0_0 x4_1).f4).length c459_6] 41 (0, 0)) (by (with_reducible repeat (first | refine blk_drewN ?_ _ | refine blk_drew ?_ | refine blk_alloc ?_ _)); exact BK460.out) hg (Kd.N_ne HO_459000.out BK460.out (by decide))); have n6_ := Aside0.mk (hb); have n7_ := Aside0.mk (ho); clear HO_457000; clear BK456; clear BK457; clear BK458; clear HL459_6; clear BK460; clear HB; clear HO_459000; have HO_457000 := n0_; have BK456 := n1_; have BK457 := n2_; have BK458 := n3_; have HL459_6 := n4_; have BK460 := n5_; have HB := n6_; have HO463 := n7_; clear n0_ n1_ n2_ n3_ n4_ n5_ n6_ n7_; clear ho hb hg hat; obtain ⟨Ao24, co24, eo24⟩ := Kd.N_slice HO463.out; subst eo24; have hcz25_0 : w23.cell? ⟨gb458, 0, none⟩ = some (u459000) := (blk_cell BK458.out 0).trans rfl; have hcz25_1 : w23.cell? ⟨gb458, 1, none⟩ = some (.slice none 0 0) := (blk_cell BK458.out 1).trans rfl; have hfz25_0 := blk_frozen BK458.out 0; have hfz25_1 := blk_frozen BK458.out 1))
      go_roundg k1
      case measure => have := HK1.out; omega
      case rel => exact ⟨(wrap64 (x4_1 + 1)), (y461), (.slice Ao24 y461.length co24), (by first | rfl | (simp; done) | (simp [*]; done) | (simp [bne_empty, *]; done)), H', ⟨by have := HK1.out; omega⟩, ⟨by (with_reducible repeat (first | apply Kd.V_alloc | apply Kd.V_drewN | apply Kd.V_drew)); exact Kd.V_mono (Kd.V_far (p := ⟨gb458, 0, none⟩) (Kd.V_mono HO_457000.out (fun k_ hk => (⟨hk, hk.1.2.2.2.1⟩ : _ ∧ k_ ≠ gb458))) (fun _ hk => hk.2) (.slice Ao24 y461.length co24)) (fun _ hk => ⟨hk.1.1.1, ⟨hk.1.2, ⟨hk.1.1.2.1, ⟨hk.1.1.2.2.1, hk.1.1.2.2.2.1⟩⟩⟩⟩)⟩, ⟨by (with_reducible repeat (first | apply Kd.N_alloc | apply Kd.N_drewN | apply Kd.N_drew)); exact Kd.N_mono (Kd.N_far (p := ⟨gb458, 0, none⟩) (Kd.N_mono HO463.out (fun k_ hk => (⟨hk, hk.2.2.2.1⟩ : _ ∧ k_ ≠ gb458))) (fun _ hk => hk.2) (.slice Ao24 y461.length co24)) (fun _ hk => ⟨hk.1.1, ⟨hk.1.2.1, ⟨hk.1.2.2.1, hk.1.2.2.2.1⟩⟩⟩)⟩, ⟨by (with_reducible repeat (first | refine blk_drewN ?_ _ | refine blk_drew ?_ | refine blk_alloc ?_ _)); refine blk_far ?_ NB456_458.out _; (with_reducible repeat (first | refine blk_drewN ?_ _ | refine blk_drew ?_ | refine blk_alloc ?_ _)); exact BK456.out⟩, ⟨by (with_reducible repeat (first | refine blk_drewN ?_ _ | refine blk_drew ?_ | refine blk_alloc ?_ _)); refine blk_far ?_ NB457_458.out _; (with_reducible repeat (first | refine blk_drewN ?_ _ | refine blk_drew ?_ | refine blk_alloc ?_ _)); exact BK457.out⟩, ⟨by (with_reducible repeat (first | refine blk_drewN ?_ _ | refine blk_drew ?_ | refine blk_alloc ?_ _)); refine blk_put (cs := #[u459000, .slice none 0 0]) ?_ 0 _ rfl; (with_reducible repeat (first | refine blk_drewN ?_ _ | refine blk_drew ?_ | refine blk_alloc ?_ _)); exact BK458.out⟩, ⟨by repeat (first | (with_reducible first | exact HB.out | apply below_alloc | apply pw_below_drewN | apply below_drew1 | refine below_set ?_ GE456.out | refine below_set ?_ GE457.out | refine below_set ?_ GE458.out | refine below_set ?_ GE460.out) | exact HB.out)⟩⟩
     ·rw [if_neg c10] at H
      exact absurd H (by simp)
    ·rw [if_neg c9] at H
     exact absurd H (by simp)
   ·rw [if_neg c8] at H
    have c8b0 : decide (x4_1 < (l0_0.length : Int)) = false := decide_eq_false c8
    clear c8
    have H' := Aside0.mk H
    clear H
    have hnb26 := NB456_457.out
    have hnc26 := NB457_456.out
    have hnb27 := NB456_458.out
    have hnc27 := NB458_456.out
    have hcz28_0 : wr.cell? ⟨gb456, 0, none⟩ = some (.slice A0_0 l0_0.length c0_0) := (blk_cell BK456.out 0).trans rfl
    have hcz28_1 : wr.cell? ⟨gb456, 1, none⟩ = some (.slice A0_1 l0_1.length c0_1) := (blk_cell BK456.out 1).trans rfl
    have hfz28_0 := blk_frozen BK456.out 0
    have hfz28_1 := blk_frozen BK456.out 1
    go_wp2
    go_loopg [6] k1 (fun kq v6 w' => ∃ (x6_2 : Int) (x459001_2 : List (S72)) (u459001 : Value), v6 = .int .i64 x6_2 ∧ Aside0 (graftbedlaw19_theirs.l1 kq x6_2 l0_0 l0_1 x459000_1 x459001_2 = some (r1, r2)) ∧ Aside0 (kq ≤ k1) ∧ Aside0 (Kd.V k41 41 w' w.heap.size (fun k_ => (P0_0_ k_ ∨ w.heap.size ≤ k_) ∧ some k_ ≠ (u459000 : Value).ownBlock ∧ some k_ ≠ (u459001 : Value).ownBlock ∧ k_ ≠ gb456 ∧ k_ ≠ gb457 ∧ k_ ≠ gb458) (.slice A0_0 l0_0.length c0_0) l0_0) ∧ Aside0 (Kd.N k45 45 w' w.heap.size (fun k_ => (P0_0_ k_ ∨ w.heap.size ≤ k_) ∧ some k_ ≠ (u459001 : Value).ownBlock ∧ k_ ≠ gb456 ∧ k_ ≠ gb457 ∧ k_ ≠ gb458) u459000 x459000_1) ∧ Aside0 (Kd.R k72 72 w' w.heap.size (fun k_ => (w.heap.size ≤ k_)) u459001 x459001_2) ∧ Aside0 (w'.heap[gb456]? = some (.cells #[(.slice A0_0 l0_0.length c0_0), (.slice A0_1 l0_1.length c0_1)] 25 (0, 0))) ∧ Aside0 (w'.heap[gb457]? = some (.cells #[(.slice none 0 0), (.slice none 0 0)] 35 (0, 0))) ∧ Aside0 (w'.heap[gb458]? = some (.cells #[u459000, u459001] 35 (0, 0))) ∧ Aside0 (Below w.heap.size w w'))
    case atStart => exact ⟨(0), (([] : List (S72))), (.slice none 0 0), (by first | rfl | (simp; done) | (simp [*]; done) | (simp [bne_empty, *]; done)), H', ⟨Nat.le_refl _⟩, ⟨by (with_reducible repeat (first | apply Kd.V_alloc | apply Kd.V_drewN | apply Kd.V_drew)); exact Kd.V_mono HO_457000.out (fun _ hk => ⟨hk.1, ⟨hk.2.1, ⟨(by simp [Value.ownBlock]), ⟨hk.2.2.1, ⟨hk.2.2.2.1, hk.2.2.2.2⟩⟩⟩⟩⟩)⟩, ⟨by (with_reducible repeat (first | apply Kd.N_alloc | apply Kd.N_drewN | apply Kd.N_drew)); exact Kd.N_mono HO_459000.out (fun _ hk => ⟨hk.1, ⟨(by simp [Value.ownBlock]), ⟨hk.2.1, ⟨hk.2.2.1, hk.2.2.2⟩⟩⟩⟩)⟩, ⟨by first | exact Kd.R_nil _ _ _ _ _ | exact Kd.N_nil _ _ _ _ _ | exact Kd.V_nil _ _ _ _ _ | exact Kd.Q_nil _ _ _ _ _ | exact Kd.S_nil _ _ _ _ _⟩, ⟨by (with_reducible repeat (first | refine blk_drewN ?_ _ | refine blk_drew ?_ | refine blk_alloc ?_ _)); exact BK456.out⟩, ⟨by (with_reducible repeat (first | refine blk_drewN ?_ _ | refine blk_drew ?_ | refine blk_alloc ?_ _)); exact BK457.out⟩, ⟨by (with_reducible repeat (first | refine blk_drewN ?_ _ | refine blk_drew ?_ | refine blk_alloc ?_ _)); exact BK458.out⟩, ⟨by repeat (first | (with_reducible first | exact HB.out | apply below_alloc | apply pw_below_drewN | apply below_drew1 | refine below_set ?_ GE456.out | refine below_set ?_ GE457.out | refine below_set ?_ GE458.out) | exact HB.out)⟩⟩
    case round =>
     clear H'
     try clear c1
     try clear c2
     try clear p2
     try clear c4
     try clear p4
     try clear q4
     try clear hx4
     try clear c5
     try clear c6
     try clear p6
     try clear c8
     try clear c8b0
     try clear c9
     try clear c9b0
     try clear c10
     try clear c11
     try clear c12
     try clear c15
     try clear c16
     try clear c17
     try clear c20
     try clear c26
     try clear c27
     try clear hcz13_0
     try clear hcz13_1
     try clear hcz18_0
     try clear hcz18_1
     try clear hcz18_2
     try clear hcz18_3
     try clear hcz18_4
     try clear hcz18_5
     try clear hcz18_6
     try clear hcz21_0
     try clear hcz21_1
     try clear hcz22_0
     try clear hcz22_1
     try clear hcz22_2
     try clear hcz22_3
     try clear hcz22_4
     try clear hcz22_5
     try clear hcz22_6
     try clear hcz25_0
     try clear hcz25_1
     try clear hcz28_0
     try clear hcz28_1
     try clear hcz7_0
     try clear hcz7_1
     try clear hfz13_0
     try clear hfz13_1
     try clear hfz18_0
     try clear hfz18_1
     try clear hfz18_2
     try clear hfz18_3
     try clear hfz18_4
     try clear hfz18_5
     try clear hfz18_6
     try clear hfz21_0
     try clear hfz21_1
     try clear hfz22_0
     try clear hfz22_1
     try clear hfz22_2
     try clear hfz22_3
     try clear hfz22_4
     try clear hfz22_5
     try clear hfz22_6
     try clear hfz25_0
     try clear hfz25_1
     try clear hfz28_0
     try clear hfz28_1
     try clear hfz7_0
     try clear hfz7_1
     try clear hx459_0
     try clear hx459_1
     try clear hx459_2
     try clear hx459_3
     try clear hx459_4
     try clear hx459_5
     try clear hx459_6
     try clear p2
     try clear p459
     try clear q459
     obtain ⟨x6_2, x459001_2, u459001, rfl, HA, HK2, HO_457000, HO_459000, HO_459001, BK456, BK457, BK458, HB⟩ := hrel
     cases gk with
     | zero => exact absurd HA.out (by simp [graftbedlaw19_theirs.l1])
     | succ k2 =>
      have H := HA.out
      clear HA
      simp only [graftbedlaw19_theirs.l1] at H
      by_cases c29 : x6_2 < (l0_1.length : Int)
      ·rw [if_pos c29] at H
       have c29b0 : decide (x6_2 < (l0_1.length : Int)) = true := decide_eq_true c29
       clear c29
       by_cases c30 : 0 ≤ x6_2
       ·rw [if_pos c30] at H
        have c30b0 : decide (0 ≤ x6_2) = true := decide_eq_true c30
        clear c30
        by_cases c31 : x459001_2.length < 2199023255552
        ·rw [if_pos c31] at H
         have LMc31 := Aside0.mk c31
         clear c31
         obtain ⟨y465, hy465⟩ : ∃ y_ : List (S72), y_ = (x459001_2 ++ [(⟨(⟨(rd_T59 l0_1 x6_2).f0.f0, (rd_T59 l0_1 x6_2).f0.f1⟩ : S38), (⟨(rd_T59 l0_1 x6_2).f1.f0, (rd_T59 l0_1 x6_2).f1.f1⟩ : S38)⟩ : S72)]) := ⟨_, rfl⟩
         replace H : (graftbedlaw19_theirs.l1 k2 (wrap64 (x6_2 + 1)) l0_0 l0_1 x459000_1 y465) = some (r1, r2) := by first | (rw [hy465]; with_reducible exact H) | (have H2_ := (Option.bind_some _ _).symm.trans H; rw [hy465]; with_reducible exact H2_) | (have H2_ := (Option.bind_some _ _).symm.trans H; with_reducible exact H2_) | with_reducible exact H | (rw [hy465]; exact H) | exact H
         have Ny465 := Aside0.mk hy465
         clear hy465
         have H' := Aside0.mk H
         clear H
         have hnb32 := NB456_457.out
         have hnc32 := NB457_456.out
         have hnb33 := NB456_458.out
         have hnc33 := NB458_456.out
         have hcz34_0 : wr.cell? ⟨gb456, 0, none⟩ = some (.slice A0_0 l0_0.length c0_0) := (blk_cell BK456.out 0).trans rfl
         have hcz34_1 : wr.cell? ⟨gb456, 1, none⟩ = some (.slice A0_1 l0_1.length c0_1) := (blk_cell BK456.out 1).trans rfl
         have hfz34_0 := blk_frozen BK456.out 0
         have hfz34_1 := blk_frozen BK456.out 1
         try go_wp2
         have n0_ := Aside0.mk (Kd.V_drew HO_457000.out)
         have n1_ := Aside0.mk (Kd.N_drew HO_459000.out)
         have n2_ := Aside0.mk (Kd.R_drew HO_459001.out)
         have n3_ := Aside0.mk (blk_drew BK456.out)
         have n4_ := Aside0.mk (blk_drew BK457.out)
         have n5_ := Aside0.mk (blk_drew BK458.out)
         have n6_ := Aside0.mk (below_drew1 HB.out)
         clear HO_457000
         clear HO_459000
         clear HO_459001
         clear BK456
         clear BK457
         clear BK458
         clear HB
         have HO_457000 := n0_
         have HO_459000 := n1_
         have HO_459001 := n2_
         have BK456 := n3_
         have BK457 := n4_
         have BK458 := n5_
         have HB := n6_
         clear n0_ n1_ n2_ n3_ n4_ n5_ n6_
         have p464 : 0 ≤ (x6_2 : Int) := of_decide_eq_true (by first | (with_reducible assumption) | assumption)
         have q464 : x6_2 < (l0_1.length : Int) := of_decide_eq_true (by first | (with_reducible assumption) | assumption)
         obtain ⟨ad464, e464, hx464_0, hx464_1, hx464_2, hx464_3⟩ := at_T59 HR0_1.out x6_2 p464 q464
         have hw464_3 := hx464_3
         have hw464_2 := hx464_2
         have hw464_1 := hx464_1
         have hw464_0 := hx464_0
         cases e464
         replace hx464_0 := (HB.out.cell (World.block_lt_of_cell? w _ hx464_0)).trans hx464_0
         replace hx464_1 := (HB.out.cell (World.block_lt_of_cell? w _ hx464_1)).trans hx464_1
         replace hx464_2 := (HB.out.cell (World.block_lt_of_cell? w _ hx464_2)).trans hx464_2
         replace hx464_3 := (HB.out.cell (World.block_lt_of_cell? w _ hx464_3)).trans hx464_3
         replace p464 := eq_true p464
         replace q464 := eq_true q464
         refine start_ (n := 11) (S := fun w' => w'.cell? ⟨gb458, 0, none⟩ = some (u459000) ∧ w'.cell? ⟨gb458, 1, none⟩ = some (u459001) ∧ w'.cell? ⟨gb456, 0, none⟩ = some (.slice A0_0 l0_0.length c0_0) ∧ w'.cell? ⟨gb456, 1, none⟩ = some (.slice (some ad464) l0_1.length c0_1) ∧ w'.cell? (ad464.add ((x6_2).toNat * 4)) = some (.string ((rd_T59 l0_1 x6_2).f0.f0)) ∧ w'.cell? ⟨(ad464.add ((x6_2).toNat * 4)).block, (ad464.add ((x6_2).toNat * 4)).off + 1, none⟩ = some (.string ((rd_T59 l0_1 x6_2).f0.f1)) ∧ w'.cell? ⟨(ad464.add ((x6_2).toNat * 4)).block, (ad464.add ((x6_2).toNat * 4)).off + 2, none⟩ = some (.string ((rd_T59 l0_1 x6_2).f1.f0)) ∧ w'.cell? ⟨(ad464.add ((x6_2).toNat * 4)).block, (ad464.add ((x6_2).toNat * 4)).off + 3, none⟩ = some (.string ((rd_T59 l0_1 x6_2).f1.f1))) (ds := [10]) #[false, false, false, false, false, false, false, false, false, false, false] (by kernel_rfl) rfl rfl ⟨(blk_cell BK458.out 0).trans rfl, (blk_cell BK458.out 1).trans rfl, (blk_cell BK456.out 0).trans rfl, (blk_cell BK456.out 1).trans rfl, ((HB.out.cell (World.block_lt_of_cell? w _ hw464_0)).trans hw464_0), ((HB.out.cell (World.block_lt_of_cell? w _ hw464_1)).trans hw464_1), ((HB.out.cell (World.block_lt_of_cell? w _ hw464_2)).trans hw464_2), ((HB.out.cell (World.block_lt_of_cell? w _ hw464_3)).trans hw464_3)⟩ (fun hHeld => ?_); refine with_tabW graftbedlaw19_theirs.tab10 graftbedlaw19_theirs.bits10 (fun HT_ HW_ => ?_)
         generalize wr.drew = w35 at HO_457000 HO_459000 HO_459001 BK456 BK457 BK458 HB hx464_0 hx464_1 hx464_2 hx464_3 hHeld ⊢
         refine pure_ (i := 0) (N := some 43) (v := ?_) (a' := ?_) #[true, false, false, false, false, false, false, false, false, false, false] rfl rfl (any_of HT_.out (by kernel_rfl)) (fun _ _ _ h => h) (Or.inl ⟨by rfl, ?_⟩) ?_ ?_
         rotate_left
         ·intro w'
          go_simp
          with_reducible rfl
         rotate_left
         ·simp only [Act.put, List.setIfInBounds_toArray, List.set_cons_zero, List.set_cons_succ, i64_w, i32_w]
          rfl
         refine pure_ (i := 2) (N := some 45) (v := ?_) (a' := ?_) #[true, false, true, false, false, false, false, false, false, false, false] rfl rfl (any_of HT_.out (by kernel_rfl)) (fun _ _ _ h => h) (Or.inl ⟨by rfl, ?_⟩) ?_ ?_
         rotate_left
         ·intro w'
          go_simp
          with_reducible rfl
         rotate_left
         ·simp only [Act.put, List.setIfInBounds_toArray, List.set_cons_zero, List.set_cons_succ, i64_w, i32_w]
          rfl
         refine pure_ (i := 4) (N := some 47) (v := ?_) (a' := ?_) #[true, false, true, false, true, false, false, false, false, false, false] rfl rfl (any_of HT_.out (by kernel_rfl)) (fun _ _ _ h => h) (Or.inl ⟨by rfl, ?_⟩) ?_ ?_
         rotate_left
         ·intro w'
          go_simp
          with_reducible rfl
         rotate_left
         ·simp only [Act.put, List.setIfInBounds_toArray, List.set_cons_zero, List.set_cons_succ, i64_w, i32_w]
          rfl
         refine take_ (i := 1) (N := some 44) (v := ?_) (a' := ?_) #[true, true, true, false, true, false, false, false, false, false, false] rfl rfl (take_ofW HT_.out HW_.out (by kernel_rfl)) (fun _ _ _ h => h) (Or.inl ⟨by rfl, ?_⟩) hHeld ?_ ?_
         rotate_left
         ·rintro w' ⟨s0, s1, s2, s3, s4, s5, s6, s7⟩
          go_simp
          with_reducible rfl
         rotate_left
         ·simp only [Act.put, List.setIfInBounds_toArray, List.set_cons_zero, List.set_cons_succ, i64_w, i32_w]
          rfl
         refine take_ (i := 3) (N := some 46) (v := ?_) (a' := ?_) #[true, true, true, true, true, false, false, false, false, false, false] rfl rfl (take_ofW HT_.out HW_.out (by kernel_rfl)) (fun _ _ _ h => h) (Or.inl ⟨by rfl, ?_⟩) hHeld ?_ ?_
         rotate_left
         ·rintro w' ⟨s0, s1, s2, s3, s4, s5, s6, s7⟩
          go_simp
          with_reducible rfl
         rotate_left
         ·simp only [Act.put, List.setIfInBounds_toArray, List.set_cons_zero, List.set_cons_succ, i64_w, i32_w]
          rfl
         refine pure_ (i := 5) (N := some 48) (v := ?_) (a' := ?_) #[true, true, true, true, true, true, false, false, false, false, false] rfl rfl (any_of HT_.out (by kernel_rfl)) (fun _ _ _ h => h) (Or.inl ⟨by rfl, ?_⟩) ?_ ?_
         rotate_left
         ·intro w'
          go_simp
          with_reducible rfl
         rotate_left
         ·simp only [Act.put, List.setIfInBounds_toArray, List.set_cons_zero, List.set_cons_succ, i64_w, i32_w]
          rfl
         refine take_ (i := 6) (N := some 49) (v := ?_) (a' := ?_) #[true, true, true, true, true, true, true, false, false, false, false] rfl rfl (take_ofW HT_.out HW_.out (by kernel_rfl)) (fun _ _ _ h => h) (Or.inl ⟨by rfl, ?_⟩) hHeld ?_ ?_
         rotate_left
         ·rintro w' ⟨s0, s1, s2, s3, s4, s5, s6, s7⟩
          go_simp
          with_reducible rfl
         rotate_left
         ·simp only [Act.put, List.setIfInBounds_toArray, List.set_cons_zero, List.set_cons_succ, i64_w, i32_w]
          rfl
         refine one_ (i := 7) (N := some 50) #[true, true, true, true, true, true, true, true, false, false, false] rfl rfl (one_of HT_.out (by kernel_rfl)) (by decide) (fun K hK => ?_)
         refine value_ (w1 := ?_) (v := ?_) (by rfl) rfl ?_ ?_
         rotate_left 2
         ·go_simp
          constructor
          ·rfl
          ·rfl
         refine hK.out _ _ ⟨(blk_cell (blk_alloc BK458.out _) 0).trans rfl, (blk_cell (blk_alloc BK458.out _) 1).trans rfl, (blk_cell (blk_alloc BK456.out _) 0).trans rfl, (blk_cell (blk_alloc BK456.out _) 1).trans rfl, (World.cell?_alloc_lt _ _ _ (World.block_lt_of_cell? _ _ (((HB.out.cell (World.block_lt_of_cell? w _ hw464_0)).trans hw464_0)))).trans (((HB.out.cell (World.block_lt_of_cell? w _ hw464_0)).trans hw464_0)), (World.cell?_alloc_lt _ _ _ (World.block_lt_of_cell? _ _ (((HB.out.cell (World.block_lt_of_cell? w _ hw464_1)).trans hw464_1)))).trans (((HB.out.cell (World.block_lt_of_cell? w _ hw464_1)).trans hw464_1)), (World.cell?_alloc_lt _ _ _ (World.block_lt_of_cell? _ _ (((HB.out.cell (World.block_lt_of_cell? w _ hw464_2)).trans hw464_2)))).trans (((HB.out.cell (World.block_lt_of_cell? w _ hw464_2)).trans hw464_2)), (World.cell?_alloc_lt _ _ _ (World.block_lt_of_cell? _ _ (((HB.out.cell (World.block_lt_of_cell? w _ hw464_3)).trans hw464_3)))).trans (((HB.out.cell (World.block_lt_of_cell? w _ hw464_3)).trans hw464_3))⟩ (fun hHeld => ?_)
         clear hK K
         refine norm_ (a' := ?_) ?_ ?_
         rotate_left
         ·show Act.put _ (some 50) _ = _
          simp only [Act.put, List.setIfInBounds_toArray, List.set_cons_zero, List.set_cons_succ, i64_w, i32_w]
          rfl
         refine one_ (i := 8) (N := some 51) #[true, true, true, true, true, true, true, true, true, false, false] rfl rfl (one_of HT_.out (by kernel_rfl)) (by decide) (fun K hK => ?_)
         refine Kd.R_append_step k72 (w0 := w) w.heap.size (by rfl) (.tmp 44) (.tmp 50) 33 72 (.agg #[(.string ⟨#[]⟩), (.string ⟨#[]⟩), (.string ⟨#[]⟩), (.string ⟨#[]⟩)]) 64 rfl Tryz.underlying33 info72 rfl (by decide) (by omega) u459001 x459001_2 (⟨(⟨(rd_T59 l0_1 x6_2).f0.f0, (rd_T59 l0_1 x6_2).f0.f1⟩ : S38), (⟨(rd_T59 l0_1 x6_2).f1.f0, (rd_T59 l0_1 x6_2).f1.f1⟩ : S38)⟩ : S72) [.string ((rd_T59 l0_1 x6_2).f0.f0), .string ((rd_T59 l0_1 x6_2).f0.f1), .string ((rd_T59 l0_1 x6_2).f1.f0), .string ((rd_T59 l0_1 x6_2).f1.f1)] (fun k_ => (w.heap.size ≤ k_)) (fun _ => False) rfl rfl ?aP (fun _ hk => hk.elim) ?aF ?aO ?aB ?aS ?aL ?_
         (case aP => exact k72_mkM _ _ _ (⟨(⟨(rd_T59 l0_1 x6_2).f0.f0, (rd_T59 l0_1 x6_2).f0.f1⟩ : S38), (⟨(rd_T59 l0_1 x6_2).f1.f0, (rd_T59 l0_1 x6_2).f1.f1⟩ : S38)⟩ : S72))
         (case aB => exact (by repeat (first | (with_reducible first | exact HB.out | apply below_alloc | apply pw_below_drewN | apply below_drew1 | refine below_set ?_ GE456.out | refine below_set ?_ GE457.out | refine below_set ?_ GE458.out) | exact HB.out)))
         (case aF => exact (fun k_ hk => (Nat.le_trans (below_size (by repeat (first | (with_reducible first | exact HB.out | apply below_alloc | apply pw_below_drewN | apply below_drew1 | refine below_set ?_ GE456.out | refine below_set ?_ GE457.out | refine below_set ?_ GE458.out) | exact HB.out))) hk)))
         (case aO => exact (by (with_reducible repeat (first | apply Kd.R_alloc | apply Kd.R_drewN | apply Kd.R_drew)); exact HO_459001.out))
         (case aS => exact (below_size (by repeat (first | (with_reducible first | exact HB.out | apply below_alloc | apply pw_below_drewN | apply below_drew1 | refine below_set ?_ GE456.out | refine below_set ?_ GE457.out | refine below_set ?_ GE458.out) | exact HB.out))))
         (case aL => have := LMc31.out; omega)
         intro v466 w36 ho hb hg hat
         rw [← Ny465.out] at ho
         have n0_ := Aside0.mk (Kd.V_afterv (ok := (fun k_ => (P0_0_ k_ ∨ w.heap.size ≤ k_) ∧ some k_ ≠ (u459000 : Value).ownBlock ∧ k_ ≠ gb456 ∧ k_ ≠ gb457 ∧ k_ ≠ gb458)) (by (with_reducible repeat (first | apply Kd.V_alloc | apply Kd.V_drewN | apply Kd.V_drew)); exact Kd.V_mono HO_457000.out (fun _ hk => ⟨⟨hk.1, ⟨hk.2.1, ⟨hk.2.2.2.1, ⟨hk.2.2.2.2.1, hk.2.2.2.2.2⟩⟩⟩⟩, hk.2.2.1⟩)) hg hat)
         have n1_ := Aside0.mk (Kd.N_afterv (ok := (fun k_ => (P0_0_ k_ ∨ w.heap.size ≤ k_) ∧ k_ ≠ gb456 ∧ k_ ≠ gb457 ∧ k_ ≠ gb458)) (by (with_reducible repeat (first | apply Kd.N_alloc | apply Kd.N_drewN | apply Kd.N_drew)); exact Kd.N_mono HO_459000.out (fun _ hk => ⟨⟨hk.1, ⟨hk.2.2.1, ⟨hk.2.2.2.1, hk.2.2.2.2⟩⟩⟩, hk.2.1⟩)) hg hat)
         have n2_ := Aside0.mk (blk_grown (g := gb456) (o := .cells #[.slice A0_0 l0_0.length c0_0, .slice (some ad464) l0_1.length c0_1] 25 (0, 0)) (by (with_reducible repeat (first | refine blk_drewN ?_ _ | refine blk_drew ?_ | refine blk_alloc ?_ _)); exact BK456.out) hg (Kd.R_ne HO_459001.out BK456.out (by decide)))
         have n3_ := Aside0.mk (blk_grown (g := gb457) (o := .cells #[.slice none 0 0, .slice none 0 0] 35 (0, 0)) (by (with_reducible repeat (first | refine blk_drewN ?_ _ | refine blk_drew ?_ | refine blk_alloc ?_ _)); exact BK457.out) hg (Kd.R_ne HO_459001.out BK457.out (by decide)))
         have n4_ := Aside0.mk (blk_grown (g := gb458) (o := .cells #[u459000, u459001] 35 (0, 0)) (by (with_reducible repeat (first | refine blk_drewN ?_ _ | refine blk_drew ?_ | refine blk_alloc ?_ _)); exact BK458.out) hg (Kd.R_ne HO_459001.out BK458.out (by decide)))
         have n5_ := Aside0.mk (hb)
         have n6_ := Aside0.mk (ho)
         clear HO_457000
         clear HO_459000
         clear BK456
         clear BK457
         clear BK458
         clear HB
         clear HO_459001
         have HO_457000 := n0_
         have HO_459000 := n1_
         have BK456 := n2_
         have BK457 := n3_
         have BK458 := n4_
         have HB := n5_
         have HO467 := n6_
         clear n0_ n1_ n2_ n3_ n4_ n5_ n6_
         clear ho hb hg hat
         obtain ⟨Ao37, co37, eo37⟩ := Kd.R_slice HO467.out
         (first | subst eo37 | (injection eo37 with f1_ f2_ f3_; have f4_ := f1_.symm; have f5_ := f3_.symm; clear f1_ f2_ f3_; subst f4_; subst f5_))
         refine hK.out _ _ ⟨(blk_cell BK458.out 0).trans rfl, (blk_cell BK458.out 1).trans rfl, (blk_cell BK456.out 0).trans rfl, (blk_cell BK456.out 1).trans rfl, ((HB.out.cell (World.block_lt_of_cell? w _ hw464_0)).trans hw464_0), ((HB.out.cell (World.block_lt_of_cell? w _ hw464_1)).trans hw464_1), ((HB.out.cell (World.block_lt_of_cell? w _ hw464_2)).trans hw464_2), ((HB.out.cell (World.block_lt_of_cell? w _ hw464_3)).trans hw464_3)⟩ (fun hHeld => ?_)
         clear hK K
         refine norm_ (a' := ?_) ?_ ?_
         rotate_left
         ·show Act.put _ (some 51) _ = _
          simp only [Act.put, List.setIfInBounds_toArray, List.set_cons_zero, List.set_cons_succ, i64_w, i32_w]
          rfl
         refine pure_ (i := 9) (N := some 52) (v := ?_) (a' := ?_) #[true, true, true, true, true, true, true, true, true, true, false] rfl rfl (any_of HT_.out (by kernel_rfl)) (fun _ _ _ h => h) (Or.inl ⟨by rfl, ?_⟩) ?_ ?_
         rotate_left
         ·intro w'
          go_simp
          with_reducible rfl
         rotate_left
         ·simp only [Act.put, List.setIfInBounds_toArray, List.set_cons_zero, List.set_cons_succ, i64_w, i32_w]
          rfl
         refine last_ (i := 10) (N := none) #[true, true, true, true, true, true, true, true, true, true, true] rfl rfl (one_of HT_.out (by kernel_rfl)) (by decide) (fun K hK => ?_)
         have hs38 : w36.cell? ⟨gb458, 1, none⟩ = some (u459001) := (blk_cell BK458.out 1).trans rfl
         have hfs38 := blk_frozen BK458.out 1
         have hns38_0 := NB456_458.out
         have hns38_1 := NB457_458.out
         have hms38_0 := NB458_456.out
         have hms38_1 := NB458_457.out
         refine skip_ (w1 := ?_) (by rfl) rfl ?_ ?_
         rotate_left
         ·go_simp
          rfl
         refine hK.out _ _ ?_
         clear hK K
         refine done_ (done_of HT_.out (by kernel_rfl)) ?_
         try go_wp2
         go_roundg k2
         case measure => have := HK1.out; have := HK2.out; omega
         case rel => exact ⟨(wrap64 (x6_2 + 1)), (y465), (.slice Ao37 y465.length co37), (by first | rfl | (simp; done) | (simp [*]; done) | (simp [bne_empty, *]; done)), H', ⟨by have := HK1.out; have := HK2.out; omega⟩, ⟨by (with_reducible repeat (first | apply Kd.V_alloc | apply Kd.V_drewN | apply Kd.V_drew)); exact Kd.V_mono (Kd.V_far (p := ⟨gb458, 1, none⟩) (Kd.V_mono HO_457000.out (fun k_ hk => (⟨hk, hk.1.2.2.2.2⟩ : _ ∧ k_ ≠ gb458))) (fun _ hk => hk.2) (.slice Ao37 y465.length co37)) (fun _ hk => ⟨hk.1.1.1, ⟨hk.1.1.2.1, ⟨hk.1.2, ⟨hk.1.1.2.2.1, ⟨hk.1.1.2.2.2.1, hk.1.1.2.2.2.2⟩⟩⟩⟩⟩)⟩, ⟨by (with_reducible repeat (first | apply Kd.N_alloc | apply Kd.N_drewN | apply Kd.N_drew)); exact Kd.N_mono (Kd.N_far (p := ⟨gb458, 1, none⟩) (Kd.N_mono HO_459000.out (fun k_ hk => (⟨hk, hk.1.2.2.2⟩ : _ ∧ k_ ≠ gb458))) (fun _ hk => hk.2) (.slice Ao37 y465.length co37)) (fun _ hk => ⟨hk.1.1.1, ⟨hk.1.2, ⟨hk.1.1.2.1, ⟨hk.1.1.2.2.1, hk.1.1.2.2.2⟩⟩⟩⟩)⟩, ⟨by (with_reducible repeat (first | apply Kd.R_alloc | apply Kd.R_drewN | apply Kd.R_drew)); exact Kd.R_mono (Kd.R_far (p := ⟨gb458, 1, none⟩) (Kd.R_types HO467.out BK458.out (by decide)) (fun _ hk => hk.2) (.slice Ao37 y465.length co37)) (fun _ hk => hk.1)⟩, ⟨by (with_reducible repeat (first | refine blk_drewN ?_ _ | refine blk_drew ?_ | refine blk_alloc ?_ _)); refine blk_far ?_ NB456_458.out _; (with_reducible repeat (first | refine blk_drewN ?_ _ | refine blk_drew ?_ | refine blk_alloc ?_ _)); exact BK456.out⟩, ⟨by (with_reducible repeat (first | refine blk_drewN ?_ _ | refine blk_drew ?_ | refine blk_alloc ?_ _)); refine blk_far ?_ NB457_458.out _; (with_reducible repeat (first | refine blk_drewN ?_ _ | refine blk_drew ?_ | refine blk_alloc ?_ _)); exact BK457.out⟩, ⟨by (with_reducible repeat (first | refine blk_drewN ?_ _ | refine blk_drew ?_ | refine blk_alloc ?_ _)); refine blk_put (cs := #[u459000, u459001]) ?_ 1 _ rfl; (with_reducible repeat (first | refine blk_drewN ?_ _ | refine blk_drew ?_ | refine blk_alloc ?_ _)); exact BK458.out⟩, ⟨by repeat (first | (with_reducible first | exact HB.out | apply below_alloc | apply pw_below_drewN | apply below_drew1 | refine below_set ?_ GE456.out | refine below_set ?_ GE457.out | refine below_set ?_ GE458.out) | exact HB.out)⟩⟩
        ·rw [if_neg c31] at H
         exact absurd H (by simp)
       ·rw [if_neg c30] at H
        exact absurd H (by simp)
      ·rw [if_neg c29] at H
       have c29b0 : decide (x6_2 < (l0_1.length : Int)) = false := decide_eq_false c29
       clear c29
       simp only [Option.some.injEq, Prod.mk.injEq] at H
       obtain ⟨rfl, rfl⟩ := H
       have hnb39 := NB456_457.out
       have hnc39 := NB457_456.out
       have hnb40 := NB456_458.out
       have hnc40 := NB458_456.out
       have hcz41_0 : wr.cell? ⟨gb456, 0, none⟩ = some (.slice A0_0 l0_0.length c0_0) := (blk_cell BK456.out 0).trans rfl
       have hcz41_1 : wr.cell? ⟨gb456, 1, none⟩ = some (.slice A0_1 l0_1.length c0_1) := (blk_cell BK456.out 1).trans rfl
       have hfz41_0 := blk_frozen BK456.out 0
       have hfz41_1 := blk_frozen BK456.out 1
       have hnb42 := NB458_457.out
       have hnc42 := NB457_458.out
       have hcz43_0 : wr.cell? ⟨gb458, 0, none⟩ = some (u459000) := (blk_cell BK458.out 0).trans rfl
       have hcz43_1 : wr.cell? ⟨gb458, 1, none⟩ = some (u459001) := (blk_cell BK458.out 1).trans rfl
       have hfz43_0 := blk_frozen BK458.out 0
       have hfz43_1 := blk_frozen BK458.out 1
       obtain ⟨Ao44, co44, eo44⟩ := Kd.N_slice HO_459000.out
       subst eo44
       have hcz45_0 : wr.cell? ⟨gb457, 0, none⟩ = some (.slice none 0 0) := (blk_cell BK457.out 0).trans rfl
       have hcz45_1 : wr.cell? ⟨gb457, 1, none⟩ = some (.slice none 0 0) := (blk_cell BK457.out 1).trans rfl
       have hfz45_0 := blk_frozen BK457.out 0
       have hfz45_1 := blk_frozen BK457.out 1
       obtain ⟨Ao46, co46, eo46⟩ := Kd.R_slice HO_459001.out
       subst eo46
       go_wp2
       refine bodyPost_ret (results_cell_row rfl _ _ gb457 35 #[.slice Ao44 x459000_1.length co44, .slice Ao46 x459001_2.length co46] (0, 0) _ rfl (by (with_reducible repeat (first | refine blk_drewN ?_ _ | refine blk_drew ?_ | refine blk_alloc ?_ _)); refine blk_put (cs := #[.slice Ao44 x459000_1.length co44, .slice none 0 0]) ?_ 1 _ rfl; (with_reducible repeat (first | refine blk_drewN ?_ _ | refine blk_drew ?_ | refine blk_alloc ?_ _)); refine blk_put (cs := #[.slice none 0 0, .slice none 0 0]) ?_ 0 _ rfl; (with_reducible repeat (first | refine blk_drewN ?_ _ | refine blk_drew ?_ | refine blk_alloc ?_ _)); exact BK457.out) Tryz.underlying35 rfl (by kernel_rfl)) rfl ?_
       exact ⟨_, _, by first | rfl | (simp [errW_none, errW_some] <;> rfl) | (simp [*, errW_none, errW_some] <;> rfl) | (exfalso; simp_all; done) | (exfalso; omega), by (with_reducible repeat (first | apply Kd.N_alloc | apply Kd.N_drewN | apply Kd.N_drew)); exact Kd.N_mono (Kd.N_far (p := ⟨gb457, 1, none⟩) (Kd.N_far (p := ⟨gb457, 0, none⟩) (Kd.N_mono HO_459000.out (fun k_ hk => (⟨hk, hk.2.2.2.1⟩ : _ ∧ k_ ≠ gb457))) (fun _ hk => hk.2) (.slice Ao44 x459000_1.length co44)) (fun _ hk => hk.2) (.slice Ao46 x459001_2.length co46)) (fun _ hk => ⟨hk.1.1, hk.1.2.1⟩), by (with_reducible repeat (first | apply Kd.R_alloc | apply Kd.R_drewN | apply Kd.R_drew)); exact Kd.R_mono (Kd.R_far (p := ⟨gb457, 1, none⟩) (Kd.R_far (p := ⟨gb457, 0, none⟩) (Kd.R_types HO_459001.out BK457.out (by decide)) (fun _ hk => hk.2) (.slice Ao44 x459000_1.length co44)) (fun _ hk => hk.2) (.slice Ao46 x459001_2.length co46)) (fun _ hk => hk.1), by repeat (first | (with_reducible first | exact HB.out | apply below_alloc | apply pw_below_drewN | apply below_drew1 | refine below_set ?_ GE456.out | refine below_set ?_ GE457.out | refine below_set ?_ GE458.out) | exact HB.out)⟩
end Go.Proofs.YtcdcpcdfcmokkaaGreatDoor.P
