/- Walks of the program's functions, and words that they use -/
import Derived.Test.YtcdcpcdfcmokkaaGreatDoorO05
import Derived.Test.YtcdcpcdfcmokkaaGreatDoorO19
import Derived.Test.YtcdcpcdfcmokkaaGreatDoorO12
import Derived.Test.YtcdcpcdfcmokkaaGreatDoorO13
set_option linter.unusedVariables false
set_option linter.unusedSimpArgs false
section
namespace Go.Proofs.YtcdcpcdfcmokkaaGreatDoor.P
open Go.RowKit Go.Proofs.YtcdcpcdfcmokkaaGreatDoorW.PrintWords Go.Proofs.YtcdcpcdfcmokkaaGreatDoorW.PrintLast Go.Proofs.YtcdcpcdfcmokkaaGreatDoorW.PrintMore
open Go.Proofs.YtcdcpcdfcmokkaaGreatDoor (str_gtr str_leq str_geq bne_empty)
attribute [local go_sem] max2_int min2_int max_two min_two max_three min_three max_four min_four str_gtr str_leq str_geq   -- for this text's walks alone
set_option linter.unusedVariables false
set_option linter.unusedSimpArgs false
def graftbedref03_Canonical.f (k : Nat) (a0 : ByteArray) : Option (ByteArray) := (graftbedref03_Parse.f a0).bind fun bt329 => (if bt329.2.2.2.2.2 = 0 then (if bt329.2.2.2.2.1.toList = ([105, 110, 99, 111, 109, 112, 97, 116, 105, 98, 108, 101] : List UInt8) then (some a0) else ((graftbedref03_find.f k a0 43).bind fun t336 => (if 0 ≤ t336 then (if t336 ≤ (a0.size : Int) then (some (a0.extract 0 (t336 : Int).toNat)) else (none)) else (none)))) else (some (⟨#[]⟩ : ByteArray)))
set_option maxHeartbeats 8000000 in
set_option maxRecDepth 100000 in
theorem graftbedref03_Canonical.calls (k : Nat) (a0 : ByteArray) (r : ByteArray) (w : World) (h : graftbedref03_Canonical.f k a0 = some r) :
  Calls Tryz.prog 97 #[.string a0] w fun e w' => e = .returned (.string r) ∧ Below w.heap.size w w' := by
 have hu120 := Tryz.underlying120
 have HB := Aside0.mk (Below.refl w.heap.size w)
 have H : ((graftbedref03_Parse.f a0).bind fun bt329 => (if bt329.2.2.2.2.2 = 0 then (if bt329.2.2.2.2.1.toList = ([105, 110, 99, 111, 109, 112, 97, 116, 105, 98, 108, 101] : List UInt8) then (some a0) else ((graftbedref03_find.f k a0 43).bind fun t336 => (if 0 ≤ t336 then (if t336 ≤ (a0.size : Int) then (some (a0.extract 0 (t336 : Int).toNat)) else (none)) else (none)))) else (some (⟨#[]⟩ : ByteArray)))) = some r := h
 clear h
 replace H := Option.bind_eq_some_iff.mp H
 obtain ⟨⟨t329, t330, t331, t332, t333, t334⟩, A20, H⟩ := H
 replace H : (if t334 = 0 then (if t333.toList = ([105, 110, 99, 111, 109, 112, 97, 116, 105, 98, 108, 101] : List UInt8) then (some a0) else ((graftbedref03_find.f k a0 43).bind fun t336 => (if 0 ≤ t336 then (if t336 ≤ (a0.size : Int) then (some (a0.extract 0 (t336 : Int).toNat)) else (none)) else (none)))) else (some (⟨#[]⟩ : ByteArray))) = some r := H
 have A2 := Aside0.mk A20
 clear A20
 by_cases c3 : t334 = 0
 ·rw [if_pos c3] at H
  have c3b0 : (t334 == 0) = true := beq_iff_eq.mpr c3
  have c3b1 : (t334 != 0) = false := bne_eq_false_iff_eq.mpr c3
  clear c3
  by_cases c4 : t333.toList = ([105, 110, 99, 111, 109, 112, 97, 116, 105, 98, 108, 101] : List UInt8)
  ·rw [if_pos c4] at H
   have c4b0 : (t333.toList == ([105, 110, 99, 111, 109, 112, 97, 116, 105, 98, 108, 101] : List UInt8)) = true := beq_iff_eq.mpr c4
   have c4b1 : (t333.toList != ([105, 110, 99, 111, 109, 112, 97, 116, 105, 98, 108, 101] : List UInt8)) = false := bne_eq_false_iff_eq.mpr c4
   clear c4
   obtain rfl := Option.some.inj H
   go_enter Tryz.func97, Tryz.ntmps97
   go_wp2_with (first | ((with_reducible refine gate_callee (f := 99) rfl ?_); refine goesL_ (some 7) rfl rfl Tryz.func99 (by kernel_rfl) rfl #[.string a0] rfl (by (try simp only [List.map_toArray, List.map_cons, List.map_nil]); first | done | rfl | (simp only [List.length_drop, List.length_take]; rfl)) ?_; (with_reducible refine (graftbedref03_Parse.calls a0 t329 t330 t331 t332 t333 t334 _ A2.out).mono ?_); rintro e w5 ⟨rfl, hb⟩; refine ⟨_, rfl, ?_⟩; have n0_ := Aside0.mk (below_step (by repeat (first | (with_reducible first | exact HB.out | apply below_alloc | apply pw_below_drewN | apply below_drew1) | exact HB.out)) hb); clear HB; have HB := n0_; clear n0_; (try clear hb); (try clear hb2); (try clear hk); (try clear hi)) | ((with_reducible refine gate_dst (N := 3) rfl ?_); refine box_event ?hg (N := 3) ?hd (cs := #[.int .i64 0, .int .i64 0, .int .i64 0, .string (⟨#[]⟩ : ByteArray), .string (⟨#[]⟩ : ByteArray)]) (t := 120) ?hr ?_; (case hd => rfl); (case hg => rfl); (case hr => first | (go_simp; done) | (go_simp; rfl)); intro gb335 hg w6 hbox hb; have n0_ := Aside0.mk (below_step (by repeat (first | (with_reducible first | exact HB.out | apply below_alloc | apply pw_below_drewN | apply below_drew1) | exact HB.out)) hb); have n1_ := Aside0.mk (hbox); have n2_ := Aside0.mk ((by rw [hg]; exact (below_size (by repeat (first | (with_reducible first | exact HB.out | apply below_alloc | apply pw_below_drewN | apply below_drew1) | exact HB.out))) : w.heap.size ≤ gb335)); have n3_ := Aside0.mk ((by rw [hg]; exact (below_size (by repeat (first | (with_reducible first | exact HB.out | apply below_alloc | apply pw_below_drewN | apply below_drew1) | exact HB.out))) : w.heap.size ≤ gb335)); clear HB; have HB := n0_; have BK335 := n1_; have GW335 := n2_; have GE335 := n3_; clear n0_ n1_ n2_ n3_; clear hb hbox hg; have hcz7_0 : w6.cell? ⟨gb335, 0, none⟩ = some (.int .i64 0) := (blk_cell BK335.out 0).trans rfl; have hcz7_1 : w6.cell? ⟨gb335, 1, none⟩ = some (.int .i64 0) := (blk_cell BK335.out 1).trans rfl; have hcz7_2 : w6.cell? ⟨gb335, 2, none⟩ = some (.int .i64 0) := (blk_cell BK335.out 2).trans rfl; have hcz7_3 : w6.cell? ⟨gb335, 3, none⟩ = some (.string (⟨#[]⟩ : ByteArray)) := (blk_cell BK335.out 3).trans rfl; have hcz7_4 : w6.cell? ⟨gb335, 4, none⟩ = some (.string (⟨#[]⟩ : ByteArray)) := (blk_cell BK335.out 4).trans rfl; have hfz7_0 := blk_frozen BK335.out 0; have hfz7_1 := blk_frozen BK335.out 1; have hfz7_2 := blk_frozen BK335.out 2; have hfz7_3 := blk_frozen BK335.out 3; have hfz7_4 := blk_frozen BK335.out 4))
   go_ret
   exact ⟨by first | rfl | (simp [errW_none, errW_some] <;> rfl) | (simp [*, errW_none, errW_some] <;> rfl) | (exfalso; simp_all; done) | (exfalso; omega), by repeat (first | (with_reducible first | exact HB.out | apply below_alloc | apply pw_below_drewN | apply below_drew1 | refine below_set ?_ GE335.out) | exact HB.out)⟩
  ·rw [if_neg c4] at H
   have c4b0 : (t333.toList == ([105, 110, 99, 111, 109, 112, 97, 116, 105, 98, 108, 101] : List UInt8)) = false := beq_eq_false_iff_ne.mpr c4
   have c4b1 : (t333.toList != ([105, 110, 99, 111, 109, 112, 97, 116, 105, 98, 108, 101] : List UInt8)) = true := bne_iff_ne.mpr c4
   replace H := Option.bind_eq_some_iff.mp H
   obtain ⟨t336, A80, H⟩ := H
   replace H : (if 0 ≤ t336 then (if t336 ≤ (a0.size : Int) then (some (a0.extract 0 (t336 : Int).toNat)) else (none)) else (none)) = some r := H
   have A8 := Aside0.mk A80
   clear A80
   by_cases c9 : 0 ≤ t336
   ·rw [if_pos c9] at H
    have c9b0 := eq_true c9
    have c9b1 : decide (0 ≤ t336) = true := decide_eq_true c9
    clear c9
    by_cases c10 : t336 ≤ (a0.size : Int)
    ·rw [if_pos c10] at H
     have c10b0 := eq_true c10
     have c10b1 : decide (t336 ≤ (a0.size : Int)) = true := decide_eq_true c10
     clear c10
     obtain rfl := Option.some.inj H
     go_enter Tryz.func97, Tryz.ntmps97
     go_wp2_with (first | ((with_reducible refine gate_callee (f := 99) rfl ?_); refine goesL_ (some 7) rfl rfl Tryz.func99 (by kernel_rfl) rfl #[.string a0] rfl (by (try simp only [List.map_toArray, List.map_cons, List.map_nil]); first | done | rfl | (simp only [List.length_drop, List.length_take]; rfl)) ?_; (with_reducible refine (graftbedref03_Parse.calls a0 t329 t330 t331 t332 t333 t334 _ A2.out).mono ?_); rintro e w11 ⟨rfl, hb⟩; refine ⟨_, rfl, ?_⟩; have n0_ := Aside0.mk (below_step (by repeat (first | (with_reducible first | exact HB.out | apply below_alloc | apply pw_below_drewN | apply below_drew1) | exact HB.out)) hb); clear HB; have HB := n0_; clear n0_; (try clear hb); (try clear hb2); (try clear hk); (try clear hi)) | ((with_reducible refine gate_dst (N := 3) rfl ?_); refine box_event ?hg (N := 3) ?hd (cs := #[.int .i64 0, .int .i64 0, .int .i64 0, .string (⟨#[]⟩ : ByteArray), .string (⟨#[]⟩ : ByteArray)]) (t := 120) ?hr ?_; (case hd => rfl); (case hg => rfl); (case hr => first | (go_simp; done) | (go_simp; rfl)); intro gb335 hg w12 hbox hb; have n0_ := Aside0.mk (below_step (by repeat (first | (with_reducible first | exact HB.out | apply below_alloc | apply pw_below_drewN | apply below_drew1) | exact HB.out)) hb); have n1_ := Aside0.mk (hbox); have n2_ := Aside0.mk ((by rw [hg]; exact (below_size (by repeat (first | (with_reducible first | exact HB.out | apply below_alloc | apply pw_below_drewN | apply below_drew1) | exact HB.out))) : w.heap.size ≤ gb335)); have n3_ := Aside0.mk ((by rw [hg]; exact (below_size (by repeat (first | (with_reducible first | exact HB.out | apply below_alloc | apply pw_below_drewN | apply below_drew1) | exact HB.out))) : w.heap.size ≤ gb335)); clear HB; have HB := n0_; have BK335 := n1_; have GW335 := n2_; have GE335 := n3_; clear n0_ n1_ n2_ n3_; clear hb hbox hg; have hcz13_0 : w12.cell? ⟨gb335, 0, none⟩ = some (.int .i64 0) := (blk_cell BK335.out 0).trans rfl; have hcz13_1 : w12.cell? ⟨gb335, 1, none⟩ = some (.int .i64 0) := (blk_cell BK335.out 1).trans rfl; have hcz13_2 : w12.cell? ⟨gb335, 2, none⟩ = some (.int .i64 0) := (blk_cell BK335.out 2).trans rfl; have hcz13_3 : w12.cell? ⟨gb335, 3, none⟩ = some (.string (⟨#[]⟩ : ByteArray)) := (blk_cell BK335.out 3).trans rfl; have hcz13_4 : w12.cell? ⟨gb335, 4, none⟩ = some (.string (⟨#[]⟩ : ByteArray)) := (blk_cell BK335.out 4).trans rfl; have hfz13_0 := blk_frozen BK335.out 0; have hfz13_1 := blk_frozen BK335.out 1; have hfz13_2 := blk_frozen BK335.out 2; have hfz13_3 := blk_frozen BK335.out 3; have hfz13_4 := blk_frozen BK335.out 4) | ((with_reducible refine gate_callee (f := 125) rfl ?_); refine goesL_ (some 18) rfl rfl Tryz.func125 (by kernel_rfl) rfl #[.string a0, .int .u8 43] rfl (by (try simp only [List.map_toArray, List.map_cons, List.map_nil]); first | done | rfl | (simp only [List.length_drop, List.length_take]; rfl)) ?_; (with_reducible refine (graftbedref03_find.calls k a0 43 t336 _ A8.out).mono ?_); rintro e w' ⟨rfl, ⟨nd, rfl⟩⟩; refine ⟨_, rfl, ?_⟩))
     go_ret
     exact ⟨by first | rfl | (simp [errW_none, errW_some] <;> rfl) | (simp [*, errW_none, errW_some] <;> rfl) | (exfalso; simp_all; done) | (exfalso; omega), by repeat (first | (with_reducible first | exact HB.out | apply below_alloc | apply pw_below_drewN | apply below_drew1 | refine below_set ?_ GE335.out) | exact HB.out)⟩
    ·rw [if_neg c10] at H
     exact absurd H (by simp)
   ·rw [if_neg c9] at H
    exact absurd H (by simp)
 ·rw [if_neg c3] at H
  have c3b0 : (t334 == 0) = false := beq_eq_false_iff_ne.mpr c3
  have c3b1 : (t334 != 0) = true := bne_iff_ne.mpr c3
  obtain rfl := Option.some.inj H
  go_enter Tryz.func97, Tryz.ntmps97
  go_wp2_with (first | ((with_reducible refine gate_callee (f := 99) rfl ?_); refine goesL_ (some 7) rfl rfl Tryz.func99 (by kernel_rfl) rfl #[.string a0] rfl (by (try simp only [List.map_toArray, List.map_cons, List.map_nil]); first | done | rfl | (simp only [List.length_drop, List.length_take]; rfl)) ?_; (with_reducible refine (graftbedref03_Parse.calls a0 t329 t330 t331 t332 t333 t334 _ A2.out).mono ?_); rintro e w14 ⟨rfl, hb⟩; refine ⟨_, rfl, ?_⟩; have n0_ := Aside0.mk (below_step (by repeat (first | (with_reducible first | exact HB.out | apply below_alloc | apply pw_below_drewN | apply below_drew1) | exact HB.out)) hb); clear HB; have HB := n0_; clear n0_; (try clear hb); (try clear hb2); (try clear hk); (try clear hi)) | ((with_reducible refine gate_dst (N := 3) rfl ?_); refine box_event ?hg (N := 3) ?hd (cs := #[.int .i64 0, .int .i64 0, .int .i64 0, .string (⟨#[]⟩ : ByteArray), .string (⟨#[]⟩ : ByteArray)]) (t := 120) ?hr ?_; (case hd => rfl); (case hg => rfl); (case hr => first | (go_simp; done) | (go_simp; rfl)); intro gb335 hg w15 hbox hb; have n0_ := Aside0.mk (below_step (by repeat (first | (with_reducible first | exact HB.out | apply below_alloc | apply pw_below_drewN | apply below_drew1) | exact HB.out)) hb); have n1_ := Aside0.mk (hbox); have n2_ := Aside0.mk ((by rw [hg]; exact (below_size (by repeat (first | (with_reducible first | exact HB.out | apply below_alloc | apply pw_below_drewN | apply below_drew1) | exact HB.out))) : w.heap.size ≤ gb335)); have n3_ := Aside0.mk ((by rw [hg]; exact (below_size (by repeat (first | (with_reducible first | exact HB.out | apply below_alloc | apply pw_below_drewN | apply below_drew1) | exact HB.out))) : w.heap.size ≤ gb335)); clear HB; have HB := n0_; have BK335 := n1_; have GW335 := n2_; have GE335 := n3_; clear n0_ n1_ n2_ n3_; clear hb hbox hg; have hcz16_0 : w15.cell? ⟨gb335, 0, none⟩ = some (.int .i64 0) := (blk_cell BK335.out 0).trans rfl; have hcz16_1 : w15.cell? ⟨gb335, 1, none⟩ = some (.int .i64 0) := (blk_cell BK335.out 1).trans rfl; have hcz16_2 : w15.cell? ⟨gb335, 2, none⟩ = some (.int .i64 0) := (blk_cell BK335.out 2).trans rfl; have hcz16_3 : w15.cell? ⟨gb335, 3, none⟩ = some (.string (⟨#[]⟩ : ByteArray)) := (blk_cell BK335.out 3).trans rfl; have hcz16_4 : w15.cell? ⟨gb335, 4, none⟩ = some (.string (⟨#[]⟩ : ByteArray)) := (blk_cell BK335.out 4).trans rfl; have hfz16_0 := blk_frozen BK335.out 0; have hfz16_1 := blk_frozen BK335.out 1; have hfz16_2 := blk_frozen BK335.out 2; have hfz16_3 := blk_frozen BK335.out 3; have hfz16_4 := blk_frozen BK335.out 4))
  go_ret
  exact ⟨by first | rfl | (simp [errW_none, errW_some] <;> rfl) | (simp [*, errW_none, errW_some] <;> rfl) | (exfalso; simp_all; done) | (exfalso; omega), by repeat (first | (with_reducible first | exact HB.out | apply below_alloc | apply pw_below_drewN | apply below_drew1 | refine below_set ?_ GE335.out) | exact HB.out)⟩
end Go.Proofs.YtcdcpcdfcmokkaaGreatDoor.P
end
section
namespace Go.Proofs.YtcdcpcdfcmokkaaGreatDoor.P
open Go.RowKit Go.Proofs.YtcdcpcdfcmokkaaGreatDoorW.PrintWords Go.Proofs.YtcdcpcdfcmokkaaGreatDoorW.PrintLast Go.Proofs.YtcdcpcdfcmokkaaGreatDoorW.PrintMore
open Go.Proofs.YtcdcpcdfcmokkaaGreatDoor (str_gtr str_leq str_geq bne_empty)
attribute [local go_sem] max2_int min2_int max_two min_two max_three min_three max_four min_four str_gtr str_leq str_geq   -- for this text's walks alone
set_option linter.unusedVariables false
set_option linter.unusedSimpArgs false
def graftbedref03_Major.f (k : Nat) (a0 : ByteArray) : Option (Int) := (graftbedref01_Elems.f k a0).bind fun t337 => (if (t337.length : Int) < 2 then (some 0) else (if 0 ≤ (wrap64 ((t337.length : Int) - 1)) then (if (wrap64 ((t337.length : Int) - 1)) < (t337.length : Int) then (if ((rdOf ByteArray.empty t337 (wrap64 ((t337.length : Int) - 1))).size : Int) < 2 then (some 0) else (if 0 < ((rdOf ByteArray.empty t337 (wrap64 ((t337.length : Int) - 1))).size : Int) then (if (bt (rdOf ByteArray.empty t337 (wrap64 ((t337.length : Int) - 1))) 0) = 118 then (if 1 ≤ ((rdOf ByteArray.empty t337 (wrap64 ((t337.length : Int) - 1))).size : Int) then ((graftbedref03_Number.f k ((rdOf ByteArray.empty t337 (wrap64 ((t337.length : Int) - 1))).extract 1 (rdOf ByteArray.empty t337 (wrap64 ((t337.length : Int) - 1))).size)).bind fun t341 => (if t341 < 2 then (some 0) else ((graftbedref03_Number.f k ((rdOf ByteArray.empty t337 (wrap64 ((t337.length : Int) - 1))).extract 1 (rdOf ByteArray.empty t337 (wrap64 ((t337.length : Int) - 1))).size)).bind fun t342 => (some t342)))) else (none)) else (some 0)) else (none))) else (none)) else (none)))
set_option maxHeartbeats 8000000 in
set_option maxRecDepth 100000 in
theorem graftbedref03_Major.calls (k : Nat) (a0 : ByteArray) (r : Int) (w : World) (h : graftbedref03_Major.f k a0 = some r) :
  Calls Tryz.prog 126 #[.string a0] w fun e w' => e = .returned (.int .i64 r) ∧ Below w.heap.size w w' := by
 have HB := Aside0.mk (Below.refl w.heap.size w)
 have H : ((graftbedref01_Elems.f k a0).bind fun t337 => (if (t337.length : Int) < 2 then (some 0) else (if 0 ≤ (wrap64 ((t337.length : Int) - 1)) then (if (wrap64 ((t337.length : Int) - 1)) < (t337.length : Int) then (if ((rdOf ByteArray.empty t337 (wrap64 ((t337.length : Int) - 1))).size : Int) < 2 then (some 0) else (if 0 < ((rdOf ByteArray.empty t337 (wrap64 ((t337.length : Int) - 1))).size : Int) then (if (bt (rdOf ByteArray.empty t337 (wrap64 ((t337.length : Int) - 1))) 0) = 118 then (if 1 ≤ ((rdOf ByteArray.empty t337 (wrap64 ((t337.length : Int) - 1))).size : Int) then ((graftbedref03_Number.f k ((rdOf ByteArray.empty t337 (wrap64 ((t337.length : Int) - 1))).extract 1 (rdOf ByteArray.empty t337 (wrap64 ((t337.length : Int) - 1))).size)).bind fun t341 => (if t341 < 2 then (some 0) else ((graftbedref03_Number.f k ((rdOf ByteArray.empty t337 (wrap64 ((t337.length : Int) - 1))).extract 1 (rdOf ByteArray.empty t337 (wrap64 ((t337.length : Int) - 1))).size)).bind fun t342 => (some t342)))) else (none)) else (some 0)) else (none))) else (none)) else (none)))) = some r := h
 clear h
 replace H := Option.bind_eq_some_iff.mp H
 obtain ⟨t337, A20, H⟩ := H
 replace H : (if (t337.length : Int) < 2 then (some 0) else (if 0 ≤ (wrap64 ((t337.length : Int) - 1)) then (if (wrap64 ((t337.length : Int) - 1)) < (t337.length : Int) then (if ((rdOf ByteArray.empty t337 (wrap64 ((t337.length : Int) - 1))).size : Int) < 2 then (some 0) else (if 0 < ((rdOf ByteArray.empty t337 (wrap64 ((t337.length : Int) - 1))).size : Int) then (if (bt (rdOf ByteArray.empty t337 (wrap64 ((t337.length : Int) - 1))) 0) = 118 then (if 1 ≤ ((rdOf ByteArray.empty t337 (wrap64 ((t337.length : Int) - 1))).size : Int) then ((graftbedref03_Number.f k ((rdOf ByteArray.empty t337 (wrap64 ((t337.length : Int) - 1))).extract 1 (rdOf ByteArray.empty t337 (wrap64 ((t337.length : Int) - 1))).size)).bind fun t341 => (if t341 < 2 then (some 0) else ((graftbedref03_Number.f k ((rdOf ByteArray.empty t337 (wrap64 ((t337.length : Int) - 1))).extract 1 (rdOf ByteArray.empty t337 (wrap64 ((t337.length : Int) - 1))).size)).bind fun t342 => (some t342)))) else (none)) else (some 0)) else (none))) else (none)) else (none))) = some r := H
 have A2 := Aside0.mk A20
 clear A20
 by_cases c3 : (t337.length : Int) < 2
 ·rw [if_pos c3] at H
  have c3b0 : decide ((t337.length : Int) < 2) = true := decide_eq_true c3
  have c3b1 : decide (t337.length < 2) = true := decide_eq_true (by omega)
  clear c3
  obtain rfl := Option.some.inj H
  go_enter Tryz.func126, Tryz.ntmps126
  go_wp2_with (first | ((with_reducible refine gate_callee (f := 70) rfl ?_); refine goesL_ (some 6) rfl rfl Tryz.func70 (by kernel_rfl) rfl #[.string a0] rfl (by (try simp only [List.map_toArray, List.map_cons, List.map_nil]); first | done | rfl | (simp only [List.length_drop, List.length_take]; rfl)) ?_; (with_reducible refine (graftbedref01_Elems.calls k a0 t337 _ A2.out).mono ?_); rintro e w4 ⟨v338, rfl, ho0, hb⟩; refine ⟨_, rfl, ?_⟩; have n0_ := Aside0.mk (Kd.R_lower ho0 (below_size (by repeat (first | (with_reducible first | exact HB.out | apply below_alloc | apply pw_below_drewN | apply below_drew1) | exact HB.out)))); have n1_ := Aside0.mk (below_step (by repeat (first | (with_reducible first | exact HB.out | apply below_alloc | apply pw_below_drewN | apply below_drew1) | exact HB.out)) hb); clear HB; have HO339 := n0_; have HB := n1_; clear n0_ n1_; (try clear hb); (try clear hb2); (try clear hk); (try clear hi); (try clear ho0); obtain ⟨Ao5, co5, eo5⟩ := Kd.R_slice HO339.out; subst eo5))
  go_ret
  exact ⟨by first | rfl | (simp [errW_none, errW_some] <;> rfl) | (simp [*, errW_none, errW_some] <;> rfl) | (exfalso; simp_all; done) | (exfalso; omega), by repeat (first | (with_reducible first | exact HB.out | apply below_alloc | apply pw_below_drewN | apply below_drew1) | exact HB.out)⟩
 ·rw [if_neg c3] at H
  have c3b0 : decide ((t337.length : Int) < 2) = false := decide_eq_false c3
  have c3b1 : decide (t337.length < 2) = false := decide_eq_false (by omega)
  clear c3
  obtain ⟨ji6, hji6⟩ : ∃ j_ : Int, (wrap64 ((t337.length : Int) - 1)) = j_ := ⟨_, rfl⟩
  replace H : (if 0 ≤ (ji6) then (if (ji6) < (t337.length : Int) then (if ((rdOf ByteArray.empty t337 (ji6)).size : Int) < 2 then (some 0) else (if 0 < ((rdOf ByteArray.empty t337 (ji6)).size : Int) then (if (bt (rdOf ByteArray.empty t337 (ji6)) 0) = 118 then (if 1 ≤ ((rdOf ByteArray.empty t337 (ji6)).size : Int) then ((graftbedref03_Number.f k ((rdOf ByteArray.empty t337 (ji6)).extract 1 (rdOf ByteArray.empty t337 (ji6)).size)).bind fun t341 => (if t341 < 2 then (some 0) else ((graftbedref03_Number.f k ((rdOf ByteArray.empty t337 (ji6)).extract 1 (rdOf ByteArray.empty t337 (ji6)).size)).bind fun t342 => (some t342)))) else (none)) else (some 0)) else (none))) else (none)) else (none)) = some r := by first | (rw [hji6] at H; exact H) | (simp only [hji6] at H ⊢; exact H)
  (try rw [hji6] at A2)
  have hji6w : (IntKind.i64.wrap ((t337.length : Int) - 1)) = ji6 := (i64_w _).trans hji6
  by_cases c7 : 0 ≤ (ji6)
  ·rw [if_pos c7] at H
   have c7b0 : decide (0 ≤ (ji6)) = true := decide_eq_true c7
   clear c7
   by_cases c8 : (ji6) < (t337.length : Int)
   ·rw [if_pos c8] at H
    have c8b0 : decide ((ji6) < (t337.length : Int)) = true := decide_eq_true c8
    clear c8
    by_cases c9 : ((rdOf ByteArray.empty t337 (ji6)).size : Int) < 2
    ·rw [if_pos c9] at H
     have c9b0 : decide (((rdOf ByteArray.empty t337 (ji6)).size : Int) < 2) = true := decide_eq_true c9
     have c9b1 : decide ((rdOf ByteArray.empty t337 (ji6)).size < 2) = true := decide_eq_true (by omega)
     clear c9
     obtain rfl := Option.some.inj H
     go_enter Tryz.func126, Tryz.ntmps126
     go_wp2_with (first | ((with_reducible refine gate_callee (f := 70) rfl ?_); refine goesL_ (some 6) rfl rfl Tryz.func70 (by kernel_rfl) rfl #[.string a0] rfl (by (try simp only [List.map_toArray, List.map_cons, List.map_nil]); first | done | rfl | (simp only [List.length_drop, List.length_take]; rfl)) ?_; (with_reducible refine (graftbedref01_Elems.calls k a0 t337 _ A2.out).mono ?_); rintro e w10 ⟨v338, rfl, ho0, hb⟩; refine ⟨_, rfl, ?_⟩; have n0_ := Aside0.mk (Kd.R_lower ho0 (below_size (by repeat (first | (with_reducible first | exact HB.out | apply below_alloc | apply pw_below_drewN | apply below_drew1) | exact HB.out)))); have n1_ := Aside0.mk (below_step (by repeat (first | (with_reducible first | exact HB.out | apply below_alloc | apply pw_below_drewN | apply below_drew1) | exact HB.out)) hb); clear HB; have HO339 := n0_; have HB := n1_; clear n0_ n1_; (try clear hb); (try clear hb2); (try clear hk); (try clear hi); (try clear ho0); obtain ⟨Ao11, co11, eo11⟩ := Kd.R_slice HO339.out; subst eo11; have p340 : 0 ≤ ((ji6) : Int) := of_decide_eq_true (by first | (with_reducible assumption) | assumption); have q340 : (ji6) < (t337.length : Int) := of_decide_eq_true (by first | (with_reducible assumption) | assumption); obtain ⟨ad340, e340, hx340_0⟩ := Kd.at_string (Kd.R_reads' HO339.out).2.2 (ji6) p340 q340; cases e340; replace p340 := eq_true p340; replace q340 := eq_true q340))
     go_ret
     exact ⟨by first | rfl | (simp [errW_none, errW_some] <;> rfl) | (simp only [← hji6]; first | rfl | (simp [errW_none, errW_some] <;> rfl)) | (simp [*, errW_none, errW_some] <;> rfl) | (exfalso; simp_all; done) | (exfalso; omega), by repeat (first | (with_reducible first | exact HB.out | apply below_alloc | apply pw_below_drewN | apply below_drew1) | exact HB.out)⟩
    ·rw [if_neg c9] at H
     have c9b0 : decide (((rdOf ByteArray.empty t337 (ji6)).size : Int) < 2) = false := decide_eq_false c9
     have c9b1 : decide ((rdOf ByteArray.empty t337 (ji6)).size < 2) = false := decide_eq_false (by omega)
     clear c9
     by_cases c12 : 0 < ((rdOf ByteArray.empty t337 (ji6)).size : Int)
     ·rw [if_pos c12] at H
      have c12b0 : decide (0 < ((rdOf ByteArray.empty t337 (ji6)).size : Int)) = true := decide_eq_true c12
      have c12b1 : decide (0 < (rdOf ByteArray.empty t337 (ji6)).size) = true := decide_eq_true (by omega)
      clear c12
      by_cases c14 : (bt (rdOf ByteArray.empty t337 (ji6)) 0) = 118
      ·rw [if_pos c14] at H
       have c14b0 : ((bt (rdOf ByteArray.empty t337 (ji6)) 0) == 118) = true := beq_iff_eq.mpr c14
       have c14b1 : ((bt (rdOf ByteArray.empty t337 (ji6)) 0) != 118) = false := bne_eq_false_iff_eq.mpr c14
       clear c14
       by_cases c15 : 1 ≤ ((rdOf ByteArray.empty t337 (ji6)).size : Int)
       ·rw [if_pos c15] at H
        have c15b0 := eq_true c15
        have c15b1 : decide (1 ≤ ((rdOf ByteArray.empty t337 (ji6)).size : Int)) = true := decide_eq_true c15
        clear c15
        replace H := Option.bind_eq_some_iff.mp H
        obtain ⟨t341, A160, H⟩ := H
        replace H : (if t341 < 2 then (some 0) else ((graftbedref03_Number.f k ((rdOf ByteArray.empty t337 (ji6)).extract 1 (rdOf ByteArray.empty t337 (ji6)).size)).bind fun t342 => (some t342))) = some r := H
        have A16 := Aside0.mk A160
        clear A160
        by_cases c17 : t341 < 2
        ·rw [if_pos c17] at H
         have c17b0 : decide (t341 < 2) = true := decide_eq_true c17
         clear c17
         obtain rfl := Option.some.inj H
         go_enter Tryz.func126, Tryz.ntmps126
         go_wp2_with (first | ((with_reducible refine gate_callee (f := 70) rfl ?_); refine goesL_ (some 6) rfl rfl Tryz.func70 (by kernel_rfl) rfl #[.string a0] rfl (by (try simp only [List.map_toArray, List.map_cons, List.map_nil]); first | done | rfl | (simp only [List.length_drop, List.length_take]; rfl)) ?_; (with_reducible refine (graftbedref01_Elems.calls k a0 t337 _ A2.out).mono ?_); rintro e w18 ⟨v338, rfl, ho0, hb⟩; refine ⟨_, rfl, ?_⟩; have n0_ := Aside0.mk (Kd.R_lower ho0 (below_size (by repeat (first | (with_reducible first | exact HB.out | apply below_alloc | apply pw_below_drewN | apply below_drew1) | exact HB.out)))); have n1_ := Aside0.mk (below_step (by repeat (first | (with_reducible first | exact HB.out | apply below_alloc | apply pw_below_drewN | apply below_drew1) | exact HB.out)) hb); clear HB; have HO339 := n0_; have HB := n1_; clear n0_ n1_; (try clear hb); (try clear hb2); (try clear hk); (try clear hi); (try clear ho0); obtain ⟨Ao19, co19, eo19⟩ := Kd.R_slice HO339.out; subst eo19; have p340 : 0 ≤ ((ji6) : Int) := of_decide_eq_true (by first | (with_reducible assumption) | assumption); have q340 : (ji6) < (t337.length : Int) := of_decide_eq_true (by first | (with_reducible assumption) | assumption); obtain ⟨ad340, e340, hx340_0⟩ := Kd.at_string (Kd.R_reads' HO339.out).2.2 (ji6) p340 q340; cases e340; replace p340 := eq_true p340; replace q340 := eq_true q340; have p13 : 0 ≤ (0 : Int) := (by omega); have q13 : 0 < (rdOf ByteArray.empty t337 (ji6)).size := (by have : (0 : Int) < ((rdOf ByteArray.empty t337 (ji6)).size : Int) := of_decide_eq_true (by first | (with_reducible assumption) | assumption); omega); have hx13 : ∀ h : 0 < (rdOf ByteArray.empty t337 (ji6)).size, (((rdOf ByteArray.empty t337 (ji6))[0]'h).toNat : Int) = bt (rdOf ByteArray.empty t337 (ji6)) 0 := bt_at (rdOf ByteArray.empty t337 (ji6)) 0; clear p13; have qi13 : (0 < ((rdOf ByteArray.empty t337 (ji6)).size : Int)) = True := eq_true (of_decide_eq_true (by first | (with_reducible assumption) | assumption)); replace q13 := eq_true q13) | (go_at_call 67; (with_reducible refine (graftbedref03_Number.calls k ((rdOf ByteArray.empty t337 (ji6)).extract 1 (rdOf ByteArray.empty t337 (ji6)).size) t341 _ A16.out).mono ?_); rintro e w' ⟨rfl, ⟨nd, rfl⟩⟩))
         go_ret
         exact ⟨by first | rfl | (simp [errW_none, errW_some] <;> rfl) | (simp only [← hji6]; first | rfl | (simp [errW_none, errW_some] <;> rfl)) | (simp [*, errW_none, errW_some] <;> rfl) | (exfalso; simp_all; done) | (exfalso; omega), by repeat (first | (with_reducible first | exact HB.out | apply below_alloc | apply pw_below_drewN | apply below_drew1) | exact HB.out)⟩
        ·rw [if_neg c17] at H
         have c17b0 : decide (t341 < 2) = false := decide_eq_false c17
         clear c17
         have c20b0 := eq_true (of_decide_eq_true (by first | (with_reducible assumption) | assumption) : 1 ≤ ((rdOf ByteArray.empty t337 (ji6)).size : Int))
         replace H := Option.bind_eq_some_iff.mp H
         obtain ⟨t342, A210, H⟩ := H
         replace H : (some t342) = some r := H
         have A21 := Aside0.mk A210
         clear A210
         obtain rfl := Option.some.inj H
         go_enter Tryz.func126, Tryz.ntmps126
         go_wp2_with (first | ((with_reducible refine gate_callee (f := 70) rfl ?_); refine goesL_ (some 6) rfl rfl Tryz.func70 (by kernel_rfl) rfl #[.string a0] rfl (by (try simp only [List.map_toArray, List.map_cons, List.map_nil]); first | done | rfl | (simp only [List.length_drop, List.length_take]; rfl)) ?_; (with_reducible refine (graftbedref01_Elems.calls k a0 t337 _ A2.out).mono ?_); rintro e w22 ⟨v338, rfl, ho0, hb⟩; refine ⟨_, rfl, ?_⟩; have n0_ := Aside0.mk (Kd.R_lower ho0 (below_size (by repeat (first | (with_reducible first | exact HB.out | apply below_alloc | apply pw_below_drewN | apply below_drew1) | exact HB.out)))); have n1_ := Aside0.mk (below_step (by repeat (first | (with_reducible first | exact HB.out | apply below_alloc | apply pw_below_drewN | apply below_drew1) | exact HB.out)) hb); clear HB; have HO339 := n0_; have HB := n1_; clear n0_ n1_; (try clear hb); (try clear hb2); (try clear hk); (try clear hi); (try clear ho0); obtain ⟨Ao23, co23, eo23⟩ := Kd.R_slice HO339.out; subst eo23; have p340 : 0 ≤ ((ji6) : Int) := of_decide_eq_true (by first | (with_reducible assumption) | assumption); have q340 : (ji6) < (t337.length : Int) := of_decide_eq_true (by first | (with_reducible assumption) | assumption); obtain ⟨ad340, e340, hx340_0⟩ := Kd.at_string (Kd.R_reads' HO339.out).2.2 (ji6) p340 q340; cases e340; replace p340 := eq_true p340; replace q340 := eq_true q340; have p13 : 0 ≤ (0 : Int) := (by omega); have q13 : 0 < (rdOf ByteArray.empty t337 (ji6)).size := (by have : (0 : Int) < ((rdOf ByteArray.empty t337 (ji6)).size : Int) := of_decide_eq_true (by first | (with_reducible assumption) | assumption); omega); have hx13 : ∀ h : 0 < (rdOf ByteArray.empty t337 (ji6)).size, (((rdOf ByteArray.empty t337 (ji6))[0]'h).toNat : Int) = bt (rdOf ByteArray.empty t337 (ji6)) 0 := bt_at (rdOf ByteArray.empty t337 (ji6)) 0; clear p13; have qi13 : (0 < ((rdOf ByteArray.empty t337 (ji6)).size : Int)) = True := eq_true (of_decide_eq_true (by first | (with_reducible assumption) | assumption)); replace q13 := eq_true q13) | (go_at_call 67; (with_reducible refine (graftbedref03_Number.calls k ((rdOf ByteArray.empty t337 (ji6)).extract 1 (rdOf ByteArray.empty t337 (ji6)).size) t341 _ A16.out).mono ?_); rintro e w' ⟨rfl, ⟨nd, rfl⟩⟩) | ((with_reducible refine gate_callee (f := 67) rfl ?_); refine goesL_ (some 32) rfl rfl Tryz.func67 (by kernel_rfl) rfl #[.string ((rdOf ByteArray.empty t337 (ji6)).extract 1 (rdOf ByteArray.empty t337 (ji6)).size)] rfl (by (try simp only [List.map_toArray, List.map_cons, List.map_nil]); first | done | (simp only [hji6]; rfl) | rfl | (simp only [List.length_drop, List.length_take]; rfl)) ?_; (with_reducible refine (graftbedref03_Number.calls k ((rdOf ByteArray.empty t337 (ji6)).extract 1 (rdOf ByteArray.empty t337 (ji6)).size) t342 _ A21.out).mono ?_); rintro e w' ⟨rfl, ⟨nd, rfl⟩⟩; refine ⟨_, rfl, ?_⟩))
         go_ret
         exact ⟨by first | rfl | (simp [errW_none, errW_some] <;> rfl) | (simp only [← hji6]; first | rfl | (simp [errW_none, errW_some] <;> rfl)) | (simp [*, errW_none, errW_some] <;> rfl) | (exfalso; simp_all; done) | (exfalso; omega), by repeat (first | (with_reducible first | exact HB.out | apply below_alloc | apply pw_below_drewN | apply below_drew1) | exact HB.out)⟩
       ·rw [if_neg c15] at H
        exact absurd H (by simp)
      ·rw [if_neg c14] at H
       have c14b0 : ((bt (rdOf ByteArray.empty t337 (ji6)) 0) == 118) = false := beq_eq_false_iff_ne.mpr c14
       have c14b1 : ((bt (rdOf ByteArray.empty t337 (ji6)) 0) != 118) = true := bne_iff_ne.mpr c14
       obtain rfl := Option.some.inj H
       go_enter Tryz.func126, Tryz.ntmps126
       go_wp2_with (first | ((with_reducible refine gate_callee (f := 70) rfl ?_); refine goesL_ (some 6) rfl rfl Tryz.func70 (by kernel_rfl) rfl #[.string a0] rfl (by (try simp only [List.map_toArray, List.map_cons, List.map_nil]); first | done | rfl | (simp only [List.length_drop, List.length_take]; rfl)) ?_; (with_reducible refine (graftbedref01_Elems.calls k a0 t337 _ A2.out).mono ?_); rintro e w24 ⟨v338, rfl, ho0, hb⟩; refine ⟨_, rfl, ?_⟩; have n0_ := Aside0.mk (Kd.R_lower ho0 (below_size (by repeat (first | (with_reducible first | exact HB.out | apply below_alloc | apply pw_below_drewN | apply below_drew1) | exact HB.out)))); have n1_ := Aside0.mk (below_step (by repeat (first | (with_reducible first | exact HB.out | apply below_alloc | apply pw_below_drewN | apply below_drew1) | exact HB.out)) hb); clear HB; have HO339 := n0_; have HB := n1_; clear n0_ n1_; (try clear hb); (try clear hb2); (try clear hk); (try clear hi); (try clear ho0); obtain ⟨Ao25, co25, eo25⟩ := Kd.R_slice HO339.out; subst eo25; have p340 : 0 ≤ ((ji6) : Int) := of_decide_eq_true (by first | (with_reducible assumption) | assumption); have q340 : (ji6) < (t337.length : Int) := of_decide_eq_true (by first | (with_reducible assumption) | assumption); obtain ⟨ad340, e340, hx340_0⟩ := Kd.at_string (Kd.R_reads' HO339.out).2.2 (ji6) p340 q340; cases e340; replace p340 := eq_true p340; replace q340 := eq_true q340; have p13 : 0 ≤ (0 : Int) := (by omega); have q13 : 0 < (rdOf ByteArray.empty t337 (ji6)).size := (by have : (0 : Int) < ((rdOf ByteArray.empty t337 (ji6)).size : Int) := of_decide_eq_true (by first | (with_reducible assumption) | assumption); omega); have hx13 : ∀ h : 0 < (rdOf ByteArray.empty t337 (ji6)).size, (((rdOf ByteArray.empty t337 (ji6))[0]'h).toNat : Int) = bt (rdOf ByteArray.empty t337 (ji6)) 0 := bt_at (rdOf ByteArray.empty t337 (ji6)) 0; clear p13; have qi13 : (0 < ((rdOf ByteArray.empty t337 (ji6)).size : Int)) = True := eq_true (of_decide_eq_true (by first | (with_reducible assumption) | assumption)); replace q13 := eq_true q13))
       go_ret
       exact ⟨by first | rfl | (simp [errW_none, errW_some] <;> rfl) | (simp only [← hji6]; first | rfl | (simp [errW_none, errW_some] <;> rfl)) | (simp [*, errW_none, errW_some] <;> rfl) | (exfalso; simp_all; done) | (exfalso; omega), by repeat (first | (with_reducible first | exact HB.out | apply below_alloc | apply pw_below_drewN | apply below_drew1) | exact HB.out)⟩
     ·rw [if_neg c12] at H
      exact absurd H (by simp)
   ·rw [if_neg c8] at H
    exact absurd H (by simp)
  ·rw [if_neg c7] at H
   exact absurd H (by simp)
end Go.Proofs.YtcdcpcdfcmokkaaGreatDoor.P
end
