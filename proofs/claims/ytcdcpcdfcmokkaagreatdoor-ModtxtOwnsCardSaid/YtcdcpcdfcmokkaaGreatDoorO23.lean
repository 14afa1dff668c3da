/- Walks of the program's functions, and words that they use -/
import Derived.Test.YtcdcpcdfcmokkaaGreatDoorO05
import Derived.Test.YtcdcpcdfcmokkaaGreatDoorO16
import Derived.Test.YtcdcpcdfcmokkaaGreatDoorO19
import Derived.Test.YtcdcpcdfcmokkaaGreatDoorO20
import Derived.Test.YtcdcpcdfcmokkaaGreatDoorO14
set_option linter.unusedVariables false
set_option linter.unusedSimpArgs false
section
namespace Go.Proofs.YtcdcpcdfcmokkaaGreatDoor.P
open Go.RowKit Go.Proofs.YtcdcpcdfcmokkaaGreatDoorW.PrintWords Go.Proofs.YtcdcpcdfcmokkaaGreatDoorW.PrintLast Go.Proofs.YtcdcpcdfcmokkaaGreatDoorW.PrintMore
open Go.Proofs.YtcdcpcdfcmokkaaGreatDoor (str_gtr str_leq str_geq bne_empty)
attribute [local go_sem] max2_int min2_int max_two min_two max_three min_three max_four min_four str_gtr str_leq str_geq   -- for this text's walks alone
set_option linter.unusedVariables false
set_option linter.unusedSimpArgs false
def gomod_Release.f (a0 : ByteArray) : Option (Bool) := if 1 + a0.size ≤ 9223372036854775807 then (if ((⟨#[118]⟩ : ByteArray) ++ a0).size + 2 ≤ 9223372036854775807 then ((semver_Parse.f (((⟨#[118]⟩ : ByteArray) ++ a0) ++ (⟨#[46, 48]⟩ : ByteArray))).bind fun bt193 => (if bt193.2.2.2.2.2 = 0 then ((strings_HasPrefix.f a0 (⟨#[49, 46]⟩ : ByteArray)).bind fun t200 => (if t200 = true then ((strings_Count.f a0 (⟨#[46]⟩ : ByteArray)).bind fun t201 => (if t201 = 1 then ((strings_ContainsAny.f a0 (⟨#[45, 43]⟩ : ByteArray)).bind fun t202 => (some (!t202))) else (some false))) else (some false))) else (some false))) else (none)) else (none)
set_option maxHeartbeats 8000000 in
set_option maxRecDepth 100000 in
theorem gomod_Release.calls (a0 : ByteArray) (r : Bool) (w : World) (h : gomod_Release.f a0 = some r) :
  Calls Tryz.prog 51 #[.string a0] w fun e w' => e = .returned (.bool r) ∧ Below w.heap.size w w' := by
 have hu111 := Tryz.underlying111
 have HB := Aside0.mk (Below.refl w.heap.size w)
 have H : (if 1 + a0.size ≤ 9223372036854775807 then (if ((⟨#[118]⟩ : ByteArray) ++ a0).size + 2 ≤ 9223372036854775807 then ((semver_Parse.f (((⟨#[118]⟩ : ByteArray) ++ a0) ++ (⟨#[46, 48]⟩ : ByteArray))).bind fun bt193 => (if bt193.2.2.2.2.2 = 0 then ((strings_HasPrefix.f a0 (⟨#[49, 46]⟩ : ByteArray)).bind fun t200 => (if t200 = true then ((strings_Count.f a0 (⟨#[46]⟩ : ByteArray)).bind fun t201 => (if t201 = 1 then ((strings_ContainsAny.f a0 (⟨#[45, 43]⟩ : ByteArray)).bind fun t202 => (some (!t202))) else (some false))) else (some false))) else (some false))) else (none)) else (none)) = some r := h
 clear h
 by_cases c2 : 1 + a0.size ≤ 9223372036854775807
 ·rw [if_pos c2] at H
  have c2b0 := eq_true c2
  have c2b1 : decide (1 + a0.size ≤ 9223372036854775807) = true := decide_eq_true c2
  try have c2b2 : (9223372036854775807 < 1 + a0.size) = False := eq_false (Nat.not_lt.2 c2)
  by_cases c3 : ((⟨#[118]⟩ : ByteArray) ++ a0).size + 2 ≤ 9223372036854775807
  ·rw [if_pos c3] at H
   have c3b0 := eq_true c3
   have c3b1 : decide (((⟨#[118]⟩ : ByteArray) ++ a0).size + 2 ≤ 9223372036854775807) = true := decide_eq_true c3
   try have c3b2 : (9223372036854775807 < ((⟨#[118]⟩ : ByteArray) ++ a0).size + 2) = False := eq_false (Nat.not_lt.2 c3)
   try have c3b3 : (9223372036854775807 < 1 + a0.size + 2) = False := by rw [← c3b2]; simp only [ByteArray.size_append]; rfl
   replace H := Option.bind_eq_some_iff.mp H
   obtain ⟨⟨t193, t194, t195, t196, t197, t198⟩, A40, H⟩ := H
   replace H : (if t198 = 0 then ((strings_HasPrefix.f a0 (⟨#[49, 46]⟩ : ByteArray)).bind fun t200 => (if t200 = true then ((strings_Count.f a0 (⟨#[46]⟩ : ByteArray)).bind fun t201 => (if t201 = 1 then ((strings_ContainsAny.f a0 (⟨#[45, 43]⟩ : ByteArray)).bind fun t202 => (some (!t202))) else (some false))) else (some false))) else (some false)) = some r := H
   have A4 := Aside0.mk A40
   clear A40
   by_cases c5 : t198 = 0
   ·rw [if_pos c5] at H
    have c5b0 : (t198 == 0) = true := beq_iff_eq.mpr c5
    have c5b1 : (t198 != 0) = false := bne_eq_false_iff_eq.mpr c5
    clear c5
    replace H := Option.bind_eq_some_iff.mp H
    obtain ⟨t200, A60, H⟩ := H
    replace H : (if t200 = true then ((strings_Count.f a0 (⟨#[46]⟩ : ByteArray)).bind fun t201 => (if t201 = 1 then ((strings_ContainsAny.f a0 (⟨#[45, 43]⟩ : ByteArray)).bind fun t202 => (some (!t202))) else (some false))) else (some false)) = some r := H
    have A6 := Aside0.mk A60
    clear A60
    by_cases c7 : t200 = true
    ·subst c7
     have H1 : ((strings_Count.f a0 (⟨#[46]⟩ : ByteArray)).bind fun t201 => (if t201 = 1 then ((strings_ContainsAny.f a0 (⟨#[45, 43]⟩ : ByteArray)).bind fun t202 => (some (!t202))) else (some false))) = some r := by rw [if_pos rfl] at H; exact H
     clear H
     have H := H1
     clear H1
     replace H := Option.bind_eq_some_iff.mp H
     obtain ⟨t201, A80, H⟩ := H
     replace H : (if t201 = 1 then ((strings_ContainsAny.f a0 (⟨#[45, 43]⟩ : ByteArray)).bind fun t202 => (some (!t202))) else (some false)) = some r := H
     have A8 := Aside0.mk A80
     clear A80
     by_cases c9 : t201 = 1
     ·rw [if_pos c9] at H
      have c9b0 : (t201 == 1) = true := beq_iff_eq.mpr c9
      have c9b1 : (t201 != 1) = false := bne_eq_false_iff_eq.mpr c9
      clear c9
      replace H := Option.bind_eq_some_iff.mp H
      obtain ⟨t202, A100, H⟩ := H
      replace H : (some (!t202)) = some r := H
      have A10 := Aside0.mk A100
      clear A100
      obtain rfl := Option.some.inj H
      go_enter Tryz.func51, Tryz.ntmps51
      go_wp2_with (first | ((with_reducible refine gate_callee (f := 80) rfl ?_); refine goesL_ (some 9) rfl rfl Tryz.func80 (by kernel_rfl) rfl #[.string (((⟨#[118]⟩ : ByteArray) ++ a0) ++ (⟨#[46, 48]⟩ : ByteArray))] rfl (by (try simp only [List.map_toArray, List.map_cons, List.map_nil]); first | done | rfl | (simp only [List.length_drop, List.length_take]; rfl)) ?_; (with_reducible refine (semver_Parse.calls (((⟨#[118]⟩ : ByteArray) ++ a0) ++ (⟨#[46, 48]⟩ : ByteArray)) t193 t194 t195 t196 t197 t198 _ A4.out).mono ?_); rintro e w11 ⟨rfl, hb⟩; refine ⟨_, rfl, ?_⟩; have n0_ := Aside0.mk (below_step (by repeat (first | (with_reducible first | exact HB.out | apply below_alloc | apply pw_below_drewN | apply below_drew1) | exact HB.out)) hb); clear HB; have HB := n0_; clear n0_; (try clear hb); (try clear hb2); (try clear hk); (try clear hi)) | ((with_reducible refine gate_dst (N := 3) rfl ?_); refine box_event ?hg (N := 3) ?hd (cs := #[.int .i64 0, .int .i64 0, .int .i64 0, .string (⟨#[]⟩ : ByteArray), .string (⟨#[]⟩ : ByteArray)]) (t := 111) ?hr ?_; (case hd => rfl); (case hg => rfl); (case hr => first | (go_simp; done) | (go_simp; rfl)); intro gb199 hg w12 hbox hb; have n0_ := Aside0.mk (below_step (by repeat (first | (with_reducible first | exact HB.out | apply below_alloc | apply pw_below_drewN | apply below_drew1) | exact HB.out)) hb); have n1_ := Aside0.mk (hbox); have n2_ := Aside0.mk ((by rw [hg]; exact (below_size (by repeat (first | (with_reducible first | exact HB.out | apply below_alloc | apply pw_below_drewN | apply below_drew1) | exact HB.out))) : w.heap.size ≤ gb199)); have n3_ := Aside0.mk ((by rw [hg]; exact (below_size (by repeat (first | (with_reducible first | exact HB.out | apply below_alloc | apply pw_below_drewN | apply below_drew1) | exact HB.out))) : w.heap.size ≤ gb199)); clear HB; have HB := n0_; have BK199 := n1_; have GW199 := n2_; have GE199 := n3_; clear n0_ n1_ n2_ n3_; clear hb hbox hg; have hcz13_0 : w12.cell? ⟨gb199, 0, none⟩ = some (.int .i64 0) := (blk_cell BK199.out 0).trans rfl; have hcz13_1 : w12.cell? ⟨gb199, 1, none⟩ = some (.int .i64 0) := (blk_cell BK199.out 1).trans rfl; have hcz13_2 : w12.cell? ⟨gb199, 2, none⟩ = some (.int .i64 0) := (blk_cell BK199.out 2).trans rfl; have hcz13_3 : w12.cell? ⟨gb199, 3, none⟩ = some (.string (⟨#[]⟩ : ByteArray)) := (blk_cell BK199.out 3).trans rfl; have hcz13_4 : w12.cell? ⟨gb199, 4, none⟩ = some (.string (⟨#[]⟩ : ByteArray)) := (blk_cell BK199.out 4).trans rfl; have hfz13_0 := blk_frozen BK199.out 0; have hfz13_1 := blk_frozen BK199.out 1; have hfz13_2 := blk_frozen BK199.out 2; have hfz13_3 := blk_frozen BK199.out 3; have hfz13_4 := blk_frozen BK199.out 4) | (go_at_call 60; (with_reducible refine (strings_HasPrefix.calls a0 (⟨#[49, 46]⟩ : ByteArray) true _ A6.out).mono ?_); rintro e w' ⟨rfl, ⟨nd, rfl⟩⟩) | (go_at_call 81; (with_reducible refine (strings_Count.calls a0 (⟨#[46]⟩ : ByteArray) t201 _ A8.out).mono ?_); rintro e w' ⟨rfl, ⟨nd, rfl⟩⟩) | (go_at_call 82; (with_reducible refine (strings_ContainsAny.calls a0 (⟨#[45, 43]⟩ : ByteArray) t202 _ A10.out).mono ?_); rintro e w14 ⟨rfl, hb⟩; have n0_ := Aside0.mk (blk_below (g := gb199) (o := .cells #[.int .i64 t193, .int .i64 t194, .int .i64 t195, .string t196, .string t197] 111 (0, 0)) (by (with_reducible repeat (first | refine blk_drewN ?_ _ | refine blk_drew ?_ | refine blk_alloc ?_ _)); refine blk_put (cs := #[.int .i64 t193, .int .i64 t194, .int .i64 t195, .string t196, .string (⟨#[]⟩ : ByteArray)]) ?_ 4 _ rfl; (with_reducible repeat (first | refine blk_drewN ?_ _ | refine blk_drew ?_ | refine blk_alloc ?_ _)); refine blk_put (cs := #[.int .i64 t193, .int .i64 t194, .int .i64 t195, .string (⟨#[]⟩ : ByteArray), .string (⟨#[]⟩ : ByteArray)]) ?_ 3 _ rfl; (with_reducible repeat (first | refine blk_drewN ?_ _ | refine blk_drew ?_ | refine blk_alloc ?_ _)); refine blk_put (cs := #[.int .i64 t193, .int .i64 t194, .int .i64 0, .string (⟨#[]⟩ : ByteArray), .string (⟨#[]⟩ : ByteArray)]) ?_ 2 _ rfl; (with_reducible repeat (first | refine blk_drewN ?_ _ | refine blk_drew ?_ | refine blk_alloc ?_ _)); refine blk_put (cs := #[.int .i64 t193, .int .i64 0, .int .i64 0, .string (⟨#[]⟩ : ByteArray), .string (⟨#[]⟩ : ByteArray)]) ?_ 1 _ rfl; (with_reducible repeat (first | refine blk_drewN ?_ _ | refine blk_drew ?_ | refine blk_alloc ?_ _)); refine blk_put (cs := #[.int .i64 0, .int .i64 0, .int .i64 0, .string (⟨#[]⟩ : ByteArray), .string (⟨#[]⟩ : ByteArray)]) ?_ 0 _ rfl; (with_reducible repeat (first | refine blk_drewN ?_ _ | refine blk_drew ?_ | refine blk_alloc ?_ _)); exact BK199.out) hb); have n1_ := Aside0.mk (below_step (by repeat (first | (with_reducible first | exact HB.out | apply below_alloc | apply pw_below_drewN | apply below_drew1 | refine below_set ?_ GE199.out) | exact HB.out)) hb); clear BK199; clear HB; have BK199 := n0_; have HB := n1_; clear n0_ n1_; (try clear hb); (try clear hb2); (try clear hk); (try clear hi)))
      go_ret
      exact ⟨by first | rfl | (simp [errW_none, errW_some] <;> rfl) | (simp [*, errW_none, errW_some] <;> rfl) | (exfalso; simp_all; done) | (exfalso; omega), by repeat (first | (with_reducible first | exact HB.out | apply below_alloc | apply pw_below_drewN | apply below_drew1 | refine below_set ?_ GE199.out) | exact HB.out)⟩
     ·rw [if_neg c9] at H
      have c9b0 : (t201 == 1) = false := beq_eq_false_iff_ne.mpr c9
      have c9b1 : (t201 != 1) = true := bne_iff_ne.mpr c9
      obtain rfl := Option.some.inj H
      go_enter Tryz.func51, Tryz.ntmps51
      go_wp2_with (first | ((with_reducible refine gate_callee (f := 80) rfl ?_); refine goesL_ (some 9) rfl rfl Tryz.func80 (by kernel_rfl) rfl #[.string (((⟨#[118]⟩ : ByteArray) ++ a0) ++ (⟨#[46, 48]⟩ : ByteArray))] rfl (by (try simp only [List.map_toArray, List.map_cons, List.map_nil]); first | done | rfl | (simp only [List.length_drop, List.length_take]; rfl)) ?_; (with_reducible refine (semver_Parse.calls (((⟨#[118]⟩ : ByteArray) ++ a0) ++ (⟨#[46, 48]⟩ : ByteArray)) t193 t194 t195 t196 t197 t198 _ A4.out).mono ?_); rintro e w15 ⟨rfl, hb⟩; refine ⟨_, rfl, ?_⟩; have n0_ := Aside0.mk (below_step (by repeat (first | (with_reducible first | exact HB.out | apply below_alloc | apply pw_below_drewN | apply below_drew1) | exact HB.out)) hb); clear HB; have HB := n0_; clear n0_; (try clear hb); (try clear hb2); (try clear hk); (try clear hi)) | ((with_reducible refine gate_dst (N := 3) rfl ?_); refine box_event ?hg (N := 3) ?hd (cs := #[.int .i64 0, .int .i64 0, .int .i64 0, .string (⟨#[]⟩ : ByteArray), .string (⟨#[]⟩ : ByteArray)]) (t := 111) ?hr ?_; (case hd => rfl); (case hg => rfl); (case hr => first | (go_simp; done) | (go_simp; rfl)); intro gb199 hg w16 hbox hb; have n0_ := Aside0.mk (below_step (by repeat (first | (with_reducible first | exact HB.out | apply below_alloc | apply pw_below_drewN | apply below_drew1) | exact HB.out)) hb); have n1_ := Aside0.mk (hbox); have n2_ := Aside0.mk ((by rw [hg]; exact (below_size (by repeat (first | (with_reducible first | exact HB.out | apply below_alloc | apply pw_below_drewN | apply below_drew1) | exact HB.out))) : w.heap.size ≤ gb199)); have n3_ := Aside0.mk ((by rw [hg]; exact (below_size (by repeat (first | (with_reducible first | exact HB.out | apply below_alloc | apply pw_below_drewN | apply below_drew1) | exact HB.out))) : w.heap.size ≤ gb199)); clear HB; have HB := n0_; have BK199 := n1_; have GW199 := n2_; have GE199 := n3_; clear n0_ n1_ n2_ n3_; clear hb hbox hg; have hcz17_0 : w16.cell? ⟨gb199, 0, none⟩ = some (.int .i64 0) := (blk_cell BK199.out 0).trans rfl; have hcz17_1 : w16.cell? ⟨gb199, 1, none⟩ = some (.int .i64 0) := (blk_cell BK199.out 1).trans rfl; have hcz17_2 : w16.cell? ⟨gb199, 2, none⟩ = some (.int .i64 0) := (blk_cell BK199.out 2).trans rfl; have hcz17_3 : w16.cell? ⟨gb199, 3, none⟩ = some (.string (⟨#[]⟩ : ByteArray)) := (blk_cell BK199.out 3).trans rfl; have hcz17_4 : w16.cell? ⟨gb199, 4, none⟩ = some (.string (⟨#[]⟩ : ByteArray)) := (blk_cell BK199.out 4).trans rfl; have hfz17_0 := blk_frozen BK199.out 0; have hfz17_1 := blk_frozen BK199.out 1; have hfz17_2 := blk_frozen BK199.out 2; have hfz17_3 := blk_frozen BK199.out 3; have hfz17_4 := blk_frozen BK199.out 4) | (go_at_call 60; (with_reducible refine (strings_HasPrefix.calls a0 (⟨#[49, 46]⟩ : ByteArray) true _ A6.out).mono ?_); rintro e w' ⟨rfl, ⟨nd, rfl⟩⟩) | (go_at_call 81; (with_reducible refine (strings_Count.calls a0 (⟨#[46]⟩ : ByteArray) t201 _ A8.out).mono ?_); rintro e w' ⟨rfl, ⟨nd, rfl⟩⟩))
      go_ret
      exact ⟨by first | rfl | (simp [errW_none, errW_some] <;> rfl) | (simp [*, errW_none, errW_some] <;> rfl) | (exfalso; simp_all; done) | (exfalso; omega), by repeat (first | (with_reducible first | exact HB.out | apply below_alloc | apply pw_below_drewN | apply below_drew1 | refine below_set ?_ GE199.out) | exact HB.out)⟩
    ·replace c7 := Bool.eq_false_iff.mpr c7
     subst c7
     have H1 : (some false) = some r := by rw [if_neg (show ¬ (false = true) by decide)] at H; exact H
     clear H
     have H := H1
     clear H1
     obtain rfl := Option.some.inj H
     go_enter Tryz.func51, Tryz.ntmps51
     go_wp2_with (first | ((with_reducible refine gate_callee (f := 80) rfl ?_); refine goesL_ (some 9) rfl rfl Tryz.func80 (by kernel_rfl) rfl #[.string (((⟨#[118]⟩ : ByteArray) ++ a0) ++ (⟨#[46, 48]⟩ : ByteArray))] rfl (by (try simp only [List.map_toArray, List.map_cons, List.map_nil]); first | done | rfl | (simp only [List.length_drop, List.length_take]; rfl)) ?_; (with_reducible refine (semver_Parse.calls (((⟨#[118]⟩ : ByteArray) ++ a0) ++ (⟨#[46, 48]⟩ : ByteArray)) t193 t194 t195 t196 t197 t198 _ A4.out).mono ?_); rintro e w18 ⟨rfl, hb⟩; refine ⟨_, rfl, ?_⟩; have n0_ := Aside0.mk (below_step (by repeat (first | (with_reducible first | exact HB.out | apply below_alloc | apply pw_below_drewN | apply below_drew1) | exact HB.out)) hb); clear HB; have HB := n0_; clear n0_; (try clear hb); (try clear hb2); (try clear hk); (try clear hi)) | ((with_reducible refine gate_dst (N := 3) rfl ?_); refine box_event ?hg (N := 3) ?hd (cs := #[.int .i64 0, .int .i64 0, .int .i64 0, .string (⟨#[]⟩ : ByteArray), .string (⟨#[]⟩ : ByteArray)]) (t := 111) ?hr ?_; (case hd => rfl); (case hg => rfl); (case hr => first | (go_simp; done) | (go_simp; rfl)); intro gb199 hg w19 hbox hb; have n0_ := Aside0.mk (below_step (by repeat (first | (with_reducible first | exact HB.out | apply below_alloc | apply pw_below_drewN | apply below_drew1) | exact HB.out)) hb); have n1_ := Aside0.mk (hbox); have n2_ := Aside0.mk ((by rw [hg]; exact (below_size (by repeat (first | (with_reducible first | exact HB.out | apply below_alloc | apply pw_below_drewN | apply below_drew1) | exact HB.out))) : w.heap.size ≤ gb199)); have n3_ := Aside0.mk ((by rw [hg]; exact (below_size (by repeat (first | (with_reducible first | exact HB.out | apply below_alloc | apply pw_below_drewN | apply below_drew1) | exact HB.out))) : w.heap.size ≤ gb199)); clear HB; have HB := n0_; have BK199 := n1_; have GW199 := n2_; have GE199 := n3_; clear n0_ n1_ n2_ n3_; clear hb hbox hg; have hcz20_0 : w19.cell? ⟨gb199, 0, none⟩ = some (.int .i64 0) := (blk_cell BK199.out 0).trans rfl; have hcz20_1 : w19.cell? ⟨gb199, 1, none⟩ = some (.int .i64 0) := (blk_cell BK199.out 1).trans rfl; have hcz20_2 : w19.cell? ⟨gb199, 2, none⟩ = some (.int .i64 0) := (blk_cell BK199.out 2).trans rfl; have hcz20_3 : w19.cell? ⟨gb199, 3, none⟩ = some (.string (⟨#[]⟩ : ByteArray)) := (blk_cell BK199.out 3).trans rfl; have hcz20_4 : w19.cell? ⟨gb199, 4, none⟩ = some (.string (⟨#[]⟩ : ByteArray)) := (blk_cell BK199.out 4).trans rfl; have hfz20_0 := blk_frozen BK199.out 0; have hfz20_1 := blk_frozen BK199.out 1; have hfz20_2 := blk_frozen BK199.out 2; have hfz20_3 := blk_frozen BK199.out 3; have hfz20_4 := blk_frozen BK199.out 4) | (go_at_call 60; (with_reducible refine (strings_HasPrefix.calls a0 (⟨#[49, 46]⟩ : ByteArray) false _ A6.out).mono ?_); rintro e w' ⟨rfl, ⟨nd, rfl⟩⟩))
     go_ret
     exact ⟨by first | rfl | (simp [errW_none, errW_some] <;> rfl) | (simp [*, errW_none, errW_some] <;> rfl) | (exfalso; simp_all; done) | (exfalso; omega), by repeat (first | (with_reducible first | exact HB.out | apply below_alloc | apply pw_below_drewN | apply below_drew1 | refine below_set ?_ GE199.out) | exact HB.out)⟩
   ·rw [if_neg c5] at H
    have c5b0 : (t198 == 0) = false := beq_eq_false_iff_ne.mpr c5
    have c5b1 : (t198 != 0) = true := bne_iff_ne.mpr c5
    obtain rfl := Option.some.inj H
    go_enter Tryz.func51, Tryz.ntmps51
    go_wp2_with (first | ((with_reducible refine gate_callee (f := 80) rfl ?_); refine goesL_ (some 9) rfl rfl Tryz.func80 (by kernel_rfl) rfl #[.string (((⟨#[118]⟩ : ByteArray) ++ a0) ++ (⟨#[46, 48]⟩ : ByteArray))] rfl (by (try simp only [List.map_toArray, List.map_cons, List.map_nil]); first | done | rfl | (simp only [List.length_drop, List.length_take]; rfl)) ?_; (with_reducible refine (semver_Parse.calls (((⟨#[118]⟩ : ByteArray) ++ a0) ++ (⟨#[46, 48]⟩ : ByteArray)) t193 t194 t195 t196 t197 t198 _ A4.out).mono ?_); rintro e w21 ⟨rfl, hb⟩; refine ⟨_, rfl, ?_⟩; have n0_ := Aside0.mk (below_step (by repeat (first | (with_reducible first | exact HB.out | apply below_alloc | apply pw_below_drewN | apply below_drew1) | exact HB.out)) hb); clear HB; have HB := n0_; clear n0_; (try clear hb); (try clear hb2); (try clear hk); (try clear hi)) | ((with_reducible refine gate_dst (N := 3) rfl ?_); refine box_event ?hg (N := 3) ?hd (cs := #[.int .i64 0, .int .i64 0, .int .i64 0, .string (⟨#[]⟩ : ByteArray), .string (⟨#[]⟩ : ByteArray)]) (t := 111) ?hr ?_; (case hd => rfl); (case hg => rfl); (case hr => first | (go_simp; done) | (go_simp; rfl)); intro gb199 hg w22 hbox hb; have n0_ := Aside0.mk (below_step (by repeat (first | (with_reducible first | exact HB.out | apply below_alloc | apply pw_below_drewN | apply below_drew1) | exact HB.out)) hb); have n1_ := Aside0.mk (hbox); have n2_ := Aside0.mk ((by rw [hg]; exact (below_size (by repeat (first | (with_reducible first | exact HB.out | apply below_alloc | apply pw_below_drewN | apply below_drew1) | exact HB.out))) : w.heap.size ≤ gb199)); have n3_ := Aside0.mk ((by rw [hg]; exact (below_size (by repeat (first | (with_reducible first | exact HB.out | apply below_alloc | apply pw_below_drewN | apply below_drew1) | exact HB.out))) : w.heap.size ≤ gb199)); clear HB; have HB := n0_; have BK199 := n1_; have GW199 := n2_; have GE199 := n3_; clear n0_ n1_ n2_ n3_; clear hb hbox hg; have hcz23_0 : w22.cell? ⟨gb199, 0, none⟩ = some (.int .i64 0) := (blk_cell BK199.out 0).trans rfl; have hcz23_1 : w22.cell? ⟨gb199, 1, none⟩ = some (.int .i64 0) := (blk_cell BK199.out 1).trans rfl; have hcz23_2 : w22.cell? ⟨gb199, 2, none⟩ = some (.int .i64 0) := (blk_cell BK199.out 2).trans rfl; have hcz23_3 : w22.cell? ⟨gb199, 3, none⟩ = some (.string (⟨#[]⟩ : ByteArray)) := (blk_cell BK199.out 3).trans rfl; have hcz23_4 : w22.cell? ⟨gb199, 4, none⟩ = some (.string (⟨#[]⟩ : ByteArray)) := (blk_cell BK199.out 4).trans rfl; have hfz23_0 := blk_frozen BK199.out 0; have hfz23_1 := blk_frozen BK199.out 1; have hfz23_2 := blk_frozen BK199.out 2; have hfz23_3 := blk_frozen BK199.out 3; have hfz23_4 := blk_frozen BK199.out 4))
    go_ret
    exact ⟨by first | rfl | (simp [errW_none, errW_some] <;> rfl) | (simp [*, errW_none, errW_some] <;> rfl) | (exfalso; simp_all; done) | (exfalso; omega), by repeat (first | (with_reducible first | exact HB.out | apply below_alloc | apply pw_below_drewN | apply below_drew1 | refine below_set ?_ GE199.out) | exact HB.out)⟩
  ·rw [if_neg c3] at H
   exact absurd H (by simp)
 ·rw [if_neg c2] at H
  exact absurd H (by simp)
end Go.Proofs.YtcdcpcdfcmokkaaGreatDoor.P
end
section
namespace Go.Proofs.YtcdcpcdfcmokkaaGreatDoor.P
open Go.RowKit Go.Proofs.YtcdcpcdfcmokkaaGreatDoorW.PrintWords Go.Proofs.YtcdcpcdfcmokkaaGreatDoorW.PrintLast Go.Proofs.YtcdcpcdfcmokkaaGreatDoorW.PrintMore
open Go.Proofs.YtcdcpcdfcmokkaaGreatDoor (str_gtr str_leq str_geq bne_empty)
attribute [local go_sem] max2_int min2_int max_two min_two max_three min_three max_four min_four str_gtr str_leq str_geq   -- for this text's walks alone
set_option linter.unusedVariables false
set_option linter.unusedSimpArgs false
def graftbedref05_begins.f (a0 : ByteArray) (a1 : ByteArray) : Option (Bool) := if (a0.size : Int) ≥ (a1.size : Int) then (if 0 ≤ (a1.size : Int) then (if (a1.size : Int) ≤ (a0.size : Int) then (some ((a0.extract 0 ((a1.size : Int) : Int).toNat).toList == a1.toList)) else (none)) else (none)) else (some false)
set_option maxHeartbeats 8000000 in
set_option maxRecDepth 100000 in
theorem graftbedref05_begins.calls (a0 : ByteArray) (a1 : ByteArray) (r : Bool) (w : World) (h : graftbedref05_begins.f a0 a1 = some r) :
  Calls Tryz.prog 66 #[.string a0, .string a1] w fun e w' => e = .returned (.bool r) ∧ Drawn0 w w' := by
 have H : (if (a0.size : Int) ≥ (a1.size : Int) then (if 0 ≤ (a1.size : Int) then (if (a1.size : Int) ≤ (a0.size : Int) then (some ((a0.extract 0 ((a1.size : Int) : Int).toNat).toList == a1.toList)) else (none)) else (none)) else (some false)) = some r := h
 clear h
 by_cases c3 : (a0.size : Int) ≥ (a1.size : Int)
 ·rw [if_pos c3] at H
  have c3b0 : decide ((a1.size : Int) ≤ (a0.size : Int)) = true := decide_eq_true c3
  have c3b1 : decide (a1.size ≤ a0.size) = true := decide_eq_true (Int.ofNat_le.mp c3)
  clear c3
  by_cases c4 : 0 ≤ (a1.size : Int)
  ·rw [if_pos c4] at H
   have c4b0 := eq_true c4
   have c4b1 : decide (0 ≤ (a1.size : Int)) = true := decide_eq_true c4
   clear c4
   by_cases c5 : (a1.size : Int) ≤ (a0.size : Int)
   ·rw [if_pos c5] at H
    have c5b0 := eq_true c5
    have c5b1 : decide ((a1.size : Int) ≤ (a0.size : Int)) = true := decide_eq_true c5
    clear c5
    obtain rfl := Option.some.inj H
    go_enter Tryz.func66, Tryz.ntmps66
    go_wp2
    go_ret
    exact ⟨by first | rfl | (simp; done) | (simp [*]; done) | (simp [bne_empty, *]; done), by repeat (first | exact Drawn0.refl _ | apply Drawn0.step)⟩
   ·rw [if_neg c5] at H
    exact absurd H (by simp)
  ·rw [if_neg c4] at H
   exact absurd H (by simp)
 ·rw [if_neg c3] at H
  have c3b0 : decide ((a1.size : Int) ≤ (a0.size : Int)) = false := decide_eq_false c3
  have c3b1 : decide (a1.size ≤ a0.size) = false := decide_eq_false (fun h => c3 (Int.ofNat_le.mpr h))
  clear c3
  obtain rfl := Option.some.inj H
  go_enter Tryz.func66, Tryz.ntmps66
  go_wp2
  go_ret
  exact ⟨by first | rfl | (simp; done) | (simp [*]; done) | (simp [bne_empty, *]; done), by repeat (first | exact Drawn0.refl _ | apply Drawn0.step)⟩
end Go.Proofs.YtcdcpcdfcmokkaaGreatDoor.P
end
section
namespace Go.Proofs.YtcdcpcdfcmokkaaGreatDoor.P
open Go.RowKit Go.Proofs.YtcdcpcdfcmokkaaGreatDoorW.PrintWords Go.Proofs.YtcdcpcdfcmokkaaGreatDoorW.PrintLast Go.Proofs.YtcdcpcdfcmokkaaGreatDoorW.PrintMore
open Go.Proofs.YtcdcpcdfcmokkaaGreatDoor (str_gtr str_leq str_geq bne_empty)
attribute [local go_sem] max2_int min2_int max_two min_two max_three min_three max_four min_four str_gtr str_leq str_geq   -- for this text's walks alone
set_option linter.unusedVariables false
set_option linter.unusedSimpArgs false
mutual
def graftbedref05_Local.j0 : Nat → ByteArray → Bool → Option (Bool)
 | 0, _, _ => none
 | k + 1, x0, x10 => if x10 = true then (some false) else (graftbedref05_Local.l0 k x0)
def graftbedref05_Local.l0 : Nat → ByteArray → Option (Bool)
 | 0, _ => none
 | k + 1, x0 => (graftbedref05_begins.f x0 (⟨#[46, 47]⟩ : ByteArray)).bind fun t303 => (if t303 = true then (graftbedref05_Local.j2 k x0 true) else ((graftbedref05_begins.f x0 (⟨#[46, 46, 47]⟩ : ByteArray)).bind fun t304 => (graftbedref05_Local.j2 k x0 t304)))
def graftbedref05_Local.j2 : Nat → ByteArray → Bool → Option (Bool)
 | 0, _, _ => none
 | k + 1, x0, x16 => if x16 = true then ((graftbedref05_begins.f x0 (⟨#[46, 47]⟩ : ByteArray)).bind fun t305 => (if t305 = true then (if 2 ≤ (x0.size : Int) then (graftbedref05_Local.l0 k (x0.extract 2 x0.size)) else (none)) else (if 3 ≤ (x0.size : Int) then (graftbedref05_Local.l0 k (x0.extract 3 x0.size)) else (none)))) else (if x0.toList = ([] : List UInt8) then (some true) else ((graftbedref01_Valid.f k x0).bind fun t306 => (some t306)))
end
def graftbedref05_Local.f (k : Nat) (a0 : ByteArray) : Option (Bool) := (graftbedref05_begins.f a0 (⟨#[46, 47]⟩ : ByteArray)).bind fun t301 => (if t301 = true then (graftbedref05_Local.j0 k a0 false) else ((graftbedref05_begins.f a0 (⟨#[46, 46, 47]⟩ : ByteArray)).bind fun t302 => (graftbedref05_Local.j0 k a0 (!t302))))
set_option maxHeartbeats 8000000 in
set_option maxRecDepth 100000 in
theorem graftbedref05_Local.calls (k : Nat) (a0 : ByteArray) (r : Bool) (w : World) (h : graftbedref05_Local.f k a0 = some r) :
  Calls Tryz.prog 96 #[.string a0] w fun e w' => e = .returned (.bool r) ∧ Below w.heap.size w w' := by
 have HB := Aside0.mk (Below.refl w.heap.size w)
 have H : ((graftbedref05_begins.f a0 (⟨#[46, 47]⟩ : ByteArray)).bind fun t301 => (if t301 = true then (graftbedref05_Local.j0 k a0 false) else ((graftbedref05_begins.f a0 (⟨#[46, 46, 47]⟩ : ByteArray)).bind fun t302 => (graftbedref05_Local.j0 k a0 (!t302))))) = some r := h
 clear h
 have HC2 := Aside0.mk H
 clear H
 go_enter Tryz.func96, Tryz.ntmps96
 go_upto_region 1 with (fail)
 go_cut [10] (fun v10 wc => ∃ (kq : Nat) (x10_1 : Bool), v10 = .bool x10_1 ∧ Aside0 (graftbedref05_Local.j0 kq a0 x10_1 = some r) ∧ Aside0 (kq ≤ k) ∧ Aside0 (Below w.heap.size w wc))
 case first =>
  have H := HC2.out
  clear HC2
  replace H := Option.bind_eq_some_iff.mp H
  obtain ⟨t301, A30, H⟩ := H
  replace H : (if t301 = true then (graftbedref05_Local.j0 k a0 false) else ((graftbedref05_begins.f a0 (⟨#[46, 46, 47]⟩ : ByteArray)).bind fun t302 => (graftbedref05_Local.j0 k a0 (!t302)))) = some r := H
  have A3 := Aside0.mk A30
  clear A30
  by_cases c4 : t301 = true
  ·subst c4
   have H1 : (graftbedref05_Local.j0 k a0 false) = some r := by rw [if_pos rfl] at H; exact H
   clear H
   have H := H1
   clear H1
   have H' := Aside0.mk H
   clear H
   go_wp2_with (first | ((with_reducible refine gate_callee (f := 66) rfl ?_); refine goesL_ (some 4) rfl rfl Tryz.func66 (by kernel_rfl) rfl #[.string a0, .string (⟨#[46, 47]⟩ : ByteArray)] rfl (by (try simp only [List.map_toArray, List.map_cons, List.map_nil]); first | done | rfl | (simp only [List.length_drop, List.length_take]; rfl)) ?_; (with_reducible refine (graftbedref05_begins.calls a0 (⟨#[46, 47]⟩ : ByteArray) true _ A3.out).mono ?_); rintro e w' ⟨rfl, ⟨nd, rfl⟩⟩; refine ⟨_, rfl, ?_⟩))
   go_meet
   case rel => exact ⟨_, (false), (by first | rfl | (simp; done) | (simp [*]; done) | (simp [bne_empty, *]; done)), H', ⟨by first | omega | exact Nat.le_refl _⟩, ⟨by repeat (first | (with_reducible first | exact HB.out | apply below_alloc | apply pw_below_drewN | apply below_drew1) | exact HB.out)⟩⟩
  ·replace c4 := Bool.eq_false_iff.mpr c4
   subst c4
   have H1 : ((graftbedref05_begins.f a0 (⟨#[46, 46, 47]⟩ : ByteArray)).bind fun t302 => (graftbedref05_Local.j0 k a0 (!t302))) = some r := by rw [if_neg (show ¬ (false = true) by decide)] at H; exact H
   clear H
   have H := H1
   clear H1
   replace H := Option.bind_eq_some_iff.mp H
   obtain ⟨t302, A50, H⟩ := H
   replace H : (graftbedref05_Local.j0 k a0 (!t302)) = some r := H
   have A5 := Aside0.mk A50
   clear A50
   have H' := Aside0.mk H
   clear H
   go_wp2_with (first | ((with_reducible refine gate_callee (f := 66) rfl ?_); refine goesL_ (some 4) rfl rfl Tryz.func66 (by kernel_rfl) rfl #[.string a0, .string (⟨#[46, 47]⟩ : ByteArray)] rfl (by (try simp only [List.map_toArray, List.map_cons, List.map_nil]); first | done | rfl | (simp only [List.length_drop, List.length_take]; rfl)) ?_; (with_reducible refine (graftbedref05_begins.calls a0 (⟨#[46, 47]⟩ : ByteArray) false _ A3.out).mono ?_); rintro e w' ⟨rfl, ⟨nd, rfl⟩⟩; refine ⟨_, rfl, ?_⟩) | (go_at_call 66; (with_reducible refine (graftbedref05_begins.calls a0 (⟨#[46, 46, 47]⟩ : ByteArray) t302 _ A5.out).mono ?_); rintro e w' ⟨rfl, ⟨nd, rfl⟩⟩))
   go_meet
   case rel => exact ⟨_, (!t302), (by first | rfl | (simp; done) | (simp [*]; done) | (simp [bne_empty, *]; done)), H', ⟨by first | omega | exact Nat.le_refl _⟩, ⟨by repeat (first | (with_reducible first | exact HB.out | apply below_alloc | apply pw_below_drewN | apply below_drew1) | exact HB.out)⟩⟩
 case rest =>
  clear HC2
  try clear p2
  try clear c4
  obtain ⟨kq, x10_1, rfl, HA, HJ1, HB⟩ := hcut
  cases kq with
  | zero => exact absurd HA.out (by simp [graftbedref05_Local.j0])
  | succ kj1 =>
   have H := HA.out
   clear HA
   simp only [graftbedref05_Local.j0] at H
   by_cases c6 : x10_1 = true
   ·subst c6
    have H1 : (some false) = some r := by rw [if_pos rfl] at H; exact H
    clear H
    have H := H1
    clear H1
    obtain rfl := Option.some.inj H
    go_wp2
    go_ret
    exact ⟨by first | rfl | (simp [errW_none, errW_some] <;> rfl) | (simp [*, errW_none, errW_some] <;> rfl) | (exfalso; simp_all; done) | (exfalso; omega), by repeat (first | (with_reducible first | exact HB.out | apply below_alloc | apply pw_below_drewN | apply below_drew1) | exact HB.out)⟩
   ·replace c6 := Bool.eq_false_iff.mpr c6
    subst c6
    have H1 : (graftbedref05_Local.l0 kj1 a0) = some r := by rw [if_neg (show ¬ (false = true) by decide)] at H; exact H
    clear H
    have H := H1
    clear H1
    have H' := Aside0.mk H
    clear H
    go_wp2
    go_loopg [0] kj1 (fun kq v0 w' => ∃ (x0_2 : ByteArray), v0 = .string x0_2 ∧ Aside0 (graftbedref05_Local.l0 kq x0_2 = some r) ∧ Aside0 (kq ≤ kj1) ∧ Aside0 (Below w.heap.size w w'))
    case atStart => exact ⟨(a0), (by first | rfl | (simp; done) | (simp [*]; done) | (simp [bne_empty, *]; done)), H', ⟨Nat.le_refl _⟩, ⟨by repeat (first | (with_reducible first | exact HB.out | apply below_alloc | apply pw_below_drewN | apply below_drew1) | exact HB.out)⟩⟩
    case round =>
     clear H'
     try clear p2
     try clear c4
     try clear c6
     try clear p2
     obtain ⟨x0_2, rfl, HA, HK2, HB⟩ := hrel
     cases gk with
     | zero => exact absurd HA.out (by simp [graftbedref05_Local.l0])
     | succ k2 =>
      have H := HA.out
      clear HA
      simp only [graftbedref05_Local.l0] at H
      have HC7 := Aside0.mk H
      clear H
      go_upto_region 3 with (fail)
      go_cut [16] (fun v16 wc => ∃ (kq : Nat) (x16_6 : Bool), v16 = .bool x16_6 ∧ Aside0 (graftbedref05_Local.j2 kq x0_2 x16_6 = some r) ∧ Aside0 (kq ≤ k2) ∧ Aside0 (Below w.heap.size w wc))
      case first =>
       have H := HC7.out
       clear HC7
       replace H := Option.bind_eq_some_iff.mp H
       obtain ⟨t303, A80, H⟩ := H
       replace H : (if t303 = true then (graftbedref05_Local.j2 k2 x0_2 true) else ((graftbedref05_begins.f x0_2 (⟨#[46, 46, 47]⟩ : ByteArray)).bind fun t304 => (graftbedref05_Local.j2 k2 x0_2 t304))) = some r := H
       have A8 := Aside0.mk A80
       clear A80
       by_cases c9 : t303 = true
       ·subst c9
        have H1 : (graftbedref05_Local.j2 k2 x0_2 true) = some r := by rw [if_pos rfl] at H; exact H
        clear H
        have H := H1
        clear H1
        have H' := Aside0.mk H
        clear H
        go_wp2_with (first | ((with_reducible refine gate_callee (f := 66) rfl ?_); refine goesL_ (some 12) rfl rfl Tryz.func66 (by kernel_rfl) rfl #[.string x0_2, .string (⟨#[46, 47]⟩ : ByteArray)] rfl (by (try simp only [List.map_toArray, List.map_cons, List.map_nil]); first | done | rfl | (simp only [List.length_drop, List.length_take]; rfl)) ?_; (with_reducible refine (graftbedref05_begins.calls x0_2 (⟨#[46, 47]⟩ : ByteArray) true _ A8.out).mono ?_); rintro e w' ⟨rfl, ⟨nd, rfl⟩⟩; refine ⟨_, rfl, ?_⟩))
        go_meet
        case rel => exact ⟨_, (true), (by first | rfl | (simp; done) | (simp [*]; done) | (simp [bne_empty, *]; done)), H', ⟨by have := HJ1.out; have := HK2.out; first | omega | exact Nat.le_refl _⟩, ⟨by repeat (first | (with_reducible first | exact HB.out | apply below_alloc | apply pw_below_drewN | apply below_drew1) | exact HB.out)⟩⟩
       ·replace c9 := Bool.eq_false_iff.mpr c9
        subst c9
        have H1 : ((graftbedref05_begins.f x0_2 (⟨#[46, 46, 47]⟩ : ByteArray)).bind fun t304 => (graftbedref05_Local.j2 k2 x0_2 t304)) = some r := by rw [if_neg (show ¬ (false = true) by decide)] at H; exact H
        clear H
        have H := H1
        clear H1
        replace H := Option.bind_eq_some_iff.mp H
        obtain ⟨t304, A100, H⟩ := H
        replace H : (graftbedref05_Local.j2 k2 x0_2 t304) = some r := H
        have A10 := Aside0.mk A100
        clear A100
        have H' := Aside0.mk H
        clear H
        go_wp2_with (first | ((with_reducible refine gate_callee (f := 66) rfl ?_); refine goesL_ (some 12) rfl rfl Tryz.func66 (by kernel_rfl) rfl #[.string x0_2, .string (⟨#[46, 47]⟩ : ByteArray)] rfl (by (try simp only [List.map_toArray, List.map_cons, List.map_nil]); first | done | rfl | (simp only [List.length_drop, List.length_take]; rfl)) ?_; (with_reducible refine (graftbedref05_begins.calls x0_2 (⟨#[46, 47]⟩ : ByteArray) false _ A8.out).mono ?_); rintro e w' ⟨rfl, ⟨nd, rfl⟩⟩; refine ⟨_, rfl, ?_⟩) | (go_at_call 66; (with_reducible refine (graftbedref05_begins.calls x0_2 (⟨#[46, 46, 47]⟩ : ByteArray) t304 _ A10.out).mono ?_); rintro e w' ⟨rfl, ⟨nd, rfl⟩⟩))
        go_meet
        case rel => exact ⟨_, (t304), (by first | rfl | (simp; done) | (simp [*]; done) | (simp [bne_empty, *]; done)), H', ⟨by have := HJ1.out; have := HK2.out; first | omega | exact Nat.le_refl _⟩, ⟨by repeat (first | (with_reducible first | exact HB.out | apply below_alloc | apply pw_below_drewN | apply below_drew1) | exact HB.out)⟩⟩
      case rest =>
       clear HC7
       try clear p2
       try clear c4
       try clear c6
       try clear c9
       try clear p2
       obtain ⟨kq, x16_6, rfl, HA, HJ6, HB⟩ := hcut
       cases kq with
       | zero => exact absurd HA.out (by simp [graftbedref05_Local.j2])
       | succ kj6 =>
        have H := HA.out
        clear HA
        simp only [graftbedref05_Local.j2] at H
        by_cases c11 : x16_6 = true
        ·subst c11
         have H1 : ((graftbedref05_begins.f x0_2 (⟨#[46, 47]⟩ : ByteArray)).bind fun t305 => (if t305 = true then (if 2 ≤ (x0_2.size : Int) then (graftbedref05_Local.l0 kj6 (x0_2.extract 2 x0_2.size)) else (none)) else (if 3 ≤ (x0_2.size : Int) then (graftbedref05_Local.l0 kj6 (x0_2.extract 3 x0_2.size)) else (none)))) = some r := by rw [if_pos rfl] at H; exact H
         clear H
         have H := H1
         clear H1
         replace H := Option.bind_eq_some_iff.mp H
         obtain ⟨t305, A120, H⟩ := H
         replace H : (if t305 = true then (if 2 ≤ (x0_2.size : Int) then (graftbedref05_Local.l0 kj6 (x0_2.extract 2 x0_2.size)) else (none)) else (if 3 ≤ (x0_2.size : Int) then (graftbedref05_Local.l0 kj6 (x0_2.extract 3 x0_2.size)) else (none))) = some r := H
         have A12 := Aside0.mk A120
         clear A120
         by_cases c13 : t305 = true
         ·subst c13
          have H1 : (if 2 ≤ (x0_2.size : Int) then (graftbedref05_Local.l0 kj6 (x0_2.extract 2 x0_2.size)) else (none)) = some r := by rw [if_pos rfl] at H; exact H
          clear H
          have H := H1
          clear H1
          by_cases c14 : 2 ≤ (x0_2.size : Int)
          ·rw [if_pos c14] at H
           have c14b0 := eq_true c14
           have c14b1 : decide (2 ≤ (x0_2.size : Int)) = true := decide_eq_true c14
           clear c14
           have H' := Aside0.mk H
           clear H
           go_wp2_with (first | ((with_reducible refine gate_callee (f := 66) rfl ?_); refine goesL_ (some 18) rfl rfl Tryz.func66 (by kernel_rfl) rfl #[.string x0_2, .string (⟨#[46, 47]⟩ : ByteArray)] rfl (by (try simp only [List.map_toArray, List.map_cons, List.map_nil]); first | done | rfl | (simp only [List.length_drop, List.length_take]; rfl)) ?_; (with_reducible refine (graftbedref05_begins.calls x0_2 (⟨#[46, 47]⟩ : ByteArray) true _ A12.out).mono ?_); rintro e w' ⟨rfl, ⟨nd, rfl⟩⟩; refine ⟨_, rfl, ?_⟩))
           go_roundg kj6
           case measure => have := HJ1.out; have := HK2.out; have := HJ6.out; omega
           case rel => exact ⟨(x0_2.extract 2 x0_2.size), (by first | rfl | (simp; done) | (simp [*]; done) | (simp [bne_empty, *]; done)), H', ⟨by have := HJ1.out; have := HK2.out; have := HJ6.out; omega⟩, ⟨by repeat (first | (with_reducible first | exact HB.out | apply below_alloc | apply pw_below_drewN | apply below_drew1) | exact HB.out)⟩⟩
          ·rw [if_neg c14] at H
           exact absurd H (by simp)
         ·replace c13 := Bool.eq_false_iff.mpr c13
          subst c13
          have H1 : (if 3 ≤ (x0_2.size : Int) then (graftbedref05_Local.l0 kj6 (x0_2.extract 3 x0_2.size)) else (none)) = some r := by rw [if_neg (show ¬ (false = true) by decide)] at H; exact H
          clear H
          have H := H1
          clear H1
          by_cases c15 : 3 ≤ (x0_2.size : Int)
          ·rw [if_pos c15] at H
           have c15b0 := eq_true c15
           have c15b1 : decide (3 ≤ (x0_2.size : Int)) = true := decide_eq_true c15
           clear c15
           have H' := Aside0.mk H
           clear H
           go_wp2_with (first | ((with_reducible refine gate_callee (f := 66) rfl ?_); refine goesL_ (some 18) rfl rfl Tryz.func66 (by kernel_rfl) rfl #[.string x0_2, .string (⟨#[46, 47]⟩ : ByteArray)] rfl (by (try simp only [List.map_toArray, List.map_cons, List.map_nil]); first | done | rfl | (simp only [List.length_drop, List.length_take]; rfl)) ?_; (with_reducible refine (graftbedref05_begins.calls x0_2 (⟨#[46, 47]⟩ : ByteArray) false _ A12.out).mono ?_); rintro e w' ⟨rfl, ⟨nd, rfl⟩⟩; refine ⟨_, rfl, ?_⟩))
           go_roundg kj6
           case measure => have := HJ1.out; have := HK2.out; have := HJ6.out; omega
           case rel => exact ⟨(x0_2.extract 3 x0_2.size), (by first | rfl | (simp; done) | (simp [*]; done) | (simp [bne_empty, *]; done)), H', ⟨by have := HJ1.out; have := HK2.out; have := HJ6.out; omega⟩, ⟨by repeat (first | (with_reducible first | exact HB.out | apply below_alloc | apply pw_below_drewN | apply below_drew1) | exact HB.out)⟩⟩
          ·rw [if_neg c15] at H
           exact absurd H (by simp)
        ·replace c11 := Bool.eq_false_iff.mpr c11
         subst c11
         have H1 : (if x0_2.toList = ([] : List UInt8) then (some true) else ((graftbedref01_Valid.f kj6 x0_2).bind fun t306 => (some t306))) = some r := by rw [if_neg (show ¬ (false = true) by decide)] at H; exact H
         clear H
         have H := H1
         clear H1
         by_cases c16 : x0_2.toList = ([] : List UInt8)
         ·rw [if_pos c16] at H
          have c16b0 : (x0_2.toList == ([] : List UInt8)) = true := beq_iff_eq.mpr c16
          have c16bz : (x0_2.toList.isEmpty) = true := by simpa using c16b0
          have c16b1 : (x0_2.toList != ([] : List UInt8)) = false := bne_eq_false_iff_eq.mpr c16
          clear c16
          obtain rfl := Option.some.inj H
          go_wp2
          go_ret
          exact ⟨by first | rfl | (simp [errW_none, errW_some] <;> rfl) | (simp [*, errW_none, errW_some] <;> rfl) | (exfalso; simp_all; done) | (exfalso; omega), by repeat (first | (with_reducible first | exact HB.out | apply below_alloc | apply pw_below_drewN | apply below_drew1) | exact HB.out)⟩
         ·rw [if_neg c16] at H
          have c16b0 : (x0_2.toList == ([] : List UInt8)) = false := beq_eq_false_iff_ne.mpr c16
          have c16bz : (x0_2.toList.isEmpty) = false := by simpa using c16b0
          have c16b1 : (x0_2.toList != ([] : List UInt8)) = true := bne_iff_ne.mpr c16
          replace H := Option.bind_eq_some_iff.mp H
          obtain ⟨t306, A170, H⟩ := H
          replace H : (some t306) = some r := H
          have A17 := Aside0.mk A170
          clear A170
          obtain rfl := Option.some.inj H
          go_wp2_with (first | (go_at_call 68; (with_reducible refine (graftbedref01_Valid.calls kj6 x0_2 t306 _ A17.out).mono ?_); rintro e w18 ⟨rfl, hb⟩; have n0_ := Aside0.mk (below_step (by repeat (first | (with_reducible first | exact HB.out | apply below_alloc | apply pw_below_drewN | apply below_drew1) | exact HB.out)) hb); clear HB; have HB := n0_; clear n0_; (try clear hb); (try clear hb2); (try clear hk); (try clear hi)))
          go_ret
          exact ⟨by first | rfl | (simp [errW_none, errW_some] <;> rfl) | (simp [*, errW_none, errW_some] <;> rfl) | (exfalso; simp_all; done) | (exfalso; omega), by repeat (first | (with_reducible first | exact HB.out | apply below_alloc | apply pw_below_drewN | apply below_drew1) | exact HB.out)⟩
end Go.Proofs.YtcdcpcdfcmokkaaGreatDoor.P
end
