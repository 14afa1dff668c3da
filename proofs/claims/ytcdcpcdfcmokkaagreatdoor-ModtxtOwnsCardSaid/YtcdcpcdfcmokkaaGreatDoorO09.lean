/- semver.order: what it computes. · A region that draws its order, in the body of a range over a closure: the steps of the plain walk serve. -/
import Derived.Test.YtcdcpcdfcmokkaaGreatDoorO05
import Derived.Test.YtcdcpcdfcmokkaaGreatDoorO08
import Derived.Test.YtcdcpcdfcmokkaaGreatDoorO03
import Derived.Test.YtcdcpcdfcmokkaaGreatDoorO02
import Derived.Test.YtcdcpcdfcmokkaaGreatDoorO07
import Derived.OrdersIn
import Derived.OwnWalkIn
import Derived.RangeFuncCalls
set_option linter.unusedVariables false
set_option linter.unusedSimpArgs false
section
namespace Go.Proofs.YtcdcpcdfcmokkaaGreatDoor.P
open Go.RowKit Go.Proofs.YtcdcpcdfcmokkaaGreatDoorW.PrintWords Go.Proofs.YtcdcpcdfcmokkaaGreatDoorW.PrintLast Go.Proofs.YtcdcpcdfcmokkaaGreatDoorW.PrintMore
open Go.Proofs.YtcdcpcdfcmokkaaGreatDoor (str_gtr str_leq str_geq bne_empty)
attribute [local go_sem] max2_int min2_int max_two min_two max_three min_three max_four min_four str_gtr str_leq str_geq   -- for this text's walks alone
set_option linter.unusedVariables false
set_option linter.unusedSimpArgs false
def cmp_Compare_string.f (a0 : ByteArray) (a1 : ByteArray) : Option (Int) := (cmp_isNaN_string.f a0).bind fun t214 => ((cmp_isNaN_string.f a1).bind fun t215 => (if t214 = true then (if t215 = true then (some 0) else (some (-1))) else (if t215 = true then (some 1) else (if (Op.bytesLess a0.toList a1.toList) = true then (some (-1)) else (if (Op.bytesLess a1.toList a0.toList) = true then (some 1) else (some 0))))))
set_option maxHeartbeats 8000000 in
set_option maxRecDepth 100000 in
theorem cmp_Compare_string.calls (a0 : ByteArray) (a1 : ByteArray) (r : Int) (w : World) (h : cmp_Compare_string.f a0 a1 = some r) :
  Calls Tryz.prog 55 #[.string a0, .string a1] w fun e w' => e = .returned (.int .i64 r) ∧ Drawn0 w w' := by
 have H : ((cmp_isNaN_string.f a0).bind fun t214 => ((cmp_isNaN_string.f a1).bind fun t215 => (if t214 = true then (if t215 = true then (some 0) else (some (-1))) else (if t215 = true then (some 1) else (if (Op.bytesLess a0.toList a1.toList) = true then (some (-1)) else (if (Op.bytesLess a1.toList a0.toList) = true then (some 1) else (some 0))))))) = some r := h
 clear h
 replace H := Option.bind_eq_some_iff.mp H
 obtain ⟨t214, A30, H⟩ := H
 replace H : ((cmp_isNaN_string.f a1).bind fun t215 => (if t214 = true then (if t215 = true then (some 0) else (some (-1))) else (if t215 = true then (some 1) else (if (Op.bytesLess a0.toList a1.toList) = true then (some (-1)) else (if (Op.bytesLess a1.toList a0.toList) = true then (some 1) else (some 0)))))) = some r := H
 have A3 := Aside0.mk A30
 clear A30
 replace H := Option.bind_eq_some_iff.mp H
 obtain ⟨t215, A40, H⟩ := H
 replace H : (if t214 = true then (if t215 = true then (some 0) else (some (-1))) else (if t215 = true then (some 1) else (if (Op.bytesLess a0.toList a1.toList) = true then (some (-1)) else (if (Op.bytesLess a1.toList a0.toList) = true then (some 1) else (some 0))))) = some r := H
 have A4 := Aside0.mk A40
 clear A40
 by_cases c5 : t214 = true
 ·subst c5
  have H1 : (if t215 = true then (some 0) else (some (-1))) = some r := by rw [if_pos rfl] at H; exact H
  clear H
  have H := H1
  clear H1
  by_cases c6 : t215 = true
  ·subst c6
   have H1 : (some 0) = some r := by rw [if_pos rfl] at H; exact H
   clear H
   have H := H1
   clear H1
   obtain rfl := Option.some.inj H
   go_enter Tryz.func55, Tryz.ntmps55
   go_wp2_with (first | ((with_reducible refine gate_callee (f := 87) rfl ?_); refine goesL_ (some 8) rfl rfl Tryz.func87 (by kernel_rfl) rfl #[.string a0] rfl (by (try simp only [List.map_toArray, List.map_cons, List.map_nil]); first | done | rfl | (simp only [List.length_drop, List.length_take]; rfl)) ?_; (with_reducible refine (cmp_isNaN_string.calls a0 true _ A3.out).mono ?_); rintro e w' ⟨rfl, ⟨nd, rfl⟩⟩; refine ⟨_, rfl, ?_⟩) | ((with_reducible refine gate_callee (f := 87) rfl ?_); refine goesL_ (some 10) rfl rfl Tryz.func87 (by kernel_rfl) rfl #[.string a1] rfl (by (try simp only [List.map_toArray, List.map_cons, List.map_nil]); first | done | rfl | (simp only [List.length_drop, List.length_take]; rfl)) ?_; (with_reducible refine (cmp_isNaN_string.calls a1 true _ A4.out).mono ?_); rintro e w' ⟨rfl, ⟨nd, rfl⟩⟩; refine ⟨_, rfl, ?_⟩))
   go_ret
   exact ⟨by first | rfl | (simp; done) | (simp [*]; done) | (simp [bne_empty, *]; done), by repeat (first | exact Drawn0.refl _ | apply Drawn0.step)⟩
  ·replace c6 := Bool.eq_false_iff.mpr c6
   subst c6
   have H1 : (some (-1)) = some r := by rw [if_neg (show ¬ (false = true) by decide)] at H; exact H
   clear H
   have H := H1
   clear H1
   obtain rfl := Option.some.inj H
   go_enter Tryz.func55, Tryz.ntmps55
   go_wp2_with (first | ((with_reducible refine gate_callee (f := 87) rfl ?_); refine goesL_ (some 8) rfl rfl Tryz.func87 (by kernel_rfl) rfl #[.string a0] rfl (by (try simp only [List.map_toArray, List.map_cons, List.map_nil]); first | done | rfl | (simp only [List.length_drop, List.length_take]; rfl)) ?_; (with_reducible refine (cmp_isNaN_string.calls a0 true _ A3.out).mono ?_); rintro e w' ⟨rfl, ⟨nd, rfl⟩⟩; refine ⟨_, rfl, ?_⟩) | ((with_reducible refine gate_callee (f := 87) rfl ?_); refine goesL_ (some 10) rfl rfl Tryz.func87 (by kernel_rfl) rfl #[.string a1] rfl (by (try simp only [List.map_toArray, List.map_cons, List.map_nil]); first | done | rfl | (simp only [List.length_drop, List.length_take]; rfl)) ?_; (with_reducible refine (cmp_isNaN_string.calls a1 false _ A4.out).mono ?_); rintro e w' ⟨rfl, ⟨nd, rfl⟩⟩; refine ⟨_, rfl, ?_⟩))
   go_ret
   exact ⟨by first | rfl | (simp; done) | (simp [*]; done) | (simp [bne_empty, *]; done), by repeat (first | exact Drawn0.refl _ | apply Drawn0.step)⟩
 ·replace c5 := Bool.eq_false_iff.mpr c5
  subst c5
  have H1 : (if t215 = true then (some 1) else (if (Op.bytesLess a0.toList a1.toList) = true then (some (-1)) else (if (Op.bytesLess a1.toList a0.toList) = true then (some 1) else (some 0)))) = some r := by rw [if_neg (show ¬ (false = true) by decide)] at H; exact H
  clear H
  have H := H1
  clear H1
  by_cases c7 : t215 = true
  ·subst c7
   have H1 : (some 1) = some r := by rw [if_pos rfl] at H; exact H
   clear H
   have H := H1
   clear H1
   obtain rfl := Option.some.inj H
   go_enter Tryz.func55, Tryz.ntmps55
   go_wp2_with (first | ((with_reducible refine gate_callee (f := 87) rfl ?_); refine goesL_ (some 8) rfl rfl Tryz.func87 (by kernel_rfl) rfl #[.string a0] rfl (by (try simp only [List.map_toArray, List.map_cons, List.map_nil]); first | done | rfl | (simp only [List.length_drop, List.length_take]; rfl)) ?_; (with_reducible refine (cmp_isNaN_string.calls a0 false _ A3.out).mono ?_); rintro e w' ⟨rfl, ⟨nd, rfl⟩⟩; refine ⟨_, rfl, ?_⟩) | ((with_reducible refine gate_callee (f := 87) rfl ?_); refine goesL_ (some 10) rfl rfl Tryz.func87 (by kernel_rfl) rfl #[.string a1] rfl (by (try simp only [List.map_toArray, List.map_cons, List.map_nil]); first | done | rfl | (simp only [List.length_drop, List.length_take]; rfl)) ?_; (with_reducible refine (cmp_isNaN_string.calls a1 true _ A4.out).mono ?_); rintro e w' ⟨rfl, ⟨nd, rfl⟩⟩; refine ⟨_, rfl, ?_⟩))
   go_ret
   exact ⟨by first | rfl | (simp; done) | (simp [*]; done) | (simp [bne_empty, *]; done), by repeat (first | exact Drawn0.refl _ | apply Drawn0.step)⟩
  ·replace c7 := Bool.eq_false_iff.mpr c7
   subst c7
   have H1 : (if (Op.bytesLess a0.toList a1.toList) = true then (some (-1)) else (if (Op.bytesLess a1.toList a0.toList) = true then (some 1) else (some 0))) = some r := by rw [if_neg (show ¬ (false = true) by decide)] at H; exact H
   clear H
   have H := H1
   clear H1
   by_cases c8 : (Op.bytesLess a0.toList a1.toList) = true
   ·rw [if_pos c8] at H
    have c8b0 : (Op.bytesLess a0.toList a1.toList) = true := c8
    clear c8
    obtain rfl := Option.some.inj H
    go_enter Tryz.func55, Tryz.ntmps55
    go_wp2_with (first | ((with_reducible refine gate_callee (f := 87) rfl ?_); refine goesL_ (some 8) rfl rfl Tryz.func87 (by kernel_rfl) rfl #[.string a0] rfl (by (try simp only [List.map_toArray, List.map_cons, List.map_nil]); first | done | rfl | (simp only [List.length_drop, List.length_take]; rfl)) ?_; (with_reducible refine (cmp_isNaN_string.calls a0 false _ A3.out).mono ?_); rintro e w' ⟨rfl, ⟨nd, rfl⟩⟩; refine ⟨_, rfl, ?_⟩) | ((with_reducible refine gate_callee (f := 87) rfl ?_); refine goesL_ (some 10) rfl rfl Tryz.func87 (by kernel_rfl) rfl #[.string a1] rfl (by (try simp only [List.map_toArray, List.map_cons, List.map_nil]); first | done | rfl | (simp only [List.length_drop, List.length_take]; rfl)) ?_; (with_reducible refine (cmp_isNaN_string.calls a1 false _ A4.out).mono ?_); rintro e w' ⟨rfl, ⟨nd, rfl⟩⟩; refine ⟨_, rfl, ?_⟩))
    go_ret
    exact ⟨by first | rfl | (simp; done) | (simp [*]; done) | (simp [bne_empty, *]; done), by repeat (first | exact Drawn0.refl _ | apply Drawn0.step)⟩
   ·rw [if_neg c8] at H
    have c8b0 : (Op.bytesLess a0.toList a1.toList) = false := by simpa using c8
    clear c8
    by_cases c9 : (Op.bytesLess a1.toList a0.toList) = true
    ·rw [if_pos c9] at H
     have c9b0 : (Op.bytesLess a1.toList a0.toList) = true := c9
     clear c9
     obtain rfl := Option.some.inj H
     go_enter Tryz.func55, Tryz.ntmps55
     go_wp2_with (first | ((with_reducible refine gate_callee (f := 87) rfl ?_); refine goesL_ (some 8) rfl rfl Tryz.func87 (by kernel_rfl) rfl #[.string a0] rfl (by (try simp only [List.map_toArray, List.map_cons, List.map_nil]); first | done | rfl | (simp only [List.length_drop, List.length_take]; rfl)) ?_; (with_reducible refine (cmp_isNaN_string.calls a0 false _ A3.out).mono ?_); rintro e w' ⟨rfl, ⟨nd, rfl⟩⟩; refine ⟨_, rfl, ?_⟩) | ((with_reducible refine gate_callee (f := 87) rfl ?_); refine goesL_ (some 10) rfl rfl Tryz.func87 (by kernel_rfl) rfl #[.string a1] rfl (by (try simp only [List.map_toArray, List.map_cons, List.map_nil]); first | done | rfl | (simp only [List.length_drop, List.length_take]; rfl)) ?_; (with_reducible refine (cmp_isNaN_string.calls a1 false _ A4.out).mono ?_); rintro e w' ⟨rfl, ⟨nd, rfl⟩⟩; refine ⟨_, rfl, ?_⟩))
     go_ret
     exact ⟨by first | rfl | (simp; done) | (simp [*]; done) | (simp [bne_empty, *]; done), by repeat (first | exact Drawn0.refl _ | apply Drawn0.step)⟩
    ·rw [if_neg c9] at H
     have c9b0 : (Op.bytesLess a1.toList a0.toList) = false := by simpa using c9
     clear c9
     obtain rfl := Option.some.inj H
     go_enter Tryz.func55, Tryz.ntmps55
     go_wp2_with (first | ((with_reducible refine gate_callee (f := 87) rfl ?_); refine goesL_ (some 8) rfl rfl Tryz.func87 (by kernel_rfl) rfl #[.string a0] rfl (by (try simp only [List.map_toArray, List.map_cons, List.map_nil]); first | done | rfl | (simp only [List.length_drop, List.length_take]; rfl)) ?_; (with_reducible refine (cmp_isNaN_string.calls a0 false _ A3.out).mono ?_); rintro e w' ⟨rfl, ⟨nd, rfl⟩⟩; refine ⟨_, rfl, ?_⟩) | ((with_reducible refine gate_callee (f := 87) rfl ?_); refine goesL_ (some 10) rfl rfl Tryz.func87 (by kernel_rfl) rfl #[.string a1] rfl (by (try simp only [List.map_toArray, List.map_cons, List.map_nil]); first | done | rfl | (simp only [List.length_drop, List.length_take]; rfl)) ?_; (with_reducible refine (cmp_isNaN_string.calls a1 false _ A4.out).mono ?_); rintro e w' ⟨rfl, ⟨nd, rfl⟩⟩; refine ⟨_, rfl, ?_⟩))
     go_ret
     exact ⟨by first | rfl | (simp; done) | (simp [*]; done) | (simp [bne_empty, *]; done), by repeat (first | exact Drawn0.refl _ | apply Drawn0.step)⟩
end Go.Proofs.YtcdcpcdfcmokkaaGreatDoor.P
end
section
namespace Go.Proofs.YtcdcpcdfcmokkaaGreatDoor.P
open Go.RowKit Go.Proofs.YtcdcpcdfcmokkaaGreatDoorW.PrintWords Go.Proofs.YtcdcpcdfcmokkaaGreatDoorW.PrintLast Go.Proofs.YtcdcpcdfcmokkaaGreatDoorW.PrintMore
open Go.Proofs.YtcdcpcdfcmokkaaGreatDoor (str_gtr str_leq str_geq bne_empty)
attribute [local go_sem] max2_int min2_int max_two min_two max_three min_three max_four min_four str_gtr str_leq str_geq   -- for this text's walks alone
set_option linter.unusedVariables false
set_option linter.unusedSimpArgs false
def cmp_isNaN_int.f (a0 : Int) : Option (Bool) := some (a0 != a0)
set_option maxHeartbeats 8000000 in
set_option maxRecDepth 100000 in
theorem cmp_isNaN_int.calls (a0 : Int) (r : Bool) (w : World) (h : cmp_isNaN_int.f a0 = some r) :
  Calls Tryz.prog 121 #[.int .i64 a0] w fun e w' => e = .returned (.bool r) ∧ Drawn0 w w' := by
 have H : (some (a0 != a0)) = some r := h
 clear h
 obtain rfl := Option.some.inj H
 go_enter Tryz.func121, Tryz.ntmps121
 go_wp2
 go_ret
 exact ⟨by first | rfl | (simp; done) | (simp [*]; done) | (simp [bne_empty, *]; done), by repeat (first | exact Drawn0.refl _ | apply Drawn0.step)⟩
end Go.Proofs.YtcdcpcdfcmokkaaGreatDoor.P
end
section
namespace Go.Proofs.YtcdcpcdfcmokkaaGreatDoor.P
open Go.RowKit Go.Proofs.YtcdcpcdfcmokkaaGreatDoorW.PrintWords Go.Proofs.YtcdcpcdfcmokkaaGreatDoorW.PrintLast Go.Proofs.YtcdcpcdfcmokkaaGreatDoorW.PrintMore
open Go.Proofs.YtcdcpcdfcmokkaaGreatDoor (str_gtr str_leq str_geq bne_empty)
attribute [local go_sem] max2_int min2_int max_two min_two max_three min_three max_four min_four str_gtr str_leq str_geq   -- for this text's walks alone
set_option linter.unusedVariables false
set_option linter.unusedSimpArgs false
def cmp_Compare_int.f (a0 : Int) (a1 : Int) : Option (Int) := (cmp_isNaN_int.f a0).bind fun t226 => ((cmp_isNaN_int.f a1).bind fun t227 => (if t226 = true then (if t227 = true then (some 0) else (some (-1))) else (if t227 = true then (some 1) else (if a0 < a1 then (some (-1)) else (if a0 > a1 then (some 1) else (some 0))))))
set_option maxHeartbeats 8000000 in
set_option maxRecDepth 100000 in
theorem cmp_Compare_int.calls (a0 : Int) (a1 : Int) (r : Int) (w : World) (h : cmp_Compare_int.f a0 a1 = some r) :
  Calls Tryz.prog 85 #[.int .i64 a0, .int .i64 a1] w fun e w' => e = .returned (.int .i64 r) ∧ Drawn0 w w' := by
 have H : ((cmp_isNaN_int.f a0).bind fun t226 => ((cmp_isNaN_int.f a1).bind fun t227 => (if t226 = true then (if t227 = true then (some 0) else (some (-1))) else (if t227 = true then (some 1) else (if a0 < a1 then (some (-1)) else (if a0 > a1 then (some 1) else (some 0))))))) = some r := h
 clear h
 replace H := Option.bind_eq_some_iff.mp H
 obtain ⟨t226, A30, H⟩ := H
 replace H : ((cmp_isNaN_int.f a1).bind fun t227 => (if t226 = true then (if t227 = true then (some 0) else (some (-1))) else (if t227 = true then (some 1) else (if a0 < a1 then (some (-1)) else (if a0 > a1 then (some 1) else (some 0)))))) = some r := H
 have A3 := Aside0.mk A30
 clear A30
 replace H := Option.bind_eq_some_iff.mp H
 obtain ⟨t227, A40, H⟩ := H
 replace H : (if t226 = true then (if t227 = true then (some 0) else (some (-1))) else (if t227 = true then (some 1) else (if a0 < a1 then (some (-1)) else (if a0 > a1 then (some 1) else (some 0))))) = some r := H
 have A4 := Aside0.mk A40
 clear A40
 by_cases c5 : t226 = true
 ·subst c5
  have H1 : (if t227 = true then (some 0) else (some (-1))) = some r := by rw [if_pos rfl] at H; exact H
  clear H
  have H := H1
  clear H1
  by_cases c6 : t227 = true
  ·subst c6
   have H1 : (some 0) = some r := by rw [if_pos rfl] at H; exact H
   clear H
   have H := H1
   clear H1
   obtain rfl := Option.some.inj H
   go_enter Tryz.func85, Tryz.ntmps85
   go_wp2_with (first | ((with_reducible refine gate_callee (f := 121) rfl ?_); refine goesL_ (some 8) rfl rfl Tryz.func121 (by kernel_rfl) rfl #[.int .i64 a0] rfl (by (try simp only [List.map_toArray, List.map_cons, List.map_nil]); first | done | rfl | (simp only [List.length_drop, List.length_take]; rfl)) ?_; (with_reducible refine (cmp_isNaN_int.calls a0 true _ A3.out).mono ?_); rintro e w' ⟨rfl, ⟨nd, rfl⟩⟩; refine ⟨_, rfl, ?_⟩) | ((with_reducible refine gate_callee (f := 121) rfl ?_); refine goesL_ (some 10) rfl rfl Tryz.func121 (by kernel_rfl) rfl #[.int .i64 a1] rfl (by (try simp only [List.map_toArray, List.map_cons, List.map_nil]); first | done | rfl | (simp only [List.length_drop, List.length_take]; rfl)) ?_; (with_reducible refine (cmp_isNaN_int.calls a1 true _ A4.out).mono ?_); rintro e w' ⟨rfl, ⟨nd, rfl⟩⟩; refine ⟨_, rfl, ?_⟩))
   go_ret
   exact ⟨by first | rfl | (simp; done) | (simp [*]; done) | (simp [bne_empty, *]; done), by repeat (first | exact Drawn0.refl _ | apply Drawn0.step)⟩
  ·replace c6 := Bool.eq_false_iff.mpr c6
   subst c6
   have H1 : (some (-1)) = some r := by rw [if_neg (show ¬ (false = true) by decide)] at H; exact H
   clear H
   have H := H1
   clear H1
   obtain rfl := Option.some.inj H
   go_enter Tryz.func85, Tryz.ntmps85
   go_wp2_with (first | ((with_reducible refine gate_callee (f := 121) rfl ?_); refine goesL_ (some 8) rfl rfl Tryz.func121 (by kernel_rfl) rfl #[.int .i64 a0] rfl (by (try simp only [List.map_toArray, List.map_cons, List.map_nil]); first | done | rfl | (simp only [List.length_drop, List.length_take]; rfl)) ?_; (with_reducible refine (cmp_isNaN_int.calls a0 true _ A3.out).mono ?_); rintro e w' ⟨rfl, ⟨nd, rfl⟩⟩; refine ⟨_, rfl, ?_⟩) | ((with_reducible refine gate_callee (f := 121) rfl ?_); refine goesL_ (some 10) rfl rfl Tryz.func121 (by kernel_rfl) rfl #[.int .i64 a1] rfl (by (try simp only [List.map_toArray, List.map_cons, List.map_nil]); first | done | rfl | (simp only [List.length_drop, List.length_take]; rfl)) ?_; (with_reducible refine (cmp_isNaN_int.calls a1 false _ A4.out).mono ?_); rintro e w' ⟨rfl, ⟨nd, rfl⟩⟩; refine ⟨_, rfl, ?_⟩))
   go_ret
   exact ⟨by first | rfl | (simp; done) | (simp [*]; done) | (simp [bne_empty, *]; done), by repeat (first | exact Drawn0.refl _ | apply Drawn0.step)⟩
 ·replace c5 := Bool.eq_false_iff.mpr c5
  subst c5
  have H1 : (if t227 = true then (some 1) else (if a0 < a1 then (some (-1)) else (if a0 > a1 then (some 1) else (some 0)))) = some r := by rw [if_neg (show ¬ (false = true) by decide)] at H; exact H
  clear H
  have H := H1
  clear H1
  by_cases c7 : t227 = true
  ·subst c7
   have H1 : (some 1) = some r := by rw [if_pos rfl] at H; exact H
   clear H
   have H := H1
   clear H1
   obtain rfl := Option.some.inj H
   go_enter Tryz.func85, Tryz.ntmps85
   go_wp2_with (first | ((with_reducible refine gate_callee (f := 121) rfl ?_); refine goesL_ (some 8) rfl rfl Tryz.func121 (by kernel_rfl) rfl #[.int .i64 a0] rfl (by (try simp only [List.map_toArray, List.map_cons, List.map_nil]); first | done | rfl | (simp only [List.length_drop, List.length_take]; rfl)) ?_; (with_reducible refine (cmp_isNaN_int.calls a0 false _ A3.out).mono ?_); rintro e w' ⟨rfl, ⟨nd, rfl⟩⟩; refine ⟨_, rfl, ?_⟩) | ((with_reducible refine gate_callee (f := 121) rfl ?_); refine goesL_ (some 10) rfl rfl Tryz.func121 (by kernel_rfl) rfl #[.int .i64 a1] rfl (by (try simp only [List.map_toArray, List.map_cons, List.map_nil]); first | done | rfl | (simp only [List.length_drop, List.length_take]; rfl)) ?_; (with_reducible refine (cmp_isNaN_int.calls a1 true _ A4.out).mono ?_); rintro e w' ⟨rfl, ⟨nd, rfl⟩⟩; refine ⟨_, rfl, ?_⟩))
   go_ret
   exact ⟨by first | rfl | (simp; done) | (simp [*]; done) | (simp [bne_empty, *]; done), by repeat (first | exact Drawn0.refl _ | apply Drawn0.step)⟩
  ·replace c7 := Bool.eq_false_iff.mpr c7
   subst c7
   have H1 : (if a0 < a1 then (some (-1)) else (if a0 > a1 then (some 1) else (some 0))) = some r := by rw [if_neg (show ¬ (false = true) by decide)] at H; exact H
   clear H
   have H := H1
   clear H1
   by_cases c8 : a0 < a1
   ·rw [if_pos c8] at H
    have c8b0 : decide (a0 < a1) = true := decide_eq_true c8
    clear c8
    obtain rfl := Option.some.inj H
    go_enter Tryz.func85, Tryz.ntmps85
    go_wp2_with (first | ((with_reducible refine gate_callee (f := 121) rfl ?_); refine goesL_ (some 8) rfl rfl Tryz.func121 (by kernel_rfl) rfl #[.int .i64 a0] rfl (by (try simp only [List.map_toArray, List.map_cons, List.map_nil]); first | done | rfl | (simp only [List.length_drop, List.length_take]; rfl)) ?_; (with_reducible refine (cmp_isNaN_int.calls a0 false _ A3.out).mono ?_); rintro e w' ⟨rfl, ⟨nd, rfl⟩⟩; refine ⟨_, rfl, ?_⟩) | ((with_reducible refine gate_callee (f := 121) rfl ?_); refine goesL_ (some 10) rfl rfl Tryz.func121 (by kernel_rfl) rfl #[.int .i64 a1] rfl (by (try simp only [List.map_toArray, List.map_cons, List.map_nil]); first | done | rfl | (simp only [List.length_drop, List.length_take]; rfl)) ?_; (with_reducible refine (cmp_isNaN_int.calls a1 false _ A4.out).mono ?_); rintro e w' ⟨rfl, ⟨nd, rfl⟩⟩; refine ⟨_, rfl, ?_⟩))
    go_ret
    exact ⟨by first | rfl | (simp; done) | (simp [*]; done) | (simp [bne_empty, *]; done), by repeat (first | exact Drawn0.refl _ | apply Drawn0.step)⟩
   ·rw [if_neg c8] at H
    have c8b0 : decide (a0 < a1) = false := decide_eq_false c8
    clear c8
    by_cases c9 : a0 > a1
    ·rw [if_pos c9] at H
     have c9b0 : decide (a1 < a0) = true := decide_eq_true c9
     clear c9
     obtain rfl := Option.some.inj H
     go_enter Tryz.func85, Tryz.ntmps85
     go_wp2_with (first | ((with_reducible refine gate_callee (f := 121) rfl ?_); refine goesL_ (some 8) rfl rfl Tryz.func121 (by kernel_rfl) rfl #[.int .i64 a0] rfl (by (try simp only [List.map_toArray, List.map_cons, List.map_nil]); first | done | rfl | (simp only [List.length_drop, List.length_take]; rfl)) ?_; (with_reducible refine (cmp_isNaN_int.calls a0 false _ A3.out).mono ?_); rintro e w' ⟨rfl, ⟨nd, rfl⟩⟩; refine ⟨_, rfl, ?_⟩) | ((with_reducible refine gate_callee (f := 121) rfl ?_); refine goesL_ (some 10) rfl rfl Tryz.func121 (by kernel_rfl) rfl #[.int .i64 a1] rfl (by (try simp only [List.map_toArray, List.map_cons, List.map_nil]); first | done | rfl | (simp only [List.length_drop, List.length_take]; rfl)) ?_; (with_reducible refine (cmp_isNaN_int.calls a1 false _ A4.out).mono ?_); rintro e w' ⟨rfl, ⟨nd, rfl⟩⟩; refine ⟨_, rfl, ?_⟩))
     go_ret
     exact ⟨by first | rfl | (simp; done) | (simp [*]; done) | (simp [bne_empty, *]; done), by repeat (first | exact Drawn0.refl _ | apply Drawn0.step)⟩
    ·rw [if_neg c9] at H
     have c9b0 : decide (a1 < a0) = false := decide_eq_false c9
     clear c9
     obtain rfl := Option.some.inj H
     go_enter Tryz.func85, Tryz.ntmps85
     go_wp2_with (first | ((with_reducible refine gate_callee (f := 121) rfl ?_); refine goesL_ (some 8) rfl rfl Tryz.func121 (by kernel_rfl) rfl #[.int .i64 a0] rfl (by (try simp only [List.map_toArray, List.map_cons, List.map_nil]); first | done | rfl | (simp only [List.length_drop, List.length_take]; rfl)) ?_; (with_reducible refine (cmp_isNaN_int.calls a0 false _ A3.out).mono ?_); rintro e w' ⟨rfl, ⟨nd, rfl⟩⟩; refine ⟨_, rfl, ?_⟩) | ((with_reducible refine gate_callee (f := 121) rfl ?_); refine goesL_ (some 10) rfl rfl Tryz.func121 (by kernel_rfl) rfl #[.int .i64 a1] rfl (by (try simp only [List.map_toArray, List.map_cons, List.map_nil]); first | done | rfl | (simp only [List.length_drop, List.length_take]; rfl)) ?_; (with_reducible refine (cmp_isNaN_int.calls a1 false _ A4.out).mono ?_); rintro e w' ⟨rfl, ⟨nd, rfl⟩⟩; refine ⟨_, rfl, ?_⟩))
     go_ret
     exact ⟨by first | rfl | (simp; done) | (simp [*]; done) | (simp [bne_empty, *]; done), by repeat (first | exact Drawn0.refl _ | apply Drawn0.step)⟩
end Go.Proofs.YtcdcpcdfcmokkaaGreatDoor.P
end
section
namespace Go.Proofs.YtcdcpcdfcmokkaaGreatDoor.P
open Go.RowKit Go.Proofs.YtcdcpcdfcmokkaaGreatDoorW.PrintWords Go.Proofs.YtcdcpcdfcmokkaaGreatDoorW.PrintLast Go.Proofs.YtcdcpcdfcmokkaaGreatDoorW.PrintMore
open Go.Proofs.YtcdcpcdfcmokkaaGreatDoor (str_gtr str_leq str_geq bne_empty)
attribute [local go_sem] max2_int min2_int max_two min_two max_three min_three max_four min_four str_gtr str_leq str_geq   -- for this text's walks alone
set_option linter.unusedVariables false
set_option linter.unusedSimpArgs false
def cmp_Or_int.l0 : Nat → Int → List Int → Int → Int → Option (Int)
 | 0, _, _, _, _ => none
 | k + 1, x3, x6, x7, x8 => if x8 < x7 then (if 0 ≤ x8 then (if x8 < (x6.length : Int) then (if (rd x6 x8) = x3 then (cmp_Or_int.l0 k x3 x6 x7 (wrap64 (x8 + 1))) else (some (rd x6 x8))) else (none)) else (none)) else (some x3)
def cmp_Or_int.f (k : Nat) (l0 : List Int) : Option (Int) := cmp_Or_int.l0 k 0 l0 (l0.length : Int) 0
theorem cmp_Or_int.mono_l : ∀ k, (∀ y0 y1 y2 y3, LeO (cmp_Or_int.l0 k y0 y1 y2 y3) (cmp_Or_int.l0 (k + 1) y0 y1 y2 y3))
 | 0 => fun _ _ _ _ r h => by simp [cmp_Or_int.l0] at h
 | k + 1 => by
  have ih0 := cmp_Or_int.mono_l k
  ·intro y0 y1 y2 y3
   unfold cmp_Or_int.l0
   repeat' first
   | (with_reducible exact ih0 _ _ _ _)
   | (with_reducible exact LeO.refl _)
   | (with_reducible exact LeO.none _)
   | (with_reducible refine LeO.ite ?_ ?_)
   | (with_reducible refine LeO.bind ?_ (fun _ => ?_))
   | exact ih0 _ _ _ _
   | exact LeO.none _
   | refine LeO.ite ?_ ?_
   | refine LeO.bind ?_ (fun _ => ?_)
theorem cmp_Or_int.mono : ∀ a0 k, LeO (cmp_Or_int.f k a0) (cmp_Or_int.f (k + 1) a0) := by
 intro a0 k
 have ih0 := cmp_Or_int.mono_l k
 unfold cmp_Or_int.f
 repeat' first
   | (with_reducible exact ih0 _ _ _ _)
   | (with_reducible exact LeO.refl _)
   | (with_reducible exact LeO.none _)
   | (with_reducible refine LeO.ite ?_ ?_)
   | (with_reducible refine LeO.bind ?_ (fun _ => ?_))
   | exact ih0 _ _ _ _
   | exact LeO.none _
   | refine LeO.ite ?_ ?_
   | refine LeO.bind ?_ (fun _ => ?_)
set_option maxHeartbeats 8000000 in
set_option maxRecDepth 100000 in
theorem cmp_Or_int.calls (k : Nat) (A0 : Option Addr) (c0 : Nat) (l0 : List Int) (r : Int) (w : World) (hr0 : Kd.C (Kd.int .i64) w A0 l0.length l0) (hc0 : l0.length ≤ c0) (h : cmp_Or_int.f k l0 = some r) :
  Calls Tryz.prog 52 #[.slice A0 l0.length c0] w fun e w' => e = .returned (.int .i64 r) ∧ Drawn0 w w' := by
 have HR0 := Aside0.mk hr0
 have HC0 := Aside0.mk hc0
 clear hr0 hc0
 have H : (cmp_Or_int.l0 k 0 l0 (l0.length : Int) 0) = some r := h
 clear h
 have H' := Aside0.mk H
 clear H
 go_enter Tryz.func52, Tryz.ntmps52
 go_wp2
 go_loopg [8] k (fun kq v8 w' => ∃ (x8_1 : Int), v8 = .int .i64 x8_1 ∧ Aside0 (cmp_Or_int.l0 kq 0 l0 (l0.length : Int) x8_1 = some r) ∧ Aside0 (kq ≤ k) ∧ Drawn0 w w')
 case atStart => exact ⟨(0), (by first | rfl | (simp; done) | (simp [*]; done) | (simp [bne_empty, *]; done)), H', ⟨Nat.le_refl _⟩, by repeat (first | exact Drawn0.refl _ | apply Drawn0.step)⟩
 case round =>
  clear H'
  obtain ⟨x8_1, rfl, HA, HK1, ⟨m1, rfl⟩⟩ := hrel
  cases gk with
  | zero => exact absurd HA.out (by simp [cmp_Or_int.l0])
  | succ k1 =>
   have H := HA.out
   clear HA
   simp only [cmp_Or_int.l0] at H
   by_cases c2 : x8_1 < (l0.length : Int)
   ·rw [if_pos c2] at H
    have c2b0 : decide (x8_1 < (l0.length : Int)) = true := decide_eq_true c2
    clear c2
    by_cases c3 : 0 ≤ x8_1
    ·rw [if_pos c3] at H
     have c3b0 : decide (0 ≤ x8_1) = true := decide_eq_true c3
     clear c3
     by_cases c4 : x8_1 < (l0.length : Int)
     ·rw [if_pos c4] at H
      have c4b0 : decide (x8_1 < (l0.length : Int)) = true := decide_eq_true c4
      clear c4
      by_cases c5 : (rd l0 x8_1) = 0
      ·rw [if_pos c5] at H
       have c5b0 : ((rd l0 x8_1) == 0) = true := beq_iff_eq.mpr c5
       have c5b1 : ((rd l0 x8_1) != 0) = false := bne_eq_false_iff_eq.mpr c5
       clear c5
       have H' := Aside0.mk H
       clear H
       have p213 : 0 ≤ (x8_1 : Int) := of_decide_eq_true (by first | (with_reducible assumption) | assumption)
       have q213 : x8_1 < (l0.length : Int) := of_decide_eq_true (by first | (with_reducible assumption) | assumption)
       obtain ⟨ad213, e213, hx213_0⟩ := Kd.at_int HR0.out x8_1 p213 q213
       cases e213
       replace p213 := eq_true p213
       replace q213 := eq_true q213
       go_wp2
       go_roundg k1
       case measure => have := HK1.out; omega
       case rel => exact ⟨(wrap64 (x8_1 + 1)), (by first | rfl | (simp; done) | (simp [*]; done) | (simp [bne_empty, *]; done)), H', ⟨by have := HK1.out; omega⟩, by repeat (first | exact Drawn0.refl _ | apply Drawn0.step)⟩
      ·rw [if_neg c5] at H
       have c5b0 : ((rd l0 x8_1) == 0) = false := beq_eq_false_iff_ne.mpr c5
       have c5b1 : ((rd l0 x8_1) != 0) = true := bne_iff_ne.mpr c5
       obtain rfl := Option.some.inj H
       have p213 : 0 ≤ (x8_1 : Int) := of_decide_eq_true (by first | (with_reducible assumption) | assumption)
       have q213 : x8_1 < (l0.length : Int) := of_decide_eq_true (by first | (with_reducible assumption) | assumption)
       obtain ⟨ad213, e213, hx213_0⟩ := Kd.at_int HR0.out x8_1 p213 q213
       cases e213
       replace p213 := eq_true p213
       replace q213 := eq_true q213
       go_wp2
       go_ret
       exact ⟨by first | rfl | (simp; done) | (simp [*]; done) | (simp [bne_empty, *]; done), by repeat (first | exact Drawn0.refl _ | apply Drawn0.step)⟩
     ·rw [if_neg c4] at H
      exact absurd H (by simp)
    ·rw [if_neg c3] at H
     exact absurd H (by simp)
   ·rw [if_neg c2] at H
    have c2b0 : decide (x8_1 < (l0.length : Int)) = false := decide_eq_false c2
    clear c2
    obtain rfl := Option.some.inj H
    go_wp2
    go_ret
    exact ⟨by first | rfl | (simp; done) | (simp [*]; done) | (simp [bne_empty, *]; done), by repeat (first | exact Drawn0.refl _ | apply Drawn0.step)⟩
end Go.Proofs.YtcdcpcdfcmokkaaGreatDoor.P
end
section
namespace Go.Proofs.YtcdcpcdfcmokkaaGreatDoor
open Go.RowKit Go.Shelf Go.Proofs.YtcdcpcdfcmokkaaGreatDoorW.PrintWords
set_option linter.unusedVariables false
def cmpI (a b : Int) : Int := if a < b then -1 else if b < a then 1 else 0
def cmpS (a b : ByteArray) : Int := if Op.bytesLess a.toList b.toList = true then -1 else if Op.bytesLess b.toList a.toList = true then 1 else 0
theorem compare_int (a b : Int) (w : World) :
    Calls Tryz.prog 85 #[.int .i64 a, .int .i64 b] w fun e w' => e = .returned (.int .i64 (cmpI a b)) ∧ ∃ n, w' = w.drewN n :=
  (P.cmp_Compare_int.calls a b _ w (by simp only [P.cmp_Compare_int.f, P.cmp_isNaN_int.f, cmpI, bne_self_eq_false, Option.bind_some, Bool.false_eq_true, if_false, gt_iff_lt]; (repeat' split) <;> rfl)).mono fun e w' h => ⟨h.1, h.2.out⟩
theorem compare_string (a b : ByteArray) (w : World) :
    Calls Tryz.prog 55 #[.string a, .string b] w fun e w' => e = .returned (.int .i64 (cmpS a b)) ∧ ∃ n, w' = w.drewN n :=
  (P.cmp_Compare_string.calls a b _ w (by simp only [P.cmp_Compare_string.f, P.cmp_isNaN_string.f, cmpS, bne_self_eq_false, Option.bind_some, Bool.false_eq_true, if_false]; (repeat' split) <;> rfl)).mono fun e w' h => ⟨h.1, h.2.out⟩
def orI (x y : Int) : Int := if x ≠ 0 then x else y
theorem or_int2 (x y : Int) (w : World) (c : Nat) (hc : 2 ≤ c) (A : Option Addr) (h : (Kd.int .i64).C w A 2 [x, y]) :
    Calls Tryz.prog 52 #[.slice A 2 c] w fun e w' => e = .returned (.int .i64 (orI x y)) ∧ ∃ n, w' = w.drewN n :=
  (P.cmp_Or_int.calls 4 A c [x, y] _ w h hc (by
    by_cases h0 : x = 0
    · subst h0; by_cases h1 : y = 0
      · subst h1; simp [P.cmp_Or_int.f, P.cmp_Or_int.l0, rd, wrap64, orI]
      · simp [P.cmp_Or_int.f, P.cmp_Or_int.l0, rd, wrap64, orI, h1]
    · simp [P.cmp_Or_int.f, P.cmp_Or_int.l0, rd, orI, h0])).mono fun e w' h => ⟨h.1, h.2.out⟩
theorem lit_int2 (w : World) (e : TypeId) (x y : Int) : (Kd.int .i64).C (w.alloc (.cells #[.int .i64 x, .int .i64 y] e)) (some ⟨w.heap.size, 0, none⟩) 2 [x, y] :=
  Kd.C_of_reads (d := 0) (readsInt_of.1 (own_reads' (own_lit w w.heap.size e .i64 [x, y] (Nat.le_refl _) (by simp))))
def orderB (a b : ByteArray) : Int :=
  if everyB digitB a = true then (if everyB digitB b = true then orI (cmpI a.size b.size) (cmpS a b) else -1) else if everyB digitB b = true then 1 else cmpS a b
set_option maxHeartbeats 1000000 in
set_option maxRecDepth 100000 in
theorem order_any (a b : ByteArray) (w : World) (ha : a.size ≤ 9223372036854775807) (hb : b.size ≤ 9223372036854775807) :
    Calls Tryz.prog 122 #[.string a, .string b] w fun e w' => e = .returned (.int .i64 (orderB a b)) ∧ Below w.heap.size w w' := by
  by_cases ea : everyB digitB a = true
  · by_cases eb : everyB digitB b = true
    · go_enter Tryz.func122, Tryz.ntmps122
      go_wp2_with (first | (go_at_call 113; refine (every_digit _ _ (by assumption)).mono ?_; rintro e w' ⟨rfl, rfl⟩) | (go_at_call 85; refine (compare_int _ _ _).mono ?_; rintro e w' ⟨rfl, n1, rfl⟩) | (go_at_call 55; refine (compare_string _ _ _).mono ?_; rintro e w' ⟨rfl, n2, rfl⟩) | (go_at_call 52; refine (or_int2 _ _ _ _ (Nat.le_refl _) _ (lit_int2 _ _ _ _)).mono ?_; rintro e w' ⟨rfl, n3, rfl⟩))
      go_ret
      exact ⟨by simp [orderB, ea, eb], by repeat (first | apply pw_below_drewN | apply below_alloc | exact Below.refl _ _)⟩
    · have eb' : everyB digitB b = false := by simpa using eb
      go_enter Tryz.func122, Tryz.ntmps122
      go_wp2_with (first | (go_at_call 113; refine (every_digit _ _ (by assumption)).mono ?_; rintro e w' ⟨rfl, rfl⟩))
      go_ret
      exact ⟨by simp [orderB, ea, eb], Below.refl _ _⟩
  · have ea' : everyB digitB a = false := by simpa using ea
    by_cases eb : everyB digitB b = true
    · go_enter Tryz.func122, Tryz.ntmps122
      go_wp2_with (first | (go_at_call 113; refine (every_digit _ _ (by assumption)).mono ?_; rintro e w' ⟨rfl, rfl⟩))
      go_ret
      exact ⟨by simp [orderB, ea, eb], Below.refl _ _⟩
    · have eb' : everyB digitB b = false := by simpa using eb
      go_enter Tryz.func122, Tryz.ntmps122
      go_wp2_with (first | (go_at_call 113; refine (every_digit _ _ (by assumption)).mono ?_; rintro e w' ⟨rfl, rfl⟩) | (go_at_call 55; refine (compare_string _ _ _).mono ?_; rintro e w' ⟨rfl, n2, rfl⟩))
      go_ret
      exact ⟨by simp [orderB, ea, eb], by repeat (first | apply pw_below_drewN | apply below_alloc | exact Below.refl _ _)⟩
end Go.Proofs.YtcdcpcdfcmokkaaGreatDoor
end
section
namespace Go.Proofs.YtcdcpcdfcmokkaaGreatDoor
open Go.RowKit
set_option linter.unusedVariables false
def noDefer (ops : Array Oper) : Bool := ops.all fun o => match o.op with | .defer _ => false | _ => true
theorem noDefer_spec {ops : Array Oper} (h : noDefer ops = true) {i : Nat} {o : Oper} (ho : ops[i]? = some o) (c : Call) : o.op ≠ .defer c := by
  intro e
  obtain ⟨hi, rfl⟩ := Array.getElem?_eq_some_iff.1 ho
  have := Array.all_eq_true.1 h i hi
  rw [e] at this
  cases this
theorem wpOpIn_of {P : Program} {ops : Array Oper} {Q : Exit → Act → World → Prop} {l n i : Nat} {K K' : Act → World → Prop} {a : Act} {w : World}
    (hd : noDefer ops = true) (hQ : ¬ LetsOut Q) (hK : ∀ a w, K a w → K' a w) (h : wpOp P ops Q i K a w) : wpOpIn (Fence.wide.inRound l) n P ops Q i K' a w := by
  unfold wpOp at h
  unfold wpOpIn
  cases ho : ops[i]? with
  | none => rw [ho] at h; exact hK _ _ h
  | some o =>
    rw [ho] at h
    simp only [] at h ⊢
    by_cases hw : Region.wanted o (yielded ops a.tmps) = true
    · rw [if_pos hw] at h ⊢
      have h := h.resolve_right (fun k => hQ k.2)
      refine ⟨fun _ _ => trivial, ?_⟩
      rw [Oper.semAt_eq _ _ _ (noDefer_spec hd ho)]
      unfold Oper.wp at h
      generalize (execOp a.eval o).run P w = r at h ⊢
      cases r with
      | ok x w' =>
        cases x with
        | value v => exact hK _ _ h
        | skip => exact hK _ _ h
        | defer d => exact hK _ _ h
        | enter f args =>
          refine ⟨fun hs => by simp [Fence.wide] at hs, CallsIn.inRound l (callsIn_wide.2 (Calls.mono h ?_))⟩
          intro e w'' he
          cases e with
          | returned v => exact hK _ _ he
          | panicked c => exact he
          | outgrown => exact he
        | row r args =>
          refine ⟨fun hs => by simp [Fence.wide] at hs, fun c cs _ => ?_⟩
          obtain ⟨v, w'', hr, hs⟩ := (show Rows P r args w' _ from h) c cs
          exact ⟨v, w'', hK _ _ hr, stepsIn_wide.2 hs⟩
        | _ => exact h.elim
      | halt x w' =>
        cases x <;> exact h
    · rw [if_neg hw] at h ⊢
      exact ⟨fun _ _ => trivial, hK _ _ h⟩
theorem wpAnyIn_of {P : Program} {ops : Array Oper} {Q : Exit → Act → World → Prop} {md : Region.Mode} {l n : Nat} (hd : noDefer ops = true) (hQ : ¬ LetsOut Q) :
    ∀ (fuel : Nat) (listed : Array Bool) (a : Act) (w : World), wpAny P md ops Q fuel listed a w → wpAnyIn (Fence.wide.inRound l) n P md ops Q fuel listed a w
  | 0, _, _, _, h => h
  | fuel + 1, listed, a, w, h => ⟨h.1, fun i hi => wpOpIn_of hd hQ (wpAnyIn_of hd hQ fuel _) (h.2 i hi)⟩
theorem start_round {P : Program} {ops : Array Oper} {Q : Exit → Act → World → Prop} {S : World → Prop} {ds : List Nat} {id n r k : Nat} {a : Act} {w : World} (l : Array Bool)
    (hm : P.follows .mixedOrders = true) (hn : ops.size = n) (hl : Array.replicate n false = l) (hd : noDefer ops = true) (hQ : ¬ LetsOut Q) (hS : S w.drew)
    (h : S w.drew → YtcdcpcdfcmokkaaGreatDoorW.PrintLast.wpAnyLast P .any ops Q S ds n l a w.drew) : (Code.region id ops true).wpIn (Fence.wide.inRound r) k P Q a w := by
  subst hn
  subst hl
  exact wpIn_region_any hm (wpAnyIn_of hd hQ _ _ _ _ (YtcdcpcdfcmokkaaGreatDoorW.PrintLast.wpAny_of_last _ _ _ _ (h hS)))
def noDeferL (l : List Oper) : Bool := l.all fun o => match o.op with | .defer _ => false | _ => true
theorem wpListIn_of {P : Program} {ops : Array Oper} {Q : Exit → Act → World → Prop} {r n : Nat} (hQ : ¬ LetsOut Q) :
    ∀ (l : List Oper), noDeferL l = true → ∀ (a : Act) (w : World), wpList P ops Q l a w → wpListIn (Fence.wide.inRound r) n P ops Q l a w
  | [], _, _, _, h => h
  | o :: rest, hd, a, w, h => by
    have hd2 : noDeferL rest = true := by simp only [noDeferL, List.all_cons, Bool.and_eq_true] at hd ⊢; exact hd.2
    have hd1 : ∀ c, o.op ≠ .defer c := fun c e => by simp only [noDeferL, List.all_cons, Bool.and_eq_true] at hd; rw [e] at hd; cases hd.1
    have ih := wpListIn_of (P := P) (ops := ops) (r := r) (n := n) hQ rest hd2
    unfold wpList at h
    unfold wpListIn
    by_cases hw : Region.wanted o (yielded ops a.tmps) = true
    · rw [if_pos hw] at h ⊢
      have h := h.resolve_right (fun k => hQ k.2)
      refine ⟨fun _ _ => trivial, ?_⟩
      rw [Oper.semAt_eq _ _ _ hd1]
      unfold Oper.wp at h
      generalize (execOp a.eval o).run P w = x at h ⊢
      cases x with
      | ok x w' =>
        cases x with
        | value v => exact ih _ _ h
        | skip => exact ih _ _ h
        | defer d => exact ih _ _ h
        | enter f args =>
          refine ⟨fun hs => by simp [Fence.wide] at hs, CallsIn.inRound r (callsIn_wide.2 (Calls.mono h ?_))⟩
          intro e w'' he
          cases e with
          | returned v => exact ih _ _ he
          | panicked c => exact he
          | outgrown => exact he
        | row q args =>
          refine ⟨fun hs => by simp [Fence.wide] at hs, fun c cs _ => ?_⟩
          obtain ⟨v, w'', hr, hs⟩ := (show Rows P q args w' _ from h) c cs
          exact ⟨v, w'', ih _ _ hr, stepsIn_wide.2 hs⟩
        | _ => exact h.elim
      | halt x w' =>
        cases x <;> exact h
    · rw [if_neg hw] at h ⊢
      exact ⟨fun _ _ => trivial, ih _ _ h⟩
open Go.Proofs.YtcdcpcdfcmokkaaGreatDoorW.PrintWords in
theorem keeps_below {D : Nat} {W W' : World} (h : Below W.heap.size W W') : KeepsFrom D W W' := KeepsFrom.of_grownBy (grown_of_below h none) (by simp)
theorem keeps_set (D : Nat) (W : World) (R : Nat) (v : Value) : KeepsFrom D W (W.setCell ⟨R, 0, none⟩ v) := (KeepsOthers.setCell _ _ _).from D
theorem keeps_row {D : Nat} {W W' : World} {row : Option Nat} (hg : W.grownBy W' row) (hrow : ∀ k, row = some k → ∃ o : Obj, W.heap[k]? = some o ∧ o.isCells = true) : KeepsFrom D W W' :=
  ⟨hg.size, fun k o _ ho hn => by
    refine (hg.block k (Array.getElem?_eq_some_iff.1 ho).1 (fun e => ?_)).trans ho
    obtain ⟨o', ho', hc⟩ := hrow k e.symm
    rw [ho] at ho'; cases ho'; rw [hn] at hc; cases hc⟩
theorem OwnAt.obj {β : Type} {D B R : Nat} {o : Obj} (hRB : R ≠ B) (hRD : R < D) : OwnAt D B (fun (_ : β) W => W.heap[R]? = some o) := fun s W W' row hs hg hr =>
  (hg.block R (Array.getElem?_eq_some_iff.1 hs).1 (fun e => by rcases hr R e.symm with h | h <;> omega)).trans hs
open Go.Proofs.YtcdcpcdfcmokkaaGreatDoorW.PrintWords in
theorem OwnAt.row {α β : Type} {D B base : Nat} {d : Kd α} {e : Nat} {ok : Nat → Prop} (v : β → Value) (xs : β → List α) (hB : ∀ k, ok k → base ≤ k → k ≠ B) :
    OwnAt D B (fun s W => Kd.R d e W base ok (v s) (xs s)) := fun s W W' row hs hg hr => by
  refine Kd.R_mono (Kd.R_step (Kd.R_bound hs) (fun k hk hlt => hg.block k hlt (fun e => ?_))) (fun k hk => hk.1)
  rcases hr k e.symm with h | ⟨_, o, ho, hn⟩
  · exact hB k hk.1 hk.2.1 h
  · obtain ⟨q, _, cells, hc⟩ := hk.2.2.2
    rw [ho] at hc; cases hc; cases hn
end Go.Proofs.YtcdcpcdfcmokkaaGreatDoor
end
