/- graftbedref03.Parse, taken as given by the printed walks. · Order and Compare of layer 3: the program's and the document's, in plain words. · Functions of strings, taken as given by the printed walks. -/
import Derived.Test.YtcdcpcdfcmokkaaGreatDoorO18
import Derived.Test.YtcdcpcdfcmokkaaGreatDoorO05
import Derived.Test.YtcdcpcdfcmokkaaGreatDoorO12
import Derived.Test.YtcdcpcdfcmokkaaGreatDoorO16
import Derived.Test.YtcdcpcdfcmokkaaGreatDoorO09
import Derived.Test.YtcdcpcdfcmokkaaGreatDoorO07
set_option linter.unusedVariables false
set_option linter.unusedSimpArgs false
section
namespace Go.Proofs.YtcdcpcdfcmokkaaGreatDoor.P
open Go.RowKit Go.Proofs.YtcdcpcdfcmokkaaGreatDoorW.PrintWords
set_option linter.unusedVariables false
def graftbedref03_Parse.f (a0 : ByteArray) : Option (Int × Int × Int × ByteArray × ByteArray × Int) := if a0.size ≤ 1099511627775 then some (numAt a0 0, numAt a0 1, numAt a0 2, preB a0, metaB a0, verErr a0) else none
theorem graftbedref03_Parse.calls (a0 : ByteArray) (r1 r2 r3 : Int) (r4 r5 : ByteArray) (r6 : Int) (w : World) (h : graftbedref03_Parse.f a0 = some (r1, r2, r3, r4, r5, r6)) :
    Calls Tryz.prog 99 #[.string a0] w fun e w' => e = .returned (.tuple #[.agg #[.int .i64 r1, .int .i64 r2, .int .i64 r3, .string r4, .string r5], .int .i64 r6]) ∧ Below w.heap.size w w' := by
  unfold graftbedref03_Parse.f at h
  split at h
  · simp only [Option.some.injEq, Prod.mk.injEq] at h
    obtain ⟨rfl, rfl, rfl, rfl, rfl, rfl⟩ := h; exact rparse_any a0 w (by assumption)
  · cases h
end Go.Proofs.YtcdcpcdfcmokkaaGreatDoor.P
end
section
namespace Go.Proofs.YtcdcpcdfcmokkaaGreatDoor.P
open Go.RowKit Go.Proofs.YtcdcpcdfcmokkaaGreatDoorW.PrintWords Go.Proofs.YtcdcpcdfcmokkaaGreatDoorW.PrintLast Go.Proofs.YtcdcpcdfcmokkaaGreatDoorW.PrintMore
open Go.Proofs.YtcdcpcdfcmokkaaGreatDoor (str_gtr str_leq str_geq bne_empty)
attribute [local go_sem] max2_int min2_int max_two min_two max_three min_three max_four min_four str_gtr str_leq str_geq   -- for this text's walks alone
set_option linter.unusedVariables false
set_option linter.unusedSimpArgs false
def graftbedref03_less.f (a0 : Bool) : Option (Int) := if a0 = true then (some (-1)) else (some 1)
set_option maxHeartbeats 8000000 in
set_option maxRecDepth 100000 in
theorem graftbedref03_less.calls (a0 : Bool) (r : Int) (w : World) (h : graftbedref03_less.f a0 = some r) :
  Calls Tryz.prog 100 #[.bool a0] w fun e w' => e = .returned (.int .i64 r) ∧ Drawn0 w w' := by
 have H : (if a0 = true then (some (-1)) else (some 1)) = some r := h
 clear h
 by_cases c2 : a0 = true
 ·subst c2
  have H1 : (some (-1)) = some r := by rw [if_pos rfl] at H; exact H
  clear H
  have H := H1
  clear H1
  obtain rfl := Option.some.inj H
  go_enter Tryz.func100, Tryz.ntmps100
  go_wp2
  go_ret
  exact ⟨by first | rfl | (simp; done) | (simp [*]; done) | (simp [bne_empty, *]; done), by repeat (first | exact Drawn0.refl _ | apply Drawn0.step)⟩
 ·replace c2 := Bool.eq_false_iff.mpr c2
  subst c2
  have H1 : (some 1) = some r := by rw [if_neg (show ¬ (false = true) by decide)] at H; exact H
  clear H
  have H := H1
  clear H1
  obtain rfl := Option.some.inj H
  go_enter Tryz.func100, Tryz.ntmps100
  go_wp2
  go_ret
  exact ⟨by first | rfl | (simp; done) | (simp [*]; done) | (simp [bne_empty, *]; done), by repeat (first | exact Drawn0.refl _ | apply Drawn0.step)⟩
end Go.Proofs.YtcdcpcdfcmokkaaGreatDoor.P
end
section
namespace Go.Proofs.YtcdcpcdfcmokkaaGreatDoor.P
open Go.RowKit Go.Proofs.YtcdcpcdfcmokkaaGreatDoorW.PrintWords Go.Proofs.YtcdcpcdfcmokkaaGreatDoorW.PrintLast Go.Proofs.YtcdcpcdfcmokkaaGreatDoorW.PrintMore
open Go.Proofs.YtcdcpcdfcmokkaaGreatDoor (str_gtr str_leq str_geq bne_empty)
attribute [local go_sem] max2_int min2_int max_two min_two max_three min_three max_four min_four str_gtr str_leq str_geq   -- for this text's walks alone
set_option linter.unusedVariables false
set_option linter.unusedSimpArgs false
mutual
def graftbedref03_order.j0 : Nat → ByteArray → ByteArray → Bool → Bool → Bool → Option (Int)
 | 0, _, _, _, _, _ => none
 | k + 1, x0, x1, x5, x6, x17 => if x17 = true then (if (x0.size : Int) < (x1.size : Int) then ((graftbedref03_less.f true).bind fun t371 => (some t371)) else (if (x0.size : Int) = (x1.size : Int) then ((graftbedref03_less.f (Op.bytesLess x0.toList x1.toList)).bind fun t372 => (some t372)) else ((graftbedref03_less.f false).bind fun t373 => (some t373)))) else (if x5 = true then (graftbedref03_order.j1 k x0 x1 x5 true) else (graftbedref03_order.j1 k x0 x1 x5 x6))
def graftbedref03_order.j1 : Nat → ByteArray → ByteArray → Bool → Bool → Option (Int)
 | 0, _, _, _, _ => none
 | k + 1, x0, x1, x5, x39 => if x39 = true then ((graftbedref03_less.f x5).bind fun t374 => (some t374)) else ((graftbedref03_less.f (Op.bytesLess x0.toList x1.toList)).bind fun t375 => (some t375))
end
def graftbedref03_order.f (k : Nat) (a0 : ByteArray) (a1 : ByteArray) : Option (Int) := if a0.toList = a1.toList then (some 0) else ((graftbedref03_digits.f k a0).bind fun t369 => ((graftbedref03_digits.f k a1).bind fun t370 => (if t369 = true then (graftbedref03_order.j0 k a0 a1 t369 t370 t370) else (graftbedref03_order.j0 k a0 a1 t369 t370 false))))
set_option maxHeartbeats 8000000 in
set_option maxRecDepth 100000 in
theorem graftbedref03_order.calls (k : Nat) (a0 : ByteArray) (a1 : ByteArray) (r : Int) (w : World) (h : graftbedref03_order.f k a0 a1 = some r) :
  Calls Tryz.prog 102 #[.string a0, .string a1] w fun e w' => e = .returned (.int .i64 r) ∧ Drawn0 w w' := by
 have H : (if a0.toList = a1.toList then (some 0) else ((graftbedref03_digits.f k a0).bind fun t369 => ((graftbedref03_digits.f k a1).bind fun t370 => (if t369 = true then (graftbedref03_order.j0 k a0 a1 t369 t370 t370) else (graftbedref03_order.j0 k a0 a1 t369 t370 false))))) = some r := h
 clear h
 by_cases c3 : a0.toList = a1.toList
 ·rw [if_pos c3] at H
  have c3b0 : (a0.toList == a1.toList) = true := beq_iff_eq.mpr c3
  have c3b1 : (a0.toList != a1.toList) = false := bne_eq_false_iff_eq.mpr c3
  clear c3
  obtain rfl := Option.some.inj H
  go_enter Tryz.func102, Tryz.ntmps102
  go_wp2
  go_ret
  exact ⟨by first | rfl | (simp; done) | (simp [*]; done) | (simp [bne_empty, *]; done), by repeat (first | exact Drawn0.refl _ | apply Drawn0.step)⟩
 ·rw [if_neg c3] at H
  have c3b0 : (a0.toList == a1.toList) = false := beq_eq_false_iff_ne.mpr c3
  have c3b1 : (a0.toList != a1.toList) = true := bne_iff_ne.mpr c3
  replace H := Option.bind_eq_some_iff.mp H
  obtain ⟨t369, A40, H⟩ := H
  replace H : ((graftbedref03_digits.f k a1).bind fun t370 => (if t369 = true then (graftbedref03_order.j0 k a0 a1 t369 t370 t370) else (graftbedref03_order.j0 k a0 a1 t369 t370 false))) = some r := H
  have A4 := Aside0.mk A40
  clear A40
  replace H := Option.bind_eq_some_iff.mp H
  obtain ⟨t370, A50, H⟩ := H
  replace H : (if t369 = true then (graftbedref03_order.j0 k a0 a1 t369 t370 t370) else (graftbedref03_order.j0 k a0 a1 t369 t370 false)) = some r := H
  have A5 := Aside0.mk A50
  clear A50
  have HC6 := Aside0.mk H
  clear H
  go_enter Tryz.func102, Tryz.ntmps102
  go_upto_region 5 with (first | ((with_reducible refine gate_callee (f := 103) rfl ?_); refine goesL_ (some 11) rfl rfl Tryz.func103 (by kernel_rfl) rfl #[.string a0] rfl (by (try simp only [List.map_toArray, List.map_cons, List.map_nil]); first | done | rfl | (simp only [List.length_drop, List.length_take]; rfl)) ?_; (with_reducible refine (graftbedref03_digits.calls k a0 t369 _ A4.out).mono ?_); rintro e w' ⟨rfl, ⟨nd, rfl⟩⟩; refine ⟨_, rfl, ?_⟩) | ((with_reducible refine gate_callee (f := 103) rfl ?_); refine goesL_ (some 13) rfl rfl Tryz.func103 (by kernel_rfl) rfl #[.string a1] rfl (by (try simp only [List.map_toArray, List.map_cons, List.map_nil]); first | done | rfl | (simp only [List.length_drop, List.length_take]; rfl)) ?_; (with_reducible refine (graftbedref03_digits.calls k a1 t370 _ A5.out).mono ?_); rintro e w' ⟨rfl, ⟨nd, rfl⟩⟩; refine ⟨_, rfl, ?_⟩))
  (try simp only [Act.put, List.setIfInBounds_toArray, List.set_cons_zero, List.set_cons_succ])
  go_cut [17] (fun v17 wc => ∃ (kq : Nat) (x17_5 : Bool), v17 = .bool x17_5 ∧ Aside0 (graftbedref03_order.j0 kq a0 a1 t369 t370 x17_5 = some r) ∧ Aside0 (kq ≤ k) ∧ Drawn0 w wc)
  case first =>
   have H := HC6.out
   clear HC6
   by_cases c7 : t369 = true
   ·subst c7
    have H1 : (graftbedref03_order.j0 k a0 a1 true t370 t370) = some r := by rw [if_pos rfl] at H; exact H
    clear H
    have H := H1
    clear H1
    have H' := Aside0.mk H
    clear H
    go_wp2
    go_meet
    case rel => exact ⟨_, (t370), (by first | rfl | (simp; done) | (simp [*]; done) | (simp [bne_empty, *]; done)), H', ⟨by first | omega | exact Nat.le_refl _⟩, by repeat (first | exact Drawn0.refl _ | apply Drawn0.step)⟩
   ·replace c7 := Bool.eq_false_iff.mpr c7
    subst c7
    have H1 : (graftbedref03_order.j0 k a0 a1 false t370 false) = some r := by rw [if_neg (show ¬ (false = true) by decide)] at H; exact H
    clear H
    have H := H1
    clear H1
    have H' := Aside0.mk H
    clear H
    go_wp2
    go_meet
    case rel => exact ⟨_, (false), (by first | rfl | (simp; done) | (simp [*]; done) | (simp [bne_empty, *]; done)), H', ⟨by first | omega | exact Nat.le_refl _⟩, by repeat (first | exact Drawn0.refl _ | apply Drawn0.step)⟩
  case rest =>
   clear HC6
   try clear c1
   try clear p2
   try clear c3
   try clear c3b0
   try clear c3b1
   try clear c7
   obtain ⟨kq, x17_5, rfl, HA, HJ5, ⟨mc5, rfl⟩⟩ := hcut
   cases kq with
   | zero => exact absurd HA.out (by simp [graftbedref03_order.j0])
   | succ kj5 =>
    have H := HA.out
    clear HA
    simp only [graftbedref03_order.j0] at H
    by_cases c8 : x17_5 = true
    ·subst c8
     have H1 : (if (a0.size : Int) < (a1.size : Int) then ((graftbedref03_less.f true).bind fun t371 => (some t371)) else (if (a0.size : Int) = (a1.size : Int) then ((graftbedref03_less.f (Op.bytesLess a0.toList a1.toList)).bind fun t372 => (some t372)) else ((graftbedref03_less.f false).bind fun t373 => (some t373)))) = some r := by rw [if_pos rfl] at H; exact H
     clear H
     have H := H1
     clear H1
     by_cases c9 : (a0.size : Int) < (a1.size : Int)
     ·rw [if_pos c9] at H
      have c9b0 : decide ((a0.size : Int) < (a1.size : Int)) = true := decide_eq_true c9
      have c9b1 : decide (a0.size < a1.size) = true := decide_eq_true (Int.ofNat_lt.mp c9)
      clear c9
      replace H := Option.bind_eq_some_iff.mp H
      obtain ⟨t371, A100, H⟩ := H
      replace H : (some t371) = some r := H
      have A10 := Aside0.mk A100
      clear A100
      obtain rfl := Option.some.inj H
      go_wp2_with (first | ((with_reducible refine gate_callee (f := 100) rfl ?_); refine goesL_ (some 35) rfl rfl Tryz.func100 (by kernel_rfl) rfl #[.bool true] rfl (by (try simp only [List.map_toArray, List.map_cons, List.map_nil]); first | done | rfl | (simp only [List.length_drop, List.length_take]; rfl)) ?_; (with_reducible refine (graftbedref03_less.calls true t371 _ A10.out).mono ?_); rintro e w' ⟨rfl, ⟨nd, rfl⟩⟩; refine ⟨_, rfl, ?_⟩))
      go_ret
      exact ⟨by first | rfl | (simp; done) | (simp [*]; done) | (simp [bne_empty, *]; done), by repeat (first | exact Drawn0.refl _ | apply Drawn0.step)⟩
     ·rw [if_neg c9] at H
      have c9b0 : decide ((a0.size : Int) < (a1.size : Int)) = false := decide_eq_false c9
      have c9b1 : decide (a0.size < a1.size) = false := decide_eq_false (fun h => c9 (Int.ofNat_lt.mpr h))
      clear c9
      by_cases c11 : (a0.size : Int) = (a1.size : Int)
      ·rw [if_pos c11] at H
       have c11b0 : ((a0.size : Int) == (a1.size : Int)) = true := beq_iff_eq.mpr c11
       have c11b1 : ((a0.size : Int) != (a1.size : Int)) = false := bne_eq_false_iff_eq.mpr c11
       have c11b2 : (a0.size == a1.size) = true := by first | simpa using c11 | (simp at c11 ⊢; omega)
       clear c11
       replace H := Option.bind_eq_some_iff.mp H
       obtain ⟨t372, A120, H⟩ := H
       replace H : (some t372) = some r := H
       have A12 := Aside0.mk A120
       clear A120
       obtain rfl := Option.some.inj H
       go_wp2_with (first | ((with_reducible refine gate_callee (f := 100) rfl ?_); refine goesL_ (some 35) rfl rfl Tryz.func100 (by kernel_rfl) rfl #[.bool (Op.bytesLess a0.toList a1.toList)] rfl (by (try simp only [List.map_toArray, List.map_cons, List.map_nil]); first | done | rfl | (simp only [List.length_drop, List.length_take]; rfl)) ?_; (with_reducible refine (graftbedref03_less.calls (Op.bytesLess a0.toList a1.toList) t372 _ A12.out).mono ?_); rintro e w' ⟨rfl, ⟨nd, rfl⟩⟩; refine ⟨_, rfl, ?_⟩))
       go_ret
       exact ⟨by first | rfl | (simp; done) | (simp [*]; done) | (simp [bne_empty, *]; done), by repeat (first | exact Drawn0.refl _ | apply Drawn0.step)⟩
      ·rw [if_neg c11] at H
       have c11b0 : ((a0.size : Int) == (a1.size : Int)) = false := beq_eq_false_iff_ne.mpr c11
       have c11b1 : ((a0.size : Int) != (a1.size : Int)) = true := bne_iff_ne.mpr c11
       have c11b2 : (a0.size == a1.size) = false := by first | simpa using c11 | (simp at c11 ⊢; omega)
       replace H := Option.bind_eq_some_iff.mp H
       obtain ⟨t373, A130, H⟩ := H
       replace H : (some t373) = some r := H
       have A13 := Aside0.mk A130
       clear A130
       obtain rfl := Option.some.inj H
       go_wp2_with (first | ((with_reducible refine gate_callee (f := 100) rfl ?_); refine goesL_ (some 35) rfl rfl Tryz.func100 (by kernel_rfl) rfl #[.bool false] rfl (by (try simp only [List.map_toArray, List.map_cons, List.map_nil]); first | done | rfl | (simp only [List.length_drop, List.length_take]; rfl)) ?_; (with_reducible refine (graftbedref03_less.calls false t373 _ A13.out).mono ?_); rintro e w' ⟨rfl, ⟨nd, rfl⟩⟩; refine ⟨_, rfl, ?_⟩))
       go_ret
       exact ⟨by first | rfl | (simp; done) | (simp [*]; done) | (simp [bne_empty, *]; done), by repeat (first | exact Drawn0.refl _ | apply Drawn0.step)⟩
    ·replace c8 := Bool.eq_false_iff.mpr c8
     subst c8
     have H1 : (if t369 = true then (graftbedref03_order.j1 kj5 a0 a1 t369 true) else (graftbedref03_order.j1 kj5 a0 a1 t369 t370)) = some r := by rw [if_neg (show ¬ (false = true) by decide)] at H; exact H
     clear H
     have H := H1
     clear H1
     have HC14 := Aside0.mk H
     clear H
     go_upto_region 7 with (fail)
     go_cut [39] (fun v39 wc => ∃ (kq : Nat) (x39_13 : Bool), v39 = .bool x39_13 ∧ Aside0 (graftbedref03_order.j1 kq a0 a1 t369 x39_13 = some r) ∧ Aside0 (kq ≤ kj5) ∧ Drawn0 w wc)
     case first =>
      have H := HC14.out
      clear HC14
      by_cases c15 : t369 = true
      ·subst c15
       have H1 : (graftbedref03_order.j1 kj5 a0 a1 true true) = some r := by rw [if_pos rfl] at H; exact H
       clear H
       have H := H1
       clear H1
       have H' := Aside0.mk H
       clear H
       go_wp2
       go_meet
       case rel => exact ⟨_, (true), (by first | rfl | (simp; done) | (simp [*]; done) | (simp [bne_empty, *]; done)), H', ⟨by have := HJ5.out; first | omega | exact Nat.le_refl _⟩, by repeat (first | exact Drawn0.refl _ | apply Drawn0.step)⟩
      ·replace c15 := Bool.eq_false_iff.mpr c15
       subst c15
       have H1 : (graftbedref03_order.j1 kj5 a0 a1 false t370) = some r := by rw [if_neg (show ¬ (false = true) by decide)] at H; exact H
       clear H
       have H := H1
       clear H1
       have H' := Aside0.mk H
       clear H
       go_wp2
       go_meet
       case rel => exact ⟨_, (t370), (by first | rfl | (simp; done) | (simp [*]; done) | (simp [bne_empty, *]; done)), H', ⟨by have := HJ5.out; first | omega | exact Nat.le_refl _⟩, by repeat (first | exact Drawn0.refl _ | apply Drawn0.step)⟩
     case rest =>
      clear HC14
      try clear c1
      try clear p2
      try clear c3
      try clear c3b0
      try clear c3b1
      try clear c5
      try clear c7
      try clear c8
      try clear c9
      try clear c9b0
      try clear c9b1
      try clear c10
      try clear c11
      try clear c11b0
      try clear c11b1
      try clear c11b2
      try clear c15
      try clear p2
      obtain ⟨kq, x39_13, rfl, HA, HJ13, ⟨mc13, rfl⟩⟩ := hcut
      cases kq with
      | zero => exact absurd HA.out (by simp [graftbedref03_order.j1])
      | succ kj13 =>
       have H := HA.out
       clear HA
       simp only [graftbedref03_order.j1] at H
       by_cases c16 : x39_13 = true
       ·subst c16
        have H1 : ((graftbedref03_less.f t369).bind fun t374 => (some t374)) = some r := by rw [if_pos rfl] at H; exact H
        clear H
        have H := H1
        clear H1
        replace H := Option.bind_eq_some_iff.mp H
        obtain ⟨t374, A170, H⟩ := H
        replace H : (some t374) = some r := H
        have A17 := Aside0.mk A170
        clear A170
        obtain rfl := Option.some.inj H
        go_wp2_with (first | ((with_reducible refine gate_callee (f := 100) rfl ?_); refine goesL_ (some 41) rfl rfl Tryz.func100 (by kernel_rfl) rfl #[.bool t369] rfl (by (try simp only [List.map_toArray, List.map_cons, List.map_nil]); first | done | rfl | (simp only [List.length_drop, List.length_take]; rfl)) ?_; (with_reducible refine (graftbedref03_less.calls t369 t374 _ A17.out).mono ?_); rintro e w' ⟨rfl, ⟨nd, rfl⟩⟩; refine ⟨_, rfl, ?_⟩))
        go_ret
        exact ⟨by first | rfl | (simp; done) | (simp [*]; done) | (simp [bne_empty, *]; done), by repeat (first | exact Drawn0.refl _ | apply Drawn0.step)⟩
       ·replace c16 := Bool.eq_false_iff.mpr c16
        subst c16
        have H1 : ((graftbedref03_less.f (Op.bytesLess a0.toList a1.toList)).bind fun t375 => (some t375)) = some r := by rw [if_neg (show ¬ (false = true) by decide)] at H; exact H
        clear H
        have H := H1
        clear H1
        replace H := Option.bind_eq_some_iff.mp H
        obtain ⟨t375, A180, H⟩ := H
        replace H : (some t375) = some r := H
        have A18 := Aside0.mk A180
        clear A180
        obtain rfl := Option.some.inj H
        go_wp2_with (first | ((with_reducible refine gate_callee (f := 100) rfl ?_); refine goesL_ (some 45) rfl rfl Tryz.func100 (by kernel_rfl) rfl #[.bool (Op.bytesLess a0.toList a1.toList)] rfl (by (try simp only [List.map_toArray, List.map_cons, List.map_nil]); first | done | rfl | (simp only [List.length_drop, List.length_take]; rfl)) ?_; (with_reducible refine (graftbedref03_less.calls (Op.bytesLess a0.toList a1.toList) t375 _ A18.out).mono ?_); rintro e w' ⟨rfl, ⟨nd, rfl⟩⟩; refine ⟨_, rfl, ?_⟩))
        go_ret
        exact ⟨by first | rfl | (simp; done) | (simp [*]; done) | (simp [bne_empty, *]; done), by repeat (first | exact Drawn0.refl _ | apply Drawn0.step)⟩
end Go.Proofs.YtcdcpcdfcmokkaaGreatDoor.P
end
section
namespace Go.Proofs.YtcdcpcdfcmokkaaGreatDoor
open Go Go.RowKit Go.Proofs.YtcdcpcdfcmokkaaGreatDoorW.PrintWords
set_option linter.unusedVariables false
set_option linter.unusedSimpArgs false
theorem list_inj {a b : ByteArray} (h : a.toList = b.toList) : a = b := by
  rw [Lib.toList_data, Lib.toList_data] at h
  rw [← Lib.mk_data a, ← Lib.mk_data b, h]
def lessI (b : Bool) : Int := if b = true then -1 else 1
theorem less_eq (b : Bool) : P.graftbedref03_less.f b = some (lessI b) := by cases b <;> rfl
theorem cmpS_ne {a b : ByteArray} (h : a.toList ≠ b.toList) : cmpS a b = lessI (Op.bytesLess a.toList b.toList) := by
  unfold cmpS lessI
  have ht := less_tri a.toList b.toList
  have he : (a.toList == b.toList) = false := by simpa using h
  cases h1 : Op.bytesLess a.toList b.toList with
  | true => simp
  | false => rw [h1, he] at ht; simp [← ht]
theorem cmpS_zero {a b : ByteArray} (h : cmpS a b = 0) : a = b := by
  by_cases e : a.toList = b.toList
  · exact list_inj e
  · rw [cmpS_ne e] at h; unfold lessI at h; split at h <;> cases h
theorem cmpS_same (a : ByteArray) : cmpS a a = 0 := by unfold cmpS; rw [less_irrefl]; rfl
theorem orderB_zero {a b : ByteArray} (h : orderB a b = 0) : a = b := by
  unfold orderB at h
  split at h
  · split at h
    · unfold orI at h
      split at h
      · rename_i h1; exact absurd h h1
      · exact cmpS_zero h
    · cases h
  · split at h
    · cases h
    · exact cmpS_zero h
theorem orderB_same (a : ByteArray) : orderB a a = 0 := by
  unfold orderB orI
  have h1 : cmpI (a.size : Int) a.size = 0 := by unfold cmpI; rw [if_neg (by omega), if_neg (by omega)]
  rw [cmpS_same, h1]
  cases everyB digitB a <;> simp
theorem rorder_ev (a b : ByteArray) (ha : a.size ≤ 1099511627776) (hb : b.size ≤ 1099511627776) : Ev (fun k => P.graftbedref03_order.f k a b) (orderB a b) := by
  unfold P.graftbedref03_order.f
  by_cases e : a.toList = b.toList
  · obtain rfl := list_inj e
    rw [orderB_same]
    exact Ev.pos rfl (Ev.now _)
  · refine Ev.neg e ?_
    refine Ev.bind (f := fun k t => (P.graftbedref03_digits.f k b).bind fun u => if t = true then P.graftbedref03_order.j0 k a b t u u else P.graftbedref03_order.j0 k a b t u false) (digits_ev a ha) ?_
    refine Ev.bind (f := fun k u => if everyB digitB a = true then P.graftbedref03_order.j0 k a b (everyB digitB a) u u else P.graftbedref03_order.j0 k a b (everyB digitB a) u false) (digits_ev b hb) ?_
    have hs := cmpS_ne e
    cases x : everyB digitB a with
    | true =>
      refine Ev.pos rfl ?_
      cases y : everyB digitB b with
      | true =>
        have ho : orderB a b = orI (cmpI a.size b.size) (cmpS a b) := by unfold orderB; rw [if_pos x, if_pos y]
        refine Ev.step (f := fun _ => some _) (fun k => ?_) (Ev.now _)
        rw [P.graftbedref03_order.j0, if_pos rfl, ho, hs]
        unfold orI cmpI
        by_cases h1 : (a.size : Int) < (b.size : Int)
        · rw [if_pos h1, less_eq]; simp [h1, lessI]
        · by_cases h2 : (a.size : Int) = (b.size : Int)
          · rw [if_neg h1, if_pos h2, less_eq]; simp [h2]
          · rw [if_neg h1, if_neg h2, less_eq]; simp [h1, lessI]; omega
      | false =>
        have ho : orderB a b = -1 := by unfold orderB; rw [if_pos x, if_neg (by rw [y]; decide)]
        refine Ev.step (f := fun k => P.graftbedref03_order.j1 k a b true true) (fun k => by rw [P.graftbedref03_order.j0, if_neg (by decide), if_pos rfl]) ?_
        refine Ev.step (f := fun _ => some _) (fun k => ?_) (Ev.now _)
        rw [P.graftbedref03_order.j1, if_pos rfl, less_eq, ho]; rfl
    | false =>
      refine Ev.neg (by decide) ?_
      cases y : everyB digitB b with
      | true =>
        have ho : orderB a b = 1 := by unfold orderB; rw [if_neg (by rw [x]; decide), if_pos y]
        refine Ev.step (f := fun k => P.graftbedref03_order.j1 k a b false true) (fun k => by rw [P.graftbedref03_order.j0, if_neg (by decide), if_neg (by decide)]) ?_
        refine Ev.step (f := fun _ => some _) (fun k => ?_) (Ev.now _)
        rw [P.graftbedref03_order.j1, if_pos rfl, less_eq, ho]; rfl
      | false =>
        have ho : orderB a b = cmpS a b := by unfold orderB; rw [if_neg (by rw [x]; decide), if_neg (by rw [y]; decide)]
        refine Ev.step (f := fun k => P.graftbedref03_order.j1 k a b false false) (fun k => by rw [P.graftbedref03_order.j0, if_neg (by decide), if_neg (by decide)]) ?_
        refine Ev.step (f := fun _ => some _) (fun k => ?_) (Ev.now _)
        rw [P.graftbedref03_order.j1, if_neg (by decide), less_eq, ho, hs]; rfl
def verCmp (a b : ByteArray) : Int :=
  if verOk a = true then (if verOk b = true then orI (cmpI (numAt a 0) (numAt b 0)) (orI (cmpI (numAt a 1) (numAt b 1)) (orI (cmpI (numAt a 2) (numAt b 2)) (orderPreB (preB a) (preB b)))) else 1) else if verOk b = true then -1 else 0
theorem or4_ev (a b c d : Int) : Ev (fun k => P.cmp_Or_int.f k [a, b, c, d]) (orI a (orI b (orI c d))) := by
  refine Ev.of (fun k => P.cmp_Or_int.mono _ k) (k := 5) ?_
  by_cases h0 : a = 0
  · subst h0; by_cases h1 : b = 0
    · subst h1; by_cases h2 : c = 0
      · subst h2; by_cases h3 : d = 0
        · subst h3; simp [P.cmp_Or_int.f, P.cmp_Or_int.l0, rd, wrap64, orI]
        · simp [P.cmp_Or_int.f, P.cmp_Or_int.l0, rd, wrap64, orI, h3]
      · simp [P.cmp_Or_int.f, P.cmp_Or_int.l0, rd, wrap64, orI, h2]
    · simp [P.cmp_Or_int.f, P.cmp_Or_int.l0, rd, wrap64, orI, h1]
  · simp [P.cmp_Or_int.f, P.cmp_Or_int.l0, rd, orI, h0]
theorem or3_ev (a b c : Int) : Ev (fun k => P.cmp_Or_int.f k [a, b, c]) (orI a (orI b c)) := by
  refine Ev.of (fun k => P.cmp_Or_int.mono _ k) (k := 5) ?_
  by_cases h0 : a = 0
  · subst h0; by_cases h1 : b = 0
    · subst h1; by_cases h2 : c = 0
      · subst h2; simp [P.cmp_Or_int.f, P.cmp_Or_int.l0, rd, wrap64, orI]
      · simp [P.cmp_Or_int.f, P.cmp_Or_int.l0, rd, wrap64, orI, h2]
    · simp [P.cmp_Or_int.f, P.cmp_Or_int.l0, rd, wrap64, orI, h1]
  · simp [P.cmp_Or_int.f, P.cmp_Or_int.l0, rd, orI, h0]
theorem verErr_iff (s : ByteArray) : verErr s = 0 ↔ verOk s = true := by unfold verErr; split <;> simp_all
theorem preB_le (s : ByteArray) (hs : s.size ≤ 1099511627775) : (preB s).size ≤ 60 := by
  unfold preB
  split
  · rename_i h
    unfold verOk at h
    simp only [Bool.and_eq_true, decide_eq_true_eq] at h
    have h1 : (restB s).size ≤ 60 := by
      rw [← rest_eq h.1, ByteArray.size_extract]; omega
    have h2 : (metaC s).1.size ≤ 60 := Nat.le_trans (cut_piece_size _ _) h1
    exact Nat.le_trans (cutB_le _ _) h2
  · decide
def joinC (c : UInt8) : List (List UInt8) → List UInt8
  | [] => []
  | [p] => p
  | p :: q :: ps => p ++ c :: joinC c (q :: ps)
theorem join_pieces (c : UInt8) : ∀ l : List UInt8, joinC c (pieces c l) = l
  | [] => rfl
  | b :: l => by
    have ih := join_pieces c l
    unfold pieces
    by_cases h : b = c
    · rw [if_pos h]
      cases hp : pieces c l with
      | nil => exact absurd hp (pieces_ne c l)
      | cons p ps => rw [hp] at ih; simp [joinC, ih, h]
    · rw [if_neg h]
      cases hp : pieces c l with
      | nil => exact absurd hp (pieces_ne c l)
      | cons p ps =>
        rw [hp] at ih
        cases ps with
        | nil => simp only [joinC] at ih ⊢; rw [ih]
        | cons q qs => simp only [joinC, List.cons_append] at ih ⊢; rw [ih]
theorem piecesB_inj {c : UInt8} {a b : ByteArray} (h : piecesB c a = piecesB c b) : a = b := by
  have h2 : pieces c a.data.toList = pieces c b.data.toList := by
    unfold piecesB at h
    have := congrArg (List.map fun x : ByteArray => x.data.toList) h
    simpa [List.map_map, Function.comp_def, toB_data] using this
  have := congrArg (joinC c) h2
  rw [join_pieces, join_pieces] at this
  rw [← Lib.mk_data a, ← Lib.mk_data b, this]
theorem cmpI_ne {a b : Int} (h : ¬ a = b) : cmpI a b = lessI (decide (a < b)) ∧ cmpI a b ≠ 0 := by
  unfold cmpI lessI
  by_cases h1 : a < b
  · simp [h1]
  · rw [if_neg h1, if_pos (by omega)]; simp [h1]
theorem cmpI_same (a : Int) : cmpI a a = 0 := by unfold cmpI; rw [if_neg (by omega), if_neg (by omega)]
end Go.Proofs.YtcdcpcdfcmokkaaGreatDoor
end
section
namespace Go.Proofs.YtcdcpcdfcmokkaaGreatDoor.P
open Go.RowKit Go.Proofs.YtcdcpcdfcmokkaaGreatDoorW.PrintWords
set_option linter.unusedVariables false
def oneB (s : ByteArray) : Option UInt8 := match s.data.toList with | [c] => some c | _ => none
theorem oneB_eq {s : ByteArray} {c : UInt8} (h : oneB s = some c) : s = ⟨#[c]⟩ := by
  unfold oneB at h
  split at h
  · rename_i d e
    cases h
    rw [← Lib.mk_data s, e]
  · cases h
def strings_Cut.f (a0 a1 : ByteArray) : Option (ByteArray × ByteArray × Bool) := if a0.size ≤ 9223372036854775807 then (oneB a1).map fun c => ((cutB c a0).1, (cutB c a0).2.1, (cutB c a0).2.2) else none
theorem strings_Cut.calls (a0 a1 : ByteArray) (r1 r2 : ByteArray) (r3 : Bool) (w : World) (h : strings_Cut.f a0 a1 = some (r1, r2, r3)) :
    Calls Tryz.prog 38 #[.string a0, .string a1] w fun e w' => e = .returned (.tuple #[.string r1, .string r2, .bool r3]) ∧ Drawn0 w w' := by
  unfold strings_Cut.f at h
  split at h
  · rename_i hs
    obtain ⟨c, hc, e⟩ := Option.map_eq_some_iff.1 h
    obtain rfl := oneB_eq hc
    simp only [Prod.mk.injEq] at e
    obtain ⟨rfl, rfl, rfl⟩ := e
    exact (cut_one c a0 w hs).mono fun e w' h => ⟨h.1, ⟨h.2⟩⟩
  · cases h
def strings_Count.f (a0 a1 : ByteArray) : Option Int := (oneB a1).map fun c => ((Lib.countByte a0.data.toList c : Nat) : Int)
theorem strings_Count.calls (a0 a1 : ByteArray) (r : Int) (w : World) (h : strings_Count.f a0 a1 = some r) :
    Calls Tryz.prog 81 #[.string a0, .string a1] w fun e w' => e = .returned (.int .i64 r) ∧ Drawn0 w w' := by
  obtain ⟨c, hc, rfl⟩ := Option.map_eq_some_iff.1 h
  obtain rfl := oneB_eq hc
  exact (Tryz.strings_Count_one a0 c w).mono fun e w' h => ⟨h.1, by rw [h.2]; exact Drawn0.refl _⟩
def asciiB (s : ByteArray) : Bool := s.data.toList.all fun b => decide (b.toNat < 128)
theorem asciiB_spec {s : ByteArray} (h : asciiB s = true) (j : Nat) (b : UInt8) (hb : s.data.toList[j]? = some b) : b.toNat < 128 := by
  obtain ⟨hj, rfl⟩ := List.getElem?_eq_some_iff.1 hb
  simpa using List.all_eq_true.1 h _ (List.getElem_mem hj)
def strings_ContainsAny.f (a0 a1 : ByteArray) : Option Bool := if a0.size < 4294967281 ∧ a1.size < 4294967281 ∧ asciiB a0 = true ∧ asciiB a1 = true then some (Lib.containsAny a0.data.toList a1.data.toList) else none
theorem strings_ContainsAny.calls (a0 a1 : ByteArray) (r : Bool) (w : World) (h : strings_ContainsAny.f a0 a1 = some r) :
    Calls Tryz.prog 82 #[.string a0, .string a1] w fun e w' => e = .returned (.bool r) ∧ Below w.heap.size w w' := by
  unfold strings_ContainsAny.f at h
  split at h
  · rename_i hh
    obtain rfl := Option.some.inj h
    exact Tryz.strings_ContainsAny_laid a0 a1 w hh.1 hh.2.1 (asciiB_spec hh.2.2.1) (asciiB_spec hh.2.2.2)
  · cases h
end Go.Proofs.YtcdcpcdfcmokkaaGreatDoor.P
end
section
namespace Go.Proofs.YtcdcpcdfcmokkaaGreatDoor.P
open Go.RowKit Go.Proofs.YtcdcpcdfcmokkaaGreatDoorW.PrintWords Go.Proofs.YtcdcpcdfcmokkaaGreatDoorW.PrintLast Go.Proofs.YtcdcpcdfcmokkaaGreatDoorW.PrintMore
open Go.Proofs.YtcdcpcdfcmokkaaGreatDoor (str_gtr str_leq str_geq bne_empty)
attribute [local go_sem] max2_int min2_int max_two min_two max_three min_three max_four min_four str_gtr str_leq str_geq   -- for this text's walks alone
set_option linter.unusedVariables false
set_option linter.unusedSimpArgs false
def semver_Canonical.f (a0 : ByteArray) : Option (ByteArray) := (semver_Parse.f a0).bind fun bt155 => (if bt155.2.2.2.2.2 = 0 then (if bt155.2.2.2.2.1.toList = ([105, 110, 99, 111, 109, 112, 97, 116, 105, 98, 108, 101] : List UInt8) then (some a0) else ((strings_Cut.f a0 (⟨#[43]⟩ : ByteArray)).bind fun bt162 => (some bt162.1))) else (some (⟨#[]⟩ : ByteArray)))
set_option maxHeartbeats 8000000 in
set_option maxRecDepth 100000 in
theorem semver_Canonical.calls (a0 : ByteArray) (r : ByteArray) (w : World) (h : semver_Canonical.f a0 = some r) :
  Calls Tryz.prog 94 #[.string a0] w fun e w' => e = .returned (.string r) ∧ Below w.heap.size w w' := by
 have hu111 := Tryz.underlying111
 have HB := Aside0.mk (Below.refl w.heap.size w)
 have H : ((semver_Parse.f a0).bind fun bt155 => (if bt155.2.2.2.2.2 = 0 then (if bt155.2.2.2.2.1.toList = ([105, 110, 99, 111, 109, 112, 97, 116, 105, 98, 108, 101] : List UInt8) then (some a0) else ((strings_Cut.f a0 (⟨#[43]⟩ : ByteArray)).bind fun bt162 => (some bt162.1))) else (some (⟨#[]⟩ : ByteArray)))) = some r := h
 clear h
 replace H := Option.bind_eq_some_iff.mp H
 obtain ⟨⟨t155, t156, t157, t158, t159, t160⟩, A20, H⟩ := H
 replace H : (if t160 = 0 then (if t159.toList = ([105, 110, 99, 111, 109, 112, 97, 116, 105, 98, 108, 101] : List UInt8) then (some a0) else ((strings_Cut.f a0 (⟨#[43]⟩ : ByteArray)).bind fun bt162 => (some bt162.1))) else (some (⟨#[]⟩ : ByteArray))) = some r := H
 have A2 := Aside0.mk A20
 clear A20
 by_cases c3 : t160 = 0
 ·rw [if_pos c3] at H
  have c3b0 : (t160 == 0) = true := beq_iff_eq.mpr c3
  have c3b1 : (t160 != 0) = false := bne_eq_false_iff_eq.mpr c3
  clear c3
  by_cases c4 : t159.toList = ([105, 110, 99, 111, 109, 112, 97, 116, 105, 98, 108, 101] : List UInt8)
  ·rw [if_pos c4] at H
   have c4b0 : (t159.toList == ([105, 110, 99, 111, 109, 112, 97, 116, 105, 98, 108, 101] : List UInt8)) = true := beq_iff_eq.mpr c4
   have c4b1 : (t159.toList != ([105, 110, 99, 111, 109, 112, 97, 116, 105, 98, 108, 101] : List UInt8)) = false := bne_eq_false_iff_eq.mpr c4
   clear c4
   obtain rfl := Option.some.inj H
   go_enter Tryz.func94, Tryz.ntmps94
   go_wp2_with (first | ((with_reducible refine gate_callee (f := 80) rfl ?_); refine goesL_ (some 7) rfl rfl Tryz.func80 (by kernel_rfl) rfl #[.string a0] rfl (by (try simp only [List.map_toArray, List.map_cons, List.map_nil]); first | done | rfl | (simp only [List.length_drop, List.length_take]; rfl)) ?_; (with_reducible refine (semver_Parse.calls a0 t155 t156 t157 t158 t159 t160 _ A2.out).mono ?_); rintro e w5 ⟨rfl, hb⟩; refine ⟨_, rfl, ?_⟩; have n0_ := Aside0.mk (below_step (by repeat (first | (with_reducible first | exact HB.out | apply below_alloc | apply pw_below_drewN | apply below_drew1) | exact HB.out)) hb); clear HB; have HB := n0_; clear n0_; (try clear hb); (try clear hb2); (try clear hk); (try clear hi)) | ((with_reducible refine gate_dst (N := 3) rfl ?_); refine box_event ?hg (N := 3) ?hd (cs := #[.int .i64 0, .int .i64 0, .int .i64 0, .string (⟨#[]⟩ : ByteArray), .string (⟨#[]⟩ : ByteArray)]) (t := 111) ?hr ?_; (case hd => rfl); (case hg => rfl); (case hr => first | (go_simp; done) | (go_simp; rfl)); intro gb161 hg w6 hbox hb; have n0_ := Aside0.mk (below_step (by repeat (first | (with_reducible first | exact HB.out | apply below_alloc | apply pw_below_drewN | apply below_drew1) | exact HB.out)) hb); have n1_ := Aside0.mk (hbox); have n2_ := Aside0.mk ((by rw [hg]; exact (below_size (by repeat (first | (with_reducible first | exact HB.out | apply below_alloc | apply pw_below_drewN | apply below_drew1) | exact HB.out))) : w.heap.size ≤ gb161)); have n3_ := Aside0.mk ((by rw [hg]; exact (below_size (by repeat (first | (with_reducible first | exact HB.out | apply below_alloc | apply pw_below_drewN | apply below_drew1) | exact HB.out))) : w.heap.size ≤ gb161)); clear HB; have HB := n0_; have BK161 := n1_; have GW161 := n2_; have GE161 := n3_; clear n0_ n1_ n2_ n3_; clear hb hbox hg; have hcz7_0 : w6.cell? ⟨gb161, 0, none⟩ = some (.int .i64 0) := (blk_cell BK161.out 0).trans rfl; have hcz7_1 : w6.cell? ⟨gb161, 1, none⟩ = some (.int .i64 0) := (blk_cell BK161.out 1).trans rfl; have hcz7_2 : w6.cell? ⟨gb161, 2, none⟩ = some (.int .i64 0) := (blk_cell BK161.out 2).trans rfl; have hcz7_3 : w6.cell? ⟨gb161, 3, none⟩ = some (.string (⟨#[]⟩ : ByteArray)) := (blk_cell BK161.out 3).trans rfl; have hcz7_4 : w6.cell? ⟨gb161, 4, none⟩ = some (.string (⟨#[]⟩ : ByteArray)) := (blk_cell BK161.out 4).trans rfl; have hfz7_0 := blk_frozen BK161.out 0; have hfz7_1 := blk_frozen BK161.out 1; have hfz7_2 := blk_frozen BK161.out 2; have hfz7_3 := blk_frozen BK161.out 3; have hfz7_4 := blk_frozen BK161.out 4))
   go_ret
   exact ⟨by first | rfl | (simp [errW_none, errW_some] <;> rfl) | (simp [*, errW_none, errW_some] <;> rfl) | (exfalso; simp_all; done) | (exfalso; omega), by repeat (first | (with_reducible first | exact HB.out | apply below_alloc | apply pw_below_drewN | apply below_drew1 | refine below_set ?_ GE161.out) | exact HB.out)⟩
  ·rw [if_neg c4] at H
   have c4b0 : (t159.toList == ([105, 110, 99, 111, 109, 112, 97, 116, 105, 98, 108, 101] : List UInt8)) = false := beq_eq_false_iff_ne.mpr c4
   have c4b1 : (t159.toList != ([105, 110, 99, 111, 109, 112, 97, 116, 105, 98, 108, 101] : List UInt8)) = true := bne_iff_ne.mpr c4
   replace H := Option.bind_eq_some_iff.mp H
   obtain ⟨⟨t162, t163, t164⟩, A80, H⟩ := H
   replace H : (some t162) = some r := H
   have A8 := Aside0.mk A80
   clear A80
   obtain rfl := Option.some.inj H
   go_enter Tryz.func94, Tryz.ntmps94
   go_wp2_with (first | ((with_reducible refine gate_callee (f := 80) rfl ?_); refine goesL_ (some 7) rfl rfl Tryz.func80 (by kernel_rfl) rfl #[.string a0] rfl (by (try simp only [List.map_toArray, List.map_cons, List.map_nil]); first | done | rfl | (simp only [List.length_drop, List.length_take]; rfl)) ?_; (with_reducible refine (semver_Parse.calls a0 t155 t156 t157 t158 t159 t160 _ A2.out).mono ?_); rintro e w9 ⟨rfl, hb⟩; refine ⟨_, rfl, ?_⟩; have n0_ := Aside0.mk (below_step (by repeat (first | (with_reducible first | exact HB.out | apply below_alloc | apply pw_below_drewN | apply below_drew1) | exact HB.out)) hb); clear HB; have HB := n0_; clear n0_; (try clear hb); (try clear hb2); (try clear hk); (try clear hi)) | ((with_reducible refine gate_dst (N := 3) rfl ?_); refine box_event ?hg (N := 3) ?hd (cs := #[.int .i64 0, .int .i64 0, .int .i64 0, .string (⟨#[]⟩ : ByteArray), .string (⟨#[]⟩ : ByteArray)]) (t := 111) ?hr ?_; (case hd => rfl); (case hg => rfl); (case hr => first | (go_simp; done) | (go_simp; rfl)); intro gb161 hg w10 hbox hb; have n0_ := Aside0.mk (below_step (by repeat (first | (with_reducible first | exact HB.out | apply below_alloc | apply pw_below_drewN | apply below_drew1) | exact HB.out)) hb); have n1_ := Aside0.mk (hbox); have n2_ := Aside0.mk ((by rw [hg]; exact (below_size (by repeat (first | (with_reducible first | exact HB.out | apply below_alloc | apply pw_below_drewN | apply below_drew1) | exact HB.out))) : w.heap.size ≤ gb161)); have n3_ := Aside0.mk ((by rw [hg]; exact (below_size (by repeat (first | (with_reducible first | exact HB.out | apply below_alloc | apply pw_below_drewN | apply below_drew1) | exact HB.out))) : w.heap.size ≤ gb161)); clear HB; have HB := n0_; have BK161 := n1_; have GW161 := n2_; have GE161 := n3_; clear n0_ n1_ n2_ n3_; clear hb hbox hg; have hcz11_0 : w10.cell? ⟨gb161, 0, none⟩ = some (.int .i64 0) := (blk_cell BK161.out 0).trans rfl; have hcz11_1 : w10.cell? ⟨gb161, 1, none⟩ = some (.int .i64 0) := (blk_cell BK161.out 1).trans rfl; have hcz11_2 : w10.cell? ⟨gb161, 2, none⟩ = some (.int .i64 0) := (blk_cell BK161.out 2).trans rfl; have hcz11_3 : w10.cell? ⟨gb161, 3, none⟩ = some (.string (⟨#[]⟩ : ByteArray)) := (blk_cell BK161.out 3).trans rfl; have hcz11_4 : w10.cell? ⟨gb161, 4, none⟩ = some (.string (⟨#[]⟩ : ByteArray)) := (blk_cell BK161.out 4).trans rfl; have hfz11_0 := blk_frozen BK161.out 0; have hfz11_1 := blk_frozen BK161.out 1; have hfz11_2 := blk_frozen BK161.out 2; have hfz11_3 := blk_frozen BK161.out 3; have hfz11_4 := blk_frozen BK161.out 4) | ((with_reducible refine gate_callee (f := 38) rfl ?_); refine goesL_ (some 20) rfl rfl Tryz.func38 (by kernel_rfl) rfl #[.string a0, .string (⟨#[43]⟩ : ByteArray)] rfl (by (try simp only [List.map_toArray, List.map_cons, List.map_nil]); first | done | rfl | (simp only [List.length_drop, List.length_take]; rfl)) ?_; (with_reducible refine (strings_Cut.calls a0 (⟨#[43]⟩ : ByteArray) t162 t163 t164 _ A8.out).mono ?_); rintro e w' ⟨rfl, ⟨nd, rfl⟩⟩; refine ⟨_, rfl, ?_⟩))
   go_ret
   exact ⟨by first | rfl | (simp [errW_none, errW_some] <;> rfl) | (simp [*, errW_none, errW_some] <;> rfl) | (exfalso; simp_all; done) | (exfalso; omega), by repeat (first | (with_reducible first | exact HB.out | apply below_alloc | apply pw_below_drewN | apply below_drew1 | refine below_set ?_ GE161.out) | exact HB.out)⟩
 ·rw [if_neg c3] at H
  have c3b0 : (t160 == 0) = false := beq_eq_false_iff_ne.mpr c3
  have c3b1 : (t160 != 0) = true := bne_iff_ne.mpr c3
  obtain rfl := Option.some.inj H
  go_enter Tryz.func94, Tryz.ntmps94
  go_wp2_with (first | ((with_reducible refine gate_callee (f := 80) rfl ?_); refine goesL_ (some 7) rfl rfl Tryz.func80 (by kernel_rfl) rfl #[.string a0] rfl (by (try simp only [List.map_toArray, List.map_cons, List.map_nil]); first | done | rfl | (simp only [List.length_drop, List.length_take]; rfl)) ?_; (with_reducible refine (semver_Parse.calls a0 t155 t156 t157 t158 t159 t160 _ A2.out).mono ?_); rintro e w12 ⟨rfl, hb⟩; refine ⟨_, rfl, ?_⟩; have n0_ := Aside0.mk (below_step (by repeat (first | (with_reducible first | exact HB.out | apply below_alloc | apply pw_below_drewN | apply below_drew1) | exact HB.out)) hb); clear HB; have HB := n0_; clear n0_; (try clear hb); (try clear hb2); (try clear hk); (try clear hi)) | ((with_reducible refine gate_dst (N := 3) rfl ?_); refine box_event ?hg (N := 3) ?hd (cs := #[.int .i64 0, .int .i64 0, .int .i64 0, .string (⟨#[]⟩ : ByteArray), .string (⟨#[]⟩ : ByteArray)]) (t := 111) ?hr ?_; (case hd => rfl); (case hg => rfl); (case hr => first | (go_simp; done) | (go_simp; rfl)); intro gb161 hg w13 hbox hb; have n0_ := Aside0.mk (below_step (by repeat (first | (with_reducible first | exact HB.out | apply below_alloc | apply pw_below_drewN | apply below_drew1) | exact HB.out)) hb); have n1_ := Aside0.mk (hbox); have n2_ := Aside0.mk ((by rw [hg]; exact (below_size (by repeat (first | (with_reducible first | exact HB.out | apply below_alloc | apply pw_below_drewN | apply below_drew1) | exact HB.out))) : w.heap.size ≤ gb161)); have n3_ := Aside0.mk ((by rw [hg]; exact (below_size (by repeat (first | (with_reducible first | exact HB.out | apply below_alloc | apply pw_below_drewN | apply below_drew1) | exact HB.out))) : w.heap.size ≤ gb161)); clear HB; have HB := n0_; have BK161 := n1_; have GW161 := n2_; have GE161 := n3_; clear n0_ n1_ n2_ n3_; clear hb hbox hg; have hcz14_0 : w13.cell? ⟨gb161, 0, none⟩ = some (.int .i64 0) := (blk_cell BK161.out 0).trans rfl; have hcz14_1 : w13.cell? ⟨gb161, 1, none⟩ = some (.int .i64 0) := (blk_cell BK161.out 1).trans rfl; have hcz14_2 : w13.cell? ⟨gb161, 2, none⟩ = some (.int .i64 0) := (blk_cell BK161.out 2).trans rfl; have hcz14_3 : w13.cell? ⟨gb161, 3, none⟩ = some (.string (⟨#[]⟩ : ByteArray)) := (blk_cell BK161.out 3).trans rfl; have hcz14_4 : w13.cell? ⟨gb161, 4, none⟩ = some (.string (⟨#[]⟩ : ByteArray)) := (blk_cell BK161.out 4).trans rfl; have hfz14_0 := blk_frozen BK161.out 0; have hfz14_1 := blk_frozen BK161.out 1; have hfz14_2 := blk_frozen BK161.out 2; have hfz14_3 := blk_frozen BK161.out 3; have hfz14_4 := blk_frozen BK161.out 4))
  go_ret
  exact ⟨by first | rfl | (simp [errW_none, errW_some] <;> rfl) | (simp [*, errW_none, errW_some] <;> rfl) | (exfalso; simp_all; done) | (exfalso; omega), by repeat (first | (with_reducible first | exact HB.out | apply below_alloc | apply pw_below_drewN | apply below_drew1 | refine below_set ?_ GE161.out) | exact HB.out)⟩
end Go.Proofs.YtcdcpcdfcmokkaaGreatDoor.P
end
