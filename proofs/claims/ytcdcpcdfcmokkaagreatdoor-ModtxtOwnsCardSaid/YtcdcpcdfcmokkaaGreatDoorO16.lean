/- Compare and Within of layer 1: the program's and the document's, in plain words. · Functions of semver, taken as given by the printed walks. -/
import Derived.Test.YtcdcpcdfcmokkaaGreatDoorO05
import Derived.Test.YtcdcpcdfcmokkaaGreatDoorO09
import Derived.Test.YtcdcpcdfcmokkaaGreatDoorO15
import Derived.Test.YtcdcpcdfcmokkaaGreatDoorO11
set_option linter.unusedVariables false
set_option linter.unusedSimpArgs false
section
namespace Go.Proofs.YtcdcpcdfcmokkaaGreatDoor.P
open Go.RowKit Go.Proofs.YtcdcpcdfcmokkaaGreatDoorW.PrintWords Go.Proofs.YtcdcpcdfcmokkaaGreatDoorW.PrintLast Go.Proofs.YtcdcpcdfcmokkaaGreatDoorW.PrintMore
open Go.Proofs.YtcdcpcdfcmokkaaGreatDoor (str_gtr str_leq str_geq bne_empty)
attribute [local go_sem] max2_int min2_int max_two min_two max_three min_three max_four min_four str_gtr str_leq str_geq   -- for this text's walks alone
set_option linter.unusedVariables false
set_option linter.unusedSimpArgs false
def slices_Compare_string_string.l0 : Nat → List ByteArray → List ByteArray → List ByteArray → Int → Int → Option (Int)
 | 0, _, _, _, _, _ => none
 | k + 1, x0, x1, x9, x10, x11 => if x11 < x10 then (if 0 ≤ x11 then (if x11 < (x9.length : Int) then (if x11 ≥ (x1.length : Int) then (some 1) else (if x11 < (x1.length : Int) then ((cmp_Compare_string.f (rdOf ByteArray.empty x9 x11) (rdOf ByteArray.empty x1 x11)).bind fun t218 => (if t218 = 0 then (slices_Compare_string_string.l0 k x0 x1 x9 x10 (wrap64 (x11 + 1))) else (some t218))) else (none))) else (none)) else (none)) else (if (x0.length : Int) < (x1.length : Int) then (some (-1)) else (some 0))
def slices_Compare_string_string.f (k : Nat) (l0 : List ByteArray) (l1 : List ByteArray) : Option (Int) := slices_Compare_string_string.l0 k l0 l1 l0 (l0.length : Int) 0
set_option maxHeartbeats 8000000 in
set_option maxRecDepth 100000 in
theorem slices_Compare_string_string.calls (k : Nat) (A0 : Option Addr) (c0 : Nat) (l0 : List ByteArray) (A1 : Option Addr) (c1 : Nat) (l1 : List ByteArray) (r : Int) (w : World) (hr0 : Kd.C Kd.string w A0 l0.length l0) (hc0 : l0.length ≤ c0) (hr1 : Kd.C Kd.string w A1 l1.length l1) (hc1 : l1.length ≤ c1) (h : slices_Compare_string_string.f k l0 l1 = some r) :
  Calls Tryz.prog 83 #[.slice A0 l0.length c0, .slice A1 l1.length c1] w fun e w' => e = .returned (.int .i64 r) ∧ Drawn0 w w' := by
 have HR0 := Aside0.mk hr0
 have HC0 := Aside0.mk hc0
 clear hr0 hc0
 have HR1 := Aside0.mk hr1
 have HC1 := Aside0.mk hc1
 clear hr1 hc1
 have H : (slices_Compare_string_string.l0 k l0 l1 l0 (l0.length : Int) 0) = some r := h
 clear h
 have H' := Aside0.mk H
 clear H
 go_enter Tryz.func83, Tryz.ntmps83
 go_wp2
 go_loopg [11] k (fun kq v11 w' => ∃ (x11_1 : Int), v11 = .int .i64 x11_1 ∧ Aside0 (slices_Compare_string_string.l0 kq l0 l1 l0 (l0.length : Int) x11_1 = some r) ∧ Aside0 (kq ≤ k) ∧ Drawn0 w w')
 case atStart => exact ⟨(0), (by first | rfl | (simp; done) | (simp [*]; done) | (simp [bne_empty, *]; done)), H', ⟨Nat.le_refl _⟩, by repeat (first | exact Drawn0.refl _ | apply Drawn0.step)⟩
 case round =>
  clear H'
  try clear c1
  try clear p2
  obtain ⟨x11_1, rfl, HA, HK1, ⟨m1, rfl⟩⟩ := hrel
  cases gk with
  | zero => exact absurd HA.out (by simp [slices_Compare_string_string.l0])
  | succ k1 =>
   have H := HA.out
   clear HA
   simp only [slices_Compare_string_string.l0] at H
   by_cases c3 : x11_1 < (l0.length : Int)
   ·rw [if_pos c3] at H
    have c3b0 : decide (x11_1 < (l0.length : Int)) = true := decide_eq_true c3
    clear c3
    by_cases c4 : 0 ≤ x11_1
    ·rw [if_pos c4] at H
     have c4b0 : decide (0 ≤ x11_1) = true := decide_eq_true c4
     clear c4
     by_cases c5 : x11_1 < (l0.length : Int)
     ·rw [if_pos c5] at H
      have c5b0 : decide (x11_1 < (l0.length : Int)) = true := decide_eq_true c5
      clear c5
      by_cases c6 : x11_1 ≥ (l1.length : Int)
      ·rw [if_pos c6] at H
       have c6b0 : decide ((l1.length : Int) ≤ x11_1) = true := decide_eq_true c6
       clear c6
       obtain rfl := Option.some.inj H
       have p216 : 0 ≤ (x11_1 : Int) := of_decide_eq_true (by first | (with_reducible assumption) | assumption)
       have q216 : x11_1 < (l0.length : Int) := of_decide_eq_true (by first | (with_reducible assumption) | assumption)
       obtain ⟨ad216, e216, hx216_0⟩ := Kd.at_string HR0.out x11_1 p216 q216
       cases e216
       replace p216 := eq_true p216
       replace q216 := eq_true q216
       go_wp2
       go_ret
       exact ⟨by first | rfl | (simp; done) | (simp [*]; done) | (simp [bne_empty, *]; done), by repeat (first | exact Drawn0.refl _ | apply Drawn0.step)⟩
      ·rw [if_neg c6] at H
       have c6b0 : decide ((l1.length : Int) ≤ x11_1) = false := decide_eq_false c6
       clear c6
       by_cases c7 : x11_1 < (l1.length : Int)
       ·rw [if_pos c7] at H
        have c7b0 : decide (x11_1 < (l1.length : Int)) = true := decide_eq_true c7
        clear c7
        replace H := Option.bind_eq_some_iff.mp H
        obtain ⟨t218, A80, H⟩ := H
        replace H : (if t218 = 0 then (slices_Compare_string_string.l0 k1 l0 l1 l0 (l0.length : Int) (wrap64 (x11_1 + 1))) else (some t218)) = some r := H
        have A8 := Aside0.mk A80
        clear A80
        by_cases c9 : t218 = 0
        ·rw [if_pos c9] at H
         have c9b0 : (t218 == 0) = true := beq_iff_eq.mpr c9
         have c9b1 : (t218 != 0) = false := bne_eq_false_iff_eq.mpr c9
         clear c9
         have H' := Aside0.mk H
         clear H
         have p216 : 0 ≤ (x11_1 : Int) := of_decide_eq_true (by first | (with_reducible assumption) | assumption)
         have q216 : x11_1 < (l0.length : Int) := of_decide_eq_true (by first | (with_reducible assumption) | assumption)
         obtain ⟨ad216, e216, hx216_0⟩ := Kd.at_string HR0.out x11_1 p216 q216
         cases e216
         replace p216 := eq_true p216
         replace q216 := eq_true q216
         have p217 : 0 ≤ (x11_1 : Int) := of_decide_eq_true (by first | (with_reducible assumption) | assumption)
         have q217 : x11_1 < (l1.length : Int) := of_decide_eq_true (by first | (with_reducible assumption) | assumption)
         obtain ⟨ad217, e217, hx217_0⟩ := Kd.at_string HR1.out x11_1 p217 q217
         cases e217
         replace p217 := eq_true p217
         replace q217 := eq_true q217
         go_wp2_with (first | ((with_reducible refine gate_callee (f := 55) rfl ?_); refine goesL_ (some 26) rfl rfl Tryz.func55 (by kernel_rfl) rfl #[.string (rdOf ByteArray.empty l0 x11_1), .string (rdOf ByteArray.empty l1 x11_1)] rfl (by (try simp only [List.map_toArray, List.map_cons, List.map_nil]); first | done | rfl | (simp only [List.length_drop, List.length_take]; rfl)) ?_; (with_reducible refine (cmp_Compare_string.calls (rdOf ByteArray.empty l0 x11_1) (rdOf ByteArray.empty l1 x11_1) t218 _ A8.out).mono ?_); rintro e w' ⟨rfl, ⟨nd, rfl⟩⟩; refine ⟨_, rfl, ?_⟩))
         go_roundg k1
         case measure => have := HK1.out; omega
         case rel => exact ⟨(wrap64 (x11_1 + 1)), (by first | rfl | (simp; done) | (simp [*]; done) | (simp [bne_empty, *]; done)), H', ⟨by have := HK1.out; omega⟩, by repeat (first | exact Drawn0.refl _ | apply Drawn0.step)⟩
        ·rw [if_neg c9] at H
         have c9b0 : (t218 == 0) = false := beq_eq_false_iff_ne.mpr c9
         have c9b1 : (t218 != 0) = true := bne_iff_ne.mpr c9
         obtain rfl := Option.some.inj H
         have p216 : 0 ≤ (x11_1 : Int) := of_decide_eq_true (by first | (with_reducible assumption) | assumption)
         have q216 : x11_1 < (l0.length : Int) := of_decide_eq_true (by first | (with_reducible assumption) | assumption)
         obtain ⟨ad216, e216, hx216_0⟩ := Kd.at_string HR0.out x11_1 p216 q216
         cases e216
         replace p216 := eq_true p216
         replace q216 := eq_true q216
         have p217 : 0 ≤ (x11_1 : Int) := of_decide_eq_true (by first | (with_reducible assumption) | assumption)
         have q217 : x11_1 < (l1.length : Int) := of_decide_eq_true (by first | (with_reducible assumption) | assumption)
         obtain ⟨ad217, e217, hx217_0⟩ := Kd.at_string HR1.out x11_1 p217 q217
         cases e217
         replace p217 := eq_true p217
         replace q217 := eq_true q217
         go_wp2_with (first | ((with_reducible refine gate_callee (f := 55) rfl ?_); refine goesL_ (some 26) rfl rfl Tryz.func55 (by kernel_rfl) rfl #[.string (rdOf ByteArray.empty l0 x11_1), .string (rdOf ByteArray.empty l1 x11_1)] rfl (by (try simp only [List.map_toArray, List.map_cons, List.map_nil]); first | done | rfl | (simp only [List.length_drop, List.length_take]; rfl)) ?_; (with_reducible refine (cmp_Compare_string.calls (rdOf ByteArray.empty l0 x11_1) (rdOf ByteArray.empty l1 x11_1) t218 _ A8.out).mono ?_); rintro e w' ⟨rfl, ⟨nd, rfl⟩⟩; refine ⟨_, rfl, ?_⟩))
         go_ret
         exact ⟨by first | rfl | (simp; done) | (simp [*]; done) | (simp [bne_empty, *]; done), by repeat (first | exact Drawn0.refl _ | apply Drawn0.step)⟩
       ·rw [if_neg c7] at H
        exact absurd H (by simp)
     ·rw [if_neg c5] at H
      exact absurd H (by simp)
    ·rw [if_neg c4] at H
     exact absurd H (by simp)
   ·rw [if_neg c3] at H
    have c3b0 : decide (x11_1 < (l0.length : Int)) = false := decide_eq_false c3
    clear c3
    by_cases c10 : (l0.length : Int) < (l1.length : Int)
    ·rw [if_pos c10] at H
     have c10b0 : decide ((l0.length : Int) < (l1.length : Int)) = true := decide_eq_true c10
     have c10b1 : decide (l0.length < l1.length) = true := decide_eq_true (Int.ofNat_lt.mp c10)
     clear c10
     obtain rfl := Option.some.inj H
     go_wp2
     go_ret
     exact ⟨by first | rfl | (simp; done) | (simp [*]; done) | (simp [bne_empty, *]; done), by repeat (first | exact Drawn0.refl _ | apply Drawn0.step)⟩
    ·rw [if_neg c10] at H
     have c10b0 : decide ((l0.length : Int) < (l1.length : Int)) = false := decide_eq_false c10
     have c10b1 : decide (l0.length < l1.length) = false := decide_eq_false (fun h => c10 (Int.ofNat_lt.mpr h))
     clear c10
     obtain rfl := Option.some.inj H
     go_wp2
     go_ret
     exact ⟨by first | rfl | (simp; done) | (simp [*]; done) | (simp [bne_empty, *]; done), by repeat (first | exact Drawn0.refl _ | apply Drawn0.step)⟩
end Go.Proofs.YtcdcpcdfcmokkaaGreatDoor.P
end
section
namespace Go.Proofs.YtcdcpcdfcmokkaaGreatDoor.P
open Go.RowKit Go.Proofs.YtcdcpcdfcmokkaaGreatDoorW.PrintWords Go.Proofs.YtcdcpcdfcmokkaaGreatDoorW.PrintLast Go.Proofs.YtcdcpcdfcmokkaaGreatDoorW.PrintMore
open Go.Proofs.YtcdcpcdfcmokkaaGreatDoor (str_gtr str_leq str_geq bne_empty)
attribute [local go_sem] max2_int min2_int max_two min_two max_three min_three max_four min_four str_gtr str_leq str_geq   -- for this text's walks alone
set_option linter.unusedVariables false
set_option linter.unusedSimpArgs false
def paths_Compare.f (k : Nat) (a0 : ByteArray) (a1 : ByteArray) : Option (Int) := (paths_Elems.f a0).bind fun t219 => ((paths_Elems.f a1).bind fun t222 => ((slices_Compare_string_string.f k t219 t222).bind fun t225 => (some t225)))
set_option maxHeartbeats 8000000 in
set_option maxRecDepth 100000 in
theorem paths_Compare.calls (k : Nat) (a0 : ByteArray) (a1 : ByteArray) (r : Int) (w : World) (h : paths_Compare.f k a0 a1 = some r) :
  Calls Tryz.prog 53 #[.string a0, .string a1] w fun e w' => e = .returned (.int .i64 r) ∧ Below w.heap.size w w' := by
 have HB := Aside0.mk (Below.refl w.heap.size w)
 have H : ((paths_Elems.f a0).bind fun t219 => ((paths_Elems.f a1).bind fun t222 => ((slices_Compare_string_string.f k t219 t222).bind fun t225 => (some t225)))) = some r := h
 clear h
 replace H := Option.bind_eq_some_iff.mp H
 obtain ⟨t219, A30, H⟩ := H
 replace H : ((paths_Elems.f a1).bind fun t222 => ((slices_Compare_string_string.f k t219 t222).bind fun t225 => (some t225))) = some r := H
 have A3 := Aside0.mk A30
 clear A30
 replace H := Option.bind_eq_some_iff.mp H
 obtain ⟨t222, A40, H⟩ := H
 replace H : ((slices_Compare_string_string.f k t219 t222).bind fun t225 => (some t225)) = some r := H
 have A4 := Aside0.mk A40
 clear A40
 replace H := Option.bind_eq_some_iff.mp H
 obtain ⟨t225, A50, H⟩ := H
 replace H : (some t225) = some r := H
 have A5 := Aside0.mk A50
 clear A50
 obtain rfl := Option.some.inj H
 go_enter Tryz.func53, Tryz.ntmps53
 go_wp2_with (first | ((with_reducible refine gate_callee (f := 84) rfl ?_); refine goesL_ (some 6) rfl rfl Tryz.func84 (by kernel_rfl) rfl #[.string a0] rfl (by (try simp only [List.map_toArray, List.map_cons, List.map_nil]); first | done | rfl | (simp only [List.length_drop, List.length_take]; rfl)) ?_; (with_reducible refine (paths_Elems.calls a0 t219 _ A3.out).mono ?_); rintro e w6 ⟨v220, rfl, ho0, hb⟩; refine ⟨_, rfl, ?_⟩; have n0_ := Aside0.mk (Kd.R_lower ho0 (below_size (by repeat (first | (with_reducible first | exact HB.out | apply below_alloc | apply pw_below_drewN | apply below_drew1) | exact HB.out)))); have n1_ := Aside0.mk (below_step (by repeat (first | (with_reducible first | exact HB.out | apply below_alloc | apply pw_below_drewN | apply below_drew1) | exact HB.out)) hb); clear HB; have HO221 := n0_; have HB := n1_; clear n0_ n1_; (try clear hb); (try clear hb2); (try clear hk); (try clear hi); (try clear ho0)) | ((with_reducible refine gate_callee (f := 84) rfl ?_); refine goesL_ (some 8) rfl rfl Tryz.func84 (by kernel_rfl) rfl #[.string a1] rfl (by (try simp only [List.map_toArray, List.map_cons, List.map_nil]); first | done | rfl | (simp only [List.length_drop, List.length_take]; rfl)) ?_; (with_reducible refine (paths_Elems.calls a1 t222 _ A4.out).mono ?_); rintro e w7 ⟨v223, rfl, ho0, hb⟩; refine ⟨_, rfl, ?_⟩; have n0_ := Aside0.mk (Kd.R_elder' (by (with_reducible repeat (first | apply Kd.R_alloc | apply Kd.R_drewN | apply Kd.R_drew)); exact HO221.out) (Kd.R_base ho0) hb); have n1_ := Aside0.mk (Kd.R_lower (Kd.R_new' ho0 (Kd.R_lt (by (with_reducible repeat (first | apply Kd.R_alloc | apply Kd.R_drewN | apply Kd.R_drew)); exact HO221.out))) (below_size (by repeat (first | (with_reducible first | exact HB.out | apply below_alloc | apply pw_below_drewN | apply below_drew1) | exact HB.out)))); have n2_ := Aside0.mk (below_step (by repeat (first | (with_reducible first | exact HB.out | apply below_alloc | apply pw_below_drewN | apply below_drew1) | exact HB.out)) hb); clear HO221; clear HB; have HO221 := n0_; have HO224 := n1_; have HB := n2_; clear n0_ n1_ n2_; (try clear hb); (try clear hb2); (try clear hk); (try clear hi); (try clear ho0); obtain ⟨Ao8, co8, eo8⟩ := Kd.R_slice HO221.out; subst eo8; obtain ⟨Ao9, co9, eo9⟩ := Kd.R_slice HO224.out; subst eo9) | ((with_reducible refine gate_callee (f := 83) rfl ?_); refine goesL_ (some 9) rfl rfl Tryz.func83 (by kernel_rfl) rfl #[.slice Ao8 t219.length co8, .slice Ao9 t222.length co9] rfl (by (try simp only [List.map_toArray, List.map_cons, List.map_nil]); first | done | rfl | (simp only [List.length_drop, List.length_take]; rfl)) ?_; (with_reducible refine (slices_Compare_string_string.calls k _ _ t219 _ _ t222 t225 _ ?side1 ?side2 ?side3 ?side4 A5.out).mono ?_); (case side1 => repeat (first | exact (Kd.R_reads' HO221.out).2.2 | (with_reducible refine Kd.C_alloc ?_ _) | (with_reducible refine Kd.C_drewN ?_ _) | (with_reducible refine Kd.C_drew ?_))); (case side2 => exact (Kd.R_reads' HO221.out).2.1); (case side3 => repeat (first | exact (Kd.R_reads' HO224.out).2.2 | (with_reducible refine Kd.C_alloc ?_ _) | (with_reducible refine Kd.C_drewN ?_ _) | (with_reducible refine Kd.C_drew ?_))); (case side4 => exact (Kd.R_reads' HO224.out).2.1); rintro e w' ⟨rfl, ⟨nd, rfl⟩⟩; refine ⟨_, rfl, ?_⟩))
 go_ret
 exact ⟨by first | rfl | (simp [errW_none, errW_some] <;> rfl) | (simp [*, errW_none, errW_some] <;> rfl) | (exfalso; simp_all; done) | (exfalso; omega), by repeat (first | (with_reducible first | exact HB.out | apply below_alloc | apply pw_below_drewN | apply below_drew1) | exact HB.out)⟩
end Go.Proofs.YtcdcpcdfcmokkaaGreatDoor.P
end
section
namespace Go.Proofs.YtcdcpcdfcmokkaaGreatDoor.P
open Go.RowKit Go.Proofs.YtcdcpcdfcmokkaaGreatDoorW.PrintWords Go.Proofs.YtcdcpcdfcmokkaaGreatDoorW.PrintLast Go.Proofs.YtcdcpcdfcmokkaaGreatDoorW.PrintMore
open Go.Proofs.YtcdcpcdfcmokkaaGreatDoor (str_gtr str_leq str_geq bne_empty)
attribute [local go_sem] max2_int min2_int max_two min_two max_three min_three max_four min_four str_gtr str_leq str_geq   -- for this text's walks alone
set_option linter.unusedVariables false
set_option linter.unusedSimpArgs false
def paths_here.f (a0 : ByteArray) : Option (Bool) := if a0.toList = ([] : List UInt8) then (some true) else (some (a0.toList == ([46] : List UInt8)))
set_option maxHeartbeats 8000000 in
set_option maxRecDepth 100000 in
theorem paths_here.calls (a0 : ByteArray) (r : Bool) (w : World) (h : paths_here.f a0 = some r) :
  Calls Tryz.prog 79 #[.string a0] w fun e w' => e = .returned (.bool r) ∧ Drawn0 w w' := by
 have H : (if a0.toList = ([] : List UInt8) then (some true) else (some (a0.toList == ([46] : List UInt8)))) = some r := h
 clear h
 by_cases c2 : a0.toList = ([] : List UInt8)
 ·rw [if_pos c2] at H
  have c2b0 : (a0.toList == ([] : List UInt8)) = true := beq_iff_eq.mpr c2
  have c2bz : (a0.toList.isEmpty) = true := by simpa using c2b0
  have c2b1 : (a0.toList != ([] : List UInt8)) = false := bne_eq_false_iff_eq.mpr c2
  clear c2
  obtain rfl := Option.some.inj H
  go_enter Tryz.func79, Tryz.ntmps79
  go_wp2
  go_ret
  exact ⟨by first | rfl | (simp; done) | (simp [*]; done) | (simp [bne_empty, *]; done), by repeat (first | exact Drawn0.refl _ | apply Drawn0.step)⟩
 ·rw [if_neg c2] at H
  have c2b0 : (a0.toList == ([] : List UInt8)) = false := beq_eq_false_iff_ne.mpr c2
  have c2bz : (a0.toList.isEmpty) = false := by simpa using c2b0
  have c2b1 : (a0.toList != ([] : List UInt8)) = true := bne_iff_ne.mpr c2
  obtain rfl := Option.some.inj H
  go_enter Tryz.func79, Tryz.ntmps79
  go_wp2
  go_ret
  exact ⟨by first | rfl | (simp; done) | (simp [*]; done) | (simp [bne_empty, *]; done), by repeat (first | exact Drawn0.refl _ | apply Drawn0.step)⟩
end Go.Proofs.YtcdcpcdfcmokkaaGreatDoor.P
end
section
namespace Go.Proofs.YtcdcpcdfcmokkaaGreatDoor.P
open Go.RowKit Go.Proofs.YtcdcpcdfcmokkaaGreatDoorW.PrintWords Go.Proofs.YtcdcpcdfcmokkaaGreatDoorW.PrintLast Go.Proofs.YtcdcpcdfcmokkaaGreatDoorW.PrintMore
open Go.Proofs.YtcdcpcdfcmokkaaGreatDoor (str_gtr str_leq str_geq bne_empty)
attribute [local go_sem] max2_int min2_int max_two min_two max_three min_three max_four min_four str_gtr str_leq str_geq   -- for this text's walks alone
set_option linter.unusedVariables false
set_option linter.unusedSimpArgs false
def stringslite_HasPrefix.f (a0 : ByteArray) (a1 : ByteArray) : Option (Bool) := if (a0.size : Int) ≥ (a1.size : Int) then (if 0 ≤ (a1.size : Int) then (if (a1.size : Int) ≤ (a0.size : Int) then (some ((a0.extract 0 ((a1.size : Int) : Int).toNat).toList == a1.toList)) else (none)) else (none)) else (some false)
set_option maxHeartbeats 8000000 in
set_option maxRecDepth 100000 in
theorem stringslite_HasPrefix.calls (a0 : ByteArray) (a1 : ByteArray) (r : Bool) (w : World) (h : stringslite_HasPrefix.f a0 a1 = some r) :
  Calls Tryz.prog 91 #[.string a0, .string a1] w fun e w' => e = .returned (.bool r) ∧ Drawn0 w w' := by
 have H : (if (a0.size : Int) ≥ (a1.size : Int) then (if 0 ≤ (a1.size : Int) then (if (a1.size : Int) ≤ (a0.size : Int) then (some ((a0.extract 0 ((a1.size : Int) : Int).toNat).toList == a1.toList)) else (none)) else (none)) else (some false)) = some r := h
 clear h
 by_cases c3 : (a0.size : Int) ≥ (a1.size : Int)
 ·rw [if_pos c3] at H
  have c3b0 : decide ((a1.size : Int) ≤ (a0.size : Int)) = true := decide_eq_true c3
  have c3b1 : decide (a1.size ≤ a0.size) = true := decide_eq_true (Int.ofNat_le.mp c3)
  clear c3
  by_cases c4 : 0 ≤ (a1.size : Int)
  ·rw [if_pos c4] at H
   have c4b0 := eq_true c4
   have c4b1 : decide (0 ≤ (a1.size : Int)) = true := decide_eq_true c4
   clear c4
   by_cases c5 : (a1.size : Int) ≤ (a0.size : Int)
   ·rw [if_pos c5] at H
    have c5b0 := eq_true c5
    have c5b1 : decide ((a1.size : Int) ≤ (a0.size : Int)) = true := decide_eq_true c5
    clear c5
    obtain rfl := Option.some.inj H
    go_enter Tryz.func91, Tryz.ntmps91
    go_wp2
    go_ret
    exact ⟨by first | rfl | (simp; done) | (simp [*]; done) | (simp [bne_empty, *]; done), by repeat (first | exact Drawn0.refl _ | apply Drawn0.step)⟩
   ·rw [if_neg c5] at H
    exact absurd H (by simp)
  ·rw [if_neg c4] at H
   exact absurd H (by simp)
 ·rw [if_neg c3] at H
  have c3b0 : decide ((a1.size : Int) ≤ (a0.size : Int)) = false := decide_eq_false c3
  have c3b1 : decide (a1.size ≤ a0.size) = false := decide_eq_false (fun h => c3 (Int.ofNat_le.mpr h))
  clear c3
  obtain rfl := Option.some.inj H
  go_enter Tryz.func91, Tryz.ntmps91
  go_wp2
  go_ret
  exact ⟨by first | rfl | (simp; done) | (simp [*]; done) | (simp [bne_empty, *]; done), by repeat (first | exact Drawn0.refl _ | apply Drawn0.step)⟩
end Go.Proofs.YtcdcpcdfcmokkaaGreatDoor.P
end
section
namespace Go.Proofs.YtcdcpcdfcmokkaaGreatDoor.P
open Go.RowKit Go.Proofs.YtcdcpcdfcmokkaaGreatDoorW.PrintWords Go.Proofs.YtcdcpcdfcmokkaaGreatDoorW.PrintLast Go.Proofs.YtcdcpcdfcmokkaaGreatDoorW.PrintMore
open Go.Proofs.YtcdcpcdfcmokkaaGreatDoor (str_gtr str_leq str_geq bne_empty)
attribute [local go_sem] max2_int min2_int max_two min_two max_three min_three max_four min_four str_gtr str_leq str_geq   -- for this text's walks alone
set_option linter.unusedVariables false
set_option linter.unusedSimpArgs false
def stringslite_CutPrefix.f (a0 : ByteArray) (a1 : ByteArray) : Option (ByteArray × Bool) := (stringslite_HasPrefix.f a0 a1).bind fun t112 => (if t112 = true then (if 0 ≤ (a1.size : Int) then (if (a1.size : Int) ≤ (a0.size : Int) then (some (a0.extract ((a1.size : Int) : Int).toNat a0.size, true)) else (none)) else (none)) else (some (a0, false)))
set_option maxHeartbeats 8000000 in
set_option maxRecDepth 100000 in
theorem stringslite_CutPrefix.calls (a0 : ByteArray) (a1 : ByteArray) (r1 : ByteArray) (r2 : Bool) (w : World) (h : stringslite_CutPrefix.f a0 a1 = some (r1, r2)) :
  Calls Tryz.prog 107 #[.string a0, .string a1] w fun e w' => e = .returned (.tuple #[.string r1, .bool r2]) ∧ Drawn0 w w' := by
 have H : ((stringslite_HasPrefix.f a0 a1).bind fun t112 => (if t112 = true then (if 0 ≤ (a1.size : Int) then (if (a1.size : Int) ≤ (a0.size : Int) then (some (a0.extract ((a1.size : Int) : Int).toNat a0.size, true)) else (none)) else (none)) else (some (a0, false)))) = some (r1, r2) := h
 clear h
 replace H := Option.bind_eq_some_iff.mp H
 obtain ⟨t112, A30, H⟩ := H
 replace H : (if t112 = true then (if 0 ≤ (a1.size : Int) then (if (a1.size : Int) ≤ (a0.size : Int) then (some (a0.extract ((a1.size : Int) : Int).toNat a0.size, true)) else (none)) else (none)) else (some (a0, false))) = some (r1, r2) := H
 have A3 := Aside0.mk A30
 clear A30
 by_cases c4 : t112 = true
 ·subst c4
  have H1 : (if 0 ≤ (a1.size : Int) then (if (a1.size : Int) ≤ (a0.size : Int) then (some (a0.extract ((a1.size : Int) : Int).toNat a0.size, true)) else (none)) else (none)) = some (r1, r2) := by rw [if_pos rfl] at H; exact H
  clear H
  have H := H1
  clear H1
  by_cases c5 : 0 ≤ (a1.size : Int)
  ·rw [if_pos c5] at H
   have c5b0 := eq_true c5
   have c5b1 : decide (0 ≤ (a1.size : Int)) = true := decide_eq_true c5
   clear c5
   by_cases c6 : (a1.size : Int) ≤ (a0.size : Int)
   ·rw [if_pos c6] at H
    have c6b0 := eq_true c6
    have c6b1 : decide ((a1.size : Int) ≤ (a0.size : Int)) = true := decide_eq_true c6
    clear c6
    simp only [Option.some.injEq, Prod.mk.injEq] at H
    obtain ⟨rfl, rfl⟩ := H
    go_enter Tryz.func107, Tryz.ntmps107
    go_wp2_with (first | ((with_reducible refine gate_callee (f := 91) rfl ?_); refine goesL_ (some 8) rfl rfl Tryz.func91 (by kernel_rfl) rfl #[.string a0, .string a1] rfl (by (try simp only [List.map_toArray, List.map_cons, List.map_nil]); first | done | rfl | (simp only [List.length_drop, List.length_take]; rfl)) ?_; (with_reducible refine (stringslite_HasPrefix.calls a0 a1 true _ A3.out).mono ?_); rintro e w' ⟨rfl, ⟨nd, rfl⟩⟩; refine ⟨_, rfl, ?_⟩))
    go_ret2
    exact ⟨by first | rfl | (simp; done) | (simp [*]; done) | (simp [bne_empty, *]; done), by repeat (first | exact Drawn0.refl _ | apply Drawn0.step)⟩
   ·rw [if_neg c6] at H
    exact absurd H (by simp)
  ·rw [if_neg c5] at H
   exact absurd H (by simp)
 ·replace c4 := Bool.eq_false_iff.mpr c4
  subst c4
  have H1 : (some (a0, false)) = some (r1, r2) := by rw [if_neg (show ¬ (false = true) by decide)] at H; exact H
  clear H
  have H := H1
  clear H1
  simp only [Option.some.injEq, Prod.mk.injEq] at H
  obtain ⟨rfl, rfl⟩ := H
  go_enter Tryz.func107, Tryz.ntmps107
  go_wp2_with (first | ((with_reducible refine gate_callee (f := 91) rfl ?_); refine goesL_ (some 8) rfl rfl Tryz.func91 (by kernel_rfl) rfl #[.string a0, .string a1] rfl (by (try simp only [List.map_toArray, List.map_cons, List.map_nil]); first | done | rfl | (simp only [List.length_drop, List.length_take]; rfl)) ?_; (with_reducible refine (stringslite_HasPrefix.calls a0 a1 false _ A3.out).mono ?_); rintro e w' ⟨rfl, ⟨nd, rfl⟩⟩; refine ⟨_, rfl, ?_⟩))
  go_ret2
  exact ⟨by first | rfl | (simp; done) | (simp [*]; done) | (simp [bne_empty, *]; done), by repeat (first | exact Drawn0.refl _ | apply Drawn0.step)⟩
end Go.Proofs.YtcdcpcdfcmokkaaGreatDoor.P
end
section
namespace Go.Proofs.YtcdcpcdfcmokkaaGreatDoor.P
open Go.RowKit Go.Proofs.YtcdcpcdfcmokkaaGreatDoorW.PrintWords Go.Proofs.YtcdcpcdfcmokkaaGreatDoorW.PrintLast Go.Proofs.YtcdcpcdfcmokkaaGreatDoorW.PrintMore
open Go.Proofs.YtcdcpcdfcmokkaaGreatDoor (str_gtr str_leq str_geq bne_empty)
attribute [local go_sem] max2_int min2_int max_two min_two max_three min_three max_four min_four str_gtr str_leq str_geq   -- for this text's walks alone
set_option linter.unusedVariables false
set_option linter.unusedSimpArgs false
def strings_CutPrefix.f (a0 : ByteArray) (a1 : ByteArray) : Option (ByteArray × Bool) := (stringslite_CutPrefix.f a0 a1).bind fun bt113 => (some (bt113.1, bt113.2))
set_option maxHeartbeats 8000000 in
set_option maxRecDepth 100000 in
theorem strings_CutPrefix.calls (a0 : ByteArray) (a1 : ByteArray) (r1 : ByteArray) (r2 : Bool) (w : World) (h : strings_CutPrefix.f a0 a1 = some (r1, r2)) :
  Calls Tryz.prog 73 #[.string a0, .string a1] w fun e w' => e = .returned (.tuple #[.string r1, .bool r2]) ∧ Drawn0 w w' := by
 have H : ((stringslite_CutPrefix.f a0 a1).bind fun bt113 => (some (bt113.1, bt113.2))) = some (r1, r2) := h
 clear h
 replace H := Option.bind_eq_some_iff.mp H
 obtain ⟨⟨t113, t114⟩, A30, H⟩ := H
 replace H : (some (t113, t114)) = some (r1, r2) := H
 have A3 := Aside0.mk A30
 clear A30
 simp only [Option.some.injEq, Prod.mk.injEq] at H
 obtain ⟨rfl, rfl⟩ := H
 go_enter Tryz.func73, Tryz.ntmps73
 go_wp2_with (first | ((with_reducible refine gate_callee (f := 107) rfl ?_); refine goesL_ (some 8) rfl rfl Tryz.func107 (by kernel_rfl) rfl #[.string a0, .string a1] rfl (by (try simp only [List.map_toArray, List.map_cons, List.map_nil]); first | done | rfl | (simp only [List.length_drop, List.length_take]; rfl)) ?_; (with_reducible refine (stringslite_CutPrefix.calls a0 a1 t113 t114 _ A3.out).mono ?_); rintro e w' ⟨rfl, ⟨nd, rfl⟩⟩; refine ⟨_, rfl, ?_⟩))
 go_ret2
 exact ⟨by first | rfl | (simp; done) | (simp [*]; done) | (simp [bne_empty, *]; done), by repeat (first | exact Drawn0.refl _ | apply Drawn0.step)⟩
end Go.Proofs.YtcdcpcdfcmokkaaGreatDoor.P
end
section
namespace Go.Proofs.YtcdcpcdfcmokkaaGreatDoor.P
open Go.RowKit Go.Proofs.YtcdcpcdfcmokkaaGreatDoorW.PrintWords Go.Proofs.YtcdcpcdfcmokkaaGreatDoorW.PrintLast Go.Proofs.YtcdcpcdfcmokkaaGreatDoorW.PrintMore
open Go.Proofs.YtcdcpcdfcmokkaaGreatDoor (str_gtr str_leq str_geq bne_empty)
attribute [local go_sem] max2_int min2_int max_two min_two max_three min_three max_four min_four str_gtr str_leq str_geq   -- for this text's walks alone
set_option linter.unusedVariables false
set_option linter.unusedSimpArgs false
def paths_Within.f (a0 : ByteArray) (a1 : ByteArray) : Option (ByteArray × Bool) := (paths_here.f a1).bind fun t189 => (if t189 = true then (some (a0, true)) else (if a0.toList = a1.toList then (some ((⟨#[]⟩ : ByteArray), true)) else (if a1.size + 1 ≤ 9223372036854775807 then ((strings_CutPrefix.f a0 (a1 ++ (⟨#[47]⟩ : ByteArray))).bind fun bt190 => (if bt190.2 = true then (some (bt190.1, true)) else (some ((⟨#[]⟩ : ByteArray), false)))) else (none))))
set_option maxHeartbeats 8000000 in
set_option maxRecDepth 100000 in
theorem paths_Within.calls (a0 : ByteArray) (a1 : ByteArray) (r1 : ByteArray) (r2 : Bool) (w : World) (h : paths_Within.f a0 a1 = some (r1, r2)) :
  Calls Tryz.prog 49 #[.string a0, .string a1] w fun e w' => e = .returned (.tuple #[.string r1, .bool r2]) ∧ Drawn0 w w' := by
 have H : ((paths_here.f a1).bind fun t189 => (if t189 = true then (some (a0, true)) else (if a0.toList = a1.toList then (some ((⟨#[]⟩ : ByteArray), true)) else (if a1.size + 1 ≤ 9223372036854775807 then ((strings_CutPrefix.f a0 (a1 ++ (⟨#[47]⟩ : ByteArray))).bind fun bt190 => (if bt190.2 = true then (some (bt190.1, true)) else (some ((⟨#[]⟩ : ByteArray), false)))) else (none))))) = some (r1, r2) := h
 clear h
 replace H := Option.bind_eq_some_iff.mp H
 obtain ⟨t189, A30, H⟩ := H
 replace H : (if t189 = true then (some (a0, true)) else (if a0.toList = a1.toList then (some ((⟨#[]⟩ : ByteArray), true)) else (if a1.size + 1 ≤ 9223372036854775807 then ((strings_CutPrefix.f a0 (a1 ++ (⟨#[47]⟩ : ByteArray))).bind fun bt190 => (if bt190.2 = true then (some (bt190.1, true)) else (some ((⟨#[]⟩ : ByteArray), false)))) else (none)))) = some (r1, r2) := H
 have A3 := Aside0.mk A30
 clear A30
 by_cases c4 : t189 = true
 ·subst c4
  have H1 : (some (a0, true)) = some (r1, r2) := by rw [if_pos rfl] at H; exact H
  clear H
  have H := H1
  clear H1
  simp only [Option.some.injEq, Prod.mk.injEq] at H
  obtain ⟨rfl, rfl⟩ := H
  go_enter Tryz.func49, Tryz.ntmps49
  go_wp2_with (first | ((with_reducible refine gate_callee (f := 79) rfl ?_); refine goesL_ (some 10) rfl rfl Tryz.func79 (by kernel_rfl) rfl #[.string a1] rfl (by (try simp only [List.map_toArray, List.map_cons, List.map_nil]); first | done | rfl | (simp only [List.length_drop, List.length_take]; rfl)) ?_; (with_reducible refine (paths_here.calls a1 true _ A3.out).mono ?_); rintro e w' ⟨rfl, ⟨nd, rfl⟩⟩; refine ⟨_, rfl, ?_⟩))
  go_ret2
  exact ⟨by first | rfl | (simp; done) | (simp [*]; done) | (simp [bne_empty, *]; done), by repeat (first | exact Drawn0.refl _ | apply Drawn0.step)⟩
 ·replace c4 := Bool.eq_false_iff.mpr c4
  subst c4
  have H1 : (if a0.toList = a1.toList then (some ((⟨#[]⟩ : ByteArray), true)) else (if a1.size + 1 ≤ 9223372036854775807 then ((strings_CutPrefix.f a0 (a1 ++ (⟨#[47]⟩ : ByteArray))).bind fun bt190 => (if bt190.2 = true then (some (bt190.1, true)) else (some ((⟨#[]⟩ : ByteArray), false)))) else (none))) = some (r1, r2) := by rw [if_neg (show ¬ (false = true) by decide)] at H; exact H
  clear H
  have H := H1
  clear H1
  by_cases c5 : a0.toList = a1.toList
  ·rw [if_pos c5] at H
   have c5b0 : (a0.toList == a1.toList) = true := beq_iff_eq.mpr c5
   have c5b1 : (a0.toList != a1.toList) = false := bne_eq_false_iff_eq.mpr c5
   clear c5
   simp only [Option.some.injEq, Prod.mk.injEq] at H
   obtain ⟨rfl, rfl⟩ := H
   go_enter Tryz.func49, Tryz.ntmps49
   go_wp2_with (first | ((with_reducible refine gate_callee (f := 79) rfl ?_); refine goesL_ (some 10) rfl rfl Tryz.func79 (by kernel_rfl) rfl #[.string a1] rfl (by (try simp only [List.map_toArray, List.map_cons, List.map_nil]); first | done | rfl | (simp only [List.length_drop, List.length_take]; rfl)) ?_; (with_reducible refine (paths_here.calls a1 false _ A3.out).mono ?_); rintro e w' ⟨rfl, ⟨nd, rfl⟩⟩; refine ⟨_, rfl, ?_⟩))
   go_ret2
   exact ⟨by first | rfl | (simp; done) | (simp [*]; done) | (simp [bne_empty, *]; done), by repeat (first | exact Drawn0.refl _ | apply Drawn0.step)⟩
  ·rw [if_neg c5] at H
   have c5b0 : (a0.toList == a1.toList) = false := beq_eq_false_iff_ne.mpr c5
   have c5b1 : (a0.toList != a1.toList) = true := bne_iff_ne.mpr c5
   by_cases c6 : a1.size + 1 ≤ 9223372036854775807
   ·rw [if_pos c6] at H
    have c6b0 := eq_true c6
    have c6b1 : decide (a1.size + 1 ≤ 9223372036854775807) = true := decide_eq_true c6
    try have c6b2 : (9223372036854775807 < a1.size + 1) = False := eq_false (Nat.not_lt.2 c6)
    replace H := Option.bind_eq_some_iff.mp H
    obtain ⟨⟨t190, t191⟩, A70, H⟩ := H
    replace H : (if t191 = true then (some (t190, true)) else (some ((⟨#[]⟩ : ByteArray), false))) = some (r1, r2) := H
    have A7 := Aside0.mk A70
    clear A70
    by_cases c8 : t191 = true
    ·subst c8
     have H1 : (some (t190, true)) = some (r1, r2) := by rw [if_pos rfl] at H; exact H
     clear H
     have H := H1
     clear H1
     simp only [Option.some.injEq, Prod.mk.injEq] at H
     obtain ⟨rfl, rfl⟩ := H
     go_enter Tryz.func49, Tryz.ntmps49
     go_wp2_with (first | ((with_reducible refine gate_callee (f := 79) rfl ?_); refine goesL_ (some 10) rfl rfl Tryz.func79 (by kernel_rfl) rfl #[.string a1] rfl (by (try simp only [List.map_toArray, List.map_cons, List.map_nil]); first | done | rfl | (simp only [List.length_drop, List.length_take]; rfl)) ?_; (with_reducible refine (paths_here.calls a1 false _ A3.out).mono ?_); rintro e w' ⟨rfl, ⟨nd, rfl⟩⟩; refine ⟨_, rfl, ?_⟩) | ((with_reducible refine gate_callee (f := 73) rfl ?_); refine goesL_ (some 20) rfl rfl Tryz.func73 (by kernel_rfl) rfl #[.string a0, .string (a1 ++ (⟨#[47]⟩ : ByteArray))] rfl (by (try simp only [List.map_toArray, List.map_cons, List.map_nil]); first | done | rfl | (simp only [List.length_drop, List.length_take]; rfl)) ?_; (with_reducible refine (strings_CutPrefix.calls a0 (a1 ++ (⟨#[47]⟩ : ByteArray)) t190 true _ A7.out).mono ?_); rintro e w' ⟨rfl, ⟨nd, rfl⟩⟩; refine ⟨_, rfl, ?_⟩))
     go_ret2
     exact ⟨by first | rfl | (simp; done) | (simp [*]; done) | (simp [bne_empty, *]; done), by repeat (first | exact Drawn0.refl _ | apply Drawn0.step)⟩
    ·replace c8 := Bool.eq_false_iff.mpr c8
     subst c8
     have H1 : (some ((⟨#[]⟩ : ByteArray), false)) = some (r1, r2) := by rw [if_neg (show ¬ (false = true) by decide)] at H; exact H
     clear H
     have H := H1
     clear H1
     simp only [Option.some.injEq, Prod.mk.injEq] at H
     obtain ⟨rfl, rfl⟩ := H
     go_enter Tryz.func49, Tryz.ntmps49
     go_wp2_with (first | ((with_reducible refine gate_callee (f := 79) rfl ?_); refine goesL_ (some 10) rfl rfl Tryz.func79 (by kernel_rfl) rfl #[.string a1] rfl (by (try simp only [List.map_toArray, List.map_cons, List.map_nil]); first | done | rfl | (simp only [List.length_drop, List.length_take]; rfl)) ?_; (with_reducible refine (paths_here.calls a1 false _ A3.out).mono ?_); rintro e w' ⟨rfl, ⟨nd, rfl⟩⟩; refine ⟨_, rfl, ?_⟩) | ((with_reducible refine gate_callee (f := 73) rfl ?_); refine goesL_ (some 20) rfl rfl Tryz.func73 (by kernel_rfl) rfl #[.string a0, .string (a1 ++ (⟨#[47]⟩ : ByteArray))] rfl (by (try simp only [List.map_toArray, List.map_cons, List.map_nil]); first | done | rfl | (simp only [List.length_drop, List.length_take]; rfl)) ?_; (with_reducible refine (strings_CutPrefix.calls a0 (a1 ++ (⟨#[47]⟩ : ByteArray)) t190 false _ A7.out).mono ?_); rintro e w' ⟨rfl, ⟨nd, rfl⟩⟩; refine ⟨_, rfl, ?_⟩))
     go_ret2
     exact ⟨by first | rfl | (simp; done) | (simp [*]; done) | (simp [bne_empty, *]; done), by repeat (first | exact Drawn0.refl _ | apply Drawn0.step)⟩
   ·rw [if_neg c6] at H
    exact absurd H (by simp)
end Go.Proofs.YtcdcpcdfcmokkaaGreatDoor.P
end
section
namespace Go.Proofs.YtcdcpcdfcmokkaaGreatDoor
open Go Go.RowKit Go.Proofs.YtcdcpcdfcmokkaaGreatDoorW.PrintWords
set_option linter.unusedVariables false
set_option linter.unusedSimpArgs false
def cmpLs : List ByteArray → List ByteArray → Int
  | [], [] => 0
  | [], _ :: _ => -1
  | _ :: _, [] => 1
  | x :: xs, y :: ys => if cmpS x y = 0 then cmpLs xs ys else cmpS x y
def pathCmp (a b : ByteArray) : Int := cmpLs (elemsB a) (elemsB b)
theorem compareS_eq (a b : ByteArray) : P.cmp_Compare_string.f a b = some (cmpS a b) := by
  simp only [P.cmp_Compare_string.f, P.cmp_isNaN_string.f, cmpS, bne_self_eq_false, Option.bind_some, Bool.false_eq_true, if_false]; (repeat' split) <;> rfl
theorem cmpLs_nil (l : List ByteArray) : cmpLs [] l = if l.length = 0 then 0 else -1 := by cases l <;> simp [cmpLs]
theorem sl_loop (X Y : List ByteArray) (hx : X.length ≤ 1099511627776) : ∀ (d i : Nat), X.length - i = d → i ≤ X.length → i ≤ Y.length → cmpLs X Y = cmpLs (X.drop i) (Y.drop i) →
    Ev (fun k => P.slices_Compare_string_string.l0 k X Y X (X.length : Int) i) (cmpLs X Y) := by
  intro d
  induction d with
  | zero =>
    intro i e hi hj he
    obtain rfl : i = X.length := by omega
    refine Ev.step (f := fun _ => some _) (fun k => ?_) (Ev.now _)
    rw [P.slices_Compare_string_string.l0, if_neg (by omega), he, List.drop_length, cmpLs_nil, List.length_drop]
    by_cases h : (X.length : Int) < (Y.length : Int)
    · rw [if_pos h, if_neg (by omega)]
    · rw [if_neg h, if_pos (by omega)]
  | succ d ih =>
    intro i e hi hj he
    have hlt : i < X.length := by omega
    have hdx : X.drop i = X[i] :: X.drop (i + 1) := List.drop_eq_getElem_cons hlt
    by_cases h : i < Y.length
    · have hdy : Y.drop i = Y[i] :: Y.drop (i + 1) := List.drop_eq_getElem_cons h
      rw [hdx, hdy, cmpLs] at he
      by_cases h0 : cmpS X[i] Y[i] = 0
      · rw [if_pos h0] at he
        refine Ev.step (f := fun k => P.slices_Compare_string_string.l0 k X Y X (X.length : Int) ((i + 1 : Nat) : Int)) (fun k => ?_) (ih (i + 1) (by omega) (by omega) (by omega) he)
        rw [P.slices_Compare_string_string.l0, if_pos (by omega), if_pos (by omega), if_pos (by omega), if_neg (by omega), if_pos (by omega), rdOf_nat _ _ _ hlt, rdOf_nat _ _ _ h, compareS_eq, Option.bind_some, if_pos h0, wrap_id (by omega) (by omega)]
        rfl
      · rw [if_neg h0] at he
        refine Ev.step (f := fun _ => some _) (fun k => ?_) (Ev.now _)
        rw [P.slices_Compare_string_string.l0, if_pos (by omega), if_pos (by omega), if_pos (by omega), if_neg (by omega), if_pos (by omega), rdOf_nat _ _ _ hlt, rdOf_nat _ _ _ h, compareS_eq, Option.bind_some, if_neg h0, he]
    · refine Ev.step (f := fun _ => some _) (fun k => ?_) (Ev.now _)
      rw [P.slices_Compare_string_string.l0, if_pos (by omega), if_pos (by omega), if_pos (by omega), if_pos (by omega), he, hdx, List.drop_of_length_le (show Y.length ≤ i by omega)]; rfl
theorem pathCompare_ev (a b : ByteArray) (ha : a.size ≤ 1099511627775) (hb : b.size ≤ 1099511627775) : Ev (fun k => P.paths_Compare.f k a b) (pathCmp a b) := by
  have e1 : ∀ s : ByteArray, s.size ≤ 1099511627775 → P.paths_Elems.f s = some (elemsB s) := fun s h => if_pos (by omega)
  unfold P.paths_Compare.f
  simp only [e1 a ha, e1 b hb, Option.bind_some]
  refine Ev.bind (f := fun _ t => some t) (sl_loop (elemsB a) (elemsB b) (elems_small ha).1 _ 0 rfl (Nat.zero_le _) (Nat.zero_le _) rfl) (Ev.now _)
end Go.Proofs.YtcdcpcdfcmokkaaGreatDoor
end
section
namespace Go.Proofs.YtcdcpcdfcmokkaaGreatDoor.P
open Go.RowKit Go.Proofs.YtcdcpcdfcmokkaaGreatDoorW.PrintWords
set_option linter.unusedVariables false
def semver_number.f (a0 : ByteArray) : Option (Int × Bool) := if a0.size ≤ 9223372036854775807 then some (numV a0, numOk a0) else none
theorem semver_number.calls (a0 : ByteArray) (r1 : Int) (r2 : Bool) (w : World) (h : semver_number.f a0 = some (r1, r2)) :
    Calls Tryz.prog 112 #[.string a0] w fun e w' => e = .returned (.tuple #[.int .i64 r1, .bool r2]) ∧ Below w.heap.size w w' := by
  unfold semver_number.f at h
  split at h
  · simp only [Option.some.injEq, Prod.mk.injEq] at h
    obtain ⟨rfl, rfl⟩ := h; exact number_any a0 w (by assumption)
  · cases h
def semver_Parse.f (a0 : ByteArray) : Option (Int × Int × Int × ByteArray × ByteArray × Int) := if a0.size ≤ 9223372036854775807 then some (numAt a0 0, numAt a0 1, numAt a0 2, preB a0, metaB a0, verErr a0) else none
theorem semver_Parse.calls (a0 : ByteArray) (r1 r2 r3 : Int) (r4 r5 : ByteArray) (r6 : Int) (w : World) (h : semver_Parse.f a0 = some (r1, r2, r3, r4, r5, r6)) :
    Calls Tryz.prog 80 #[.string a0] w fun e w' => e = .returned (.tuple #[.agg #[.int .i64 r1, .int .i64 r2, .int .i64 r3, .string r4, .string r5], .int .i64 r6]) ∧ Below w.heap.size w w' := by
  unfold semver_Parse.f at h
  split at h
  · simp only [Option.some.injEq, Prod.mk.injEq] at h
    obtain ⟨rfl, rfl, rfl, rfl, rfl, rfl⟩ := h; exact parse_any a0 w (by assumption)
  · cases h
end Go.Proofs.YtcdcpcdfcmokkaaGreatDoor.P
end
