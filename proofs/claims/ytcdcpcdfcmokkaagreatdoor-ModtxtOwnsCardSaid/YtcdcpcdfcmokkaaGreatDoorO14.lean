/- Walks of the program's functions, and words that they use -/
import Derived.Test.YtcdcpcdfcmokkaaGreatDoorO05
import Derived.Test.YtcdcpcdfcmokkaaGreatDoorO13
set_option linter.unusedVariables false
set_option linter.unusedSimpArgs false
section
namespace Go.Proofs.YtcdcpcdfcmokkaaGreatDoor.P
open Go.RowKit Go.Proofs.YtcdcpcdfcmokkaaGreatDoorW.PrintWords Go.Proofs.YtcdcpcdfcmokkaaGreatDoorW.PrintLast Go.Proofs.YtcdcpcdfcmokkaaGreatDoorW.PrintMore
open Go.Proofs.YtcdcpcdfcmokkaaGreatDoor (str_gtr str_leq str_geq bne_empty)
attribute [local go_sem] max2_int min2_int max_two min_two max_three min_three max_four min_four str_gtr str_leq str_geq   -- for this text's walks alone
set_option linter.unusedVariables false
set_option linter.unusedSimpArgs false
mutual
def graftbedref01_Valid.j0 : Nat → ByteArray → Bool → Option (Bool)
 | 0, _, _ => none
 | k + 1, x0, x13 => if x13 = true then (some false) else ((graftbedref01_Elems.f k x0).bind fun t280 => (graftbedref01_Valid.l0 k t280 0))
def graftbedref01_Valid.l0 : Nat → List ByteArray → Int → Option (Bool)
 | 0, _, _ => none
 | k + 1, x3, x4 => if x4 < (x3.length : Int) then (if 0 ≤ x4 then (if ((rdOf ByteArray.empty x3 x4).size : Int) < 1 then (graftbedref01_Valid.j2 k x3 x4 true) else (if ((rdOf ByteArray.empty x3 x4).size : Int) > 30 then (graftbedref01_Valid.j2 k x3 x4 true) else (if (rdOf ByteArray.empty x3 x4).toList = ([46] : List UInt8) then (graftbedref01_Valid.j2 k x3 x4 true) else (graftbedref01_Valid.j2 k x3 x4 ((rdOf ByteArray.empty x3 x4).toList == ([46, 46] : List UInt8)))))) else (none)) else (some true)
def graftbedref01_Valid.j2 : Nat → List ByteArray → Int → Bool → Option (Bool)
 | 0, _, _, _ => none
 | k + 1, x3, x4, x49 => if x49 = true then (some false) else (graftbedref01_Valid.l1 k x3 x4 0)
def graftbedref01_Valid.l1 : Nat → List ByteArray → Int → Int → Option (Bool)
 | 0, _, _, _ => none
 | k + 1, x3, x4, x5 => if 0 ≤ x4 then (if x4 < (x3.length : Int) then (if x5 < ((rdOf ByteArray.empty x3 x4).size : Int) then (if 0 ≤ x5 then ((graftbedref01_fine.f k (bt (rdOf ByteArray.empty x3 x4) x5)).bind fun t289 => (if t289 = true then (graftbedref01_Valid.l1 k x3 x4 (wrap64 (x5 + 1))) else (some false))) else (none)) else (graftbedref01_Valid.l0 k x3 (wrap64 (x4 + 1)))) else (none)) else (none)
end
def graftbedref01_Valid.f (k : Nat) (a0 : ByteArray) : Option (Bool) := if (a0.size : Int) < 1 then (graftbedref01_Valid.j0 k a0 true) else (graftbedref01_Valid.j0 k a0 (decide ((a0.size : Int) > 60)))
set_option maxHeartbeats 8000000 in
set_option maxRecDepth 100000 in
theorem graftbedref01_Valid.calls (k : Nat) (a0 : ByteArray) (r : Bool) (w : World) (h : graftbedref01_Valid.f k a0 = some r) :
  Calls Tryz.prog 68 #[.string a0] w fun e w' => e = .returned (.bool r) ∧ Below w.heap.size w w' := by
 have HB := Aside0.mk (Below.refl w.heap.size w)
 have H : (if (a0.size : Int) < 1 then (graftbedref01_Valid.j0 k a0 true) else (graftbedref01_Valid.j0 k a0 (decide ((a0.size : Int) > 60)))) = some r := h
 clear h
 have HC2 := Aside0.mk H
 clear H
 go_enter Tryz.func68, Tryz.ntmps68
 go_upto_region 1 with (fail)
 go_cut [13] (fun v13 wc => ∃ (kq : Nat) (x13_1 : Bool), v13 = .bool x13_1 ∧ Aside0 (graftbedref01_Valid.j0 kq a0 x13_1 = some r) ∧ Aside0 (kq ≤ k) ∧ Aside0 (Below w.heap.size w wc))
 case first =>
  have H := HC2.out
  clear HC2
  by_cases c3 : (a0.size : Int) < 1
  ·rw [if_pos c3] at H
   have c3b0 : decide ((a0.size : Int) < 1) = true := decide_eq_true c3
   have c3b1 : decide (a0.size < 1) = true := decide_eq_true (by omega)
   clear c3
   (first | rw [c3b0] | (simp only [i64_w, i32_w]; rw [c3b0]) | skip)
   have H' := Aside0.mk H
   clear H
   go_wp2
   go_meet
   case rel => exact ⟨_, (true), (by first | rfl | (simp; done) | (simp [*]; done) | (simp [bne_empty, *]; done)), H', ⟨by first | omega | exact Nat.le_refl _⟩, ⟨by repeat (first | (with_reducible first | exact HB.out | apply below_alloc | apply pw_below_drewN | apply below_drew1) | exact HB.out)⟩⟩
  ·rw [if_neg c3] at H
   have c3b0 : decide ((a0.size : Int) < 1) = false := decide_eq_false c3
   have c3b1 : decide (a0.size < 1) = false := decide_eq_false (by omega)
   clear c3
   (first | rw [c3b0] | (simp only [i64_w, i32_w]; rw [c3b0]) | skip)
   have H' := Aside0.mk H
   clear H
   go_wp2
   go_meet
   case rel => exact ⟨_, (decide ((a0.size : Int) > 60)), (by first | rfl | (simp; done) | (simp [*]; done) | (simp [bne_empty, *]; done)), H', ⟨by first | omega | exact Nat.le_refl _⟩, ⟨by repeat (first | (with_reducible first | exact HB.out | apply below_alloc | apply pw_below_drewN | apply below_drew1) | exact HB.out)⟩⟩
 case rest =>
  clear HC2
  try clear p2
  try clear c3
  try clear c3b0
  try clear c3b1
  obtain ⟨kq, x13_1, rfl, HA, HJ1, HB⟩ := hcut
  cases kq with
  | zero => exact absurd HA.out (by simp [graftbedref01_Valid.j0])
  | succ kj1 =>
   have H := HA.out
   clear HA
   simp only [graftbedref01_Valid.j0] at H
   by_cases c4 : x13_1 = true
   ·subst c4
    have H1 : (some false) = some r := by rw [if_pos rfl] at H; exact H
    clear H
    have H := H1
    clear H1
    obtain rfl := Option.some.inj H
    go_wp2
    go_ret
    exact ⟨by first | rfl | (simp [errW_none, errW_some] <;> rfl) | (simp [*, errW_none, errW_some] <;> rfl) | (exfalso; simp_all; done) | (exfalso; omega), by repeat (first | (with_reducible first | exact HB.out | apply below_alloc | apply pw_below_drewN | apply below_drew1) | exact HB.out)⟩
   ·replace c4 := Bool.eq_false_iff.mpr c4
    subst c4
    have H1 : ((graftbedref01_Elems.f kj1 a0).bind fun t280 => (graftbedref01_Valid.l0 kj1 t280 0)) = some r := by rw [if_neg (show ¬ (false = true) by decide)] at H; exact H
    clear H
    have H := H1
    clear H1
    replace H := Option.bind_eq_some_iff.mp H
    obtain ⟨t280, A50, H⟩ := H
    replace H : (graftbedref01_Valid.l0 kj1 t280 0) = some r := H
    have A5 := Aside0.mk A50
    clear A50
    have H' := Aside0.mk H
    clear H
    go_wp2_with (first | ((with_reducible refine gate_callee (f := 70) rfl ?_); refine goesL_ (some 15) rfl rfl Tryz.func70 (by kernel_rfl) rfl #[.string a0] rfl (by (try simp only [List.map_toArray, List.map_cons, List.map_nil]); first | done | rfl | (simp only [List.length_drop, List.length_take]; rfl)) ?_; (with_reducible refine (graftbedref01_Elems.calls kj1 a0 t280 _ A5.out).mono ?_); rintro e w6 ⟨v281, rfl, ho0, hb⟩; refine ⟨_, rfl, ?_⟩; have n0_ := Aside0.mk (Kd.R_lower ho0 (below_size (by repeat (first | (with_reducible first | exact HB.out | apply below_alloc | apply pw_below_drewN | apply below_drew1) | exact HB.out)))); have n1_ := Aside0.mk (below_step (by repeat (first | (with_reducible first | exact HB.out | apply below_alloc | apply pw_below_drewN | apply below_drew1) | exact HB.out)) hb); clear HB; have HO282 := n0_; have HB := n1_; clear n0_ n1_; (try clear hb); (try clear hb2); (try clear hk); (try clear hi); (try clear ho0)))
    go_loopg [4] kj1 (fun kq v4 w' => ∃ (x4_2 : Int), v4 = .int .i64 x4_2 ∧ Aside0 (graftbedref01_Valid.l0 kq t280 x4_2 = some r) ∧ Aside0 (kq ≤ kj1) ∧ Aside0 (Kd.R Kd.string 9 w' w.heap.size (fun _ => True) v281 t280) ∧ Aside0 (Below w.heap.size w w'))
    case atStart => exact ⟨(0), (by first | rfl | (simp; done) | (simp [*]; done) | (simp [bne_empty, *]; done)), H', ⟨Nat.le_refl _⟩, ⟨by (with_reducible repeat (first | apply Kd.R_alloc | apply Kd.R_drewN | apply Kd.R_drew)); exact HO282.out⟩, ⟨by repeat (first | (with_reducible first | exact HB.out | apply below_alloc | apply pw_below_drewN | apply below_drew1) | exact HB.out)⟩⟩
    case round =>
     clear H'
     try clear p2
     try clear c3
     try clear c3b0
     try clear c3b1
     try clear c4
     try clear c6
     try clear p2
     obtain ⟨x4_2, rfl, HA, HK2, HO_3, HB⟩ := hrel
     cases gk with
     | zero => exact absurd HA.out (by simp [graftbedref01_Valid.l0])
     | succ k2 =>
      have H := HA.out
      clear HA
      simp only [graftbedref01_Valid.l0] at H
      by_cases c7 : x4_2 < (t280.length : Int)
      ·rw [if_pos c7] at H
       have c7b0 : decide (x4_2 < (t280.length : Int)) = true := decide_eq_true c7
       clear c7
       have HC8 := Aside0.mk H
       clear H
       obtain ⟨Ao9, co9, eo9⟩ := Kd.R_slice HO_3.out
       subst eo9
       go_upto_region 7 with (fail)
       go_cut [49] (fun v49 wc => ∃ (kq : Nat) (x49_7 : Bool), v49 = .bool x49_7 ∧ Aside0 (graftbedref01_Valid.j2 kq t280 x4_2 x49_7 = some r) ∧ Aside0 (kq ≤ k2) ∧ Aside0 (Kd.R Kd.string 9 wc w.heap.size (fun _ => True) (.slice Ao9 t280.length co9) t280) ∧ Aside0 (Below w.heap.size w wc))
       case first =>
        have H := HC8.out
        clear HC8
        by_cases c10 : 0 ≤ x4_2
        ·rw [if_pos c10] at H
         have c10b0 : decide (0 ≤ x4_2) = true := decide_eq_true c10
         clear c10
         (first | rw [c10b0] | (simp only [i64_w, i32_w]; rw [c10b0]) | skip)
         by_cases c11 : ((rdOf ByteArray.empty t280 x4_2).size : Int) < 1
         ·rw [if_pos c11] at H
          have c11b0 : decide (((rdOf ByteArray.empty t280 x4_2).size : Int) < 1) = true := decide_eq_true c11
          have c11b1 : decide ((rdOf ByteArray.empty t280 x4_2).size < 1) = true := decide_eq_true (by omega)
          clear c11
          have H' := Aside0.mk H
          clear H
          have p283 : 0 ≤ (x4_2 : Int) := of_decide_eq_true (by first | (with_reducible assumption) | assumption)
          have q283 : x4_2 < (t280.length : Int) := of_decide_eq_true (by first | (with_reducible assumption) | assumption)
          obtain ⟨ad283, e283, hx283_0⟩ := Kd.at_string (Kd.R_reads' HO_3.out).2.2 x4_2 p283 q283
          cases e283
          replace p283 := eq_true p283
          replace q283 := eq_true q283
          go_wp2
          go_meet
          case rel => exact ⟨_, (true), (by first | rfl | (simp; done) | (simp [*]; done) | (simp [bne_empty, *]; done)), H', ⟨by have := HJ1.out; have := HK2.out; first | omega | exact Nat.le_refl _⟩, ⟨by (with_reducible repeat (first | apply Kd.R_alloc | apply Kd.R_drewN | apply Kd.R_drew)); exact HO_3.out⟩, ⟨by repeat (first | (with_reducible first | exact HB.out | apply below_alloc | apply pw_below_drewN | apply below_drew1) | exact HB.out)⟩⟩
         ·rw [if_neg c11] at H
          have c11b0 : decide (((rdOf ByteArray.empty t280 x4_2).size : Int) < 1) = false := decide_eq_false c11
          have c11b1 : decide ((rdOf ByteArray.empty t280 x4_2).size < 1) = false := decide_eq_false (by omega)
          clear c11
          by_cases c12 : ((rdOf ByteArray.empty t280 x4_2).size : Int) > 30
          ·rw [if_pos c12] at H
           have c12b0 : decide (30 < ((rdOf ByteArray.empty t280 x4_2).size : Int)) = true := decide_eq_true c12
           have c12b1 : decide (30 < (rdOf ByteArray.empty t280 x4_2).size) = true := decide_eq_true (by omega)
           clear c12
           have H' := Aside0.mk H
           clear H
           have p283 : 0 ≤ (x4_2 : Int) := of_decide_eq_true (by first | (with_reducible assumption) | assumption)
           have q283 : x4_2 < (t280.length : Int) := of_decide_eq_true (by first | (with_reducible assumption) | assumption)
           obtain ⟨ad283, e283, hx283_0⟩ := Kd.at_string (Kd.R_reads' HO_3.out).2.2 x4_2 p283 q283
           cases e283
           replace p283 := eq_true p283
           replace q283 := eq_true q283
           have p284 : 0 ≤ (x4_2 : Int) := of_decide_eq_true (by first | (with_reducible assumption) | assumption)
           have q284 : x4_2 < (t280.length : Int) := of_decide_eq_true (by first | (with_reducible assumption) | assumption)
           obtain ⟨ad284, e284, hx284_0⟩ := Kd.at_string (Kd.R_reads' HO_3.out).2.2 x4_2 p284 q284
           obtain rfl : ad283 = ad284 := (by injection e284)
           replace p284 := eq_true p284
           replace q284 := eq_true q284
           go_wp2
           go_meet
           case rel => exact ⟨_, (true), (by first | rfl | (simp; done) | (simp [*]; done) | (simp [bne_empty, *]; done)), H', ⟨by have := HJ1.out; have := HK2.out; first | omega | exact Nat.le_refl _⟩, ⟨by (with_reducible repeat (first | apply Kd.R_alloc | apply Kd.R_drewN | apply Kd.R_drew)); exact HO_3.out⟩, ⟨by repeat (first | (with_reducible first | exact HB.out | apply below_alloc | apply pw_below_drewN | apply below_drew1) | exact HB.out)⟩⟩
          ·rw [if_neg c12] at H
           have c12b0 : decide (30 < ((rdOf ByteArray.empty t280 x4_2).size : Int)) = false := decide_eq_false c12
           have c12b1 : decide (30 < (rdOf ByteArray.empty t280 x4_2).size) = false := decide_eq_false (by omega)
           clear c12
           by_cases c13 : (rdOf ByteArray.empty t280 x4_2).toList = ([46] : List UInt8)
           ·rw [if_pos c13] at H
            have c13b0 : ((rdOf ByteArray.empty t280 x4_2).toList == ([46] : List UInt8)) = true := beq_iff_eq.mpr c13
            have c13b1 : ((rdOf ByteArray.empty t280 x4_2).toList != ([46] : List UInt8)) = false := bne_eq_false_iff_eq.mpr c13
            clear c13
            have H' := Aside0.mk H
            clear H
            have p283 : 0 ≤ (x4_2 : Int) := of_decide_eq_true (by first | (with_reducible assumption) | assumption)
            have q283 : x4_2 < (t280.length : Int) := of_decide_eq_true (by first | (with_reducible assumption) | assumption)
            obtain ⟨ad283, e283, hx283_0⟩ := Kd.at_string (Kd.R_reads' HO_3.out).2.2 x4_2 p283 q283
            cases e283
            replace p283 := eq_true p283
            replace q283 := eq_true q283
            have p284 : 0 ≤ (x4_2 : Int) := of_decide_eq_true (by first | (with_reducible assumption) | assumption)
            have q284 : x4_2 < (t280.length : Int) := of_decide_eq_true (by first | (with_reducible assumption) | assumption)
            obtain ⟨ad284, e284, hx284_0⟩ := Kd.at_string (Kd.R_reads' HO_3.out).2.2 x4_2 p284 q284
            obtain rfl : ad283 = ad284 := (by injection e284)
            replace p284 := eq_true p284
            replace q284 := eq_true q284
            have p285 : 0 ≤ (x4_2 : Int) := of_decide_eq_true (by first | (with_reducible assumption) | assumption)
            have q285 : x4_2 < (t280.length : Int) := of_decide_eq_true (by first | (with_reducible assumption) | assumption)
            obtain ⟨ad285, e285, hx285_0⟩ := Kd.at_string (Kd.R_reads' HO_3.out).2.2 x4_2 p285 q285
            obtain rfl : ad283 = ad285 := (by injection e285)
            replace p285 := eq_true p285
            replace q285 := eq_true q285
            go_wp2
            go_meet
            case rel => exact ⟨_, (true), (by first | rfl | (simp; done) | (simp [*]; done) | (simp [bne_empty, *]; done)), H', ⟨by have := HJ1.out; have := HK2.out; first | omega | exact Nat.le_refl _⟩, ⟨by (with_reducible repeat (first | apply Kd.R_alloc | apply Kd.R_drewN | apply Kd.R_drew)); exact HO_3.out⟩, ⟨by repeat (first | (with_reducible first | exact HB.out | apply below_alloc | apply pw_below_drewN | apply below_drew1) | exact HB.out)⟩⟩
           ·rw [if_neg c13] at H
            have c13b0 : ((rdOf ByteArray.empty t280 x4_2).toList == ([46] : List UInt8)) = false := beq_eq_false_iff_ne.mpr c13
            have c13b1 : ((rdOf ByteArray.empty t280 x4_2).toList != ([46] : List UInt8)) = true := bne_iff_ne.mpr c13
            have H' := Aside0.mk H
            clear H
            have p283 : 0 ≤ (x4_2 : Int) := of_decide_eq_true (by first | (with_reducible assumption) | assumption)
            have q283 : x4_2 < (t280.length : Int) := of_decide_eq_true (by first | (with_reducible assumption) | assumption)
            obtain ⟨ad283, e283, hx283_0⟩ := Kd.at_string (Kd.R_reads' HO_3.out).2.2 x4_2 p283 q283
            cases e283
            replace p283 := eq_true p283
            replace q283 := eq_true q283
            have p284 : 0 ≤ (x4_2 : Int) := of_decide_eq_true (by first | (with_reducible assumption) | assumption)
            have q284 : x4_2 < (t280.length : Int) := of_decide_eq_true (by first | (with_reducible assumption) | assumption)
            obtain ⟨ad284, e284, hx284_0⟩ := Kd.at_string (Kd.R_reads' HO_3.out).2.2 x4_2 p284 q284
            obtain rfl : ad283 = ad284 := (by injection e284)
            replace p284 := eq_true p284
            replace q284 := eq_true q284
            have p285 : 0 ≤ (x4_2 : Int) := of_decide_eq_true (by first | (with_reducible assumption) | assumption)
            have q285 : x4_2 < (t280.length : Int) := of_decide_eq_true (by first | (with_reducible assumption) | assumption)
            obtain ⟨ad285, e285, hx285_0⟩ := Kd.at_string (Kd.R_reads' HO_3.out).2.2 x4_2 p285 q285
            obtain rfl : ad283 = ad285 := (by injection e285)
            replace p285 := eq_true p285
            replace q285 := eq_true q285
            have p286 : 0 ≤ (x4_2 : Int) := of_decide_eq_true (by first | (with_reducible assumption) | assumption)
            have q286 : x4_2 < (t280.length : Int) := of_decide_eq_true (by first | (with_reducible assumption) | assumption)
            obtain ⟨ad286, e286, hx286_0⟩ := Kd.at_string (Kd.R_reads' HO_3.out).2.2 x4_2 p286 q286
            obtain rfl : ad283 = ad286 := (by injection e286)
            replace p286 := eq_true p286
            replace q286 := eq_true q286
            go_wp2
            go_meet
            case rel => exact ⟨_, (((rdOf ByteArray.empty t280 x4_2).toList == ([46, 46] : List UInt8))), (by first | rfl | (simp; done) | (simp [*]; done) | (simp [bne_empty, *]; done)), H', ⟨by have := HJ1.out; have := HK2.out; first | omega | exact Nat.le_refl _⟩, ⟨by (with_reducible repeat (first | apply Kd.R_alloc | apply Kd.R_drewN | apply Kd.R_drew)); exact HO_3.out⟩, ⟨by repeat (first | (with_reducible first | exact HB.out | apply below_alloc | apply pw_below_drewN | apply below_drew1) | exact HB.out)⟩⟩
        ·rw [if_neg c10] at H
         exact absurd H (by simp)
       case rest =>
        clear HC8
        try clear c1
        try clear p2
        try clear q2
        try clear hx2
        try clear c3
        try clear c3b0
        try clear c3b1
        try clear c4
        try clear c6
        try clear c7
        try clear c7b0
        try clear c10
        try clear c10b0
        try clear c11
        try clear c11b0
        try clear c11b1
        try clear c12
        try clear c12b0
        try clear c12b1
        try clear c13
        try clear c13b0
        try clear c13b1
        try clear hx283_0
        try clear hx284_0
        try clear hx285_0
        try clear hx286_0
        try clear p2
        try clear p283
        try clear p284
        try clear p285
        try clear p286
        try clear q283
        try clear q284
        try clear q285
        try clear q286
        obtain ⟨kq, x49_7, rfl, HA, HJ7, HO_3, HB⟩ := hcut
        cases kq with
        | zero => exact absurd HA.out (by simp [graftbedref01_Valid.j2])
        | succ kj7 =>
         have H := HA.out
         clear HA
         simp only [graftbedref01_Valid.j2] at H
         by_cases c14 : x49_7 = true
         ·subst c14
          have H1 : (some false) = some r := by rw [if_pos rfl] at H; exact H
          clear H
          have H := H1
          clear H1
          obtain rfl := Option.some.inj H
          go_wp2
          go_ret
          exact ⟨by first | rfl | (simp [errW_none, errW_some] <;> rfl) | (simp [*, errW_none, errW_some] <;> rfl) | (exfalso; simp_all; done) | (exfalso; omega), by repeat (first | (with_reducible first | exact HB.out | apply below_alloc | apply pw_below_drewN | apply below_drew1) | exact HB.out)⟩
         ·replace c14 := Bool.eq_false_iff.mpr c14
          subst c14
          have H1 : (graftbedref01_Valid.l1 kj7 t280 x4_2 0) = some r := by rw [if_neg (show ¬ (false = true) by decide)] at H; exact H
          clear H
          have H := H1
          clear H1
          have H' := Aside0.mk H
          clear H
          go_wp2
          go_loopg [5] kj7 (fun kq v5 w' => ∃ (x5_4 : Int), v5 = .int .i64 x5_4 ∧ Aside0 (graftbedref01_Valid.l1 kq t280 x4_2 x5_4 = some r) ∧ Aside0 (kq ≤ kj7) ∧ Aside0 (Kd.R Kd.string 9 w' w.heap.size (fun _ => True) (.slice Ao9 t280.length co9) t280) ∧ Aside0 (Below w.heap.size w w'))
          case atStart => exact ⟨(0), (by first | rfl | (simp; done) | (simp [*]; done) | (simp [bne_empty, *]; done)), H', ⟨Nat.le_refl _⟩, ⟨by (with_reducible repeat (first | apply Kd.R_alloc | apply Kd.R_drewN | apply Kd.R_drew)); exact HO_3.out⟩, ⟨by repeat (first | (with_reducible first | exact HB.out | apply below_alloc | apply pw_below_drewN | apply below_drew1) | exact HB.out)⟩⟩
          case round =>
           clear H'
           try clear c1
           try clear p2
           try clear q2
           try clear hx2
           try clear c3
           try clear c3b0
           try clear c3b1
           try clear c4
           try clear c6
           try clear c7
           try clear c7b0
           try clear c10
           try clear c10b0
           try clear c11
           try clear c11b0
           try clear c11b1
           try clear c12
           try clear c12b0
           try clear c12b1
           try clear c13
           try clear c13b0
           try clear c13b1
           try clear c14
           try clear hx283_0
           try clear hx284_0
           try clear hx285_0
           try clear hx286_0
           try clear p2
           try clear p283
           try clear p284
           try clear p285
           try clear p286
           try clear q2
           try clear q283
           try clear q284
           try clear q285
           try clear q286
           obtain ⟨x5_4, rfl, HA, HK4, HO_3, HB⟩ := hrel
           cases gk with
           | zero => exact absurd HA.out (by simp [graftbedref01_Valid.l1])
           | succ k4 =>
            have H := HA.out
            clear HA
            simp only [graftbedref01_Valid.l1] at H
            by_cases c15 : 0 ≤ x4_2
            ·rw [if_pos c15] at H
             have c15b0 : decide (0 ≤ x4_2) = true := decide_eq_true c15
             clear c15
             by_cases c16 : x4_2 < (t280.length : Int)
             ·rw [if_pos c16] at H
              have c16b0 : decide (x4_2 < (t280.length : Int)) = true := decide_eq_true c16
              clear c16
              by_cases c17 : x5_4 < ((rdOf ByteArray.empty t280 x4_2).size : Int)
              ·rw [if_pos c17] at H
               have c17b0 : decide (x5_4 < ((rdOf ByteArray.empty t280 x4_2).size : Int)) = true := decide_eq_true c17
               clear c17
               by_cases c18 : 0 ≤ x5_4
               ·rw [if_pos c18] at H
                have c18b0 : decide (0 ≤ x5_4) = true := decide_eq_true c18
                clear c18
                replace H := Option.bind_eq_some_iff.mp H
                obtain ⟨t289, A200, H⟩ := H
                replace H : (if t289 = true then (graftbedref01_Valid.l1 k4 t280 x4_2 (wrap64 (x5_4 + 1))) else (some false)) = some r := H
                have A20 := Aside0.mk A200
                clear A200
                by_cases c21 : t289 = true
                ·subst c21
                 have H1 : (graftbedref01_Valid.l1 k4 t280 x4_2 (wrap64 (x5_4 + 1))) = some r := by rw [if_pos rfl] at H; exact H
                 clear H
                 have H := H1
                 clear H1
                 have H' := Aside0.mk H
                 clear H
                 have p287 : 0 ≤ (x4_2 : Int) := of_decide_eq_true (by first | (with_reducible assumption) | assumption)
                 have q287 : x4_2 < (t280.length : Int) := of_decide_eq_true (by first | (with_reducible assumption) | assumption)
                 obtain ⟨ad287, e287, hx287_0⟩ := Kd.at_string (Kd.R_reads' HO_3.out).2.2 x4_2 p287 q287
                 cases e287
                 replace p287 := eq_true p287
                 replace q287 := eq_true q287
                 have p288 : 0 ≤ (x4_2 : Int) := of_decide_eq_true (by first | (with_reducible assumption) | assumption)
                 have q288 : x4_2 < (t280.length : Int) := of_decide_eq_true (by first | (with_reducible assumption) | assumption)
                 obtain ⟨ad288, e288, hx288_0⟩ := Kd.at_string (Kd.R_reads' HO_3.out).2.2 x4_2 p288 q288
                 obtain rfl : ad287 = ad288 := (by injection e288)
                 replace p288 := eq_true p288
                 replace q288 := eq_true q288
                 have p19 : 0 ≤ (x5_4 : Int) := of_decide_eq_true (by first | (with_reducible assumption) | assumption)
                 have q19 : x5_4 < ((rdOf ByteArray.empty t280 x4_2).size : Int) := of_decide_eq_true (by first | (with_reducible assumption) | assumption)
                 have hx19 := bt_at (rdOf ByteArray.empty t280 x4_2) x5_4
                 replace p19 := eq_true p19
                 replace q19 := eq_true q19
                 go_wp2_with (first | ((with_reducible refine gate_callee (f := 104) rfl ?_); refine goesL_ (some 65) rfl rfl Tryz.func104 (by kernel_rfl) rfl #[.int .u8 (bt (rdOf ByteArray.empty t280 x4_2) x5_4)] rfl (by (try simp only [List.map_toArray, List.map_cons, List.map_nil]); first | done | rfl | (simp only [List.length_drop, List.length_take]; rfl)) ?_; (with_reducible refine (graftbedref01_fine.calls k4 (bt (rdOf ByteArray.empty t280 x4_2) x5_4) true _ A20.out).mono ?_); rintro e w' ⟨rfl, ⟨nd, rfl⟩⟩; refine ⟨_, rfl, ?_⟩))
                 go_roundg k4
                 case measure => have := HJ1.out; have := HK2.out; have := HJ7.out; have := HK4.out; omega
                 case rel => exact ⟨(wrap64 (x5_4 + 1)), (by first | rfl | (simp; done) | (simp [*]; done) | (simp [bne_empty, *]; done)), H', ⟨by have := HJ1.out; have := HK2.out; have := HJ7.out; have := HK4.out; omega⟩, ⟨by (with_reducible repeat (first | apply Kd.R_alloc | apply Kd.R_drewN | apply Kd.R_drew)); exact HO_3.out⟩, ⟨by repeat (first | (with_reducible first | exact HB.out | apply below_alloc | apply pw_below_drewN | apply below_drew1) | exact HB.out)⟩⟩
                ·replace c21 := Bool.eq_false_iff.mpr c21
                 subst c21
                 have H1 : (some false) = some r := by rw [if_neg (show ¬ (false = true) by decide)] at H; exact H
                 clear H
                 have H := H1
                 clear H1
                 obtain rfl := Option.some.inj H
                 have p287 : 0 ≤ (x4_2 : Int) := of_decide_eq_true (by first | (with_reducible assumption) | assumption)
                 have q287 : x4_2 < (t280.length : Int) := of_decide_eq_true (by first | (with_reducible assumption) | assumption)
                 obtain ⟨ad287, e287, hx287_0⟩ := Kd.at_string (Kd.R_reads' HO_3.out).2.2 x4_2 p287 q287
                 cases e287
                 replace p287 := eq_true p287
                 replace q287 := eq_true q287
                 have p288 : 0 ≤ (x4_2 : Int) := of_decide_eq_true (by first | (with_reducible assumption) | assumption)
                 have q288 : x4_2 < (t280.length : Int) := of_decide_eq_true (by first | (with_reducible assumption) | assumption)
                 obtain ⟨ad288, e288, hx288_0⟩ := Kd.at_string (Kd.R_reads' HO_3.out).2.2 x4_2 p288 q288
                 obtain rfl : ad287 = ad288 := (by injection e288)
                 replace p288 := eq_true p288
                 replace q288 := eq_true q288
                 have p19 : 0 ≤ (x5_4 : Int) := of_decide_eq_true (by first | (with_reducible assumption) | assumption)
                 have q19 : x5_4 < ((rdOf ByteArray.empty t280 x4_2).size : Int) := of_decide_eq_true (by first | (with_reducible assumption) | assumption)
                 have hx19 := bt_at (rdOf ByteArray.empty t280 x4_2) x5_4
                 replace p19 := eq_true p19
                 replace q19 := eq_true q19
                 go_wp2_with (first | ((with_reducible refine gate_callee (f := 104) rfl ?_); refine goesL_ (some 65) rfl rfl Tryz.func104 (by kernel_rfl) rfl #[.int .u8 (bt (rdOf ByteArray.empty t280 x4_2) x5_4)] rfl (by (try simp only [List.map_toArray, List.map_cons, List.map_nil]); first | done | rfl | (simp only [List.length_drop, List.length_take]; rfl)) ?_; (with_reducible refine (graftbedref01_fine.calls k4 (bt (rdOf ByteArray.empty t280 x4_2) x5_4) false _ A20.out).mono ?_); rintro e w' ⟨rfl, ⟨nd, rfl⟩⟩; refine ⟨_, rfl, ?_⟩))
                 go_ret
                 exact ⟨by first | rfl | (simp [errW_none, errW_some] <;> rfl) | (simp [*, errW_none, errW_some] <;> rfl) | (exfalso; simp_all; done) | (exfalso; omega), by repeat (first | (with_reducible first | exact HB.out | apply below_alloc | apply pw_below_drewN | apply below_drew1) | exact HB.out)⟩
               ·rw [if_neg c18] at H
                exact absurd H (by simp)
              ·rw [if_neg c17] at H
               have c17b0 : decide (x5_4 < ((rdOf ByteArray.empty t280 x4_2).size : Int)) = false := decide_eq_false c17
               clear c17
               have H' := Aside0.mk H
               clear H
               have p287 : 0 ≤ (x4_2 : Int) := of_decide_eq_true (by first | (with_reducible assumption) | assumption)
               have q287 : x4_2 < (t280.length : Int) := of_decide_eq_true (by first | (with_reducible assumption) | assumption)
               obtain ⟨ad287, e287, hx287_0⟩ := Kd.at_string (Kd.R_reads' HO_3.out).2.2 x4_2 p287 q287
               cases e287
               replace p287 := eq_true p287
               replace q287 := eq_true q287
               go_wp2
               go_roundg k4
               case measure => have := HJ1.out; have := HK2.out; have := HJ7.out; have := HK4.out; omega
               case rel => exact ⟨(wrap64 (x4_2 + 1)), (by first | rfl | (simp; done) | (simp [*]; done) | (simp [bne_empty, *]; done)), H', ⟨by have := HJ1.out; have := HK2.out; have := HJ7.out; have := HK4.out; omega⟩, ⟨by (with_reducible repeat (first | apply Kd.R_alloc | apply Kd.R_drewN | apply Kd.R_drew)); exact HO_3.out⟩, ⟨by repeat (first | (with_reducible first | exact HB.out | apply below_alloc | apply pw_below_drewN | apply below_drew1) | exact HB.out)⟩⟩
             ·rw [if_neg c16] at H
              exact absurd H (by simp)
            ·rw [if_neg c15] at H
             exact absurd H (by simp)
      ·rw [if_neg c7] at H
       have c7b0 : decide (x4_2 < (t280.length : Int)) = false := decide_eq_false c7
       clear c7
       obtain rfl := Option.some.inj H
       obtain ⟨Ao22, co22, eo22⟩ := Kd.R_slice HO_3.out
       subst eo22
       go_wp2
       go_ret
       exact ⟨by first | rfl | (simp [errW_none, errW_some] <;> rfl) | (simp [*, errW_none, errW_some] <;> rfl) | (exfalso; simp_all; done) | (exfalso; omega), by repeat (first | (with_reducible first | exact HB.out | apply below_alloc | apply pw_below_drewN | apply below_drew1) | exact HB.out)⟩
end Go.Proofs.YtcdcpcdfcmokkaaGreatDoor.P
end
section
namespace Go.Proofs.YtcdcpcdfcmokkaaGreatDoor.P
open Go.RowKit Go.Proofs.YtcdcpcdfcmokkaaGreatDoorW.PrintWords Go.Proofs.YtcdcpcdfcmokkaaGreatDoorW.PrintLast Go.Proofs.YtcdcpcdfcmokkaaGreatDoorW.PrintMore
open Go.Proofs.YtcdcpcdfcmokkaaGreatDoor (str_gtr str_leq str_geq bne_empty)
attribute [local go_sem] max2_int min2_int max_two min_two max_three min_three max_four min_four str_gtr str_leq str_geq   -- for this text's walks alone
set_option linter.unusedVariables false
set_option linter.unusedSimpArgs false
mutual
def graftbedref01_made.l0 : Nat → ByteArray → Bool → ByteArray → Int → Option (Bool)
 | 0, _, _, _, _ => none
 | k + 1, x0, x1, x2, x7 => if x7 < (x0.size : Int) then (if 0 ≤ x7 then (if (bt x0 x7) ≥ 97 then (if (bt x0 x7) ≤ 122 then (graftbedref01_made.j1 k x0 x1 x2 x7 (bt x0 x7) true) else (if (bt x0 x7) ≥ 48 then (if (bt x0 x7) ≤ 57 then (graftbedref01_made.j1 k x0 x1 x2 x7 (bt x0 x7) true) else (if x1 = true then (if (bt x0 x7) ≥ 65 then (graftbedref01_made.j1 k x0 x1 x2 x7 (bt x0 x7) (decide ((bt x0 x7) ≤ 90))) else (graftbedref01_made.j1 k x0 x1 x2 x7 (bt x0 x7) false)) else (graftbedref01_made.j1 k x0 x1 x2 x7 (bt x0 x7) false))) else (if x1 = true then (if (bt x0 x7) ≥ 65 then (graftbedref01_made.j1 k x0 x1 x2 x7 (bt x0 x7) (decide ((bt x0 x7) ≤ 90))) else (graftbedref01_made.j1 k x0 x1 x2 x7 (bt x0 x7) false)) else (graftbedref01_made.j1 k x0 x1 x2 x7 (bt x0 x7) false)))) else (if (bt x0 x7) ≥ 48 then (if (bt x0 x7) ≤ 57 then (graftbedref01_made.j1 k x0 x1 x2 x7 (bt x0 x7) true) else (if x1 = true then (if (bt x0 x7) ≥ 65 then (graftbedref01_made.j1 k x0 x1 x2 x7 (bt x0 x7) (decide ((bt x0 x7) ≤ 90))) else (graftbedref01_made.j1 k x0 x1 x2 x7 (bt x0 x7) false)) else (graftbedref01_made.j1 k x0 x1 x2 x7 (bt x0 x7) false))) else (if x1 = true then (if (bt x0 x7) ≥ 65 then (graftbedref01_made.j1 k x0 x1 x2 x7 (bt x0 x7) (decide ((bt x0 x7) ≤ 90))) else (graftbedref01_made.j1 k x0 x1 x2 x7 (bt x0 x7) false)) else (graftbedref01_made.j1 k x0 x1 x2 x7 (bt x0 x7) false)))) else (none)) else (some true)
def graftbedref01_made.j1 : Nat → ByteArray → Bool → ByteArray → Int → Int → Bool → Option (Bool)
 | 0, _, _, _, _, _, _ => none
 | k + 1, x0, x1, x2, x7, x8, x9 => graftbedref01_made.l1 k x0 x1 x2 x7 x8 x9 0
def graftbedref01_made.l1 : Nat → ByteArray → Bool → ByteArray → Int → Int → Bool → Int → Option (Bool)
 | 0, _, _, _, _, _, _, _ => none
 | k + 1, x0, x1, x2, x7, x8, x9, x10 => if x10 < (x2.size : Int) then (if x9 = true then (graftbedref01_made.l1 k x0 x1 x2 x7 x8 true (wrap64 (x10 + 1))) else (if 0 ≤ x10 then (graftbedref01_made.l1 k x0 x1 x2 x7 x8 ((bt x2 x10) == x8) (wrap64 (x10 + 1))) else (none))) else (if x9 = true then (graftbedref01_made.l0 k x0 x1 x2 (wrap64 (x7 + 1))) else (some false))
end
def graftbedref01_made.f (k : Nat) (a0 : ByteArray) (a1 : Bool) (a2 : ByteArray) : Option (Bool) := graftbedref01_made.l0 k a0 a1 a2 0
end Go.Proofs.YtcdcpcdfcmokkaaGreatDoor.P
end
section
namespace Go.Proofs.YtcdcpcdfcmokkaaGreatDoor.P
open Go.RowKit Go.Proofs.YtcdcpcdfcmokkaaGreatDoorW.PrintWords Go.Proofs.YtcdcpcdfcmokkaaGreatDoorW.PrintLast Go.Proofs.YtcdcpcdfcmokkaaGreatDoorW.PrintMore
open Go.Proofs.YtcdcpcdfcmokkaaGreatDoor (str_gtr str_leq str_geq bne_empty)
attribute [local go_sem] max2_int min2_int max_two min_two max_three min_three max_four min_four str_gtr str_leq str_geq   -- for this text's walks alone
set_option linter.unusedVariables false
set_option linter.unusedSimpArgs false
def graftbedref01_Within.j0 : Nat → ByteArray → ByteArray → Bool → Option (ByteArray × Bool)
 | 0, _, _, _ => none
 | k + 1, x0, x1, x12 => if x12 = true then (some (x0, true)) else (if x0.toList = x1.toList then (some ((⟨#[]⟩ : ByteArray), true)) else (if (x0.size : Int) ≥ (wrap64 ((x1.size : Int) + 1)) then (if 0 ≤ (wrap64 ((x1.size : Int) + 1)) then (if (wrap64 ((x1.size : Int) + 1)) ≤ (x0.size : Int) then (if x1.size + 1 ≤ 9223372036854775807 then (if (x0.extract 0 ((wrap64 ((x1.size : Int) + 1)) : Int).toNat).toList = (x1 ++ (⟨#[47]⟩ : ByteArray)).toList then (some (x0.extract ((wrap64 ((x1.size : Int) + 1)) : Int).toNat x0.size, true)) else (some ((⟨#[]⟩ : ByteArray), false))) else (none)) else (none)) else (none)) else (some ((⟨#[]⟩ : ByteArray), false))))
def graftbedref01_Within.f (k : Nat) (a0 : ByteArray) (a1 : ByteArray) : Option (ByteArray × Bool) := if a1.toList = ([] : List UInt8) then (graftbedref01_Within.j0 k a0 a1 true) else (graftbedref01_Within.j0 k a0 a1 (a1.toList == ([46] : List UInt8)))
set_option maxHeartbeats 8000000 in
set_option maxRecDepth 100000 in
theorem graftbedref01_Within.calls (k : Nat) (a0 : ByteArray) (a1 : ByteArray) (r1 : ByteArray) (r2 : Bool) (w : World) (h : graftbedref01_Within.f k a0 a1 = some (r1, r2)) :
  Calls Tryz.prog 35 #[.string a0, .string a1] w fun e w' => e = .returned (.tuple #[.string r1, .bool r2]) ∧ Drawn0 w w' := by
 have H : (if a1.toList = ([] : List UInt8) then (graftbedref01_Within.j0 k a0 a1 true) else (graftbedref01_Within.j0 k a0 a1 (a1.toList == ([46] : List UInt8)))) = some (r1, r2) := h
 clear h
 have HC3 := Aside0.mk H
 clear H
 go_enter Tryz.func35, Tryz.ntmps35
 go_upto_region 1 with (fail)
 go_cut [12] (fun v12 wc => ∃ (kq : Nat) (x12_2 : Bool), v12 = .bool x12_2 ∧ Aside0 (graftbedref01_Within.j0 kq a0 a1 x12_2 = some (r1, r2)) ∧ Aside0 (kq ≤ k) ∧ Drawn0 w wc)
 case first =>
  have H := HC3.out
  clear HC3
  by_cases c4 : a1.toList = ([] : List UInt8)
  ·rw [if_pos c4] at H
   have c4b0 : (a1.toList == ([] : List UInt8)) = true := beq_iff_eq.mpr c4
   have c4bz : (a1.toList.isEmpty) = true := by simpa using c4b0
   have c4b1 : (a1.toList != ([] : List UInt8)) = false := bne_eq_false_iff_eq.mpr c4
   clear c4
   (first | rw [c4b0] | (simp only [i64_w, i32_w]; rw [c4b0]) | skip)
   have H' := Aside0.mk H
   clear H
   go_wp2
   go_meet
   case rel => exact ⟨_, (true), (by first | rfl | (simp; done) | (simp [*]; done) | (simp [bne_empty, *]; done)), H', ⟨by first | omega | exact Nat.le_refl _⟩, by repeat (first | exact Drawn0.refl _ | apply Drawn0.step)⟩
  ·rw [if_neg c4] at H
   have c4b0 : (a1.toList == ([] : List UInt8)) = false := beq_eq_false_iff_ne.mpr c4
   have c4bz : (a1.toList.isEmpty) = false := by simpa using c4b0
   have c4b1 : (a1.toList != ([] : List UInt8)) = true := bne_iff_ne.mpr c4
   (first | rw [c4b0] | (simp only [i64_w, i32_w]; rw [c4b0]) | skip)
   have H' := Aside0.mk H
   clear H
   go_wp2
   go_meet
   case rel => exact ⟨_, ((a1.toList == ([46] : List UInt8))), (by first | rfl | (simp; done) | (simp [*]; done) | (simp [bne_empty, *]; done)), H', ⟨by first | omega | exact Nat.le_refl _⟩, by repeat (first | exact Drawn0.refl _ | apply Drawn0.step)⟩
 case rest =>
  clear HC3
  try clear p2
  try clear c3
  try clear c4
  try clear c4b0
  try clear c4b1
  obtain ⟨kq, x12_2, rfl, HA, HJ2, ⟨mc2, rfl⟩⟩ := hcut
  cases kq with
  | zero => exact absurd HA.out (by simp [graftbedref01_Within.j0])
  | succ kj2 =>
   have H := HA.out
   clear HA
   simp only [graftbedref01_Within.j0] at H
   by_cases c5 : x12_2 = true
   ·subst c5
    have H1 : (some (a0, true)) = some (r1, r2) := by rw [if_pos rfl] at H; exact H
    clear H
    have H := H1
    clear H1
    simp only [Option.some.injEq, Prod.mk.injEq] at H
    obtain ⟨rfl, rfl⟩ := H
    go_wp2
    go_ret2
    exact ⟨by first | rfl | (simp; done) | (simp [*]; done) | (simp [bne_empty, *]; done), by repeat (first | exact Drawn0.refl _ | apply Drawn0.step)⟩
   ·replace c5 := Bool.eq_false_iff.mpr c5
    subst c5
    have H1 : (if a0.toList = a1.toList then (some ((⟨#[]⟩ : ByteArray), true)) else (if (a0.size : Int) ≥ (wrap64 ((a1.size : Int) + 1)) then (if 0 ≤ (wrap64 ((a1.size : Int) + 1)) then (if (wrap64 ((a1.size : Int) + 1)) ≤ (a0.size : Int) then (if a1.size + 1 ≤ 9223372036854775807 then (if (a0.extract 0 ((wrap64 ((a1.size : Int) + 1)) : Int).toNat).toList = (a1 ++ (⟨#[47]⟩ : ByteArray)).toList then (some (a0.extract ((wrap64 ((a1.size : Int) + 1)) : Int).toNat a0.size, true)) else (some ((⟨#[]⟩ : ByteArray), false))) else (none)) else (none)) else (none)) else (some ((⟨#[]⟩ : ByteArray), false)))) = some (r1, r2) := by rw [if_neg (show ¬ (false = true) by decide)] at H; exact H
    clear H
    have H := H1
    clear H1
    by_cases c6 : a0.toList = a1.toList
    ·rw [if_pos c6] at H
     have c6b0 : (a0.toList == a1.toList) = true := beq_iff_eq.mpr c6
     have c6b1 : (a0.toList != a1.toList) = false := bne_eq_false_iff_eq.mpr c6
     clear c6
     simp only [Option.some.injEq, Prod.mk.injEq] at H
     obtain ⟨rfl, rfl⟩ := H
     go_wp2
     go_ret2
     exact ⟨by first | rfl | (simp; done) | (simp [*]; done) | (simp [bne_empty, *]; done), by repeat (first | exact Drawn0.refl _ | apply Drawn0.step)⟩
    ·rw [if_neg c6] at H
     have c6b0 : (a0.toList == a1.toList) = false := beq_eq_false_iff_ne.mpr c6
     have c6b1 : (a0.toList != a1.toList) = true := bne_iff_ne.mpr c6
     by_cases c7 : (a0.size : Int) ≥ (wrap64 ((a1.size : Int) + 1))
     ·rw [if_pos c7] at H
      have c7b0 : decide ((wrap64 ((a1.size : Int) + 1)) ≤ (a0.size : Int)) = true := decide_eq_true c7
      clear c7
      obtain ⟨ji8, hji8⟩ : ∃ j_ : Int, (wrap64 ((a1.size : Int) + 1)) = j_ := ⟨_, rfl⟩
      replace H : (if 0 ≤ (ji8) then (if (ji8) ≤ (a0.size : Int) then (if a1.size + 1 ≤ 9223372036854775807 then (if (a0.extract 0 ((ji8) : Int).toNat).toList = (a1 ++ (⟨#[47]⟩ : ByteArray)).toList then (some (a0.extract ((ji8) : Int).toNat a0.size, true)) else (some ((⟨#[]⟩ : ByteArray), false))) else (none)) else (none)) else (none)) = some (r1, r2) := by first | (rw [hji8] at H; exact H) | (simp only [hji8] at H ⊢; exact H)
      (try rw [hji8] at c7b0)
      have hji8w : (IntKind.i64.wrap ((a1.size : Int) + 1)) = ji8 := (i64_w _).trans hji8
      by_cases c9 : 0 ≤ (ji8)
      ·rw [if_pos c9] at H
       have c9b0 := eq_true c9
       have c9b1 : decide (0 ≤ (ji8)) = true := decide_eq_true c9
       clear c9
       by_cases c10 : (ji8) ≤ (a0.size : Int)
       ·rw [if_pos c10] at H
        have c10b0 := eq_true c10
        have c10b1 : decide ((ji8) ≤ (a0.size : Int)) = true := decide_eq_true c10
        clear c10
        by_cases c11 : a1.size + 1 ≤ 9223372036854775807
        ·rw [if_pos c11] at H
         have c11b0 := eq_true c11
         have c11b1 : decide (a1.size + 1 ≤ 9223372036854775807) = true := decide_eq_true c11
         try have c11b2 : (9223372036854775807 < a1.size + 1) = False := eq_false (Nat.not_lt.2 c11)
         by_cases c12 : (a0.extract 0 ((ji8) : Int).toNat).toList = (a1 ++ (⟨#[47]⟩ : ByteArray)).toList
         ·rw [if_pos c12] at H
          have c12b0 : ((a0.extract 0 ((ji8) : Int).toNat).toList == (a1 ++ (⟨#[47]⟩ : ByteArray)).toList) = true := beq_iff_eq.mpr c12
          have c12b1 : ((a0.extract 0 ((ji8) : Int).toNat).toList != (a1 ++ (⟨#[47]⟩ : ByteArray)).toList) = false := bne_eq_false_iff_eq.mpr c12
          clear c12
          have c13b0 := eq_true (of_decide_eq_true (by first | (with_reducible assumption) | assumption) : 0 ≤ (ji8))
          have c14b0 := eq_true (of_decide_eq_true (by first | (with_reducible assumption) | assumption) : (ji8) ≤ (a0.size : Int))
          simp only [Option.some.injEq, Prod.mk.injEq] at H
          obtain ⟨rfl, rfl⟩ := H
          go_wp2
          go_ret2
          exact ⟨by first | rfl | (simp; done) | (simp only [← hji8] <;> (first | rfl | simp)) | (simp [*]; done), by repeat (first | exact Drawn0.refl _ | apply Drawn0.step)⟩
         ·rw [if_neg c12] at H
          have c12b0 : ((a0.extract 0 ((ji8) : Int).toNat).toList == (a1 ++ (⟨#[47]⟩ : ByteArray)).toList) = false := beq_eq_false_iff_ne.mpr c12
          have c12b1 : ((a0.extract 0 ((ji8) : Int).toNat).toList != (a1 ++ (⟨#[47]⟩ : ByteArray)).toList) = true := bne_iff_ne.mpr c12
          simp only [Option.some.injEq, Prod.mk.injEq] at H
          obtain ⟨rfl, rfl⟩ := H
          go_wp2
          go_ret2
          exact ⟨by first | rfl | (simp; done) | (simp only [← hji8] <;> (first | rfl | simp)) | (simp [*]; done), by repeat (first | exact Drawn0.refl _ | apply Drawn0.step)⟩
        ·rw [if_neg c11] at H
         exact absurd H (by simp)
       ·rw [if_neg c10] at H
        exact absurd H (by simp)
      ·rw [if_neg c9] at H
       exact absurd H (by simp)
     ·rw [if_neg c7] at H
      have c7b0 : decide ((wrap64 ((a1.size : Int) + 1)) ≤ (a0.size : Int)) = false := decide_eq_false c7
      clear c7
      simp only [Option.some.injEq, Prod.mk.injEq] at H
      obtain ⟨rfl, rfl⟩ := H
      go_wp2
      go_ret2
      exact ⟨by first | rfl | (simp; done) | (simp [*]; done) | (simp [bne_empty, *]; done), by repeat (first | exact Drawn0.refl _ | apply Drawn0.step)⟩
end Go.Proofs.YtcdcpcdfcmokkaaGreatDoor.P
end
