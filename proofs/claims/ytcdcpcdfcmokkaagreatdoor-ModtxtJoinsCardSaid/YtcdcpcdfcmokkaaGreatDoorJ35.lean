/- modtxt.Print, taken as given by the printed walks. · A list within the law's bound: sizes, and what both Prints do with it. · A module behind all others joins a list, in plain words. -/
import Derived.Test.YtcdcpcdfcmokkaaGreatDoorJ31
import Derived.Test.YtcdcpcdfcmokkaaGreatDoorJ05
import Derived.Test.YtcdcpcdfcmokkaaGreatDoorJ29
import Derived.Test.YtcdcpcdfcmokkaaGreatDoorJ30
import Derived.Test.YtcdcpcdfcmokkaaGreatDoorJ33
import Derived.Test.YtcdcpcdfcmokkaaGreatDoorJ34
set_option linter.unusedVariables false
set_option linter.unusedSimpArgs false
section
namespace Go.Proofs.YtcdcpcdfcmokkaaGreatDoor
open Go Go.RowKit Go.Proofs.YtcdcpcdfcmokkaaGreatDoorW.PrintWords
set_option linter.unusedVariables false
def PrintOk (ms : List SM) (rs : List SR) : Prop := (∀ m ∈ ms, SmallM m) ∧ (∀ r ∈ rs, SmallR r) ∧ ms.length ≤ 1048576 ∧ rs.length ≤ 1099511627770 ∧ (metB ms ms.length).length ≤ 1099511627770 ∧ (textL ms rs).length ≤ 140737488355328
instance (ms : List SM) (rs : List SR) : Decidable (PrintOk ms rs) := by unfold PrintOk SmallM SmallR; infer_instance
namespace P
def modtxt_Print.f (l0 : List S41) (l1 : List S59) : Option (ByteArray × Int) := if PrintOk l0 l1 then some (printP l0 l1, listErr l0 l1) else none
theorem modtxt_Print.calls (A0 : Option Addr) (c0 : Nat) (l0 : List S41) (A1 : Option Addr) (c1 : Nat) (l1 : List S59) (r1 : ByteArray) (r2 : Int) (w : World) (h0 : Kd.C k41 w A0 l0.length l0) (hc0 : l0.length ≤ c0) (h1 : Kd.C k59 w A1 l1.length l1) (hc1 : l1.length ≤ c1) (h : modtxt_Print.f l0 l1 = some (r1, r2)) :
    Calls Tryz.prog 10 #[.agg #[.slice A0 l0.length c0, .slice A1 l1.length c1]] w fun e w' => e = .returned (.tuple #[.string r1, .int .i64 r2]) ∧ Below w.heap.size w w' := by
  unfold modtxt_Print.f at h
  split at h
  · simp only [Option.some.injEq, Prod.mk.injEq] at h
    obtain ⟨rfl, rfl⟩ := h
    rename_i hk
    obtain ⟨sm, sr, lm, lr, lp, lt⟩ := hk
    exact print_any A0 A1 c0 c1 l0 l1 w h0 hc0 h1 hc1 sm sr lm lr lp lt
  · cases h
end P
end Go.Proofs.YtcdcpcdfcmokkaaGreatDoor
end
section
namespace Go.Proofs.YtcdcpcdfcmokkaaGreatDoor.P
open Go.RowKit Go.Proofs.YtcdcpcdfcmokkaaGreatDoorW.PrintWords Go.Proofs.YtcdcpcdfcmokkaaGreatDoorW.PrintLast Go.Proofs.YtcdcpcdfcmokkaaGreatDoorW.PrintMore
open Go.Proofs.YtcdcpcdfcmokkaaGreatDoor (str_gtr str_leq str_geq bne_empty)
attribute [local go_sem] max2_int min2_int max_two min_two max_three min_three max_four min_four str_gtr str_leq str_geq   -- for this text's walks alone
set_option linter.unusedVariables false
set_option linter.unusedSimpArgs false
def graftbedlaw19_shown.f  : Option (Bool) := (modtxt_Print.f (([(⟨(⟨(⟨#[97, 46, 98]⟩ : ByteArray), (⟨#[118, 49, 46, 48, 46, 48]⟩ : ByteArray)⟩ : S38), true, (⟨#[]⟩ : ByteArray), (⟨(⟨#[]⟩ : ByteArray), (⟨#[]⟩ : ByteArray)⟩ : S38), ([] : List ByteArray)⟩ : S41)] : List (S41))) ([] : List (S59))).bind fun bt269 => (if bt269.2 = 0 then (some (bt269.1.toList == ([35, 32, 97, 46, 98, 32, 118, 49, 46, 48, 46, 48, 10, 35, 35, 32, 101, 120, 112, 108, 105, 99, 105, 116, 10] : List UInt8))) else (some false))
set_option maxHeartbeats 8000000 in
set_option maxRecDepth 100000 in
theorem graftbedlaw19_shown.calls  (r : Bool) (w : World) (h : graftbedlaw19_shown.f  = some r) :
  Calls Tryz.prog 9 #[] w fun e w' => e = .returned (.bool r) ∧ Below w.heap.size w w' := by
 have hu38 := Tryz.underlying38
 have hu41 := Tryz.underlying41
 have hu25 := Tryz.underlying25
 have HB := Aside0.mk (Below.refl w.heap.size w)
 have H : ((modtxt_Print.f (([(⟨(⟨(⟨#[97, 46, 98]⟩ : ByteArray), (⟨#[118, 49, 46, 48, 46, 48]⟩ : ByteArray)⟩ : S38), true, (⟨#[]⟩ : ByteArray), (⟨(⟨#[]⟩ : ByteArray), (⟨#[]⟩ : ByteArray)⟩ : S38), ([] : List ByteArray)⟩ : S41)] : List (S41))) ([] : List (S59))).bind fun bt269 => (if bt269.2 = 0 then (some (bt269.1.toList == ([35, 32, 97, 46, 98, 32, 118, 49, 46, 48, 46, 48, 10, 35, 35, 32, 101, 120, 112, 108, 105, 99, 105, 116, 10] : List UInt8))) else (some false))) = some r := h
 clear h
 obtain ⟨y266, hy266⟩ : ∃ y_ : List (S41), y_ = (([(⟨(⟨(⟨#[97, 46, 98]⟩ : ByteArray), (⟨#[118, 49, 46, 48, 46, 48]⟩ : ByteArray)⟩ : S38), true, (⟨#[]⟩ : ByteArray), (⟨(⟨#[]⟩ : ByteArray), (⟨#[]⟩ : ByteArray)⟩ : S38), ([] : List ByteArray)⟩ : S41)] : List (S41))) := ⟨_, rfl⟩
 replace H : ((modtxt_Print.f y266 ([] : List (S59))).bind fun bt269 => (if bt269.2 = 0 then (some (bt269.1.toList == ([35, 32, 97, 46, 98, 32, 118, 49, 46, 48, 46, 48, 10, 35, 35, 32, 101, 120, 112, 108, 105, 99, 105, 116, 10] : List UInt8))) else (some false))) = some r := by first | (rw [hy266]; with_reducible exact H) | (have H2_ := (Option.bind_some _ _).symm.trans H; rw [hy266]; with_reducible exact H2_) | (have H2_ := (Option.bind_some _ _).symm.trans H; with_reducible exact H2_) | with_reducible exact H | (rw [hy266]; exact H) | exact H
 have Ny266 := Aside0.mk hy266
 clear hy266
 replace H := Option.bind_eq_some_iff.mp H
 obtain ⟨⟨t269, t270⟩, A10, H⟩ := H
 replace H : (if t270 = 0 then (some (t269.toList == ([35, 32, 97, 46, 98, 32, 118, 49, 46, 48, 46, 48, 10, 35, 35, 32, 101, 120, 112, 108, 105, 99, 105, 116, 10] : List UInt8))) else (some false)) = some r := H
 have A1 := Aside0.mk A10
 clear A10
 by_cases c2 : t270 = 0
 ·rw [if_pos c2] at H
  have c2b0 : (t270 == 0) = true := beq_iff_eq.mpr c2
  have c2b1 : (t270 != 0) = false := bne_eq_false_iff_eq.mpr c2
  clear c2
  obtain rfl := Option.some.inj H
  go_enter Tryz.func9, Tryz.ntmps9
  go_wp2_with (first | ((with_reducible refine gate_dst (N := 6) rfl ?_); refine Kd.S_lit k41 _ 41 ?hg (N := 6) ?hd (xs := ([(⟨(⟨(⟨#[97, 46, 98]⟩ : ByteArray), (⟨#[118, 49, 46, 48, 46, 48]⟩ : ByteArray)⟩ : S38), true, (⟨#[]⟩ : ByteArray), (⟨(⟨#[]⟩ : ByteArray), (⟨#[]⟩ : ByteArray)⟩ : S38), ([] : List ByteArray)⟩ : S41)] : List (S41))) (inner := [.string (⟨#[97, 46, 98]⟩ : ByteArray), .string (⟨#[118, 49, 46, 48, 46, 48]⟩ : ByteArray), .bool true, .string (⟨#[]⟩ : ByteArray), .string (⟨#[]⟩ : ByteArray), .string (⟨#[]⟩ : ByteArray), .slice none 0 0]) (ok := fun _ => True) (okp := fun _ => True) ?hr ?hp (fun _ hk => hk) trivial (Below.refl _ _) (Nat.le_refl _) (by simp) ?_; (case hd => rfl); (case hg => rfl); (case hr => first | (go_simp; done) | (go_simp; rfl)); (case hp => exact (Reps.c7 (show Kd.M k41 _ _ _ (⟨(⟨(⟨#[97, 46, 98]⟩ : ByteArray), (⟨#[118, 49, 46, 48, 46, 48]⟩ : ByteArray)⟩ : S38), true, (⟨#[]⟩ : ByteArray), (⟨(⟨#[]⟩ : ByteArray), (⟨#[]⟩ : ByteArray)⟩ : S38), ([] : List ByteArray)⟩ : S41) [.string (⟨#[97, 46, 98]⟩ : ByteArray), .string (⟨#[118, 49, 46, 48, 46, 48]⟩ : ByteArray), .bool true, .string (⟨#[]⟩ : ByteArray), .string (⟨#[]⟩ : ByteArray), .string (⟨#[]⟩ : ByteArray), .slice none 0 0] from (k41_mkM _ _ _ (⟨(⟨(⟨#[97, 46, 98]⟩ : ByteArray), (⟨#[118, 49, 46, 48, 46, 48]⟩ : ByteArray)⟩ : S38), true, (⟨#[]⟩ : ByteArray), (⟨(⟨#[]⟩ : ByteArray), (⟨#[]⟩ : ByteArray)⟩ : S38), ([] : List ByteArray)⟩ : S41) (Kd.R_nil _ _ _ _ _))) (Reps.none _ _))); intro v267 w3 ho4 hb hg_ hnew_; clear hg_ hnew_; (first | rw [← Ny266.out] at ho4 | (simp only [Int.reduceToNat] at ho4; rw [← Ny266.out] at ho4)); have n0_ := Aside0.mk (Kd.S_lower ho4 (below_size (by repeat (first | (with_reducible first | exact HB.out | apply below_alloc | apply pw_below_drewN | apply below_drew1) | exact HB.out)))); have n1_ := Aside0.mk (below_step (by repeat (first | (with_reducible first | exact HB.out | apply below_alloc | apply pw_below_drewN | apply below_drew1) | exact HB.out)) hb); clear HB; have HO268 := n0_; have HB := n1_; clear n0_ n1_; clear hb ho4; obtain ⟨Ao5, co5, eo5⟩ := Kd.S_slice HO268.out; subst eo5) | ((with_reducible refine gate_callee (f := 10) rfl ?_); refine goesL_ (some 10) rfl rfl Tryz.func10 (by kernel_rfl) rfl #[.agg #[.slice Ao5 y266.length co5, .slice none 0 0]] rfl (by (try simp only [List.map_toArray, List.map_cons, List.map_nil]); first | done | rfl | (simp only [List.length_drop, List.length_take]; rfl)) ?_; (refine (modtxt_Print.calls _ _ y266 _ _ ([] : List (S59)) t269 t270 _ ?side1 ?side2 ?side3 ?side4 A1.out).mono ?_); (case side1 => repeat (first | exact (Kd.S_reads' HO268.out).2.2 | (with_reducible refine Kd.C_alloc ?_ _) | (with_reducible refine Kd.C_drewN ?_ _) | (with_reducible refine Kd.C_drew ?_))); (case side2 => exact (Kd.S_reads' HO268.out).2.1); (case side3 => exact Kd.C_nil _ _); (case side4 => exact Nat.le_refl _); rintro e w6 ⟨rfl, hb⟩; refine ⟨_, rfl, ?_⟩; have n0_ := Aside0.mk (Kd.S_below (by (with_reducible repeat (first | apply Kd.S_alloc | apply Kd.S_drewN | apply Kd.S_drew)); exact HO268.out) hb); have n1_ := Aside0.mk (below_step (by repeat (first | (with_reducible first | exact HB.out | apply below_alloc | apply pw_below_drewN | apply below_drew1) | exact HB.out)) hb); clear HO268; clear HB; have HO268 := n0_; have HB := n1_; clear n0_ n1_; (try clear hb); (try clear hb2); (try clear hk); (try clear hi)))
  go_ret
  exact ⟨by first | rfl | (simp [errW_none, errW_some] <;> rfl) | (simp [*, errW_none, errW_some] <;> rfl) | (exfalso; simp_all; done) | (exfalso; omega), by repeat (first | (with_reducible first | exact HB.out | apply below_alloc | apply pw_below_drewN | apply below_drew1) | exact HB.out)⟩
 ·rw [if_neg c2] at H
  have c2b0 : (t270 == 0) = false := beq_eq_false_iff_ne.mpr c2
  have c2b1 : (t270 != 0) = true := bne_iff_ne.mpr c2
  obtain rfl := Option.some.inj H
  go_enter Tryz.func9, Tryz.ntmps9
  go_wp2_with (first | ((with_reducible refine gate_dst (N := 6) rfl ?_); refine Kd.S_lit k41 _ 41 ?hg (N := 6) ?hd (xs := ([(⟨(⟨(⟨#[97, 46, 98]⟩ : ByteArray), (⟨#[118, 49, 46, 48, 46, 48]⟩ : ByteArray)⟩ : S38), true, (⟨#[]⟩ : ByteArray), (⟨(⟨#[]⟩ : ByteArray), (⟨#[]⟩ : ByteArray)⟩ : S38), ([] : List ByteArray)⟩ : S41)] : List (S41))) (inner := [.string (⟨#[97, 46, 98]⟩ : ByteArray), .string (⟨#[118, 49, 46, 48, 46, 48]⟩ : ByteArray), .bool true, .string (⟨#[]⟩ : ByteArray), .string (⟨#[]⟩ : ByteArray), .string (⟨#[]⟩ : ByteArray), .slice none 0 0]) (ok := fun _ => True) (okp := fun _ => True) ?hr ?hp (fun _ hk => hk) trivial (Below.refl _ _) (Nat.le_refl _) (by simp) ?_; (case hd => rfl); (case hg => rfl); (case hr => first | (go_simp; done) | (go_simp; rfl)); (case hp => exact (Reps.c7 (show Kd.M k41 _ _ _ (⟨(⟨(⟨#[97, 46, 98]⟩ : ByteArray), (⟨#[118, 49, 46, 48, 46, 48]⟩ : ByteArray)⟩ : S38), true, (⟨#[]⟩ : ByteArray), (⟨(⟨#[]⟩ : ByteArray), (⟨#[]⟩ : ByteArray)⟩ : S38), ([] : List ByteArray)⟩ : S41) [.string (⟨#[97, 46, 98]⟩ : ByteArray), .string (⟨#[118, 49, 46, 48, 46, 48]⟩ : ByteArray), .bool true, .string (⟨#[]⟩ : ByteArray), .string (⟨#[]⟩ : ByteArray), .string (⟨#[]⟩ : ByteArray), .slice none 0 0] from (k41_mkM _ _ _ (⟨(⟨(⟨#[97, 46, 98]⟩ : ByteArray), (⟨#[118, 49, 46, 48, 46, 48]⟩ : ByteArray)⟩ : S38), true, (⟨#[]⟩ : ByteArray), (⟨(⟨#[]⟩ : ByteArray), (⟨#[]⟩ : ByteArray)⟩ : S38), ([] : List ByteArray)⟩ : S41) (Kd.R_nil _ _ _ _ _))) (Reps.none _ _))); intro v267 w7 ho8 hb hg_ hnew_; clear hg_ hnew_; (first | rw [← Ny266.out] at ho8 | (simp only [Int.reduceToNat] at ho8; rw [← Ny266.out] at ho8)); have n0_ := Aside0.mk (Kd.S_lower ho8 (below_size (by repeat (first | (with_reducible first | exact HB.out | apply below_alloc | apply pw_below_drewN | apply below_drew1) | exact HB.out)))); have n1_ := Aside0.mk (below_step (by repeat (first | (with_reducible first | exact HB.out | apply below_alloc | apply pw_below_drewN | apply below_drew1) | exact HB.out)) hb); clear HB; have HO268 := n0_; have HB := n1_; clear n0_ n1_; clear hb ho8; obtain ⟨Ao9, co9, eo9⟩ := Kd.S_slice HO268.out; subst eo9) | ((with_reducible refine gate_callee (f := 10) rfl ?_); refine goesL_ (some 10) rfl rfl Tryz.func10 (by kernel_rfl) rfl #[.agg #[.slice Ao9 y266.length co9, .slice none 0 0]] rfl (by (try simp only [List.map_toArray, List.map_cons, List.map_nil]); first | done | rfl | (simp only [List.length_drop, List.length_take]; rfl)) ?_; (refine (modtxt_Print.calls _ _ y266 _ _ ([] : List (S59)) t269 t270 _ ?side1 ?side2 ?side3 ?side4 A1.out).mono ?_); (case side1 => repeat (first | exact (Kd.S_reads' HO268.out).2.2 | (with_reducible refine Kd.C_alloc ?_ _) | (with_reducible refine Kd.C_drewN ?_ _) | (with_reducible refine Kd.C_drew ?_))); (case side2 => exact (Kd.S_reads' HO268.out).2.1); (case side3 => exact Kd.C_nil _ _); (case side4 => exact Nat.le_refl _); rintro e w10 ⟨rfl, hb⟩; refine ⟨_, rfl, ?_⟩; have n0_ := Aside0.mk (Kd.S_below (by (with_reducible repeat (first | apply Kd.S_alloc | apply Kd.S_drewN | apply Kd.S_drew)); exact HO268.out) hb); have n1_ := Aside0.mk (below_step (by repeat (first | (with_reducible first | exact HB.out | apply below_alloc | apply pw_below_drewN | apply below_drew1) | exact HB.out)) hb); clear HO268; clear HB; have HO268 := n0_; have HB := n1_; clear n0_ n1_; (try clear hb); (try clear hb2); (try clear hk); (try clear hi)))
  go_ret
  exact ⟨by first | rfl | (simp [errW_none, errW_some] <;> rfl) | (simp [*, errW_none, errW_some] <;> rfl) | (exfalso; simp_all; done) | (exfalso; omega), by repeat (first | (with_reducible first | exact HB.out | apply below_alloc | apply pw_below_drewN | apply below_drew1) | exact HB.out)⟩
end Go.Proofs.YtcdcpcdfcmokkaaGreatDoor.P
end
section
namespace Go.Proofs.YtcdcpcdfcmokkaaGreatDoor
open Go Go.RowKit Go.Proofs.YtcdcpcdfcmokkaaGreatDoorW.PrintWords
set_option linter.unusedVariables false
def toD (m : SM) : DM := ⟨m.f0, m.f1, m.f2, m.f3, m.f4⟩
def toE (r : SR) : DR := ⟨r.f0, r.f1⟩
theorem toM_toD (l : List SM) : (l.map toD).map toM = l := by
  rw [List.map_map]; exact List.map_id'' (fun m => rfl) l
theorem toR_toE (l : List SR) : (l.map toE).map toR = l := by
  rw [List.map_map]; exact List.map_id'' (fun m => rfl) l
theorem smallM_light {m : SM} (h : LightM m) : SmallM m := ⟨by have := h.2.1; omega, by have := h.2.2.1; omega, by have := h.2.2.2.2.2.1; omega, by have := h.2.2.2.1; omega, by have := h.2.2.2.2.1; omega, by have := h.1; omega, fun s hs => by have := h.2.2.2.2.2.2 s hs; omega⟩
theorem smallR_light {r : SR} (h : LightR r) : SmallR r := ⟨by have := h.1; omega, by have := h.2.1; omega, by have := h.2.2.1; omega, by have := h.2.2.2; omega⟩
theorem markL_size (m : SM) : (markL m).length ≤ m.f2.size + 20 := by
  rw [Lib.size_eq]
  cases x1 : m.f1 with
  | true =>
    cases x2 : m.f2.toList.isEmpty with
    | true => rw [mark_tf m x1 x2]; simp [explicitB]
    | false => rw [mark_tt m x1 x2]; simp [explicitB]
  | false =>
    cases x2 : m.f2.toList.isEmpty with
    | true => rw [mark_ff m x1 x2]; simp
    | false => rw [mark_ft m x1 x2]; simp
theorem metB_light (ms : List SM) (h1 : ms.length ≤ 20) (h : ∀ m ∈ ms, LightM m) (i : Nat) : (metB ms i).length ≤ 400 := by
  unfold metB
  have : ∀ l : List SM, (∀ m ∈ l, LightM m) → (l.flatMap (·.f4)).length ≤ l.length * 20 := by
    intro l
    induction l with
    | nil => intro _; simp
    | cons x l ih =>
      intro h
      have h1 := (h x (List.mem_cons_self ..)).1
      have h2 := ih (fun y hy => h y (List.mem_cons_of_mem _ hy))
      rw [List.flatMap_cons, List.length_append, List.length_cons, Nat.succ_mul]; omega
  have h2 := this (ms.take i) (fun m hm => h m (List.mem_of_mem_take hm))
  have h3 : (ms.take i).length ≤ 20 := by rw [List.length_take]; omega
  have : (ms.take i).length * 20 ≤ 20 * 20 := Nat.mul_le_mul_right _ h3
  omega
theorem pkgL_light (m : SM) (h : LightM m) : (pkgL m.f4).length ≤ 2020 := by
  have h1 := flat_size (fun p : ByteArray => p.data.toList ++ [10]) 101 m.f4 (fun s hs => by have := h.2.2.2.2.2.2 s hs; simp; omega)
  have : m.f4.length * 101 ≤ 20 * 101 := Nat.mul_le_mul_right _ h.1
  unfold pkgL; omega
theorem modL_light (m : SM) (h : LightM m) : (modL m).length ≤ 4000 := by
  have h1 := pkgL_light m h
  have h2 := markL_size m
  have h3 := lineL_size m.f0.f0 m.f0.f1 m.f3.f0 m.f3.f1
  obtain ⟨_, a, b, c, d, e, _⟩ := h
  unfold modL; simp only [List.length_append]; omega
theorem repL_light (r : SR) (h : LightR r) : (repL r).length ≤ 4000 := by
  have h3 := lineL_size r.f0.f0 r.f0.f1 r.f1.f0 r.f1.f1
  obtain ⟨a, b, c, d⟩ := h
  unfold repL; omega
theorem textL_light {ms : List SM} {rs : List SR} (h : Light ms rs) : (textL ms rs).length ≤ 200000 := by
  obtain ⟨h1, h2, h3, h4⟩ := h
  have a := flat_size modL 4000 ms (fun m hm => modL_light m (h3 m hm))
  have b := flat_size repL 4000 rs (fun m hm => repL_light m (h4 m hm))
  have : ms.length * 4000 ≤ 20 * 4000 := Nat.mul_le_mul_right _ h1
  have : rs.length * 4000 ≤ 20 * 4000 := Nat.mul_le_mul_right _ h2
  unfold textL; rw [List.length_append]; omega
theorem dmodL_light (m : SM) (h : LightM m) : (dmodL (toD m)).length ≤ 4000 := by
  have h1 := pkgL_light m h
  have h2 := markL_size m
  obtain ⟨_, a, b, c, d, e, _⟩ := h
  have s1 := dmodP_size m.f0.f0 m.f0.f1
  have s2 := dmodP_size m.f3.f0 m.f3.f1
  rw [Lib.size_eq] at s1 s2
  have h3 : (dnewL m.f3.f0 m.f3.f1).length ≤ 4 + (dmodP m.f3.f0 m.f3.f1).data.toList.length := by
    unfold dnewL; split
    · simp
    · simp; omega
  have h4 : (dheadL (toD m)).length ≤ 1000 := by
    unfold dheadL
    show ([35, 32] ++ (dmodP m.f0.f0 m.f0.f1).data.toList ++ dnewL m.f3.f0 m.f3.f1 ++ [10]).length ≤ 1000
    simp only [List.length_append, List.length_cons, List.length_nil]; omega
  show (dheadL (toD m) ++ markL m ++ pkgL m.f4).length ≤ 4000
  simp only [List.length_append]; omega
theorem drepL_light (r : SR) (h : LightR r) : (drepL (toE r)).length ≤ 4000 := by
  obtain ⟨a, b, c, d⟩ := h
  have s1 := dmodP_size r.f0.f0 r.f0.f1
  have s2 := dmodP_size r.f1.f0 r.f1.f1
  rw [Lib.size_eq] at s1 s2
  show ([35, 32] ++ (dmodP r.f0.f0 r.f0.f1).data.toList ++ [32, 61, 62, 32] ++ (dmodP r.f1.f0 r.f1.f1).data.toList ++ [10]).length ≤ 4000
  simp only [List.length_append, List.length_cons, List.length_nil]; omega
theorem toB_list (l : List UInt8) : (toB l).toList = l := by rw [Lib.toList_data]; rfl
theorem theirs_l1 (ms : List SM) (rs : List SR) (A : List DM) (hl : rs.length ≤ 20) : ∀ (d n : Nat) (acc : List DR), rs.length - n = d → n ≤ rs.length → acc.length = n →
    Ev (fun k => P.graftbedlaw19_theirs.l1 k (n : Int) ms rs A acc) (A, acc ++ (rs.drop n).map toE)
  | 0, n, acc, e, hn, ha => by
    obtain rfl : n = rs.length := by omega
    refine Ev.step (f := fun _ => some _) (fun k => ?_) (Ev.now _)
    rw [P.graftbedlaw19_theirs.l1, if_neg (by omega), List.drop_length, List.map_nil, List.append_nil]
  | d + 1, n, acc, e, hn, ha => by
    have hlt : n < rs.length := by omega
    have hdr : rs.drop n = rs[n] :: rs.drop (n + 1) := List.drop_eq_getElem_cons hlt
    obtain ⟨r, hr⟩ : ∃ r, rs[n] = r := ⟨_, rfl⟩
    have hrd : P.rd_T59 rs (n : Int) = r := by
      show rs.getD n zR = r
      rw [List.getD_eq_getElem?_getD, List.getElem?_eq_getElem hlt, ← hr]; rfl
    have ih := theirs_l1 ms rs A hl d (n + 1) (acc ++ [toE r]) (by omega) (by omega) (by simp [ha])
    rw [List.append_assoc] at ih
    rw [hdr, hr]
    refine Ev.step (f := fun k => P.graftbedlaw19_theirs.l1 k ((n + 1 : Nat) : Int) ms rs A (acc ++ [toE r])) (fun k => ?_) ih
    rw [P.graftbedlaw19_theirs.l1, if_pos (by omega), if_pos (by omega), hrd, if_pos (by omega), wrap_id (by omega) (by omega)]; rfl
theorem theirs_l0 (ms : List SM) (rs : List SR) (hm : ms.length ≤ 20) (hl : rs.length ≤ 20) : ∀ (d n : Nat) (acc : List DM), ms.length - n = d → n ≤ ms.length → acc.length = n →
    Ev (fun k => P.graftbedlaw19_theirs.l0 k (n : Int) ms rs acc) (acc ++ (ms.drop n).map toD, rs.map toE)
  | 0, n, acc, e, hn, ha => by
    obtain rfl : n = ms.length := by omega
    have h := theirs_l1 ms rs acc hl _ 0 [] rfl (Nat.zero_le _) rfl
    rw [List.drop_zero, List.nil_append] at h
    rw [List.drop_length, List.map_nil, List.append_nil]
    refine Ev.step (f := fun k => P.graftbedlaw19_theirs.l1 k ((0 : Nat) : Int) ms rs acc []) (fun k => ?_) h
    rw [P.graftbedlaw19_theirs.l0, if_neg (by omega)]; rfl
  | d + 1, n, acc, e, hn, ha => by
    have hlt : n < ms.length := by omega
    have hdr : ms.drop n = ms[n] :: ms.drop (n + 1) := List.drop_eq_getElem_cons hlt
    obtain ⟨r, hr⟩ : ∃ r, ms[n] = r := ⟨_, rfl⟩
    have hrd : P.rd_T41 ms (n : Int) = r := by
      show ms.getD n zM = r
      rw [List.getD_eq_getElem?_getD, List.getElem?_eq_getElem hlt, ← hr]; rfl
    have ih := theirs_l0 ms rs hm hl d (n + 1) (acc ++ [toD r]) (by omega) (by omega) (by simp [ha])
    rw [List.append_assoc] at ih
    rw [hdr, hr]
    refine Ev.step (f := fun k => P.graftbedlaw19_theirs.l0 k ((n + 1 : Nat) : Int) ms rs (acc ++ [toD r])) (fun k => ?_) ih
    rw [P.graftbedlaw19_theirs.l0, if_pos (by omega), if_pos (by omega), hrd, if_pos (by omega), wrap_id (by omega) (by omega)]; rfl
theorem theirs_ev (ms : List SM) (rs : List SR) (hm : ms.length ≤ 20) (hl : rs.length ≤ 20) : Ev (fun k => P.graftbedlaw19_theirs.f k ms rs) (ms.map toD, rs.map toE) := by
  have h := theirs_l0 ms rs hm hl _ 0 [] rfl (Nat.zero_le _) rfl
  rw [List.drop_zero, List.nil_append] at h
  exact h
theorem print_light (A0 A1 : Option Addr) (c0 c1 : Nat) (ms : List SM) (rs : List SR) (w : World) (h : Light ms rs) (h0 : Kd.C P.k41 w A0 ms.length ms) (hc0 : ms.length ≤ c0) (h1 : Kd.C P.k59 w A1 rs.length rs) (hc1 : rs.length ≤ c1) :
    Calls Tryz.prog 10 #[.agg #[.slice A0 ms.length c0, .slice A1 rs.length c1]] w fun e w' => e = .returned (.tuple #[.string (printP ms rs), .int .i64 (listErr ms rs)]) ∧ Below w.heap.size w w' :=
  print_any A0 A1 c0 c1 ms rs w h0 hc0 h1 hc1 (fun m hm => smallM_light (h.2.2.1 m hm)) (fun r hr => smallR_light (h.2.2.2 r hr)) (by have := h.1; omega) (by have := h.2.1; omega) (by have := metB_light ms h.1 h.2.2.1 ms.length; omega) (by have := textL_light h; omega)
theorem rprint_light (A0 A1 : Option Addr) (c0 c1 : Nat) (ms : List SM) (rs : List SR) (w : World) (h : Light ms rs) (h0 : Kd.C P.k45 w A0 ms.length (ms.map toD)) (hc0 : ms.length ≤ c0) (h1 : Kd.C P.k72 w A1 rs.length (rs.map toE)) (hc1 : rs.length ≤ c1) :
    Calls Tryz.prog 11 #[.agg #[.slice A0 ms.length c0, .slice A1 rs.length c1]] w fun e w' => e = .returned (.tuple #[.string (dprintP (ms.map toD) (rs.map toE)), .int .i64 (listErr ms rs)]) ∧ Below w.heap.size w w' := by
  have hp := rprint_any A0 A1 c0 c1 (ms.map toD) (rs.map toE) w (by rw [List.length_map]; exact h0) (by rw [List.length_map]; exact hc0) (by rw [List.length_map]; exact h1) (by rw [List.length_map]; exact hc1) (fun m hm => by obtain ⟨x, hx, rfl⟩ := List.mem_map.mp hm; exact smallM_light (h.2.2.1 x hx)) (fun r hr => by obtain ⟨x, hx, rfl⟩ := List.mem_map.mp hr; exact smallR_light (h.2.2.2 x hx)) (by have := h.1; rw [List.length_map]; omega) (by have := h.2.1; rw [List.length_map]; omega)
    (by rw [toM_toD]; have := metB_light ms h.1 h.2.2.1 ms.length; omega) (by
      have a := flat_size dmodL 4000 (ms.map toD) (fun m hm => by obtain ⟨x, hx, rfl⟩ := List.mem_map.mp hm; exact dmodL_light x (h.2.2.1 x hx))
      have b := flat_size drepL 4000 (rs.map toE) (fun m hm => by obtain ⟨x, hx, rfl⟩ := List.mem_map.mp hm; exact drepL_light x (h.2.2.2 x hx))
      rw [List.length_map] at a b
      have : ms.length * 4000 ≤ 20 * 4000 := Nat.mul_le_mul_right _ h.1
      have : rs.length * 4000 ≤ 20 * 4000 := Nat.mul_le_mul_right _ h.2.1
      unfold dtextL; rw [List.length_append]; omega)
  rw [toM_toD, toR_toE, List.length_map, List.length_map] at hp
  exact hp
theorem shown_any (w : World) : Calls Tryz.prog 9 #[] w fun e w' => e = .returned (.bool true) ∧ Below w.heap.size w w' :=
  P.graftbedlaw19_shown.calls true w (by decide +kernel)
theorem theirs_any (A0 A1 : Option Addr) (c0 c1 : Nat) (ms : List SM) (rs : List SR) (w : World) (lm : ms.length ≤ 20) (lr : rs.length ≤ 20) (h0 : Kd.C P.k41 w A0 ms.length ms) (hc0 : ms.length ≤ c0) (h1 : Kd.C P.k59 w A1 rs.length rs) (hc1 : rs.length ≤ c1) :
    Calls Tryz.prog 12 #[.agg #[.slice A0 ms.length c0, .slice A1 rs.length c1]] w fun e w' => ∃ B0 d0 B1 d1, e = .returned (.agg #[.slice B0 ms.length d0, .slice B1 rs.length d1]) ∧ ms.length ≤ d0 ∧ Kd.C P.k45 w' B0 ms.length (ms.map toD) ∧ rs.length ≤ d1 ∧ Kd.C P.k72 w' B1 rs.length (rs.map toE) ∧ Below w.heap.size w w' := by
  obtain ⟨k, hk⟩ := (theirs_ev ms rs lm lr).rounds
  refine (P.graftbedlaw19_theirs.calls k (fun k_ => k_ < w.heap.size) _ _ ms _ _ rs _ _ w (Kd.V_mk hc0 (Kd.C_F P.k41_heap h0)) h1 hc1 hk).mono ?_
  rintro e w' ⟨v0, v1, rfl, hn, hr, hb⟩
  obtain ⟨B0, d0, rfl, l0, g0⟩ := Kd.N_reads hn
  obtain ⟨B1, d1, rfl, l1, g1⟩ := Kd.R_reads hr
  rw [List.length_map] at l0 g0 l1 g1
  exact ⟨B0, d0, B1, d1, by rw [List.length_map, List.length_map], l0, g0, l1, g1, hb⟩
end Go.Proofs.YtcdcpcdfcmokkaaGreatDoor
end
section
namespace Go.Proofs.YtcdcpcdfcmokkaaGreatDoor
open Go Go.RowKit Go.Proofs.YtcdcpcdfcmokkaaGreatDoorW.PrintWords
set_option linter.unusedVariables false
def zzP : ByteArray := ⟨#[122, 122, 46, 122]⟩
def zzV : ByteArray := ⟨#[118, 49, 46, 48, 46, 48]⟩
def zzK : ByteArray := ⟨#[122, 122, 46, 122, 47, 112]⟩
def zzG : ByteArray := ⟨#[49, 46, 50, 48]⟩
def zzM (b : Bool) : SM := ⟨⟨zzP, zzV⟩, false, if b = true then zzG else ⟨#[]⟩, ⟨⟨#[]⟩, ⟨#[]⟩⟩, [zzK]⟩
def zzL (b : Bool) : ByteArray := if b = true then (⟨#[35, 32, 122, 122, 46, 122, 32, 118, 49, 46, 48, 46, 48, 10]⟩ : ByteArray) ++ (⟨#[35, 35, 32, 103, 111, 32, 49, 46, 50, 48, 10]⟩ : ByteArray) else ⟨#[35, 32, 122, 122, 46, 122, 32, 118, 49, 46, 48, 46, 48, 10]⟩
def zzE : ByteArray := ⟨#[122, 122, 46, 122, 47, 112, 10]⟩
theorem zz_text (b : Bool) : modL (zzM b) = (zzL b).data.toList ++ zzE.data.toList := by cases b <;> decide +kernel
theorem zz_right (b : Bool) : rightM (zzM b) = true := by cases b <;> decide +kernel
theorem less_front : ∀ (a r b : List UInt8), Op.bytesLess (a ++ r) b = true → Op.bytesLess a b = true
  | [], r, b, h => by
    cases b with
    | nil => cases r <;> simp [Op.bytesLess] at h
    | cons x y => rfl
  | a :: u, r, b, h => by
    cases b with
    | nil => simp [Op.bytesLess] at h
    | cons x y =>
      simp only [List.cons_append, Op.bytesLess, Bool.or_eq_true, Bool.and_eq_true] at h ⊢
      rcases h with h | ⟨h1, h2⟩
      · exact .inl h
      · exact .inr ⟨h1, less_front u r y h2⟩
theorem less_more : ∀ (a b r : List UInt8), Op.bytesLess a b = true → Op.bytesLess a (b ++ r) = true
  | a, [], r, h => by cases a <;> simp [Op.bytesLess] at h
  | [], x :: y, r, h => rfl
  | a :: u, x :: y, r, h => by
    simp only [List.cons_append, Op.bytesLess, Bool.or_eq_true, Bool.and_eq_true] at h ⊢
    rcases h with h | ⟨h1, h2⟩
    · exact .inl h
    · exact .inr ⟨h1, less_more u y r h2⟩
def ahead (p : ByteArray) : Prop := Op.bytesLess p.toList [122, 122] = true ∧ p.toList ≠ []
theorem ahead_cmp {p : ByteArray} (h : ahead p) (hm : moduleB p = true) : pathCmp p zzP = -1 := by
  have hV : validB p = true := by unfold moduleB at hm; simp only [Bool.and_eq_true] at hm; exact hm.1
  have e := elems_ne hV
  have hz : elemsB zzP = [zzP] := by decide +kernel
  have hl : Op.bytesLess (cutB 47 p).1.toList zzP.toList = true := by
    have h1 : Op.bytesLess (cutB 47 p).1.toList [122, 122] = true := by
      rcases cut_cases 47 p with c | ⟨i, hi, c⟩
      · rw [c]; exact h.1
      · rw [c]
        have hp : p.toList = (p.extract 0 i).toList ++ p.data.toList.drop i := by
          rw [take_toList, Lib.toList_data]; exact (List.take_append_drop i _).symm
        have := h.1
        rw [hp] at this
        exact less_front _ _ _ this
    have h2 : zzP.toList = [122, 122] ++ [46, 122] := by decide +kernel
    rw [h2]; exact less_more _ _ _ h1
  have hc : cmpS (cutB 47 p).1 zzP = -1 := by unfold cmpS; rw [if_pos hl]
  unfold pathCmp
  rw [e, hz, cmpLs, if_neg (by rw [hc]; decide), hc]
theorem ahead_with {p : ByteArray} (h : ahead p) (hm : moduleB p = true) : (withinB zzK p).2 = false := by
  have h1 : ¬ p.toList = [] := h.2
  have h2 : ¬ p.toList = [46] := by
    intro e
    have : p = ⟨#[46]⟩ := list_inj (by rw [e]; decide +kernel)
    subst this
    have : moduleB ⟨#[46]⟩ = false := by decide +kernel
    rw [this] at hm; cases hm
  have h3 : ¬ zzK.toList = p.toList := by
    intro e
    have := h.1
    rw [← e] at this
    revert this; decide +kernel
  rw [within_c h1 h2 h3]
  cases hp : Lib.hasPrefix zzK.data.toList (p ++ (⟨#[47]⟩ : ByteArray)).data.toList with
  | false => rfl
  | true =>
    exfalso
    obtain ⟨t, ht⟩ := List.isPrefixOf_iff_prefix.1 hp
    have hd : (p ++ (⟨#[47]⟩ : ByteArray)).data.toList = p.data.toList ++ [47] := by rw [ByteArray.data_append]; simp
    rw [hd] at ht
    have hk : zzK.data.toList = [122, 122, 46, 122, 47, 112] := rfl
    rw [hk] at ht
    have hl : p.data.toList.length < 6 := by
      have := congrArg List.length ht
      rw [List.length_append, List.length_append] at this
      simp only [List.length_cons, List.length_nil] at this; omega
    have hg : ([122, 122, 46, 122, 47, 112] : List UInt8)[p.data.toList.length]? = some 47 := by rw [← ht]; simp
    have h4 : ∀ k : Fin 6, ([122, 122, 46, 122, 47, 112] : List UInt8)[k.val]? = some 47 → k.val = 4 := by decide
    have hq := h4 ⟨p.data.toList.length, hl⟩ hg
    have hq : p.data.toList.length = 4 := hq
    have ht4 := congrArg (List.take 4) ht
    rw [List.append_assoc, ← hq, List.take_left, hq] at ht4
    have := h.1
    rw [Lib.toList_data, ht4] at this
    revert this; decide
theorem modOk_join (ms : List SM) (x : SM) (i : Nat) (h : i < ms.length) : modOk (ms ++ [x]) i = modOk ms i := by
  have := modOk_take (ms ++ [x]) ms.length i h
  rw [List.take_left] at this
  exact this.symm
theorem upto_same {f g : Nat → Bool} : ∀ n, (∀ i, i < n → g i = f i) → upto g n = upto f n
  | 0, _ => rfl
  | n + 1, h => by rw [upto, upto, upto_same n (fun i hi => h i (by omega)), h n (by omega)]
theorem join_ok {ms : List SM} {rs : List SR} (b : Bool) (h : listB ms rs = true) (ha : ∀ m ∈ ms, ahead m.f0.f0) : listB (ms ++ [zzM b]) rs = true := by
  unfold listB at h ⊢
  rw [Bool.and_eq_true] at h ⊢
  refine ⟨?_, h.2⟩
  rw [List.length_append, List.length_singleton, upto, upto_same ms.length (fun i hi => modOk_join ms (zzM b) i hi), h.1, Bool.true_and]
  have hr : ∀ m ∈ ms, rightM m = true := fun m hm => by
    obtain ⟨k, hk, e⟩ := List.getElem_of_mem hm
    have := (upto_iff _).1 h.1
    have := (this k hk)
    unfold modOk at this
    simp only [Bool.and_eq_true] at this
    have h1 := this.1.1
    rwa [List.getD_eq_getElem?_getD, List.getElem?_eq_getElem hk, Option.getD_some, e] at h1
  have hx : (ms ++ [zzM b]).getD ms.length zM = zzM b := by simp [List.getD_eq_getElem?_getD]
  have hf : (zzM b).f4 = [zzK] := rfl
  unfold modOk
  rw [hx, zz_right, hf]
  have hn : newP (ms ++ [zzM b]) ms.length 0 = true := by
    unfold newP metB
    rw [hx, hf, List.take_left]
    have : inB zzK (ms.flatMap (·.f4)) = false := by
      cases e : inB zzK (ms.flatMap (·.f4)) with
      | false => rfl
      | true =>
        exfalso
        rw [inB_iff, List.mem_flatMap] at e
        obtain ⟨m, hm, hk⟩ := e
        obtain ⟨k, hk1, e⟩ := List.getElem_of_mem hk
        have hR := hr m hm
        have hM := right_module hR
        unfold rightM rightB at hR
        simp only [Bool.and_eq_true] at hR
        have := (upto_iff _).1 hR.2.1 k hk1
        unfold pkgOk at this
        simp only [Bool.and_eq_true] at this
        have h1 := this.1
        rw [List.getD_eq_getElem?_getD, List.getElem?_eq_getElem hk1, Option.getD_some, e, ahead_with (ha m hm) hM] at h1
        cases h1
    rw [show ([zzK] : List ByteArray).getD 0 emp = zzK from rfl, List.take_zero, List.append_nil, this]; rfl
  rw [show upto (newP (ms ++ [zzM b]) ms.length) [zzK].length = (true && newP (ms ++ [zzM b]) ms.length 0) from rfl, hn, Bool.true_and, Bool.and_true, Bool.and_true]
  by_cases h0 : ms.length = 0
  · rw [decide_eq_true h0]; rfl
  · have hlt : ms.length - 1 < ms.length := by omega
    have hlast : (ms ++ [zzM b]).getD (ms.length - 1) zM = ms[ms.length - 1] := by
      rw [List.getD_eq_getElem?_getD, List.getElem?_append_left hlt, List.getElem?_eq_getElem hlt]; rfl
    rw [hlast]
    have hm := List.getElem_mem hlt
    have hA := ha _ hm
    have hM := right_module (hr _ hm)
    have hc := ahead_cmp hA hM
    have ho : ordM (ms[ms.length - 1]).f0 (zzM b).f0 = -1 := by
      unfold ordM orderM
      rw [show (zzM b).f0.f0 = zzP from rfl, hc]; rfl
    rw [ho]
    have hne : ((ms[ms.length - 1]).f0.f0.toList == (zzM b).f0.f0.toList) = false := by
      rw [beq_eq_false_iff_ne]
      intro e
      have := hA.1
      rw [e] at this
      revert this
      rw [show (zzM b).f0.f0 = zzP from rfl]; decide +kernel
    rw [hne]; simp
theorem join_none {ms : List SM} {rs : List SR} (h : listB ms rs = true) : listB ms [] = true := by
  unfold listB at h ⊢
  rw [Bool.and_eq_true] at h
  rw [h.1]; rfl
theorem join_text {ms : List SM} {rs : List SR} (b : Bool) (h : listB ms rs = true) (ha : ∀ m ∈ ms, ahead m.f0.f0) :
    (printP ms []).size ≤ (printP ms rs).size ∧ printP (ms ++ [zzM b]) rs = ((printP ms [] ++ zzL b) ++ zzE) ++ (printP ms rs).extract (printP ms []).size (printP ms rs).size := by
  have e0 : printP ms [] = toB (ms.flatMap modL) := by unfold printP textL; rw [join_none h]; simp
  have e1 : printP ms rs = toB (ms.flatMap modL ++ rs.flatMap repL) := by unfold printP textL; rw [h]; rfl
  have e2 : printP (ms ++ [zzM b]) rs = toB (ms.flatMap modL ++ ((zzL b).data.toList ++ zzE.data.toList) ++ rs.flatMap repL) := by
    unfold printP textL; rw [join_ok b h ha]
    simp only [if_true, List.flatMap_append, List.flatMap_singleton, zz_text]
  have s0 : (printP ms []).size = (ms.flatMap modL).length := by rw [e0, toB_size]
  have s1 : (printP ms rs).size = (ms.flatMap modL).length + (rs.flatMap repL).length := by rw [e1, toB_size, List.length_append]
  refine ⟨by omega, ?_⟩
  rw [← Lib.mk_data (printP (ms ++ [zzM b]) rs), ← Lib.mk_data (((printP ms [] ++ zzL b) ++ zzE) ++ (printP ms rs).extract (printP ms []).size (printP ms rs).size)]
  congr 2
  rw [e2, extract_toB, s0, s1, e0, e1]
  simp only [toB_data, ByteArray.data_append, Array.toList_append]
  rw [List.take_of_length_le (by rw [List.length_append]; exact Nat.le_refl _), List.drop_left]
  simp only [List.append_assoc]
end Go.Proofs.YtcdcpcdfcmokkaaGreatDoor
end
