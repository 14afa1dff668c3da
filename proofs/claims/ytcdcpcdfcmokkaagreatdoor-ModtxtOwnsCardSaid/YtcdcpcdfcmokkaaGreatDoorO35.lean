/- modtxt.Print, taken as given by the printed walks. · A list within the law's bound: sizes, and what both Prints do with it. -/
import Derived.Test.YtcdcpcdfcmokkaaGreatDoorO31
import Derived.Test.YtcdcpcdfcmokkaaGreatDoorO05
import Derived.Test.YtcdcpcdfcmokkaaGreatDoorO29
import Derived.Test.YtcdcpcdfcmokkaaGreatDoorO30
import Derived.Test.YtcdcpcdfcmokkaaGreatDoorO33
import Derived.Test.YtcdcpcdfcmokkaaGreatDoorO34
set_option linter.unusedVariables false
set_option linter.unusedSimpArgs false
section
namespace Go.Proofs.YtcdcpcdfcmokkaaGreatDoor
open Go Go.RowKit Go.Proofs.YtcdcpcdfcmokkaaGreatDoorW.PrintWords
set_option linter.unusedVariables false
def PrintOk (ms : List SM) (rs : List SR) : Prop := (∀ m ∈ ms, SmallM m) ∧ (∀ r ∈ rs, SmallR r) ∧ ms.length ≤ 1048576 ∧ rs.length ≤ 1099511627770 ∧ (metB ms ms.length).length ≤ 1099511627770 ∧ (textL ms rs).length ≤ 140737488355328
instance (ms : List SM) (rs : List SR) : Decidable (PrintOk ms rs) := by unfold PrintOk SmallM SmallR; infer_instance
namespace P
def modtxt_Print.f (l0 : List S41) (l1 : List S59) : Option (ByteArray × Int) := if PrintOk l0 l1 then some (printP l0 l1, listErr l0 l1) else none
theorem modtxt_Print.calls (A0 : Option Addr) (c0 : Nat) (l0 : List S41) (A1 : Option Addr) (c1 : Nat) (l1 : List S59) (r1 : ByteArray) (r2 : Int) (w : World) (h0 : Kd.C k41 w A0 l0.length l0) (hc0 : l0.length ≤ c0) (h1 : Kd.C k59 w A1 l1.length l1) (hc1 : l1.length ≤ c1) (h : modtxt_Print.f l0 l1 = some (r1, r2)) :
    Calls Tryz.prog 10 #[.agg #[.slice A0 l0.length c0, .slice A1 l1.length c1]] w fun e w' => e = .returned (.tuple #[.string r1, .int .i64 r2]) ∧ Below w.heap.size w w' := by
  unfold modtxt_Print.f at h
  split at h
  · simp only [Option.some.injEq, Prod.mk.injEq] at h
    obtain ⟨rfl, rfl⟩ := h
    rename_i hk
    obtain ⟨sm, sr, lm, lr, lp, lt⟩ := hk
    exact print_any A0 A1 c0 c1 l0 l1 w h0 hc0 h1 hc1 sm sr lm lr lp lt
  · cases h
end P
end Go.Proofs.YtcdcpcdfcmokkaaGreatDoor
end
section
namespace Go.Proofs.YtcdcpcdfcmokkaaGreatDoor.P
open Go.RowKit Go.Proofs.YtcdcpcdfcmokkaaGreatDoorW.PrintWords Go.Proofs.YtcdcpcdfcmokkaaGreatDoorW.PrintLast Go.Proofs.YtcdcpcdfcmokkaaGreatDoorW.PrintMore
open Go.Proofs.YtcdcpcdfcmokkaaGreatDoor (str_gtr str_leq str_geq bne_empty)
attribute [local go_sem] max2_int min2_int max_two min_two max_three min_three max_four min_four str_gtr str_leq str_geq   -- for this text's walks alone
set_option linter.unusedVariables false
set_option linter.unusedSimpArgs false
def graftbedlaw19_shown.f  : Option (Bool) := (modtxt_Print.f (([(⟨(⟨(⟨#[97, 46, 98]⟩ : ByteArray), (⟨#[118, 49, 46, 48, 46, 48]⟩ : ByteArray)⟩ : S38), true, (⟨#[]⟩ : ByteArray), (⟨(⟨#[]⟩ : ByteArray), (⟨#[]⟩ : ByteArray)⟩ : S38), ([] : List ByteArray)⟩ : S41)] : List (S41))) ([] : List (S59))).bind fun bt269 => (if bt269.2 = 0 then (some (bt269.1.toList == ([35, 32, 97, 46, 98, 32, 118, 49, 46, 48, 46, 48, 10, 35, 35, 32, 101, 120, 112, 108, 105, 99, 105, 116, 10] : List UInt8))) else (some false))
set_option maxHeartbeats 8000000 in
set_option maxRecDepth 100000 in
theorem graftbedlaw19_shown.calls  (r : Bool) (w : World) (h : graftbedlaw19_shown.f  = some r) :
  Calls Tryz.prog 9 #[] w fun e w' => e = .returned (.bool r) ∧ Below w.heap.size w w' := by
 have hu38 := Tryz.underlying38
 have hu41 := Tryz.underlying41
 have hu25 := Tryz.underlying25
 have HB := Aside0.mk (Below.refl w.heap.size w)
 have H : ((modtxt_Print.f (([(⟨(⟨(⟨#[97, 46, 98]⟩ : ByteArray), (⟨#[118, 49, 46, 48, 46, 48]⟩ : ByteArray)⟩ : S38), true, (⟨#[]⟩ : ByteArray), (⟨(⟨#[]⟩ : ByteArray), (⟨#[]⟩ : ByteArray)⟩ : S38), ([] : List ByteArray)⟩ : S41)] : List (S41))) ([] : List (S59))).bind fun bt269 => (if bt269.2 = 0 then (some (bt269.1.toList == ([35, 32, 97, 46, 98, 32, 118, 49, 46, 48, 46, 48, 10, 35, 35, 32, 101, 120, 112, 108, 105, 99, 105, 116, 10] : List UInt8))) else (some false))) = some r := h
 clear h
 obtain ⟨y266, hy266⟩ : ∃ y_ : List (S41), y_ = (([(⟨(⟨(⟨#[97, 46, 98]⟩ : ByteArray), (⟨#[118, 49, 46, 48, 46, 48]⟩ : ByteArray)⟩ : S38), true, (⟨#[]⟩ : ByteArray), (⟨(⟨#[]⟩ : ByteArray), (⟨#[]⟩ : ByteArray)⟩ : S38), ([] : List ByteArray)⟩ : S41)] : List (S41))) := ⟨_, rfl⟩
 replace H : ((modtxt_Print.f y266 ([] : List (S59))).bind fun bt269 => (if bt269.2 = 0 then (some (bt269.1.toList == ([35, 32, 97, 46, 98, 32, 118, 49, 46, 48, 46, 48, 10, 35, 35, 32, 101, 120, 112, 108, 105, 99, 105, 116, 10] : List UInt8))) else (some false))) = some r := by first | (rw [hy266]; with_reducible exact H) | (have H2_ := (Option.bind_some _ _).symm.trans H; rw [hy266]; with_reducible exact H2_) | (have H2_ := (Option.bind_some _ _).symm.trans H; with_reducible exact H2_) | with_reducible exact H | (rw [hy266]; exact H) | exact H
 have Ny266 := Aside0.mk hy266
 clear hy266
 replace H := Option.bind_eq_some_iff.mp H
 obtain ⟨⟨t269, t270⟩, A10, H⟩ := H
 replace H : (if t270 = 0 then (some (t269.toList == ([35, 32, 97, 46, 98, 32, 118, 49, 46, 48, 46, 48, 10, 35, 35, 32, 101, 120, 112, 108, 105, 99, 105, 116, 10] : List UInt8))) else (some false)) = some r := H
 have A1 := Aside0.mk A10
 clear A10
 by_cases c2 : t270 = 0
 ·rw [if_pos c2] at H
  have c2b0 : (t270 == 0) = true := beq_iff_eq.mpr c2
  have c2b1 : (t270 != 0) = false := bne_eq_false_iff_eq.mpr c2
  clear c2
  obtain rfl := Option.some.inj H
  go_enter Tryz.func9, Tryz.ntmps9
  go_wp2_with (first | ((with_reducible refine gate_dst (N := 6) rfl ?_); refine Kd.S_lit k41 _ 41 ?hg (N := 6) ?hd (xs := ([(⟨(⟨(⟨#[97, 46, 98]⟩ : ByteArray), (⟨#[118, 49, 46, 48, 46, 48]⟩ : ByteArray)⟩ : S38), true, (⟨#[]⟩ : ByteArray), (⟨(⟨#[]⟩ : ByteArray), (⟨#[]⟩ : ByteArray)⟩ : S38), ([] : List ByteArray)⟩ : S41)] : List (S41))) (inner := [.string (⟨#[97, 46, 98]⟩ : ByteArray), .string (⟨#[118, 49, 46, 48, 46, 48]⟩ : ByteArray), .bool true, .string (⟨#[]⟩ : ByteArray), .string (⟨#[]⟩ : ByteArray), .string (⟨#[]⟩ : ByteArray), .slice none 0 0]) (ok := fun _ => True) (okp := fun _ => True) ?hr ?hp (fun _ hk => hk) trivial (Below.refl _ _) (Nat.le_refl _) (by simp) ?_; (case hd => rfl); (case hg => rfl); (case hr => first | (go_simp; done) | (go_simp; rfl)); (case hp => exact (Reps.c7 (show Kd.M k41 _ _ _ (⟨(⟨(⟨#[97, 46, 98]⟩ : ByteArray), (⟨#[118, 49, 46, 48, 46, 48]⟩ : ByteArray)⟩ : S38), true, (⟨#[]⟩ : ByteArray), (⟨(⟨#[]⟩ : ByteArray), (⟨#[]⟩ : ByteArray)⟩ : S38), ([] : List ByteArray)⟩ : S41) [.string (⟨#[97, 46, 98]⟩ : ByteArray), .string (⟨#[118, 49, 46, 48, 46, 48]⟩ : ByteArray), .bool true, .string (⟨#[]⟩ : ByteArray), .string (⟨#[]⟩ : ByteArray), .string (⟨#[]⟩ : ByteArray), .slice none 0 0] from (k41_mkM _ _ _ (⟨(⟨(⟨#[97, 46, 98]⟩ : ByteArray), (⟨#[118, 49, 46, 48, 46, 48]⟩ : ByteArray)⟩ : S38), true, (⟨#[]⟩ : ByteArray), (⟨(⟨#[]⟩ : ByteArray), (⟨#[]⟩ : ByteArray)⟩ : S38), ([] : List ByteArray)⟩ : S41) (Kd.R_nil _ _ _ _ _))) (Reps.none _ _))); intro v267 w3 ho4 hb hg_ hnew_; clear hg_ hnew_; (first | rw [← Ny266.out] at ho4 | (simp only [Int.reduceToNat] at ho4; rw [← Ny266.out] at ho4)); have n0_ := Aside0.mk (Kd.S_lower ho4 (below_size (by repeat (first | (with_reducible first | exact HB.out | apply below_alloc | apply pw_below_drewN | apply below_drew1) | exact HB.out)))); have n1_ := Aside0.mk (below_step (by repeat (first | (with_reducible first | exact HB.out | apply below_alloc | apply pw_below_drewN | apply below_drew1) | exact HB.out)) hb); clear HB; have HO268 := n0_; have HB := n1_; clear n0_ n1_; clear hb ho4; obtain ⟨Ao5, co5, eo5⟩ := Kd.S_slice HO268.out; subst eo5) | ((with_reducible refine gate_callee (f := 10) rfl ?_); refine goesL_ (some 10) rfl rfl Tryz.func10 (by kernel_rfl) rfl #[.agg #[.slice Ao5 y266.length co5, .slice none 0 0]] rfl (by (try simp only [List.map_toArray, List.map_cons, List.map_nil]); first | done | rfl | (simp only [List.length_drop, List.length_take]; rfl)) ?_; (refine (modtxt_Print.calls _ _ y266 _ _ ([] : List (S59)) t269 t270 _ ?side1 ?side2 ?side3 ?side4 A1.out).mono ?_); (case side1 => repeat (first | exact (Kd.S_reads' HO268.out).2.2 | (with_reducible refine Kd.C_alloc ?_ _) | (with_reducible refine Kd.C_drewN ?_ _) | (with_reducible refine Kd.C_drew ?_))); (case side2 => exact (Kd.S_reads' HO268.out).2.1); (case side3 => exact Kd.C_nil _ _); (case side4 => exact Nat.le_refl _); rintro e w6 ⟨rfl, hb⟩; refine ⟨_, rfl, ?_⟩; have n0_ := Aside0.mk (Kd.S_below (by (with_reducible repeat (first | apply Kd.S_alloc | apply Kd.S_drewN | apply Kd.S_drew)); exact HO268.out) hb); have n1_ := Aside0.mk (below_step (by repeat (first | (with_reducible first | exact HB.out | apply below_alloc | apply pw_below_drewN | apply below_drew1) | exact HB.out)) hb); clear HO268; clear HB; have HO268 := n0_; have HB := n1_; clear n0_ n1_; (try clear hb); (try clear hb2); (try clear hk); (try clear hi)))
  go_ret
  exact ⟨by first | rfl | (simp [errW_none, errW_some] <;> rfl) | (simp [*, errW_none, errW_some] <;> rfl) | (exfalso; simp_all; done) | (exfalso; omega), by repeat (first | (with_reducible first | exact HB.out | apply below_alloc | apply pw_below_drewN | apply below_drew1) | exact HB.out)⟩
 ·rw [if_neg c2] at H
  have c2b0 : (t270 == 0) = false := beq_eq_false_iff_ne.mpr c2
  have c2b1 : (t270 != 0) = true := bne_iff_ne.mpr c2
  obtain rfl := Option.some.inj H
  go_enter Tryz.func9, Tryz.ntmps9
  go_wp2_with (first | ((with_reducible refine gate_dst (N := 6) rfl ?_); refine Kd.S_lit k41 _ 41 ?hg (N := 6) ?hd (xs := ([(⟨(⟨(⟨#[97, 46, 98]⟩ : ByteArray), (⟨#[118, 49, 46, 48, 46, 48]⟩ : ByteArray)⟩ : S38), true, (⟨#[]⟩ : ByteArray), (⟨(⟨#[]⟩ : ByteArray), (⟨#[]⟩ : ByteArray)⟩ : S38), ([] : List ByteArray)⟩ : S41)] : List (S41))) (inner := [.string (⟨#[97, 46, 98]⟩ : ByteArray), .string (⟨#[118, 49, 46, 48, 46, 48]⟩ : ByteArray), .bool true, .string (⟨#[]⟩ : ByteArray), .string (⟨#[]⟩ : ByteArray), .string (⟨#[]⟩ : ByteArray), .slice none 0 0]) (ok := fun _ => True) (okp := fun _ => True) ?hr ?hp (fun _ hk => hk) trivial (Below.refl _ _) (Nat.le_refl _) (by simp) ?_; (case hd => rfl); (case hg => rfl); (case hr => first | (go_simp; done) | (go_simp; rfl)); (case hp => exact (Reps.c7 (show Kd.M k41 _ _ _ (⟨(⟨(⟨#[97, 46, 98]⟩ : ByteArray), (⟨#[118, 49, 46, 48, 46, 48]⟩ : ByteArray)⟩ : S38), true, (⟨#[]⟩ : ByteArray), (⟨(⟨#[]⟩ : ByteArray), (⟨#[]⟩ : ByteArray)⟩ : S38), ([] : List ByteArray)⟩ : S41) [.string (⟨#[97, 46, 98]⟩ : ByteArray), .string (⟨#[118, 49, 46, 48, 46, 48]⟩ : ByteArray), .bool true, .string (⟨#[]⟩ : ByteArray), .string (⟨#[]⟩ : ByteArray), .string (⟨#[]⟩ : ByteArray), .slice none 0 0] from (k41_mkM _ _ _ (⟨(⟨(⟨#[97, 46, 98]⟩ : ByteArray), (⟨#[118, 49, 46, 48, 46, 48]⟩ : ByteArray)⟩ : S38), true, (⟨#[]⟩ : ByteArray), (⟨(⟨#[]⟩ : ByteArray), (⟨#[]⟩ : ByteArray)⟩ : S38), ([] : List ByteArray)⟩ : S41) (Kd.R_nil _ _ _ _ _))) (Reps.none _ _))); intro v267 w7 ho8 hb hg_ hnew_; clear hg_ hnew_; (first | rw [← Ny266.out] at ho8 | (simp only [Int.reduceToNat] at ho8; rw [← Ny266.out] at ho8)); have n0_ := Aside0.mk (Kd.S_lower ho8 (below_size (by repeat (first | (with_reducible first | exact HB.out | apply below_alloc | apply pw_below_drewN | apply below_drew1) | exact HB.out)))); have n1_ := Aside0.mk (below_step (by repeat (first | (with_reducible first | exact HB.out | apply below_alloc | apply pw_below_drewN | apply below_drew1) | exact HB.out)) hb); clear HB; have HO268 := n0_; have HB := n1_; clear n0_ n1_; clear hb ho8; obtain ⟨Ao9, co9, eo9⟩ := Kd.S_slice HO268.out; subst eo9) | ((with_reducible refine gate_callee (f := 10) rfl ?_); refine goesL_ (some 10) rfl rfl Tryz.func10 (by kernel_rfl) rfl #[.agg #[.slice Ao9 y266.length co9, .slice none 0 0]] rfl (by (try simp only [List.map_toArray, List.map_cons, List.map_nil]); first | done | rfl | (simp only [List.length_drop, List.length_take]; rfl)) ?_; (refine (modtxt_Print.calls _ _ y266 _ _ ([] : List (S59)) t269 t270 _ ?side1 ?side2 ?side3 ?side4 A1.out).mono ?_); (case side1 => repeat (first | exact (Kd.S_reads' HO268.out).2.2 | (with_reducible refine Kd.C_alloc ?_ _) | (with_reducible refine Kd.C_drewN ?_ _) | (with_reducible refine Kd.C_drew ?_))); (case side2 => exact (Kd.S_reads' HO268.out).2.1); (case side3 => exact Kd.C_nil _ _); (case side4 => exact Nat.le_refl _); rintro e w10 ⟨rfl, hb⟩; refine ⟨_, rfl, ?_⟩; have n0_ := Aside0.mk (Kd.S_below (by (with_reducible repeat (first | apply Kd.S_alloc | apply Kd.S_drewN | apply Kd.S_drew)); exact HO268.out) hb); have n1_ := Aside0.mk (below_step (by repeat (first | (with_reducible first | exact HB.out | apply below_alloc | apply pw_below_drewN | apply below_drew1) | exact HB.out)) hb); clear HO268; clear HB; have HO268 := n0_; have HB := n1_; clear n0_ n1_; (try clear hb); (try clear hb2); (try clear hk); (try clear hi)))
  go_ret
  exact ⟨by first | rfl | (simp [errW_none, errW_some] <;> rfl) | (simp [*, errW_none, errW_some] <;> rfl) | (exfalso; simp_all; done) | (exfalso; omega), by repeat (first | (with_reducible first | exact HB.out | apply below_alloc | apply pw_below_drewN | apply below_drew1) | exact HB.out)⟩
end Go.Proofs.YtcdcpcdfcmokkaaGreatDoor.P
end
section
namespace Go.Proofs.YtcdcpcdfcmokkaaGreatDoor
open Go Go.RowKit Go.Proofs.YtcdcpcdfcmokkaaGreatDoorW.PrintWords
set_option linter.unusedVariables false
def toD (m : SM) : DM := ⟨m.f0, m.f1, m.f2, m.f3, m.f4⟩
def toE (r : SR) : DR := ⟨r.f0, r.f1⟩
theorem toM_toD (l : List SM) : (l.map toD).map toM = l := by
  rw [List.map_map]; exact List.map_id'' (fun m => rfl) l
theorem toR_toE (l : List SR) : (l.map toE).map toR = l := by
  rw [List.map_map]; exact List.map_id'' (fun m => rfl) l
theorem smallM_light {m : SM} (h : LightM m) : SmallM m := ⟨by have := h.2.1; omega, by have := h.2.2.1; omega, by have := h.2.2.2.2.2.1; omega, by have := h.2.2.2.1; omega, by have := h.2.2.2.2.1; omega, by have := h.1; omega, fun s hs => by have := h.2.2.2.2.2.2 s hs; omega⟩
theorem smallR_light {r : SR} (h : LightR r) : SmallR r := ⟨by have := h.1; omega, by have := h.2.1; omega, by have := h.2.2.1; omega, by have := h.2.2.2; omega⟩
theorem markL_size (m : SM) : (markL m).length ≤ m.f2.size + 20 := by
  rw [Lib.size_eq]
  cases x1 : m.f1 with
  | true =>
    cases x2 : m.f2.toList.isEmpty with
    | true => rw [mark_tf m x1 x2]; simp [explicitB]
    | false => rw [mark_tt m x1 x2]; simp [explicitB]
  | false =>
    cases x2 : m.f2.toList.isEmpty with
    | true => rw [mark_ff m x1 x2]; simp
    | false => rw [mark_ft m x1 x2]; simp
theorem metB_light (ms : List SM) (h1 : ms.length ≤ 20) (h : ∀ m ∈ ms, LightM m) (i : Nat) : (metB ms i).length ≤ 400 := by
  unfold metB
  have : ∀ l : List SM, (∀ m ∈ l, LightM m) → (l.flatMap (·.f4)).length ≤ l.length * 20 := by
    intro l
    induction l with
    | nil => intro _; simp
    | cons x l ih =>
      intro h
      have h1 := (h x (List.mem_cons_self ..)).1
      have h2 := ih (fun y hy => h y (List.mem_cons_of_mem _ hy))
      rw [List.flatMap_cons, List.length_append, List.length_cons, Nat.succ_mul]; omega
  have h2 := this (ms.take i) (fun m hm => h m (List.mem_of_mem_take hm))
  have h3 : (ms.take i).length ≤ 20 := by rw [List.length_take]; omega
  have : (ms.take i).length * 20 ≤ 20 * 20 := Nat.mul_le_mul_right _ h3
  omega
theorem pkgL_light (m : SM) (h : LightM m) : (pkgL m.f4).length ≤ 2020 := by
  have h1 := flat_size (fun p : ByteArray => p.data.toList ++ [10]) 101 m.f4 (fun s hs => by have := h.2.2.2.2.2.2 s hs; simp; omega)
  have : m.f4.length * 101 ≤ 20 * 101 := Nat.mul_le_mul_right _ h.1
  unfold pkgL; omega
theorem modL_light (m : SM) (h : LightM m) : (modL m).length ≤ 4000 := by
  have h1 := pkgL_light m h
  have h2 := markL_size m
  have h3 := lineL_size m.f0.f0 m.f0.f1 m.f3.f0 m.f3.f1
  obtain ⟨_, a, b, c, d, e, _⟩ := h
  unfold modL; simp only [List.length_append]; omega
theorem repL_light (r : SR) (h : LightR r) : (repL r).length ≤ 4000 := by
  have h3 := lineL_size r.f0.f0 r.f0.f1 r.f1.f0 r.f1.f1
  obtain ⟨a, b, c, d⟩ := h
  unfold repL; omega
theorem textL_light {ms : List SM} {rs : List SR} (h : Light ms rs) : (textL ms rs).length ≤ 200000 := by
  obtain ⟨h1, h2, h3, h4⟩ := h
  have a := flat_size modL 4000 ms (fun m hm => modL_light m (h3 m hm))
  have b := flat_size repL 4000 rs (fun m hm => repL_light m (h4 m hm))
  have : ms.length * 4000 ≤ 20 * 4000 := Nat.mul_le_mul_right _ h1
  have : rs.length * 4000 ≤ 20 * 4000 := Nat.mul_le_mul_right _ h2
  unfold textL; rw [List.length_append]; omega
theorem theirs_l1 (ms : List SM) (rs : List SR) (A : List DM) (hl : rs.length ≤ 20) : ∀ (d n : Nat) (acc : List DR), rs.length - n = d → n ≤ rs.length → acc.length = n →
    Ev (fun k => P.graftbedlaw19_theirs.l1 k (n : Int) ms rs A acc) (A, acc ++ (rs.drop n).map toE)
  | 0, n, acc, e, hn, ha => by
    obtain rfl : n = rs.length := by omega
    refine Ev.step (f := fun _ => some _) (fun k => ?_) (Ev.now _)
    rw [P.graftbedlaw19_theirs.l1, if_neg (by omega), List.drop_length, List.map_nil, List.append_nil]
  | d + 1, n, acc, e, hn, ha => by
    have hlt : n < rs.length := by omega
    have hdr : rs.drop n = rs[n] :: rs.drop (n + 1) := List.drop_eq_getElem_cons hlt
    obtain ⟨r, hr⟩ : ∃ r, rs[n] = r := ⟨_, rfl⟩
    have hrd : P.rd_T59 rs (n : Int) = r := by
      show rs.getD n zR = r
      rw [List.getD_eq_getElem?_getD, List.getElem?_eq_getElem hlt, ← hr]; rfl
    have ih := theirs_l1 ms rs A hl d (n + 1) (acc ++ [toE r]) (by omega) (by omega) (by simp [ha])
    rw [List.append_assoc] at ih
    rw [hdr, hr]
    refine Ev.step (f := fun k => P.graftbedlaw19_theirs.l1 k ((n + 1 : Nat) : Int) ms rs A (acc ++ [toE r])) (fun k => ?_) ih
    rw [P.graftbedlaw19_theirs.l1, if_pos (by omega), if_pos (by omega), hrd, if_pos (by omega), wrap_id (by omega) (by omega)]; rfl
theorem theirs_l0 (ms : List SM) (rs : List SR) (hm : ms.length ≤ 20) (hl : rs.length ≤ 20) : ∀ (d n : Nat) (acc : List DM), ms.length - n = d → n ≤ ms.length → acc.length = n →
    Ev (fun k => P.graftbedlaw19_theirs.l0 k (n : Int) ms rs acc) (acc ++ (ms.drop n).map toD, rs.map toE)
  | 0, n, acc, e, hn, ha => by
    obtain rfl : n = ms.length := by omega
    have h := theirs_l1 ms rs acc hl _ 0 [] rfl (Nat.zero_le _) rfl
    rw [List.drop_zero, List.nil_append] at h
    rw [List.drop_length, List.map_nil, List.append_nil]
    refine Ev.step (f := fun k => P.graftbedlaw19_theirs.l1 k ((0 : Nat) : Int) ms rs acc []) (fun k => ?_) h
    rw [P.graftbedlaw19_theirs.l0, if_neg (by omega)]; rfl
  | d + 1, n, acc, e, hn, ha => by
    have hlt : n < ms.length := by omega
    have hdr : ms.drop n = ms[n] :: ms.drop (n + 1) := List.drop_eq_getElem_cons hlt
    obtain ⟨r, hr⟩ : ∃ r, ms[n] = r := ⟨_, rfl⟩
    have hrd : P.rd_T41 ms (n : Int) = r := by
      show ms.getD n zM = r
      rw [List.getD_eq_getElem?_getD, List.getElem?_eq_getElem hlt, ← hr]; rfl
    have ih := theirs_l0 ms rs hm hl d (n + 1) (acc ++ [toD r]) (by omega) (by omega) (by simp [ha])
    rw [List.append_assoc] at ih
    rw [hdr, hr]
    refine Ev.step (f := fun k => P.graftbedlaw19_theirs.l0 k ((n + 1 : Nat) : Int) ms rs (acc ++ [toD r])) (fun k => ?_) ih
    rw [P.graftbedlaw19_theirs.l0, if_pos (by omega), if_pos (by omega), hrd, if_pos (by omega), wrap_id (by omega) (by omega)]; rfl
theorem theirs_ev (ms : List SM) (rs : List SR) (hm : ms.length ≤ 20) (hl : rs.length ≤ 20) : Ev (fun k => P.graftbedlaw19_theirs.f k ms rs) (ms.map toD, rs.map toE) := by
  have h := theirs_l0 ms rs hm hl _ 0 [] rfl (Nat.zero_le _) rfl
  rw [List.drop_zero, List.nil_append] at h
  exact h
theorem shown_any (w : World) : Calls Tryz.prog 9 #[] w fun e w' => e = .returned (.bool true) ∧ Below w.heap.size w w' :=
  P.graftbedlaw19_shown.calls true w (by decide +kernel)
theorem theirs_any (A0 A1 : Option Addr) (c0 c1 : Nat) (ms : List SM) (rs : List SR) (w : World) (lm : ms.length ≤ 20) (lr : rs.length ≤ 20) (h0 : Kd.C P.k41 w A0 ms.length ms) (hc0 : ms.length ≤ c0) (h1 : Kd.C P.k59 w A1 rs.length rs) (hc1 : rs.length ≤ c1) :
    Calls Tryz.prog 12 #[.agg #[.slice A0 ms.length c0, .slice A1 rs.length c1]] w fun e w' => ∃ B0 d0 B1 d1, e = .returned (.agg #[.slice B0 ms.length d0, .slice B1 rs.length d1]) ∧ ms.length ≤ d0 ∧ Kd.C P.k45 w' B0 ms.length (ms.map toD) ∧ rs.length ≤ d1 ∧ Kd.C P.k72 w' B1 rs.length (rs.map toE) ∧ Below w.heap.size w w' := by
  obtain ⟨k, hk⟩ := (theirs_ev ms rs lm lr).rounds
  refine (P.graftbedlaw19_theirs.calls k (fun k_ => k_ < w.heap.size) _ _ ms _ _ rs _ _ w (Kd.V_mk hc0 (Kd.C_F P.k41_heap h0)) h1 hc1 hk).mono ?_
  rintro e w' ⟨v0, v1, rfl, hn, hr, hb⟩
  obtain ⟨B0, d0, rfl, l0, g0⟩ := Kd.N_reads hn
  obtain ⟨B1, d1, rfl, l1, g1⟩ := Kd.R_reads hr
  rw [List.length_map] at l0 g0 l1 g1
  exact ⟨B0, d0, B1, d1, by rw [List.length_map, List.length_map], l0, g0, l1, g1, hb⟩
end Go.Proofs.YtcdcpcdfcmokkaaGreatDoor
end
