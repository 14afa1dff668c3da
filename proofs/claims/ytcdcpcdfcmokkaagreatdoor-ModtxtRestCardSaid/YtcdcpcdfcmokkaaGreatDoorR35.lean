/- modtxt.Print, taken as given by the printed walks. · A list within the law's bound: sizes, and what both Prints do with it. · The law ModtxtRest by hand: it says true. -/
import Derived.Test.YtcdcpcdfcmokkaaGreatDoorR31
import Derived.Test.YtcdcpcdfcmokkaaGreatDoorR05
import Derived.Test.YtcdcpcdfcmokkaaGreatDoorR29
import Derived.Test.YtcdcpcdfcmokkaaGreatDoorR30
import Derived.Test.YtcdcpcdfcmokkaaGreatDoorR33
import Derived.Test.YtcdcpcdfcmokkaaGreatDoorR34
import Derived.WalkSpells
import Derived.Outline
import Derived.Deep.DeepCutAuto
set_option linter.unusedVariables false
set_option linter.unusedSimpArgs false
section
namespace Go.Proofs.YtcdcpcdfcmokkaaGreatDoor
open Go Go.RowKit Go.Proofs.YtcdcpcdfcmokkaaGreatDoorW.PrintWords
set_option linter.unusedVariables false
def PrintOk (ms : List SM) (rs : List SR) : Prop := (∀ m ∈ ms, SmallM m) ∧ (∀ r ∈ rs, SmallR r) ∧ ms.length ≤ 1048576 ∧ rs.length ≤ 1099511627770 ∧ (metB ms ms.length).length ≤ 1099511627770 ∧ (textL ms rs).length ≤ 140737488355328
instance (ms : List SM) (rs : List SR) : Decidable (PrintOk ms rs) := by unfold PrintOk SmallM SmallR; infer_instance
namespace P
def modtxt_Print.f (l0 : List S41) (l1 : List S59) : Option (ByteArray × Int) := if PrintOk l0 l1 then some (printP l0 l1, listErr l0 l1) else none
theorem modtxt_Print.calls (A0 : Option Addr) (c0 : Nat) (l0 : List S41) (A1 : Option Addr) (c1 : Nat) (l1 : List S59) (r1 : ByteArray) (r2 : Int) (w : World) (h0 : Kd.C k41 w A0 l0.length l0) (hc0 : l0.length ≤ c0) (h1 : Kd.C k59 w A1 l1.length l1) (hc1 : l1.length ≤ c1) (h : modtxt_Print.f l0 l1 = some (r1, r2)) :
    Calls Tryz.prog 10 #[.agg #[.slice A0 l0.length c0, .slice A1 l1.length c1]] w fun e w' => e = .returned (.tuple #[.string r1, .int .i64 r2]) ∧ Below w.heap.size w w' := by
  unfold modtxt_Print.f at h
  split at h
  · simp only [Option.some.injEq, Prod.mk.injEq] at h
    obtain ⟨rfl, rfl⟩ := h
    rename_i hk
    obtain ⟨sm, sr, lm, lr, lp, lt⟩ := hk
    exact print_any A0 A1 c0 c1 l0 l1 w h0 hc0 h1 hc1 sm sr lm lr lp lt
  · cases h
end P
end Go.Proofs.YtcdcpcdfcmokkaaGreatDoor
end
section
namespace Go.Proofs.YtcdcpcdfcmokkaaGreatDoor.P
open Go.RowKit Go.Proofs.YtcdcpcdfcmokkaaGreatDoorW.PrintWords Go.Proofs.YtcdcpcdfcmokkaaGreatDoorW.PrintLast Go.Proofs.YtcdcpcdfcmokkaaGreatDoorW.PrintMore
open Go.Proofs.YtcdcpcdfcmokkaaGreatDoor (str_gtr str_leq str_geq bne_empty)
attribute [local go_sem] max2_int min2_int max_two min_two max_three min_three max_four min_four str_gtr str_leq str_geq   -- for this text's walks alone
set_option linter.unusedVariables false
set_option linter.unusedSimpArgs false
def graftbedlaw19_shown.f  : Option (Bool) := (modtxt_Print.f (([(⟨(⟨(⟨#[97, 46, 98]⟩ : ByteArray), (⟨#[118, 49, 46, 48, 46, 48]⟩ : ByteArray)⟩ : S38), true, (⟨#[]⟩ : ByteArray), (⟨(⟨#[]⟩ : ByteArray), (⟨#[]⟩ : ByteArray)⟩ : S38), ([] : List ByteArray)⟩ : S41)] : List (S41))) ([] : List (S59))).bind fun bt269 => (if bt269.2 = 0 then (some (bt269.1.toList == ([35, 32, 97, 46, 98, 32, 118, 49, 46, 48, 46, 48, 10, 35, 35, 32, 101, 120, 112, 108, 105, 99, 105, 116, 10] : List UInt8))) else (some false))
set_option maxHeartbeats 8000000 in
set_option maxRecDepth 100000 in
theorem graftbedlaw19_shown.calls  (r : Bool) (w : World) (h : graftbedlaw19_shown.f  = some r) :
  Calls Tryz.prog 9 #[] w fun e w' => e = .returned (.bool r) ∧ Below w.heap.size w w' := by
 have hu38 := Tryz.underlying38
 have hu41 := Tryz.underlying41
 have hu25 := Tryz.underlying25
 have HB := Aside0.mk (Below.refl w.heap.size w)
 have H : ((modtxt_Print.f (([(⟨(⟨(⟨#[97, 46, 98]⟩ : ByteArray), (⟨#[118, 49, 46, 48, 46, 48]⟩ : ByteArray)⟩ : S38), true, (⟨#[]⟩ : ByteArray), (⟨(⟨#[]⟩ : ByteArray), (⟨#[]⟩ : ByteArray)⟩ : S38), ([] : List ByteArray)⟩ : S41)] : List (S41))) ([] : List (S59))).bind fun bt269 => (if bt269.2 = 0 then (some (bt269.1.toList == ([35, 32, 97, 46, 98, 32, 118, 49, 46, 48, 46, 48, 10, 35, 35, 32, 101, 120, 112, 108, 105, 99, 105, 116, 10] : List UInt8))) else (some false))) = some r := h
 clear h
 obtain ⟨y266, hy266⟩ : ∃ y_ : List (S41), y_ = (([(⟨(⟨(⟨#[97, 46, 98]⟩ : ByteArray), (⟨#[118, 49, 46, 48, 46, 48]⟩ : ByteArray)⟩ : S38), true, (⟨#[]⟩ : ByteArray), (⟨(⟨#[]⟩ : ByteArray), (⟨#[]⟩ : ByteArray)⟩ : S38), ([] : List ByteArray)⟩ : S41)] : List (S41))) := ⟨_, rfl⟩
 replace H : ((modtxt_Print.f y266 ([] : List (S59))).bind fun bt269 => (if bt269.2 = 0 then (some (bt269.1.toList == ([35, 32, 97, 46, 98, 32, 118, 49, 46, 48, 46, 48, 10, 35, 35, 32, 101, 120, 112, 108, 105, 99, 105, 116, 10] : List UInt8))) else (some false))) = some r := by first | (rw [hy266]; with_reducible exact H) | (have H2_ := (Option.bind_some _ _).symm.trans H; rw [hy266]; with_reducible exact H2_) | (have H2_ := (Option.bind_some _ _).symm.trans H; with_reducible exact H2_) | with_reducible exact H | (rw [hy266]; exact H) | exact H
 have Ny266 := Aside0.mk hy266
 clear hy266
 replace H := Option.bind_eq_some_iff.mp H
 obtain ⟨⟨t269, t270⟩, A10, H⟩ := H
 replace H : (if t270 = 0 then (some (t269.toList == ([35, 32, 97, 46, 98, 32, 118, 49, 46, 48, 46, 48, 10, 35, 35, 32, 101, 120, 112, 108, 105, 99, 105, 116, 10] : List UInt8))) else (some false)) = some r := H
 have A1 := Aside0.mk A10
 clear A10
 by_cases c2 : t270 = 0
 ·rw [if_pos c2] at H
  have c2b0 : (t270 == 0) = true := beq_iff_eq.mpr c2
  have c2b1 : (t270 != 0) = false := bne_eq_false_iff_eq.mpr c2
  clear c2
  obtain rfl := Option.some.inj H
  go_enter Tryz.func9, Tryz.ntmps9
  go_wp2_with (first | ((with_reducible refine gate_dst (N := 6) rfl ?_); refine Kd.S_lit k41 _ 41 ?hg (N := 6) ?hd (xs := ([(⟨(⟨(⟨#[97, 46, 98]⟩ : ByteArray), (⟨#[118, 49, 46, 48, 46, 48]⟩ : ByteArray)⟩ : S38), true, (⟨#[]⟩ : ByteArray), (⟨(⟨#[]⟩ : ByteArray), (⟨#[]⟩ : ByteArray)⟩ : S38), ([] : List ByteArray)⟩ : S41)] : List (S41))) (inner := [.string (⟨#[97, 46, 98]⟩ : ByteArray), .string (⟨#[118, 49, 46, 48, 46, 48]⟩ : ByteArray), .bool true, .string (⟨#[]⟩ : ByteArray), .string (⟨#[]⟩ : ByteArray), .string (⟨#[]⟩ : ByteArray), .slice none 0 0]) (ok := fun _ => True) (okp := fun _ => True) ?hr ?hp (fun _ hk => hk) trivial (Below.refl _ _) (Nat.le_refl _) (by simp) ?_; (case hd => rfl); (case hg => rfl); (case hr => first | (go_simp; done) | (go_simp; rfl)); (case hp => exact (Reps.c7 (show Kd.M k41 _ _ _ (⟨(⟨(⟨#[97, 46, 98]⟩ : ByteArray), (⟨#[118, 49, 46, 48, 46, 48]⟩ : ByteArray)⟩ : S38), true, (⟨#[]⟩ : ByteArray), (⟨(⟨#[]⟩ : ByteArray), (⟨#[]⟩ : ByteArray)⟩ : S38), ([] : List ByteArray)⟩ : S41) [.string (⟨#[97, 46, 98]⟩ : ByteArray), .string (⟨#[118, 49, 46, 48, 46, 48]⟩ : ByteArray), .bool true, .string (⟨#[]⟩ : ByteArray), .string (⟨#[]⟩ : ByteArray), .string (⟨#[]⟩ : ByteArray), .slice none 0 0] from (k41_mkM _ _ _ (⟨(⟨(⟨#[97, 46, 98]⟩ : ByteArray), (⟨#[118, 49, 46, 48, 46, 48]⟩ : ByteArray)⟩ : S38), true, (⟨#[]⟩ : ByteArray), (⟨(⟨#[]⟩ : ByteArray), (⟨#[]⟩ : ByteArray)⟩ : S38), ([] : List ByteArray)⟩ : S41) (Kd.R_nil _ _ _ _ _))) (Reps.none _ _))); intro v267 w3 ho4 hb hg_ hnew_; clear hg_ hnew_; (first | rw [← Ny266.out] at ho4 | (simp only [Int.reduceToNat] at ho4; rw [← Ny266.out] at ho4)); have n0_ := Aside0.mk (Kd.S_lower ho4 (below_size (by repeat (first | (with_reducible first | exact HB.out | apply below_alloc | apply pw_below_drewN | apply below_drew1) | exact HB.out)))); have n1_ := Aside0.mk (below_step (by repeat (first | (with_reducible first | exact HB.out | apply below_alloc | apply pw_below_drewN | apply below_drew1) | exact HB.out)) hb); clear HB; have HO268 := n0_; have HB := n1_; clear n0_ n1_; clear hb ho4; obtain ⟨Ao5, co5, eo5⟩ := Kd.S_slice HO268.out; subst eo5) | ((with_reducible refine gate_callee (f := 10) rfl ?_); refine goesL_ (some 10) rfl rfl Tryz.func10 (by kernel_rfl) rfl #[.agg #[.slice Ao5 y266.length co5, .slice none 0 0]] rfl (by (try simp only [List.map_toArray, List.map_cons, List.map_nil]); first | done | rfl | (simp only [List.length_drop, List.length_take]; rfl)) ?_; (refine (modtxt_Print.calls _ _ y266 _ _ ([] : List (S59)) t269 t270 _ ?side1 ?side2 ?side3 ?side4 A1.out).mono ?_); (case side1 => repeat (first | exact (Kd.S_reads' HO268.out).2.2 | (with_reducible refine Kd.C_alloc ?_ _) | (with_reducible refine Kd.C_drewN ?_ _) | (with_reducible refine Kd.C_drew ?_))); (case side2 => exact (Kd.S_reads' HO268.out).2.1); (case side3 => exact Kd.C_nil _ _); (case side4 => exact Nat.le_refl _); rintro e w6 ⟨rfl, hb⟩; refine ⟨_, rfl, ?_⟩; have n0_ := Aside0.mk (Kd.S_below (by (with_reducible repeat (first | apply Kd.S_alloc | apply Kd.S_drewN | apply Kd.S_drew)); exact HO268.out) hb); have n1_ := Aside0.mk (below_step (by repeat (first | (with_reducible first | exact HB.out | apply below_alloc | apply pw_below_drewN | apply below_drew1) | exact HB.out)) hb); clear HO268; clear HB; have HO268 := n0_; have HB := n1_; clear n0_ n1_; (try clear hb); (try clear hb2); (try clear hk); (try clear hi)))
  go_ret
  exact ⟨by first | rfl | (simp [errW_none, errW_some] <;> rfl) | (simp [*, errW_none, errW_some] <;> rfl) | (exfalso; simp_all; done) | (exfalso; omega), by repeat (first | (with_reducible first | exact HB.out | apply below_alloc | apply pw_below_drewN | apply below_drew1) | exact HB.out)⟩
 ·rw [if_neg c2] at H
  have c2b0 : (t270 == 0) = false := beq_eq_false_iff_ne.mpr c2
  have c2b1 : (t270 != 0) = true := bne_iff_ne.mpr c2
  obtain rfl := Option.some.inj H
  go_enter Tryz.func9, Tryz.ntmps9
  go_wp2_with (first | ((with_reducible refine gate_dst (N := 6) rfl ?_); refine Kd.S_lit k41 _ 41 ?hg (N := 6) ?hd (xs := ([(⟨(⟨(⟨#[97, 46, 98]⟩ : ByteArray), (⟨#[118, 49, 46, 48, 46, 48]⟩ : ByteArray)⟩ : S38), true, (⟨#[]⟩ : ByteArray), (⟨(⟨#[]⟩ : ByteArray), (⟨#[]⟩ : ByteArray)⟩ : S38), ([] : List ByteArray)⟩ : S41)] : List (S41))) (inner := [.string (⟨#[97, 46, 98]⟩ : ByteArray), .string (⟨#[118, 49, 46, 48, 46, 48]⟩ : ByteArray), .bool true, .string (⟨#[]⟩ : ByteArray), .string (⟨#[]⟩ : ByteArray), .string (⟨#[]⟩ : ByteArray), .slice none 0 0]) (ok := fun _ => True) (okp := fun _ => True) ?hr ?hp (fun _ hk => hk) trivial (Below.refl _ _) (Nat.le_refl _) (by simp) ?_; (case hd => rfl); (case hg => rfl); (case hr => first | (go_simp; done) | (go_simp; rfl)); (case hp => exact (Reps.c7 (show Kd.M k41 _ _ _ (⟨(⟨(⟨#[97, 46, 98]⟩ : ByteArray), (⟨#[118, 49, 46, 48, 46, 48]⟩ : ByteArray)⟩ : S38), true, (⟨#[]⟩ : ByteArray), (⟨(⟨#[]⟩ : ByteArray), (⟨#[]⟩ : ByteArray)⟩ : S38), ([] : List ByteArray)⟩ : S41) [.string (⟨#[97, 46, 98]⟩ : ByteArray), .string (⟨#[118, 49, 46, 48, 46, 48]⟩ : ByteArray), .bool true, .string (⟨#[]⟩ : ByteArray), .string (⟨#[]⟩ : ByteArray), .string (⟨#[]⟩ : ByteArray), .slice none 0 0] from (k41_mkM _ _ _ (⟨(⟨(⟨#[97, 46, 98]⟩ : ByteArray), (⟨#[118, 49, 46, 48, 46, 48]⟩ : ByteArray)⟩ : S38), true, (⟨#[]⟩ : ByteArray), (⟨(⟨#[]⟩ : ByteArray), (⟨#[]⟩ : ByteArray)⟩ : S38), ([] : List ByteArray)⟩ : S41) (Kd.R_nil _ _ _ _ _))) (Reps.none _ _))); intro v267 w7 ho8 hb hg_ hnew_; clear hg_ hnew_; (first | rw [← Ny266.out] at ho8 | (simp only [Int.reduceToNat] at ho8; rw [← Ny266.out] at ho8)); have n0_ := Aside0.mk (Kd.S_lower ho8 (below_size (by repeat (first | (with_reducible first | exact HB.out | apply below_alloc | apply pw_below_drewN | apply below_drew1) | exact HB.out)))); have n1_ := Aside0.mk (below_step (by repeat (first | (with_reducible first | exact HB.out | apply below_alloc | apply pw_below_drewN | apply below_drew1) | exact HB.out)) hb); clear HB; have HO268 := n0_; have HB := n1_; clear n0_ n1_; clear hb ho8; obtain ⟨Ao9, co9, eo9⟩ := Kd.S_slice HO268.out; subst eo9) | ((with_reducible refine gate_callee (f := 10) rfl ?_); refine goesL_ (some 10) rfl rfl Tryz.func10 (by kernel_rfl) rfl #[.agg #[.slice Ao9 y266.length co9, .slice none 0 0]] rfl (by (try simp only [List.map_toArray, List.map_cons, List.map_nil]); first | done | rfl | (simp only [List.length_drop, List.length_take]; rfl)) ?_; (refine (modtxt_Print.calls _ _ y266 _ _ ([] : List (S59)) t269 t270 _ ?side1 ?side2 ?side3 ?side4 A1.out).mono ?_); (case side1 => repeat (first | exact (Kd.S_reads' HO268.out).2.2 | (with_reducible refine Kd.C_alloc ?_ _) | (with_reducible refine Kd.C_drewN ?_ _) | (with_reducible refine Kd.C_drew ?_))); (case side2 => exact (Kd.S_reads' HO268.out).2.1); (case side3 => exact Kd.C_nil _ _); (case side4 => exact Nat.le_refl _); rintro e w10 ⟨rfl, hb⟩; refine ⟨_, rfl, ?_⟩; have n0_ := Aside0.mk (Kd.S_below (by (with_reducible repeat (first | apply Kd.S_alloc | apply Kd.S_drewN | apply Kd.S_drew)); exact HO268.out) hb); have n1_ := Aside0.mk (below_step (by repeat (first | (with_reducible first | exact HB.out | apply below_alloc | apply pw_below_drewN | apply below_drew1) | exact HB.out)) hb); clear HO268; clear HB; have HO268 := n0_; have HB := n1_; clear n0_ n1_; (try clear hb); (try clear hb2); (try clear hk); (try clear hi)))
  go_ret
  exact ⟨by first | rfl | (simp [errW_none, errW_some] <;> rfl) | (simp [*, errW_none, errW_some] <;> rfl) | (exfalso; simp_all; done) | (exfalso; omega), by repeat (first | (with_reducible first | exact HB.out | apply below_alloc | apply pw_below_drewN | apply below_drew1) | exact HB.out)⟩
end Go.Proofs.YtcdcpcdfcmokkaaGreatDoor.P
end
section
namespace Go.Proofs.YtcdcpcdfcmokkaaGreatDoor
open Go Go.RowKit Go.Proofs.YtcdcpcdfcmokkaaGreatDoorW.PrintWords
set_option linter.unusedVariables false
def toD (m : SM) : DM := ⟨m.f0, m.f1, m.f2, m.f3, m.f4⟩
def toE (r : SR) : DR := ⟨r.f0, r.f1⟩
theorem toM_toD (l : List SM) : (l.map toD).map toM = l := by
  rw [List.map_map]; exact List.map_id'' (fun m => rfl) l
theorem toR_toE (l : List SR) : (l.map toE).map toR = l := by
  rw [List.map_map]; exact List.map_id'' (fun m => rfl) l
theorem smallM_light {m : SM} (h : LightM m) : SmallM m := ⟨by have := h.2.1; omega, by have := h.2.2.1; omega, by have := h.2.2.2.2.2.1; omega, by have := h.2.2.2.1; omega, by have := h.2.2.2.2.1; omega, by have := h.1; omega, fun s hs => by have := h.2.2.2.2.2.2 s hs; omega⟩
theorem smallR_light {r : SR} (h : LightR r) : SmallR r := ⟨by have := h.1; omega, by have := h.2.1; omega, by have := h.2.2.1; omega, by have := h.2.2.2; omega⟩
theorem markL_size (m : SM) : (markL m).length ≤ m.f2.size + 20 := by
  rw [Lib.size_eq]
  cases x1 : m.f1 with
  | true =>
    cases x2 : m.f2.toList.isEmpty with
    | true => rw [mark_tf m x1 x2]; simp [explicitB]
    | false => rw [mark_tt m x1 x2]; simp [explicitB]
  | false =>
    cases x2 : m.f2.toList.isEmpty with
    | true => rw [mark_ff m x1 x2]; simp
    | false => rw [mark_ft m x1 x2]; simp
theorem metB_light (ms : List SM) (h1 : ms.length ≤ 20) (h : ∀ m ∈ ms, LightM m) (i : Nat) : (metB ms i).length ≤ 400 := by
  unfold metB
  have : ∀ l : List SM, (∀ m ∈ l, LightM m) → (l.flatMap (·.f4)).length ≤ l.length * 20 := by
    intro l
    induction l with
    | nil => intro _; simp
    | cons x l ih =>
      intro h
      have h1 := (h x (List.mem_cons_self ..)).1
      have h2 := ih (fun y hy => h y (List.mem_cons_of_mem _ hy))
      rw [List.flatMap_cons, List.length_append, List.length_cons, Nat.succ_mul]; omega
  have h2 := this (ms.take i) (fun m hm => h m (List.mem_of_mem_take hm))
  have h3 : (ms.take i).length ≤ 20 := by rw [List.length_take]; omega
  have : (ms.take i).length * 20 ≤ 20 * 20 := Nat.mul_le_mul_right _ h3
  omega
theorem pkgL_light (m : SM) (h : LightM m) : (pkgL m.f4).length ≤ 2020 := by
  have h1 := flat_size (fun p : ByteArray => p.data.toList ++ [10]) 101 m.f4 (fun s hs => by have := h.2.2.2.2.2.2 s hs; simp; omega)
  have : m.f4.length * 101 ≤ 20 * 101 := Nat.mul_le_mul_right _ h.1
  unfold pkgL; omega
theorem modL_light (m : SM) (h : LightM m) : (modL m).length ≤ 4000 := by
  have h1 := pkgL_light m h
  have h2 := markL_size m
  have h3 := lineL_size m.f0.f0 m.f0.f1 m.f3.f0 m.f3.f1
  obtain ⟨_, a, b, c, d, e, _⟩ := h
  unfold modL; simp only [List.length_append]; omega
theorem repL_light (r : SR) (h : LightR r) : (repL r).length ≤ 4000 := by
  have h3 := lineL_size r.f0.f0 r.f0.f1 r.f1.f0 r.f1.f1
  obtain ⟨a, b, c, d⟩ := h
  unfold repL; omega
theorem textL_light {ms : List SM} {rs : List SR} (h : Light ms rs) : (textL ms rs).length ≤ 200000 := by
  obtain ⟨h1, h2, h3, h4⟩ := h
  have a := flat_size modL 4000 ms (fun m hm => modL_light m (h3 m hm))
  have b := flat_size repL 4000 rs (fun m hm => repL_light m (h4 m hm))
  have : ms.length * 4000 ≤ 20 * 4000 := Nat.mul_le_mul_right _ h1
  have : rs.length * 4000 ≤ 20 * 4000 := Nat.mul_le_mul_right _ h2
  unfold textL; rw [List.length_append]; omega
theorem dmodL_light (m : SM) (h : LightM m) : (dmodL (toD m)).length ≤ 4000 := by
  have h1 := pkgL_light m h
  have h2 := markL_size m
  obtain ⟨_, a, b, c, d, e, _⟩ := h
  have s1 := dmodP_size m.f0.f0 m.f0.f1
  have s2 := dmodP_size m.f3.f0 m.f3.f1
  rw [Lib.size_eq] at s1 s2
  have h3 : (dnewL m.f3.f0 m.f3.f1).length ≤ 4 + (dmodP m.f3.f0 m.f3.f1).data.toList.length := by
    unfold dnewL; split
    · simp
    · simp; omega
  have h4 : (dheadL (toD m)).length ≤ 1000 := by
    unfold dheadL
    show ([35, 32] ++ (dmodP m.f0.f0 m.f0.f1).data.toList ++ dnewL m.f3.f0 m.f3.f1 ++ [10]).length ≤ 1000
    simp only [List.length_append, List.length_cons, List.length_nil]; omega
  show (dheadL (toD m) ++ markL m ++ pkgL m.f4).length ≤ 4000
  simp only [List.length_append]; omega
theorem drepL_light (r : SR) (h : LightR r) : (drepL (toE r)).length ≤ 4000 := by
  obtain ⟨a, b, c, d⟩ := h
  have s1 := dmodP_size r.f0.f0 r.f0.f1
  have s2 := dmodP_size r.f1.f0 r.f1.f1
  rw [Lib.size_eq] at s1 s2
  show ([35, 32] ++ (dmodP r.f0.f0 r.f0.f1).data.toList ++ [32, 61, 62, 32] ++ (dmodP r.f1.f0 r.f1.f1).data.toList ++ [10]).length ≤ 4000
  simp only [List.length_append, List.length_cons, List.length_nil]; omega
theorem light_takeR {ms : List SM} {rs : List SR} (h : Light ms rs) (j : Nat) : Light ms (rs.take j) :=
  ⟨h.1, by have := h.2.1; rw [List.length_take]; omega, h.2.2.1, fun r hr => h.2.2.2 r (List.mem_of_mem_take hr)⟩
theorem light_takeM {ms : List SM} {rs : List SR} (h : Light ms rs) (j : Nat) : Light (ms.take j) rs :=
  ⟨by have := h.1; rw [List.length_take]; omega, h.2.1, fun r hr => h.2.2.1 r (List.mem_of_mem_take hr), h.2.2.2⟩
theorem toB_list (l : List UInt8) : (toB l).toList = l := by rw [Lib.toList_data]; rfl
theorem theirs_l1 (ms : List SM) (rs : List SR) (A : List DM) (hl : rs.length ≤ 20) : ∀ (d n : Nat) (acc : List DR), rs.length - n = d → n ≤ rs.length → acc.length = n →
    Ev (fun k => P.graftbedlaw19_theirs.l1 k (n : Int) ms rs A acc) (A, acc ++ (rs.drop n).map toE)
  | 0, n, acc, e, hn, ha => by
    obtain rfl : n = rs.length := by omega
    refine Ev.step (f := fun _ => some _) (fun k => ?_) (Ev.now _)
    rw [P.graftbedlaw19_theirs.l1, if_neg (by omega), List.drop_length, List.map_nil, List.append_nil]
  | d + 1, n, acc, e, hn, ha => by
    have hlt : n < rs.length := by omega
    have hdr : rs.drop n = rs[n] :: rs.drop (n + 1) := List.drop_eq_getElem_cons hlt
    obtain ⟨r, hr⟩ : ∃ r, rs[n] = r := ⟨_, rfl⟩
    have hrd : P.rd_T59 rs (n : Int) = r := by
      show rs.getD n zR = r
      rw [List.getD_eq_getElem?_getD, List.getElem?_eq_getElem hlt, ← hr]; rfl
    have ih := theirs_l1 ms rs A hl d (n + 1) (acc ++ [toE r]) (by omega) (by omega) (by simp [ha])
    rw [List.append_assoc] at ih
    rw [hdr, hr]
    refine Ev.step (f := fun k => P.graftbedlaw19_theirs.l1 k ((n + 1 : Nat) : Int) ms rs A (acc ++ [toE r])) (fun k => ?_) ih
    rw [P.graftbedlaw19_theirs.l1, if_pos (by omega), if_pos (by omega), hrd, if_pos (by omega), wrap_id (by omega) (by omega)]; rfl
theorem theirs_l0 (ms : List SM) (rs : List SR) (hm : ms.length ≤ 20) (hl : rs.length ≤ 20) : ∀ (d n : Nat) (acc : List DM), ms.length - n = d → n ≤ ms.length → acc.length = n →
    Ev (fun k => P.graftbedlaw19_theirs.l0 k (n : Int) ms rs acc) (acc ++ (ms.drop n).map toD, rs.map toE)
  | 0, n, acc, e, hn, ha => by
    obtain rfl : n = ms.length := by omega
    have h := theirs_l1 ms rs acc hl _ 0 [] rfl (Nat.zero_le _) rfl
    rw [List.drop_zero, List.nil_append] at h
    rw [List.drop_length, List.map_nil, List.append_nil]
    refine Ev.step (f := fun k => P.graftbedlaw19_theirs.l1 k ((0 : Nat) : Int) ms rs acc []) (fun k => ?_) h
    rw [P.graftbedlaw19_theirs.l0, if_neg (by omega)]; rfl
  | d + 1, n, acc, e, hn, ha => by
    have hlt : n < ms.length := by omega
    have hdr : ms.drop n = ms[n] :: ms.drop (n + 1) := List.drop_eq_getElem_cons hlt
    obtain ⟨r, hr⟩ : ∃ r, ms[n] = r := ⟨_, rfl⟩
    have hrd : P.rd_T41 ms (n : Int) = r := by
      show ms.getD n zM = r
      rw [List.getD_eq_getElem?_getD, List.getElem?_eq_getElem hlt, ← hr]; rfl
    have ih := theirs_l0 ms rs hm hl d (n + 1) (acc ++ [toD r]) (by omega) (by omega) (by simp [ha])
    rw [List.append_assoc] at ih
    rw [hdr, hr]
    refine Ev.step (f := fun k => P.graftbedlaw19_theirs.l0 k ((n + 1 : Nat) : Int) ms rs (acc ++ [toD r])) (fun k => ?_) ih
    rw [P.graftbedlaw19_theirs.l0, if_pos (by omega), if_pos (by omega), hrd, if_pos (by omega), wrap_id (by omega) (by omega)]; rfl
theorem theirs_ev (ms : List SM) (rs : List SR) (hm : ms.length ≤ 20) (hl : rs.length ≤ 20) : Ev (fun k => P.graftbedlaw19_theirs.f k ms rs) (ms.map toD, rs.map toE) := by
  have h := theirs_l0 ms rs hm hl _ 0 [] rfl (Nat.zero_le _) rfl
  rw [List.drop_zero, List.nil_append] at h
  exact h
theorem print_light (A0 A1 : Option Addr) (c0 c1 : Nat) (ms : List SM) (rs : List SR) (w : World) (h : Light ms rs) (h0 : Kd.C P.k41 w A0 ms.length ms) (hc0 : ms.length ≤ c0) (h1 : Kd.C P.k59 w A1 rs.length rs) (hc1 : rs.length ≤ c1) :
    Calls Tryz.prog 10 #[.agg #[.slice A0 ms.length c0, .slice A1 rs.length c1]] w fun e w' => e = .returned (.tuple #[.string (printP ms rs), .int .i64 (listErr ms rs)]) ∧ Below w.heap.size w w' :=
  print_any A0 A1 c0 c1 ms rs w h0 hc0 h1 hc1 (fun m hm => smallM_light (h.2.2.1 m hm)) (fun r hr => smallR_light (h.2.2.2 r hr)) (by have := h.1; omega) (by have := h.2.1; omega) (by have := metB_light ms h.1 h.2.2.1 ms.length; omega) (by have := textL_light h; omega)
theorem rprint_light (A0 A1 : Option Addr) (c0 c1 : Nat) (ms : List SM) (rs : List SR) (w : World) (h : Light ms rs) (h0 : Kd.C P.k45 w A0 ms.length (ms.map toD)) (hc0 : ms.length ≤ c0) (h1 : Kd.C P.k72 w A1 rs.length (rs.map toE)) (hc1 : rs.length ≤ c1) :
    Calls Tryz.prog 11 #[.agg #[.slice A0 ms.length c0, .slice A1 rs.length c1]] w fun e w' => e = .returned (.tuple #[.string (dprintP (ms.map toD) (rs.map toE)), .int .i64 (listErr ms rs)]) ∧ Below w.heap.size w w' := by
  have hp := rprint_any A0 A1 c0 c1 (ms.map toD) (rs.map toE) w (by rw [List.length_map]; exact h0) (by rw [List.length_map]; exact hc0) (by rw [List.length_map]; exact h1) (by rw [List.length_map]; exact hc1) (fun m hm => by obtain ⟨x, hx, rfl⟩ := List.mem_map.mp hm; exact smallM_light (h.2.2.1 x hx)) (fun r hr => by obtain ⟨x, hx, rfl⟩ := List.mem_map.mp hr; exact smallR_light (h.2.2.2 x hx)) (by have := h.1; rw [List.length_map]; omega) (by have := h.2.1; rw [List.length_map]; omega)
    (by rw [toM_toD]; have := metB_light ms h.1 h.2.2.1 ms.length; omega) (by
      have a := flat_size dmodL 4000 (ms.map toD) (fun m hm => by obtain ⟨x, hx, rfl⟩ := List.mem_map.mp hm; exact dmodL_light x (h.2.2.1 x hx))
      have b := flat_size drepL 4000 (rs.map toE) (fun m hm => by obtain ⟨x, hx, rfl⟩ := List.mem_map.mp hm; exact drepL_light x (h.2.2.2 x hx))
      rw [List.length_map] at a b
      have : ms.length * 4000 ≤ 20 * 4000 := Nat.mul_le_mul_right _ h.1
      have : rs.length * 4000 ≤ 20 * 4000 := Nat.mul_le_mul_right _ h.2.1
      unfold dtextL; rw [List.length_append]; omega)
  rw [toM_toD, toR_toE, List.length_map, List.length_map] at hp
  exact hp
theorem shown_any (w : World) : Calls Tryz.prog 9 #[] w fun e w' => e = .returned (.bool true) ∧ Below w.heap.size w w' :=
  P.graftbedlaw19_shown.calls true w (by decide +kernel)
theorem theirs_any (A0 A1 : Option Addr) (c0 c1 : Nat) (ms : List SM) (rs : List SR) (w : World) (lm : ms.length ≤ 20) (lr : rs.length ≤ 20) (h0 : Kd.C P.k41 w A0 ms.length ms) (hc0 : ms.length ≤ c0) (h1 : Kd.C P.k59 w A1 rs.length rs) (hc1 : rs.length ≤ c1) :
    Calls Tryz.prog 12 #[.agg #[.slice A0 ms.length c0, .slice A1 rs.length c1]] w fun e w' => ∃ B0 d0 B1 d1, e = .returned (.agg #[.slice B0 ms.length d0, .slice B1 rs.length d1]) ∧ ms.length ≤ d0 ∧ Kd.C P.k45 w' B0 ms.length (ms.map toD) ∧ rs.length ≤ d1 ∧ Kd.C P.k72 w' B1 rs.length (rs.map toE) ∧ Below w.heap.size w w' := by
  obtain ⟨k, hk⟩ := (theirs_ev ms rs lm lr).rounds
  refine (P.graftbedlaw19_theirs.calls k (fun k_ => k_ < w.heap.size) _ _ ms _ _ rs _ _ w (Kd.V_mk hc0 (Kd.C_F P.k41_heap h0)) h1 hc1 hk).mono ?_
  rintro e w' ⟨v0, v1, rfl, hn, hr, hb⟩
  obtain ⟨B0, d0, rfl, l0, g0⟩ := Kd.N_reads hn
  obtain ⟨B1, d1, rfl, l1, g1⟩ := Kd.R_reads hr
  rw [List.length_map] at l0 g0 l1 g1
  exact ⟨B0, d0, B1, d1, by rw [List.length_map, List.length_map], l0, g0, l1, g1, hb⟩
end Go.Proofs.YtcdcpcdfcmokkaaGreatDoor
end
section
namespace Go.Proofs.YtcdcpcdfcmokkaaGreatDoor
open Go Go.RowKit Go.Proofs.YtcdcpcdfcmokkaaGreatDoorW.PrintWords Go.Proofs.YtcdcpcdfcmokkaaGreatDoorW.PrintLast Go.Proofs.YtcdcpcdfcmokkaaGreatDoorW.PrintMore
set_option linter.unusedVariables false
set_option linter.unusedSimpArgs false
theorem plan_last {P : Program} {ops : Array Oper} {Q : Exit → Act → World → Prop} {S : World → Prop} {ds : List Nat} {r : List (Nat × Nat)} {l : List Bool} {a : Act} {w : World} {i : Nat} {oi : Oper} (hi : ops[i]? = some oi)
    (h : ∀ K : Act → World → Prop, Shut (∀ a' w', Plan P ops Q S ds r (l.set i true) a' w' → K a' w') → if Region.wanted oi (yielded ops a.tmps) = true then Oper.wp P oi a w K Q else K (a.put oi.dst undef) w) : Plan P ops Q S ds ((i, 6) :: r) l a w := by
  unfold Plan at h ⊢
  intro hc
  simp only [planOk, Bool.and_eq_true, List.contains_eq_mem, decide_eq_true_eq] at hc
  refine last_ (l.set i true).toArray hi rfl (one_of rfl (by simpa using hc.1.1)) hc.1.2 (fun K hK => h K ?_)
  exact (show _ from fun a' w' hp => (show ∀ a' w', _ from hK) a' w' (hp hc.2))
theorem short_size {a b : List UInt8} {s t : ByteArray} (hs : s = toB (a ++ b)) (ht : t = toB a) (hb : 0 < b.length) : t.size < s.size ∧ (s.extract 0 t.size).toList = t.toList := by
  have e1 : t.size = a.length := by rw [ht, toB_size]
  have e2 : s.size = a.length + b.length := by rw [hs, toB_size, List.length_append]
  refine ⟨by omega, ?_⟩
  rw [extract_toB, toB_list, ht, toB_list, hs]
  have : (toB (a ++ b)).data.toList = a ++ b := rfl
  rw [this, toB_size, List.drop_zero, List.take_left]
theorem print_none {ms : List SM} {rs : List SR} (h : listB ms rs = false ∨ ms = [] ∧ rs = []) : (printP ms rs).toList = [] := by
  unfold printP
  rcases h with h | ⟨rfl, rfl⟩
  · rw [h]; exact toB_list []
  · split <;> exact toB_list []
theorem rest_R {ms : List SM} {rs : List SR} (hb : listB ms rs = true) (hr : 0 < rs.length) : listErr ms (rs.take (rs.length - 1)) = 0 ∧ (printP ms (rs.take (rs.length - 1))).size < (printP ms rs).size ∧ ((printP ms rs).extract 0 (printP ms (rs.take (rs.length - 1))).size).toList = (printP ms (rs.take (rs.length - 1))).toList := by
  have hb2 := listB_takeR hb (rs.length - 1) (by omega)
  have hp : printP ms rs = toB (textL ms rs) := by unfold printP; rw [hb]; rfl
  exact ⟨if_pos hb2, short_size (a := textL ms (rs.take (rs.length - 1))) (b := repL (rs.getD (rs.length - 1) zR)) (by rw [hp, textL_lastR ms rs hr]) (by unfold printP; rw [hb2]; rfl) (by have := repL_pos (rs.getD (rs.length - 1) zR); omega)⟩
theorem rest_M {ms : List SM} (hb : listB ms [] = true) (hm : 0 < ms.length) : listErr (ms.take (ms.length - 1)) [] = 0 ∧ (printP (ms.take (ms.length - 1)) []).size < (printP ms []).size ∧ ((printP ms []).extract 0 (printP (ms.take (ms.length - 1)) []).size).toList = (printP (ms.take (ms.length - 1)) []).toList := by
  have hb2 := listB_takeM hb (ms.length - 1) (by omega)
  have hp : printP ms [] = toB (textL ms []) := by unfold printP; rw [hb]; rfl
  exact ⟨if_pos hb2, short_size (a := textL (ms.take (ms.length - 1)) []) (b := modL (ms.getD (ms.length - 1) zM)) (by rw [hp, textL_lastM ms hm]) (by unfold printP; rw [hb2]; rfl) (by have := modL_pos (ms.getD (ms.length - 1) zM); omega)⟩
set_option maxHeartbeats 8000000 in
set_option maxRecDepth 100000 in
theorem rest_any (A0 A1 : Option Addr) (c0 c1 : Nat) (ms : List SM) (rs : List SR) (w : World) (h0 : Kd.C P.k41 w A0 ms.length ms) (hc0 : ms.length ≤ c0) (h1 : Kd.C P.k59 w A1 rs.length rs) (hc1 : rs.length ≤ c1) :
    Calls Tryz.prog 3 #[.agg #[.slice A0 ms.length c0, .slice A1 rs.length c1]] w fun e w' => e = .returned (.bool true) ∧ Below w.heap.size w w' := by
  have K0 := Lib.hid (blk_new w (.cells #[.slice A0 ms.length c0, .slice A1 rs.length c1] 25))
  have B0 := Lib.hid (below_alloc (Below.refl _ w) (.cells #[.slice A0 ms.length c0, .slice A1 rs.length c1] 25))
  go_enter Tryz.func3, Tryz.ntmps3
  go_upto_region 1 with (fail)
  obtain ⟨p0, p1⟩ := blk2 K0.out
  generalize w.alloc (.cells #[.slice A0 ms.length c0, .slice A1 rs.length c1] 25) = W at *
  go_wp2_with fail
  refine (heavy_any A0 A1 c0 c1 ms rs W (Kd.C_below h0 B0.out) (Kd.C_below h1 B0.out)).mono ?_
  rintro e w2 ⟨b, rfl, hL, hb2⟩
  clear p0 p1
  have K2 := Lib.hid (blk_at K0.out hb2)
  have B2 := Lib.hid (below_step B0.out hb2)
  obtain ⟨p0, p1⟩ := blk2 K2.out
  clear hb2 K0 B0
  cases b with
  | true =>
    clear hL
    go_wp2_with (go_at_call 9; (with_reducible refine (shown_any _).mono ?_); rintro e w3 ⟨rfl, hb3⟩)
    go_ret
    exact ⟨rfl, below_step B2.out hb3⟩
  | false =>
  have HL := Lib.hid (hL rfl)
  clear hL
  have lm := HL.out.1
  have lr := HL.out.2.1
  have tl := Lib.hid (textL_light HL.out)
  have ee : (listErr ms rs != listErr ms rs) = false := by simp
  go_upto_region 5 with (first | (go_at_call 9; (with_reducible refine (shown_any _).mono ?_); rintro e w3 ⟨rfl, hb3⟩; have B3 := Lib.hid (below_step B2.out hb3); replace p0 := pw_cell_below hb3 p0; replace p1 := pw_cell_below hb3 p1; have K3 := Lib.hid (blk_at K2.out hb3); clear hb3) | (go_at_call 10; (with_reducible refine (print_light A0 A1 c0 c1 ms rs _ HL.out (Kd.C_below h0 B3.out) hc0 (Kd.C_below h1 B3.out) hc1).mono ?_); rintro e w4 ⟨rfl, hb4⟩; have B4 := Lib.hid (below_step B3.out hb4); replace p0 := pw_cell_below hb4 p0; replace p1 := pw_cell_below hb4 p1; have K4 := Lib.hid (blk_at K3.out hb4); clear hb4) | (go_at_call 12; (with_reducible refine (theirs_any A0 A1 c0 c1 ms rs _ lm lr (Kd.C_below h0 B4.out) hc0 (Kd.C_below h1 B4.out) hc1).mono ?_); rintro e w5 ⟨E0, d0, E1, d1, rfl, l0, g0, l1, g1, hb5⟩; have B5 := Lib.hid (below_step B4.out hb5); replace p0 := pw_cell_below hb5 p0; replace p1 := pw_cell_below hb5 p1; have K5 := Lib.hid (blk_at K4.out hb5); clear hb5) | (go_at_call 11; (with_reducible refine (rprint_light E0 E1 d0 d1 ms rs _ HL.out g0 l0 g1 l1).mono ?_); rintro e w6 ⟨rfl, hb6⟩; have B6 := Lib.hid (below_step B5.out hb6); replace p0 := pw_cell_below hb6 p0; replace p1 := pw_cell_below hb6 p1; have K6 := Lib.hid (blk_at K5.out hb6); clear hb6))
  have tls := Lib.hid (show (textL ms rs).length ≤ 200000 from textL_light HL.out)
  cases hb : listB ms rs with
  | false =>
    have he : listErr ms rs = 190 := listErr_bad hb
    have hp : (printP ms rs).toList = [] := print_none (.inl hb)
    go_wp2
    go_ret
    exact ⟨by simp [hp], B6.out⟩
  | true =>
  have HP := Lib.hid hb
  have he : listErr ms rs = 0 := if_pos hb
  clear hb
  by_cases hz : ms.length + rs.length = 0
  · obtain rfl : ms = [] := List.length_eq_zero_iff.mp (by omega)
    obtain rfl : rs = [] := List.length_eq_zero_iff.mp (by omega)
    have hp : (printP ([] : List SM) ([] : List SR)).toList = [] := print_none (.inr ⟨rfl, rfl⟩)
    go_wp2
    go_ret
    exact ⟨by simp [hp], B6.out⟩
  · go_upto_region 9 with (fail)
    have s6 := blk_lt K6.out
    go_upto_region 10 with (fail)
    have s6' := B6.out.size
    have k7 := blk_new (w6.alloc (.cells #[] 59)) (.cells #[.slice A0 ms.length c0, .slice (some ⟨w6.heap.size, 0, none⟩) 0 0] 25)
    rw [World.size_alloc] at k7
    have O7 : Kd.R P.k59 59 ((w6.alloc (.cells #[] 59)).alloc (.cells #[.slice A0 ms.length c0, .slice (some ⟨w6.heap.size, 0, none⟩) 0 0] 25)) w.heap.size (fun _ => True) (.slice (some ⟨w6.heap.size, 0, none⟩) 0 0) ([] : List SR) :=
      Kd.R_alloc (⟨fun _ _ => trivial, OwnRow.lit w6 w.heap.size (inner := []) (Reps.none _ _) s6' (by simp)⟩ : Kd.R P.k59 59 _ _ _ _ _) _
    have K7 := Lib.hid (blk_alloc (blk_alloc K6.out (.cells #[] 59)) (.cells #[.slice A0 ms.length c0, .slice (some ⟨w6.heap.size, 0, none⟩) 0 0] 25))
    have B7 := Lib.hid (below_alloc (below_alloc B6.out (.cells #[] 59)) (.cells #[.slice A0 ms.length c0, .slice (some ⟨w6.heap.size, 0, none⟩) 0 0] 25))
    generalize (w6.alloc (.cells #[] 59)).alloc (.cells #[.slice A0 ms.length c0, .slice (some ⟨w6.heap.size, 0, none⟩) 0 0] 25) = W7 at *
    have gne : w.heap.size ≠ w6.heap.size + 1 := by omega
    obtain ⟨g7, hg7⟩ : ∃ g, g = w6.heap.size + 1 := ⟨_, rfl⟩
    have gle : w.heap.size ≤ g7 := by omega
    rw [← hg7] at k7 gne ⊢
    clear hg7 s6 p0 p1
    have k7 := Lib.hid k7
    have O7 := Lib.hid O7
    obtain ⟨p0, p1⟩ := blk2 K7.out
    obtain ⟨q0, q1⟩ := blk2 k7.out
    have f7 := blk_frozen k7.out
    by_cases hr : 0 < rs.length
    · obtain ⟨e2, hsz, hex⟩ := rest_R HP.out hr
      obtain ⟨n1, hn⟩ : ∃ n1, rs.length - 1 = n1 := ⟨_, rfl⟩
      rw [hn] at e2 hsz hex
      have HL2 := Lib.hid (light_takeR HL.out n1)
      obtain ⟨T, hT⟩ : ∃ T, T = printP ms (rs.take n1) := ⟨_, rfl⟩
      rw [← hT] at hsz hex
      have HT := Lib.hid hT
      have E2 := Lib.hid e2
      have hex2 : (((printP ms rs).extract 0 T.size).toList == T.toList) = true := by simpa using hex
      clear hT e2 hex
      have hwr : IntKind.i64.wrap ((rs.length : Int) - 1) = (n1 : Int) := by rw [IntWalk.i64_in _ (by omega)]; omega
      obtain ⟨i0, hi0, _⟩ := info_parts P.info59
      have hcut := cut_to (P := Tryz.prog) 23 59 .i64 Tryz.underlying23 hi0 A1 rs.length c1 (n1 : Int) (by omega) (by omega) hc1
      rw [Int.toNat_natCast] at hcut
      have hC1 := Kd.C_take (m := n1) (Kd.C_below h1 (below_drew1 B7.out)) (by omega)
      rw [List.length_take, Nat.min_eq_left (by omega)] at hC1
      have hC1 := Lib.hid hC1
      have hn := Lib.hid hn
      go_upto_region 11 with (fail)
      refine pl_start 12 ((0, 0) :: (2, 0) :: (4, 0) :: (1, 1) :: (3, 1) :: (5, 1) :: (6, 0) :: (7, 0) :: (8, 0) :: (9, 2) :: (10, 0) :: (11, 6) :: []) (fun w' => w'.cell? ⟨g7, 1, none⟩ = some (.slice (some ⟨w6.heap.size, 0, none⟩) 0 0) ∧ w'.cell? ⟨w.heap.size, 1, none⟩ = some (.slice A1 rs.length c1)) [11] ⟨q1, p1⟩ (fun hs => ?_)
      have B8 := Lib.hid (below_drew1 B7.out)
      have k8 := Lib.hid (blk_drew k7.out)
      have K8 := Lib.hid (blk_drew K7.out)
      have O8 := Lib.hid (Kd.R_drew O7.out)
      clear p0 p1 q0 q1 f7
      generalize W7.drew = W8 at *
      repeat (first | refine pl_pure ?_ | refine pl_load hs ?_)
      refine plan_one (by simp only [List.getElem?_toArray, List.getElem?_cons_zero, List.getElem?_cons_succ]; rfl) (fun K hK => ?_)
      refine Kd.R_append_rows_step P.k59 (w0 := w) w.heap.size (by rfl) (.tmp 54) (.tmp 61) 23 59 (.agg #[(.string ⟨#[]⟩), (.string ⟨#[]⟩), (.string ⟨#[]⟩), (.string ⟨#[]⟩)]) 64 rfl Tryz.underlying23 P.info59 rfl (by decide) (by omega) (.slice (some ⟨w6.heap.size, 0, none⟩) 0 0) [] (rs.take n1) _ _ _ (fun _ => True) (fun _ => False) rfl rfl O8.out hC1.out (fun _ _ h => h) (fun _ h => h.elim) (fun _ _ => trivial) B8.out B8.out.size (by simp; have := hn.out; omega) ?_
      intro v1 w9 ho hb9 hg9 _
      rw [List.nil_append] at ho
      obtain ⟨Ao, co, rfl⟩ := Kd.R_slice ho
      have ln : (rs.take n1).length = n1 := by rw [List.length_take]; have := hn.out; omega
      rw [ln] at ho ⊢
      have k9 := Lib.hid (blk_grown k8.out hg9 (Kd.R_ne O8.out k8.out (by decide)))
      have K9 := Lib.hid (blk_grown K8.out hg9 (Kd.R_ne O8.out K8.out (by decide)))
      have hs9 := (blk2 k9.out).2
      have hp9 := (blk2 K9.out).2
      have f9 := blk_frozen k9.out 1
      refine (show ∀ a' w', _ from hK) _ _ ⟨hs9, hp9⟩ (fun hs => ?_)
      refine pl_norm ?_
      refine pl_pure ?_
      refine plan_last (by simp only [List.getElem?_toArray, List.getElem?_cons_zero, List.getElem?_cons_succ]; rfl) (fun K hK => ?_)
      refine skip_ (w1 := w9.setCell ⟨g7, 1, none⟩ (.slice Ao n1 co)) (by rfl) rfl (by first | (go_simp; done) | (go_simp; rfl)) ?_
      refine (show ∀ a' w', _ from hK) _ _ ?_
      refine plan_done ?_
      have hR := Kd.R_mono (Kd.R_far (p := ⟨g7, 1, none⟩) (Kd.R_types ho k9.out (by decide)) (fun _ hk => hk.2) (.slice Ao n1 co)) (fun _ hk => hk.1)
      have k10 := blk_put k9.out 1 (.slice Ao n1 co) (cs' := #[.slice A0 ms.length c0, .slice Ao n1 co]) rfl
      have B10 := Lib.hid (below_set (j := 1) (v := .slice Ao n1 co) hb9 gle)
      obtain ⟨hx, lo, go⟩ := Kd.R_reads' hR
      clear hx
      have go := Lib.hid go
      obtain ⟨q0, q1⟩ := blk2 k10
      clear k10 hR ho hs9 hp9 f9 hb9 hg9 hs
      generalize w9.setCell ⟨g7, 1, none⟩ (.slice Ao n1 co) = w10 at *
      have hpr := print_light A0 Ao c0 co ms (rs.take n1) w10 HL2.out (Kd.C_below h0 B10.out) hc0 go.out (by rw [ln]; exact lo)
      rw [ln, ← HT.out, E2.out] at hpr
      have HPR := Lib.hid hpr
      clear hpr ln lo hwr hcut hi0 ee he gne
      go_wp2_with (go_at_call 10; (with_reducible refine HPR.out.mono ?_); rintro e w11 ⟨rfl, hb11⟩)
      go_ret
      exact ⟨by first | rfl | rw [hex2], below_step B10.out hb11⟩
    · obtain rfl : rs = [] := List.length_eq_zero_iff.mp (by omega)
      have hm : 0 < ms.length := by simp at hz; exact List.length_pos_iff.2 hz
      obtain ⟨e2, hsz, hex⟩ := rest_M HP.out hm
      obtain ⟨n1, hn⟩ : ∃ n1, ms.length - 1 = n1 := ⟨_, rfl⟩
      rw [hn] at e2 hsz hex
      have HL2 := Lib.hid (light_takeM HL.out n1)
      obtain ⟨T, hT⟩ : ∃ T, T = printP (ms.take n1) [] := ⟨_, rfl⟩
      rw [← hT] at hsz hex
      have HT := Lib.hid hT
      have E2 := Lib.hid e2
      have hex2 : (((printP ms []).extract 0 T.size).toList == T.toList) = true := by simpa using hex
      clear hT e2 hex
      have hwr : IntKind.i64.wrap ((ms.length : Int) - 1) = (n1 : Int) := by rw [IntWalk.i64_in _ (by omega)]; omega
      obtain ⟨i0, hi0, _⟩ := info_parts P.info41
      have hcut := cut_to (P := Tryz.prog) 22 41 .i64 Tryz.underlying22 hi0 A0 ms.length c0 (n1 : Int) (by omega) (by omega) hc0
      rw [Int.toNat_natCast] at hcut
      have hC1 := Kd.C_take (m := n1) h0 (by omega)
      have ln : (ms.take n1).length = n1 := by rw [List.length_take]; omega
      have hC1 := Lib.hid hC1
      have hn := Lib.hid hn
      go_upto_region 13 with (fail)
      have k10 := blk_put k7.out 0 (.slice A0 n1 c0) (cs' := #[.slice A0 n1 c0, .slice (some ⟨w6.heap.size, 0, none⟩) 0 0]) rfl
      have B10 := Lib.hid (below_set (j := 0) (v := .slice A0 n1 c0) B7.out gle)
      obtain ⟨q0', q1'⟩ := blk2 k10
      clear k10 q0 q1 p0 p1 f7
      generalize W7.setCell ⟨g7, 0, none⟩ (.slice A0 n1 c0) = w10 at *
      have hpr := print_light A0 (some ⟨w6.heap.size, 0, none⟩) c0 0 (ms.take n1) [] w10 HL2.out (Kd.C_below hC1.out B10.out) (by rw [ln]; have := hn.out; omega) (⟨rfl, by simp, fun h => absurd h (Nat.lt_irrefl 0)⟩ : Kd.C P.k59 w10 (some _) 0 ([] : List SR)) (Nat.le_refl _)
      rw [ln, ← HT.out, E2.out, List.length_nil] at hpr
      have HPR := Lib.hid hpr
      clear hpr ln hwr hcut hi0 ee he gne
      go_wp2_with (go_at_call 10; (with_reducible refine HPR.out.mono ?_); rintro e w11 ⟨rfl, hb11⟩)
      go_ret
      exact ⟨by first | rfl | rw [hex2], below_step B10.out hb11⟩
end Go.Proofs.YtcdcpcdfcmokkaaGreatDoor
end
