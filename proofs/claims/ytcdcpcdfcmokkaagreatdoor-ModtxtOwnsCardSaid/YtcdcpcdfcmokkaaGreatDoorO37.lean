/- The law ModtxtOwns by hand: it says true. · An argument that is a list (a struct of two slices of structs), opened. -/
import Derived.Test.YtcdcpcdfcmokkaaGreatDoorO36
import Derived.WalkSpells
import Derived.Outline
import Derived.Deep.DeepCutAuto
import Derived.Deep.RegionHeld3
import Derived.Test.YtcdcpcdfcmokkaaGreatDoorO31
import Derived.ChangeArms
import Derived.ChangeSlices
import Derived.SliceStrings
set_option linter.unusedVariables false
set_option linter.unusedSimpArgs false
section
namespace Go.Proofs.YtcdcpcdfcmokkaaGreatDoor
open Go Go.RowKit Go.Proofs.YtcdcpcdfcmokkaaGreatDoorW.PrintWords Go.Proofs.YtcdcpcdfcmokkaaGreatDoorW.PrintLast Go.Proofs.YtcdcpcdfcmokkaaGreatDoorW.PrintMore
set_option linter.unusedVariables false
set_option linter.unusedSimpArgs false
set_option maxRecDepth 100000 in
theorem field_mods (A B : Option Addr) (n c m d : Nat) (w : World) : Sem.run Tryz.prog (Instr.field 35 (.agg #[.slice A n c, .slice B m d]) 0) w = .ok (.slice A n c) w := by
  kernel_rfl
attribute [local go_sem] field_mods
set_option maxHeartbeats 8000000 in
set_option maxRecDepth 100000 in
theorem owns_any (A0 A1 : Option Addr) (c0 c1 : Nat) (ms : List SM) (rs : List SR) (s : ByteArray) (w : World) (h0 : Kd.C P.k41 w A0 ms.length ms) (hc0 : ms.length ≤ c0) (h1 : Kd.C P.k59 w A1 rs.length rs) (hc1 : rs.length ≤ c1) :
    Calls Tryz.prog 5 #[.agg #[.slice A0 ms.length c0, .slice A1 rs.length c1], .string s] w fun e w' => e = .returned (.bool true) ∧ Below w.heap.size w w' := by
  have K0 := Lib.hid (blk_new w (.cells #[.slice A0 ms.length c0, .slice A1 rs.length c1] 25))
  have B0 := Lib.hid (below_alloc (Below.refl _ w) (.cells #[.slice A0 ms.length c0, .slice A1 rs.length c1] 25))
  go_enter Tryz.func5, Tryz.ntmps5
  go_upto_region 1 with (fail)
  obtain ⟨p0, p1⟩ := blk2 K0.out
  generalize w.alloc (.cells #[.slice A0 ms.length c0, .slice A1 rs.length c1] 25) = W at *
  go_wp2_with fail
  refine (heavy_any A0 A1 c0 c1 ms rs W (Kd.C_below h0 B0.out) (Kd.C_below h1 B0.out)).mono ?_
  rintro e w2 ⟨b, rfl, hL, hb2⟩
  clear p0 p1
  have K2 := Lib.hid (blk_at K0.out hb2)
  have B2 := Lib.hid (below_step B0.out hb2)
  obtain ⟨p0, p1⟩ := blk2 K2.out
  clear hb2 K0 B0
  cases b with
  | true =>
    clear hL
    go_wp2_with (go_at_call 9; (with_reducible refine (shown_any _).mono ?_); rintro e w3 ⟨rfl, hb3⟩)
    go_ret
    exact ⟨rfl, below_step B2.out hb3⟩
  | false =>
  by_cases hq : 200 < s.size
  · clear hL
    go_wp2_with (go_at_call 9; (with_reducible refine (shown_any _).mono ?_); rintro e w3 ⟨rfl, hb3⟩)
    go_ret
    exact ⟨rfl, below_step B2.out hb3⟩
  have HL := Lib.hid (hL rfl)
  clear hL
  have lm := HL.out.1
  have lr := HL.out.2.1
  have tl := Lib.hid (textL_light HL.out)
  have ee : (listErr ms rs != listErr ms rs) = false := by simp
  obtain ⟨M, HM⟩ : ∃ m, Hid (m = (ownS s ms).1) := ⟨_, rfl⟩
  obtain ⟨I, HI⟩ : ∃ b, Hid (b = (ownS s ms).2) := ⟨_, rfl⟩
  have lo : LightM M := by rw [HM.out]; exact own_light s HL.out
  have sl := Lib.hid (fun m hm => Nat.le_trans (HL.out.2.2.1 m hm).1 (show (20 : Nat) ≤ 1048576 by decide))
  go_upto_region 4 with (first | (go_at_call 9; (with_reducible refine (shown_any _).mono ?_); rintro e w3 ⟨rfl, hb3⟩; have B3 := Lib.hid (below_step B2.out hb3); replace p0 := pw_cell_below hb3 p0; replace p1 := pw_cell_below hb3 p1; have K3 := Lib.hid (blk_at K2.out hb3); clear hb3) | (go_at_call 13; have hq := owner_any A0 A1 c0 c1 ms rs s w3 (Kd.C_below h0 B3.out) (by omega) sl.out; rw [← HM.out, ← HI.out] at hq; unfold modA at hq; (with_reducible refine hq.mono ?_); rintro e w4 ⟨A, c, rfl, lc, gc, hb4⟩; have B4 := Lib.hid (below_step B3.out hb4); have K4 := Lib.hid (blk_at K3.out hb4); have gc := Lib.hid gc; clear hb4 p0 p1))
  have k5 := Lib.hid (blk_new w4 (.cells #[.string M.f0.f0, .string M.f0.f1, .bool M.f1, .string M.f2, .string M.f3.f0, .string M.f3.f1, .slice A M.f4.length c] 41))
  have K5 := Lib.hid (blk_alloc K4.out (.cells #[.string M.f0.f0, .string M.f0.f1, .bool M.f1, .string M.f2, .string M.f3.f0, .string M.f3.f1, .slice A M.f4.length c] 41))
  have B5 := Lib.hid (below_alloc B4.out (.cells #[.string M.f0.f0, .string M.f0.f1, .bool M.f1, .string M.f2, .string M.f3.f0, .string M.f3.f1, .slice A M.f4.length c] 41))
  have G5 := Lib.hid (Kd.C_alloc gc.out (.cells #[.string M.f0.f0, .string M.f0.f1, .bool M.f1, .string M.f2, .string M.f3.f0, .string M.f3.f1, .slice A M.f4.length c] 41))
  generalize w4.alloc (.cells #[.string M.f0.f0, .string M.f0.f1, .bool M.f1, .string M.f2, .string M.f3.f0, .string M.f3.f1, .slice A M.f4.length c] 41) = W5 at *
  generalize w4.heap.size = gm at *
  obtain ⟨p0, p1⟩ := blk2 K5.out
  go_upto_region 5 with (first | (go_at_call 12; (with_reducible refine (theirs_any A0 A1 c0 c1 ms rs _ lm lr (Kd.C_below h0 B5.out) hc0 (Kd.C_below h1 B5.out) hc1).mono ?_); rintro e w6 ⟨E0, d0, E1, d1, rfl, l0, g0, l1, g1, hb6⟩; have B6 := Lib.hid (below_step B5.out hb6); have K6 := Lib.hid (blk_at K5.out hb6); have k6 := Lib.hid (blk_at k5.out hb6); have G6 := Lib.hid (Kd.C_below G5.out hb6); clear hb6 p0 p1) | (go_at_call 14; have hq := rowner_light E0 E1 d0 d1 rs.length ms s w6 HL.out g0; rw [← HM.out, ← HI.out] at hq; unfold modA at hq; (with_reducible refine hq.mono ?_); rintro e w7 ⟨A', c', rfl, lc', gc', hb7⟩; have B7 := Lib.hid (below_step B6.out hb7); have K7 := Lib.hid (blk_at K6.out hb7); have k7 := Lib.hid (blk_at k6.out hb7); have G7 := Lib.hid (Kd.C_below G6.out hb7); have gc' := Lib.hid gc'; clear hb7))
  have kn := Lib.hid (blk_new w7 (.cells #[.string M.f0.f0, .string M.f0.f1, .bool M.f1, .string M.f2, .string M.f3.f0, .string M.f3.f1, .slice A' M.f4.length c'] 45))
  have K8 := Lib.hid (blk_alloc K7.out (.cells #[.string M.f0.f0, .string M.f0.f1, .bool M.f1, .string M.f2, .string M.f3.f0, .string M.f3.f1, .slice A' M.f4.length c'] 45))
  have k8 := Lib.hid (blk_alloc k7.out (.cells #[.string M.f0.f0, .string M.f0.f1, .bool M.f1, .string M.f2, .string M.f3.f0, .string M.f3.f1, .slice A' M.f4.length c'] 45))
  have B8 := Lib.hid (below_alloc B7.out (.cells #[.string M.f0.f0, .string M.f0.f1, .bool M.f1, .string M.f2, .string M.f3.f0, .string M.f3.f1, .slice A' M.f4.length c'] 45))
  have G8 := Lib.hid (Kd.C_alloc G7.out (.cells #[.string M.f0.f0, .string M.f0.f1, .bool M.f1, .string M.f2, .string M.f3.f0, .string M.f3.f1, .slice A' M.f4.length c'] 45))
  have N8 := Lib.hid (Kd.C_alloc gc'.out (.cells #[.string M.f0.f0, .string M.f0.f1, .bool M.f1, .string M.f2, .string M.f3.f0, .string M.f3.f1, .slice A' M.f4.length c'] 45))
  generalize w7.alloc (.cells #[.string M.f0.f0, .string M.f0.f1, .bool M.f1, .string M.f2, .string M.f3.f0, .string M.f3.f1, .slice A' M.f4.length c'] 45) = W8 at *
  generalize w7.heap.size = gn at *
  obtain ⟨f0, f1, f2, f3, f4, f5, f6⟩ := blk7 k8.out
  go_upto_region 6 with (fail)
  have kx := blk_new (W8.alloc (.cells #[.string M.f0.f0, .string M.f0.f1, .bool M.f1, .string M.f2, .string M.f3.f0, .string M.f3.f1, .slice A M.f4.length c] 41)) (.cells #[.slice (some ⟨W8.heap.size, 0, none⟩) 1 1, .slice none 0 0] 25)
  rw [World.size_alloc] at kx
  have kx := Lib.hid kx
  have kn := Lib.hid (blk_alloc (blk_alloc kn.out (.cells #[.string M.f0.f0, .string M.f0.f1, .bool M.f1, .string M.f2, .string M.f3.f0, .string M.f3.f1, .slice A M.f4.length c] 41)) (.cells #[.slice (some ⟨W8.heap.size, 0, none⟩) 1 1, .slice none 0 0] 25))
  have K10 := Lib.hid (blk_alloc (blk_alloc K8.out (.cells #[.string M.f0.f0, .string M.f0.f1, .bool M.f1, .string M.f2, .string M.f3.f0, .string M.f3.f1, .slice A M.f4.length c] 41)) (.cells #[.slice (some ⟨W8.heap.size, 0, none⟩) 1 1, .slice none 0 0] 25))
  have B10 := Lib.hid (below_alloc (below_alloc B8.out (.cells #[.string M.f0.f0, .string M.f0.f1, .bool M.f1, .string M.f2, .string M.f3.f0, .string M.f3.f1, .slice A M.f4.length c] 41)) (.cells #[.slice (some ⟨W8.heap.size, 0, none⟩) 1 1, .slice none 0 0] 25))
  have N10 := Lib.hid (Kd.C_alloc (Kd.C_alloc N8.out (.cells #[.string M.f0.f0, .string M.f0.f1, .bool M.f1, .string M.f2, .string M.f3.f0, .string M.f3.f1, .slice A M.f4.length c] 41)) (.cells #[.slice (some ⟨W8.heap.size, 0, none⟩) 1 1, .slice none 0 0] 25))
  have O10 := Lib.hid (Kd.C_alloc (one_modC (blk_new W8 (.cells #[.string M.f0.f0, .string M.f0.f1, .bool M.f1, .string M.f2, .string M.f3.f0, .string M.f3.f1, .slice A M.f4.length c] 41)) lc (Kd.C_alloc G8.out (.cells #[.string M.f0.f0, .string M.f0.f1, .bool M.f1, .string M.f2, .string M.f3.f0, .string M.f3.f1, .slice A M.f4.length c] 41))) (.cells #[.slice (some ⟨W8.heap.size, 0, none⟩) 1 1, .slice none 0 0] 25))
  generalize (W8.alloc (.cells #[.string M.f0.f0, .string M.f0.f1, .bool M.f1, .string M.f2, .string M.f3.f0, .string M.f3.f1, .slice A M.f4.length c] 41)).alloc (.cells #[.slice (some ⟨W8.heap.size, 0, none⟩) 1 1, .slice none 0 0] 25) = W10 at *
  generalize W8.heap.size = g8 at *
  clear f0 f1 f2 f3 f4 f5 f6
  have hI : (I != I) = false := by simp
  obtain ⟨x0, x1⟩ := blk2 kx.out
  obtain ⟨y0, y1, y2, y3, y4, y5, y6⟩ := blk7 kn.out
  have lo1 : M.f4.length ≤ 20 := by
    have q := lo
    unfold LightM at q
    exact q.1
  refine pl_start 13 ((0, 0) :: (1, 0) :: (2, 0) :: (3, 0) :: (4, 1) :: (9, 1) :: (5, 2) :: (6, 0) :: (7, 0) :: (8, 2) :: (10, 2) :: (11, 0) :: (12, 0) :: []) (fun w' => w'.cell? ⟨g8 + 1, 0, none⟩ = some (.slice (some ⟨g8, 0, none⟩) 1 1) ∧ w'.cell? ⟨g8 + 1, 1, none⟩ = some (.slice none 0 0) ∧ w'.cell? ⟨gn, 0, none⟩ = some (.string M.f0.f0) ∧ w'.cell? ⟨gn, 1, none⟩ = some (.string M.f0.f1) ∧ w'.cell? ⟨gn, 2, none⟩ = some (.bool M.f1) ∧ w'.cell? ⟨gn, 3, none⟩ = some (.string M.f2) ∧ w'.cell? ⟨gn, 4, none⟩ = some (.string M.f3.f0) ∧ w'.cell? ⟨gn, 5, none⟩ = some (.string M.f3.f1) ∧ w'.cell? ⟨gn, 6, none⟩ = some (.slice A' M.f4.length c')) [] ⟨x0, x1, y0, y1, y2, y3, y4, y5, y6⟩ (fun hs => ?_)
  repeat (first | refine pl_pure ?_ | refine pl_load hs ?_)
  refine pl_call #[.agg #[.slice (some ⟨g8, 0, none⟩) 1 1, .slice none 0 0]] Tryz.func12 ?_
  (with_reducible refine (theirs_one (some ⟨g8, 0, none⟩) 1 M W10.drew (Kd.C_below O10.out (below_drew1 (Below.refl _ _))) (Nat.le_refl 1)).mono ?_)
  rintro e w2x ⟨ad, d2, B1x, d3, A6, c6, rfl, e0, e1, e2, e3, e4, e5, e6, g6, hbx⟩
  have B2x := Lib.hid (below_step (below_drew1 B10.out) hbx)
  have K2x := Lib.hid (blk_at (blk_at K10.out (below_drew1 (Below.refl _ _))) hbx)
  have N2x := Lib.hid (Kd.C_below (Kd.C_below N10.out (below_drew1 (Below.refl _ _))) hbx)
  have S2x : w2x.cell? ⟨g8 + 1, 0, none⟩ = some (.slice (some ⟨g8, 0, none⟩) 1 1) ∧ w2x.cell? ⟨g8 + 1, 1, none⟩ = some (.slice none 0 0) ∧ w2x.cell? ⟨gn, 0, none⟩ = some (.string M.f0.f0) ∧ w2x.cell? ⟨gn, 1, none⟩ = some (.string M.f0.f1) ∧ w2x.cell? ⟨gn, 2, none⟩ = some (.bool M.f1) ∧ w2x.cell? ⟨gn, 3, none⟩ = some (.string M.f2) ∧ w2x.cell? ⟨gn, 4, none⟩ = some (.string M.f3.f0) ∧ w2x.cell? ⟨gn, 5, none⟩ = some (.string M.f3.f1) ∧ w2x.cell? ⟨gn, 6, none⟩ = some (.slice A' M.f4.length c') :=
    ⟨pw_cell_below hbx x0, pw_cell_below hbx x1, pw_cell_below hbx y0, pw_cell_below hbx y1, pw_cell_below hbx y2, pw_cell_below hbx y3, pw_cell_below hbx y4, pw_cell_below hbx y5, pw_cell_below hbx y6⟩
  refine ⟨_, rfl, S2x, fun hs => ?_⟩
  refine pl_norm ?_
  refine pl_pure ?_
  refine pl_pure ?_
  refine plan_one rfl (fun K hK => ?_)
  rw [if_pos (by rfl)]
  go_simp
  refine (show ∀ a' w', _ from hK) _ _ S2x (fun hs => ?_)
  have HQ2 : OwnQ w (.cells #[.slice A0 ms.length c0, .slice A1 rs.length c1] 25 (0, 0)) A' M.f4 w2x := by
    unfold OwnQ
    exact ⟨B2x.out, K2x.out, N2x.out⟩
  refine pl_call #[.agg #[.string M.f0.f0, .string M.f0.f1, .bool M.f1, .string M.f2, .string M.f3.f0, .string M.f3.f1, .slice A6 M.f4.length c6], .agg #[.string M.f0.f0, .string M.f0.f1, .bool M.f1, .string M.f2, .string M.f3.f0, .string M.f3.f1, .slice A' M.f4.length c']] Tryz.func15 ?_
  (with_reducible refine (alike_held A' A6 c' c6 M HQ2 g6.out lo1).mono ?_)
  rintro e w3x ⟨rfl, hby⟩
  have S3x : w3x.cell? ⟨g8 + 1, 0, none⟩ = some (.slice (some ⟨g8, 0, none⟩) 1 1) ∧ w3x.cell? ⟨g8 + 1, 1, none⟩ = some (.slice none 0 0) ∧ w3x.cell? ⟨gn, 0, none⟩ = some (.string M.f0.f0) ∧ w3x.cell? ⟨gn, 1, none⟩ = some (.string M.f0.f1) ∧ w3x.cell? ⟨gn, 2, none⟩ = some (.bool M.f1) ∧ w3x.cell? ⟨gn, 3, none⟩ = some (.string M.f2) ∧ w3x.cell? ⟨gn, 4, none⟩ = some (.string M.f3.f0) ∧ w3x.cell? ⟨gn, 5, none⟩ = some (.string M.f3.f1) ∧ w3x.cell? ⟨gn, 6, none⟩ = some (.slice A' M.f4.length c') :=
    ⟨pw_cell_below hby S2x.1, pw_cell_below hby S2x.2.1, pw_cell_below hby S2x.2.2.1, pw_cell_below hby S2x.2.2.2.1, pw_cell_below hby S2x.2.2.2.2.1, pw_cell_below hby S2x.2.2.2.2.2.1, pw_cell_below hby S2x.2.2.2.2.2.2.1, pw_cell_below hby S2x.2.2.2.2.2.2.2.1, pw_cell_below hby S2x.2.2.2.2.2.2.2.2⟩
  refine ⟨_, rfl, S3x, fun hs => ?_⟩
  refine pl_norm ?_
  repeat (first | refine pl_pure ?_ | refine pl_load hs ?_)
  refine plan_done ?_
  have B11 := Lib.hid (below_step B2x.out hby)
  have K11 := Lib.hid (blk_at K2x.out hby)
  clear HQ2 S2x S3x e0 e1 e2 e3 e4 e5 e6
  clear x0 x1 y0 y1 y2 y3 y4 y5 y6 kx kn K10 B10 N10 O10
  obtain ⟨p0, p1⟩ := blk2 K11.out
  cases hb0 : listB ms rs with
  | false =>
    have he : listErr ms rs = 190 := listErr_bad hb0
    go_wp2_with (first | (go_at_call 16; have hz := check_light A0 A1 c0 c1 ms rs _ HL.out (Kd.C_below h0 B11.out) hc0 (Kd.C_below h1 B11.out) hc1; rw [he] at hz; (with_reducible refine hz.mono ?_); clear hz; rintro e w12 ⟨rfl, hb12⟩; have B12 := Lib.hid (below_step B11.out hb12); replace p0 := pw_cell_below hb12 p0; replace p1 := pw_cell_below hb12 p1; clear hb12) | (go_at_call 12; (with_reducible refine (theirs_any A0 A1 c0 c1 ms rs _ lm lr (Kd.C_below h0 B12.out) hc0 (Kd.C_below h1 B12.out) hc1).mono ?_); rintro e w13 ⟨F0, t0, F1, t1, rfl, m0, u0, m1, u1, hb13⟩; have B13 := Lib.hid (below_step B12.out hb13); clear hb13) | (go_at_call 17; have hz := rcheck_light F0 F1 t0 t1 ms rs _ HL.out u0 m0 u1 m1; rw [he] at hz; (with_reducible refine hz.mono ?_); clear hz; rintro e w14 ⟨rfl, hb14⟩))
    go_ret
    exact ⟨by first | rfl | trivial, below_step B13.out hb14⟩
  | true =>
  have he : listErr ms rs = 0 := if_pos hb0
  have HP := Lib.hid hb0
  clear hb0
  go_upto_region 12 with (go_at_call 16; have hz := check_light A0 A1 c0 c1 ms rs _ HL.out (Kd.C_below h0 B11.out) hc0 (Kd.C_below h1 B11.out) hc1; rw [he] at hz; (with_reducible refine hz.mono ?_); clear hz; rintro e w12 ⟨rfl, hb12⟩; have B12 := Lib.hid (below_step B11.out hb12); have K12 := Lib.hid (blk_at K11.out hb12); clear hb12 p0 p1)
  go_loopw [10, 11] (fun n i wr => ∃ k N : Nat, k ≤ ms.length ∧ i = .int .i64 k ∧ n = .int .i64 N ∧ Hid (N = cntB s (metB ms k)) ∧ N ≤ 1 ∧ wr = w12) (fun n i wr => ms.length - (intOf i).toNat)
  case atStart => exact ⟨0, 0, Nat.zero_le _, rfl, rfl, Lib.hid rfl, Nat.zero_le _, rfl⟩
  case round =>
    obtain ⟨k, N, hk, rfl, rfl, HN, hN1, rfl⟩ := hrel
    obtain ⟨w12, rfl⟩ : ∃ wo : World, wo = wr := ⟨_, rfl⟩
    obtain ⟨p0, p1⟩ := blk2 K12.out
    by_cases hlt : k < ms.length
    · obtain ⟨m, Hm⟩ : ∃ m, Hid (ms.getD k zM = m) := ⟨_, rfl⟩
      obtain ⟨ad, A6, c6, hA, e0, e1, e2, e3, e4, e5, e6, l6, g6⟩ := mod_at (Kd.C_below h0 B12.out) hlt Hm.out
      subst hA
      have lp : m.f4.length ≤ 1048576 := sl.out m (by rw [← Hm.out, List.getD_eq_getElem?_getD, List.getElem?_eq_getElem hlt]; exact List.getElem_mem hlt)
      have g6 := Lib.hid g6
      clear e0 e1 e2 e3 e4 e5
      go_wp2
      go_loopw [10, 12] (fun n j wr => ∃ q R : Nat, q ≤ m.f4.length ∧ j = .int .i64 q ∧ n = .int .i64 R ∧ Hid (R = cntB s (metB ms k ++ m.f4.take q)) ∧ R ≤ 1 ∧ wr = w12) (fun n j wr => m.f4.length - (intOf j).toNat)
      case atStart => exact ⟨0, N, Nat.zero_le _, rfl, rfl, Lib.hid (by rw [HN.out, List.take_zero, List.append_nil]), hN1, rfl⟩
      case round =>
        obtain ⟨q, R, hq, rfl, rfl, HR, hR1, rfl⟩ := hrel
        obtain ⟨w12, rfl⟩ : ∃ wo : World, wo = wr := ⟨_, rfl⟩
        by_cases hql : q < m.f4.length
        · obtain ⟨x, Hx⟩ : ∃ x, Hid (m.f4.getD q emp = x) := ⟨_, rfl⟩
          obtain ⟨ax, e7, cx⟩ := strC_cell g6.out hql
          subst e7
          rw [Hx.out] at cx
          cases t1 : (x.toList == s.toList) with
          | true =>
            have hR2 : R + 1 = cntB s (metB ms k ++ m.f4.take (q + 1)) := by rw [cnt_next hql Hx.out, t1, HR.out]; rfl
            have hR3 : R + 1 ≤ 1 := by rw [hR2]; exact cnt_here s HP.out hlt Hm.out hql
            have HR2 := Lib.hid hR2
            clear hR2
            go_wp2
            go_roundw
            case rel => exact ⟨q + 1, R + 1, by omega, by go_num, by go_num, HR2, hR3, by first | rfl | trivial⟩
            case measure => simp [intOf]; omega
          | false =>
            have HR2 := Lib.hid (show R = cntB s (metB ms k ++ m.f4.take (q + 1)) by rw [cnt_next hql Hx.out, t1, HR.out]; rfl)
            go_wp2
            go_roundw
            case rel => exact ⟨q + 1, R, by omega, by go_num, by first | rfl | go_num, HR2, hR1, by first | rfl | trivial⟩
            case measure => simp [intOf]; omega
        · obtain rfl : q = m.f4.length := by omega
          have HR2 := Lib.hid (show R = cntB s (metB ms (k + 1)) by rw [HR.out, cnt_row hlt Hm.out])
          go_wp2
          refine ⟨⟨k + 1, R, by omega, by go_num, by first | rfl | go_num, HR2, hR1, by first | rfl | trivial⟩, by simp [intOf]; omega⟩
    · obtain rfl : k = ms.length := by omega
      have hI2 : (((N : Nat) : Int) == 1) = I := by rw [HI.out, HN.out]; exact (cnt_is s HP.out).2
      rcases (by omega : N = 0 ∨ N = 1) with rfl | rfl
      · have hI3 : I = false := by rw [← hI2]; rfl
        clear hI2
        subst hI3
        go_wp2
        go_ret
        exact ⟨by first | rfl | trivial, B12.out⟩
      · have hI3 : I = true := by rw [← hI2]; rfl
        clear hI2
        subst hI3
        go_wp2
        go_ret
        exact ⟨by first | rfl | trivial, B12.out⟩
end Go.Proofs.YtcdcpcdfcmokkaaGreatDoor
end
section
namespace Go.Proofs.YtcdcpcdfcmokkaaGreatDoor
open Go Go.RowKit Go.ChangeShapes Go.WideShapes Go.Proofs.YtcdcpcdfcmokkaaGreatDoorW.PrintWords
set_option linter.unusedVariables false
section
variable {H : Type} {enc : TypeId × Value → H} {W : World} {base : Nat} {spare : Nat → Bool} {held : Bool}
def Opens {α : Type} (enc : TypeId × Value → H) (W : World) (base : Nat) (spare : Nat → Bool) (held : Bool) (t : TypeId) (d : Kd α) : Prop :=
  ∀ (fuel : Nat) (cs : List Value) (x : DataW H × List MemPlace), DataW.trod enc Tryz.prog W base spare held fuel t cs = some x → ∃ v, d.K W v cs
theorem opens_string : Opens enc W base spare held 9 Kd.string := fun fuel cs x h => by
  obtain ⟨s, rfl, _, _⟩ := DataW.trod_string Tryz.underlying9 h
  exact ⟨s, rfl⟩
theorem opens_bool : Opens enc W base spare held 4 Kd.bool := fun fuel cs x h => by
  obtain ⟨s, rfl, _⟩ := DataW.trod_bool Tryz.underlying4 h
  exact ⟨s, rfl⟩
theorem opens_slice {α : Type} {t e : TypeId} {d : Kd α} (ht : Tryz.prog.underlying t = some (.slice e)) (hc : Tryz.prog.cellsOf e = d.sz) (ho : Opens enc W base spare held e d) : Opens enc W base spare held t (Kd.slice e d) := fun fuel cs x h => by
  rcases DataW.trod_slice ht h with ⟨rfl, _⟩ | ⟨a, len, cap, elems, rest, n, _, rfl, _, _, hl, hm, hlen, hel, _, _⟩
  · exact ⟨[], none, 0, rfl, Nat.le_refl _, rfl, by simp, fun h => absurd h (by simp)⟩
  · have each : ∀ i : Fin len, ∃ v cs, d.K W v cs ∧ cs.length = d.sz ∧ ∀ j u, cs[j]? = some u → W.cell? (a.add (i.1 * d.sz + j)) = some u := fun i => by
      have h1 := hel i.1 i.2
      rw [List.getElem?_eq_getElem (by omega), Option.bind_eq_some_iff, hc] at h1
      obtain ⟨cs, h2, h3⟩ := h1
      obtain ⟨v, hv⟩ := ho _ _ _ h3
      obtain ⟨_, h4, h5⟩ := World.cells?_some h2
      refine ⟨v, cs, hv, h4, fun j u hj => ?_⟩
      have hlt : j < cs.length := (List.getElem?_eq_some_iff.mp hj).1
      rw [← Addr.add_add, h5 j (by omega), hj]
    have hcap : len ≤ 9223372036854775807 := by have : cap ≤ 9223372036854775807 := hm; omega
    refine ⟨List.ofFn fun i => (each i).choose, some a, cap, by rw [List.length_ofFn], by rw [List.length_ofFn]; exact hl, rfl, by rw [List.length_ofFn]; exact hcap, fun _ => ⟨a, rfl, fun j p hp => ?_⟩⟩
    rw [List.getElem?_ofFn] at hp
    split at hp
    · rename_i hj
      injection hp with hp
      obtain ⟨c, h1, h2, h3⟩ := (each ⟨j, hj⟩).choose_spec
      exact ⟨c, h2, hp ▸ h1, h3⟩
    · cases hp
theorem some_of_lt {β : Type} {xs : List β} {i n : Nat} (hl : xs.length = n) (hi : i < n) : ∃ y, xs[i]? = some y := ⟨xs[i], List.getElem?_eq_getElem (by omega)⟩
theorem len2 {cs : List Value} (h : cs.length = 2) : ∃ c0 c1, cs = [c0, c1] := by
  match cs, h with | [c0, c1], _ => exact ⟨c0, c1, rfl⟩
theorem len4 {cs : List Value} (h : cs.length = 4) : ∃ c0 c1 c2 c3, cs = [c0, c1, c2, c3] := by
  match cs, h with | [c0, c1, c2, c3], _ => exact ⟨c0, c1, c2, c3, rfl⟩
theorem len7 {cs : List Value} (h : cs.length = 7) : ∃ c0 c1 c2 c3 c4 c5 c6, cs = [c0, c1, c2, c3, c4, c5, c6] := by
  match cs, h with | [c0, c1, c2, c3, c4, c5, c6], _ => exact ⟨c0, c1, c2, c3, c4, c5, c6, rfl⟩
theorem opens_mod : Opens enc W base spare held 38 P.k38 := fun fuel cs x h => by
  obtain ⟨xs, n, _, _, hl, hx, hf⟩ := DataW.trod_struct Tryz.underlying38 h
  rw [show Tryz.prog.cellsOf 38 = 2 from by kernel_rfl] at hl
  obtain ⟨c0, c1, rfl⟩ := len2 hl
  obtain ⟨y0, e0⟩ := some_of_lt (i := 0) hx (by decide)
  have f0 : DataW.trod enc Tryz.prog W base spare held n 9 (List.take (Tryz.prog.cellsOf 9) (List.drop 0 [c0, c1])) = some y0 := (hf 0 _ rfl).trans e0
  clear e0
  rw [show Tryz.prog.cellsOf 9 = 1 from by kernel_rfl] at f0
  obtain ⟨v0, k0⟩ := opens_string _ _ _ f0
  obtain ⟨y1, e1⟩ := some_of_lt (i := 1) hx (by decide)
  have f1 : DataW.trod enc Tryz.prog W base spare held n 9 (List.take (Tryz.prog.cellsOf 9) (List.drop 1 [c0, c1])) = some y1 := (hf 1 _ rfl).trans e1
  clear e1
  rw [show Tryz.prog.cellsOf 9 = 1 from by kernel_rfl] at f1
  obtain ⟨v1, k1⟩ := opens_string _ _ _ f1
  exact ⟨⟨v0, v1⟩, [c0], [c1], rfl, k0, k1⟩
theorem opens_rep : Opens enc W base spare held 59 P.k59 := fun fuel cs x h => by
  obtain ⟨xs, n, _, _, hl, hx, hf⟩ := DataW.trod_struct Tryz.underlying59 h
  rw [show Tryz.prog.cellsOf 59 = 4 from by kernel_rfl] at hl
  obtain ⟨c0, c1, c2, c3, rfl⟩ := len4 hl
  obtain ⟨y0, e0⟩ := some_of_lt (i := 0) hx (by decide)
  have f0 : DataW.trod enc Tryz.prog W base spare held n 38 (List.take (Tryz.prog.cellsOf 38) (List.drop 0 [c0, c1, c2, c3])) = some y0 := (hf 0 _ rfl).trans e0
  clear e0
  rw [show Tryz.prog.cellsOf 38 = 2 from by kernel_rfl] at f0
  obtain ⟨v0, k0⟩ := opens_mod _ _ _ f0
  obtain ⟨y1, e1⟩ := some_of_lt (i := 1) hx (by decide)
  have f1 : DataW.trod enc Tryz.prog W base spare held n 38 (List.take (Tryz.prog.cellsOf 38) (List.drop 2 [c0, c1, c2, c3])) = some y1 := (hf 1 _ rfl).trans e1
  clear e1
  rw [show Tryz.prog.cellsOf 38 = 2 from by kernel_rfl] at f1
  obtain ⟨v1, k1⟩ := opens_mod _ _ _ f1
  exact ⟨⟨v0, v1⟩, [c0, c1], [c2, c3], rfl, k0, k1⟩
theorem opens_strs : Opens enc W base spare held 39 (Kd.slice 9 Kd.string) := opens_slice Tryz.underlying39 (by kernel_rfl) opens_string
theorem opens_module : Opens enc W base spare held 41 P.k41 := fun fuel cs x h => by
  obtain ⟨xs, n, _, _, hl, hx, hf⟩ := DataW.trod_struct Tryz.underlying41 h
  rw [show Tryz.prog.cellsOf 41 = 7 from by kernel_rfl] at hl
  obtain ⟨c0, c1, c2, c3, c4, c5, c6, rfl⟩ := len7 hl
  obtain ⟨y0, e0⟩ := some_of_lt (i := 0) hx (by decide)
  have f0 : DataW.trod enc Tryz.prog W base spare held n 38 (List.take (Tryz.prog.cellsOf 38) (List.drop 0 [c0, c1, c2, c3, c4, c5, c6])) = some y0 := (hf 0 _ rfl).trans e0
  clear e0
  rw [show Tryz.prog.cellsOf 38 = 2 from by kernel_rfl] at f0
  obtain ⟨v0, k0⟩ := opens_mod _ _ _ f0
  obtain ⟨y1, e1⟩ := some_of_lt (i := 1) hx (by decide)
  have f1 : DataW.trod enc Tryz.prog W base spare held n 4 (List.take (Tryz.prog.cellsOf 4) (List.drop 2 [c0, c1, c2, c3, c4, c5, c6])) = some y1 := (hf 1 _ rfl).trans e1
  clear e1
  rw [show Tryz.prog.cellsOf 4 = 1 from by kernel_rfl] at f1
  obtain ⟨v1, k1⟩ := opens_bool _ _ _ f1
  obtain ⟨y2, e2⟩ := some_of_lt (i := 2) hx (by decide)
  have f2 : DataW.trod enc Tryz.prog W base spare held n 9 (List.take (Tryz.prog.cellsOf 9) (List.drop 3 [c0, c1, c2, c3, c4, c5, c6])) = some y2 := (hf 2 _ rfl).trans e2
  clear e2
  rw [show Tryz.prog.cellsOf 9 = 1 from by kernel_rfl] at f2
  obtain ⟨v2, k2⟩ := opens_string _ _ _ f2
  obtain ⟨y3, e3⟩ := some_of_lt (i := 3) hx (by decide)
  have f3 : DataW.trod enc Tryz.prog W base spare held n 38 (List.take (Tryz.prog.cellsOf 38) (List.drop 4 [c0, c1, c2, c3, c4, c5, c6])) = some y3 := (hf 3 _ rfl).trans e3
  clear e3
  rw [show Tryz.prog.cellsOf 38 = 2 from by kernel_rfl] at f3
  obtain ⟨v3, k3⟩ := opens_mod _ _ _ f3
  obtain ⟨y4, e4⟩ := some_of_lt (i := 4) hx (by decide)
  have f4 : DataW.trod enc Tryz.prog W base spare held n 39 (List.take (Tryz.prog.cellsOf 39) (List.drop 6 [c0, c1, c2, c3, c4, c5, c6])) = some y4 := (hf 4 _ rfl).trans e4
  clear e4
  rw [show Tryz.prog.cellsOf 39 = 1 from by kernel_rfl] at f4
  obtain ⟨v4, k4⟩ := opens_strs _ _ _ f4
  exact ⟨⟨v0, v1, v2, v3, v4⟩, [c0, c1], [c2, c3, c4, c5, c6], rfl, k0, [c2], [c3, c4, c5, c6], rfl, k1, [c3], [c4, c5, c6], rfl, k2, [c4, c5], [c6], rfl, k3, k4⟩
theorem opens_modules : Opens enc W base spare held 22 (Kd.slice 41 P.k41) := opens_slice Tryz.underlying22 (by kernel_rfl) opens_module
theorem opens_reps : Opens enc W base spare held 23 (Kd.slice 59 P.k59) := opens_slice Tryz.underlying23 (by kernel_rfl) opens_rep
theorem opens_list (fuel : Nat) (cs : List Value) (x : DataW H × List MemPlace) (h : DataW.trod enc Tryz.prog W base spare held fuel 25 cs = some x) :
    ∃ A0 c0 A1 c1 ms rs, cs = [.slice A0 (List.length ms) c0, .slice A1 (List.length rs) c1] ∧ ms.length ≤ c0 ∧ rs.length ≤ c1 ∧ Kd.C P.k41 W A0 ms.length ms ∧ Kd.C P.k59 W A1 rs.length rs := by
  obtain ⟨xs, n, _, _, hl, hx, hf⟩ := DataW.trod_struct Tryz.underlying25 h
  rw [show Tryz.prog.cellsOf 25 = 2 from by kernel_rfl] at hl
  obtain ⟨c0, c1, rfl⟩ := len2 hl
  obtain ⟨y0, e0⟩ := some_of_lt (i := 0) hx (by decide)
  obtain ⟨y1, e1⟩ := some_of_lt (i := 1) hx (by decide)
  have f0 : DataW.trod enc Tryz.prog W base spare held n 22 (List.take (Tryz.prog.cellsOf 22) (List.drop 0 [c0, c1])) = some y0 := (hf 0 _ rfl).trans e0
  have f1 : DataW.trod enc Tryz.prog W base spare held n 23 (List.take (Tryz.prog.cellsOf 23) (List.drop 1 [c0, c1])) = some y1 := (hf 1 _ rfl).trans e1
  rw [show Tryz.prog.cellsOf 22 = 1 from by kernel_rfl] at f0
  rw [show Tryz.prog.cellsOf 23 = 1 from by kernel_rfl] at f1
  obtain ⟨ms, A0, d0, k0, l0, g0⟩ := opens_modules _ _ _ f0
  obtain ⟨rs, A1, d1, k1, l1, g1⟩ := opens_reps _ _ _ f1
  obtain rfl : c0 = _ := (List.cons.inj k0).1
  obtain rfl : c1 = _ := (List.cons.inj k1).1
  exact ⟨A0, d0, A1, d1, ms, rs, rfl, l0, l1, g0, g1⟩
end
end Go.Proofs.YtcdcpcdfcmokkaaGreatDoor
end
