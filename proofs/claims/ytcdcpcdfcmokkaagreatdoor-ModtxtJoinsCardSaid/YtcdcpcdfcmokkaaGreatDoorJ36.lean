/- The law ModtxtJoins by hand: it says true. -/
import Derived.Test.YtcdcpcdfcmokkaaGreatDoorJ35
import Derived.WalkSpells
import Derived.Outline
import Derived.Deep.DeepCutAuto
set_option linter.unusedVariables false
set_option linter.unusedSimpArgs false
namespace Go.Proofs.YtcdcpcdfcmokkaaGreatDoor
open Go Go.RowKit Go.Proofs.YtcdcpcdfcmokkaaGreatDoorW.PrintWords Go.Proofs.YtcdcpcdfcmokkaaGreatDoorW.PrintLast Go.Proofs.YtcdcpcdfcmokkaaGreatDoorW.PrintMore
set_option linter.unusedVariables false
set_option linter.unusedSimpArgs false
theorem print_none {ms : List SM} {rs : List SR} (h : listB ms rs = false ∨ ms = [] ∧ rs = []) : (printP ms rs).toList = [] := by
  unfold printP
  rcases h with h | ⟨rfl, rfl⟩
  · rw [h]; exact toB_list []
  · split <;> exact toB_list []
theorem pk_row (W : World) (base : Nat) (hb : base ≤ W.heap.size) : Kd.R Kd.string 9 (W.alloc (.cells #[.string ⟨#[122, 122, 46, 122, 47, 112]⟩] 9)) base (fun k => k = W.heap.size) (.slice (some ⟨W.heap.size, 0, none⟩) 1 1) [zzK] :=
  ⟨fun k hk => by simpa [Value.ownBlock] using hk.symm, OwnRow.lit W base (inner := [.string zzK]) (Reps.one (show _ = _ from rfl) (Reps.none _ _)) hb (by simp)⟩
theorem row_lt {α : Type} {d : Kd α} {e base : Nat} {w : World} {ok : Nat → Prop} {v : Value} {xs : List α} (h : Kd.N d e w base ok v xs) (k : Nat) (hk : v.ownBlock = some k) : k < w.heap.size := by
  obtain ⟨_, rows, _, hr, _⟩ := h
  exact ((Kd.R_bound hr).1 k hk).2.2.1
theorem light_zz (b : Bool) : LightM (zzM b) := by cases b <;> (unfold LightM; decide)
theorem light_join {ms : List SM} {rs : List SR} (b : Bool) (h : Light ms rs) (hl : ms.length ≤ 18) : Light (ms ++ [zzM b]) rs :=
  ⟨by simp; omega, h.2.1, fun m hm => by rcases List.mem_append.mp hm with hm | hm; · exact h.2.2.1 m hm
                                         · rw [List.mem_singleton.mp hm]; exact light_zz b, h.2.2.2⟩
theorem print_size {ms : List SM} {rs : List SR} (h : Light ms rs) : (printP ms rs).size ≤ 200000 := by
  unfold printP; split
  · rw [toB_size]; exact textL_light h
  · exact Nat.zero_le _
theorem print_light0 (A0 : Option Addr) (c0 : Nat) (ms : List SM) (w : World) (h : Light ms []) (h0 : Kd.C P.k41 w A0 ms.length ms) (hc0 : ms.length ≤ c0) :
    Calls Tryz.prog 10 #[.agg #[.slice A0 ms.length c0, .slice none 0 0]] w fun e w' => e = .returned (.tuple #[.string (printP ms []), .int .i64 (listErr ms [])]) ∧ Below w.heap.size w w' :=
  print_light A0 none c0 0 ms [] w h h0 hc0 (⟨rfl, by simp, fun h => absurd h (Nat.lt_irrefl 0)⟩ : Kd.C P.k59 w none 0 ([] : List SR)) (Nat.le_refl 0)
attribute [local go_sem] str_geq
set_option maxHeartbeats 8000000 in
set_option maxRecDepth 100000 in
theorem joins_any (A0 A1 : Option Addr) (c0 c1 : Nat) (ms : List SM) (rs : List SR) (x : Bool) (w : World) (h0 : Kd.C P.k41 w A0 ms.length ms) (hc0 : ms.length ≤ c0) (h1 : Kd.C P.k59 w A1 rs.length rs) (hc1 : rs.length ≤ c1) :
    Calls Tryz.prog 4 #[.agg #[.slice A0 ms.length c0, .slice A1 rs.length c1], .bool x] w fun e w' => e = .returned (.bool true) ∧ Below w.heap.size w w' := by
  have K0 := Lib.hid (blk_new w (.cells #[.slice A0 ms.length c0, .slice A1 rs.length c1] 25))
  have B0 := Lib.hid (below_alloc (Below.refl _ w) (.cells #[.slice A0 ms.length c0, .slice A1 rs.length c1] 25))
  go_enter Tryz.func4, Tryz.ntmps4
  go_upto_region 1 with (fail)
  obtain ⟨p0, p1⟩ := blk2 K0.out
  generalize w.alloc (.cells #[.slice A0 ms.length c0, .slice A1 rs.length c1] 25) = W at *
  go_wp2_with fail
  refine (heavy_any A0 A1 c0 c1 ms rs W (Kd.C_below h0 B0.out) (Kd.C_below h1 B0.out)).mono ?_
  rintro e w2 ⟨b, rfl, hL, hb2⟩
  clear p0 p1
  have K2 := Lib.hid (blk_at K0.out hb2)
  have B2 := Lib.hid (below_step B0.out hb2)
  obtain ⟨p0, p1⟩ := blk2 K2.out
  clear hb2 K0 B0
  cases b with
  | true =>
    clear hL
    go_wp2_with (go_at_call 9; (with_reducible refine (shown_any _).mono ?_); rintro e w3 ⟨rfl, hb3⟩)
    go_ret
    exact ⟨rfl, below_step B2.out hb3⟩
  | false =>
  by_cases hq : 18 < ms.length
  · clear hL
    go_wp2_with (go_at_call 9; (with_reducible refine (shown_any _).mono ?_); rintro e w3 ⟨rfl, hb3⟩)
    go_ret
    exact ⟨rfl, below_step B2.out hb3⟩
  have HL := Lib.hid (hL rfl)
  clear hL
  have lm := HL.out.1
  have lr := HL.out.2.1
  have tl := Lib.hid (textL_light HL.out)
  have ee : (listErr ms rs != listErr ms rs) = false := by simp
  go_upto_region 4 with (first | (go_at_call 9; (with_reducible refine (shown_any _).mono ?_); rintro e w3 ⟨rfl, hb3⟩; have B3 := Lib.hid (below_step B2.out hb3); replace p0 := pw_cell_below hb3 p0; replace p1 := pw_cell_below hb3 p1; have K3 := Lib.hid (blk_at K2.out hb3); clear hb3) | (go_at_call 10; (with_reducible refine (print_light A0 A1 c0 c1 ms rs _ HL.out (Kd.C_below h0 B3.out) hc0 (Kd.C_below h1 B3.out) hc1).mono ?_); rintro e w4 ⟨rfl, hb4⟩; have B4 := Lib.hid (below_step B3.out hb4); replace p0 := pw_cell_below hb4 p0; replace p1 := pw_cell_below hb4 p1; have K4 := Lib.hid (blk_at K3.out hb4); clear hb4))
  have HL0 := Lib.hid (show Light ms [] from ⟨HL.out.1, by simp, HL.out.2.2.1, fun r hr => by cases hr⟩)
  have s4 := blk_lt K4.out
  go_upto_region 5 with (fail)
  have k5 := Lib.hid (blk_new w4 (.cells #[.slice A0 ms.length c0, .slice none 0 0] 25))
  have K5 := Lib.hid (blk_alloc K4.out (.cells #[.slice A0 ms.length c0, .slice none 0 0] 25))
  have B5 := Lib.hid (below_alloc B4.out (.cells #[.slice A0 ms.length c0, .slice none 0 0] 25))
  generalize w4.alloc (.cells #[.slice A0 ms.length c0, .slice none 0 0] 25) = W5 at *
  clear p0 p1 s4
  obtain ⟨p0, p1⟩ := blk2 K5.out
  obtain ⟨q0, q1⟩ := blk2 k5.out
  go_upto_region 7 with (first | (go_at_call 10; (with_reducible refine (print_light0 A0 c0 ms _ HL0.out (Kd.C_below h0 B5.out) hc0).mono ?_); rintro e w6 ⟨rfl, hb6⟩; have B6 := Lib.hid (below_step B5.out hb6); replace p0 := pw_cell_below hb6 p0; replace p1 := pw_cell_below hb6 p1; have K6 := Lib.hid (blk_at K5.out hb6); clear hb6 q0 q1) | (go_at_call 12; (with_reducible refine (theirs_any A0 A1 c0 c1 ms rs _ lm lr (Kd.C_below h0 B6.out) hc0 (Kd.C_below h1 B6.out) hc1).mono ?_); rintro e w7 ⟨E0, d0, E1, d1, rfl, l0, g0, l1, g1, hb7⟩; have B7 := Lib.hid (below_step B6.out hb7); replace p0 := pw_cell_below hb7 p0; replace p1 := pw_cell_below hb7 p1; have K7 := Lib.hid (blk_at K6.out hb7); clear hb7) | (go_at_call 11; (with_reducible refine (rprint_light E0 E1 d0 d1 ms rs _ HL.out g0 l0 g1 l1).mono ?_); rintro e w8 ⟨rfl, hb8⟩; have B8 := Lib.hid (below_step B7.out hb8); replace p0 := pw_cell_below hb8 p0; replace p1 := pw_cell_below hb8 p1; have K8 := Lib.hid (blk_at K7.out hb8); clear hb8))
  cases hb : listB ms rs with
  | false =>
    have he : listErr ms rs = 190 := listErr_bad hb
    have hp : (printP ms rs).toList = [] := print_none (.inl hb)
    go_wp2
    go_ret
    exact ⟨by simp [hp], B8.out⟩
  | true =>
  have HP := Lib.hid hb
  have he : listErr ms rs = 0 := if_pos hb
  have he0 : listErr ms [] = 0 := if_pos (join_none hb)
  clear hb
  go_wp2
  clear p0 p1 k5 K5 K6 K7
  go_loopw [12] (fun i wr => ∃ k : Nat, k ≤ ms.length ∧ i = .int .i64 k ∧ Hid (∀ m ∈ ms.take k, ahead m.f0.f0) ∧ wr = w8) (fun i wr => ms.length - (intOf i).toNat)
  case atStart => exact ⟨0, Nat.zero_le _, rfl, Lib.hid (fun m hm => by simp at hm), rfl⟩
  case round =>
    obtain ⟨k, hk, rfl, HA, rfl⟩ := hrel
    obtain ⟨w8, rfl⟩ : ∃ wo : World, wo = wr := ⟨_, rfl⟩
    obtain ⟨p0, p1⟩ := blk2 K8.out
    by_cases hlt : k < ms.length
    · obtain ⟨m, Hm⟩ : ∃ m, Hid (ms.getD k zM = m) := ⟨_, rfl⟩
      obtain ⟨ad, A6, c6, hA, e0, e1, e2, e3, e4, e5, e6, l6, g6⟩ := mod_at (Kd.C_below h0 B8.out) hlt Hm.out
      subst hA
      cases z1 : Op.bytesLess m.f0.f0.toList [122, 122] with
      | false =>
        go_wp2_with (go_at_call 9; (with_reducible refine (shown_any _).mono ?_); rintro e w9 ⟨rfl, hb9⟩)
        go_ret
        exact ⟨rfl, below_step B8.out hb9⟩
      | true =>
      cases z2 : m.f0.f0.toList.isEmpty with
      | true =>
        have z2' : (m.f0.f0.toList == []) = true := by simpa using z2
        go_wp2_with (go_at_call 9; (with_reducible refine (shown_any _).mono ?_); rintro e w9 ⟨rfl, hb9⟩)
        go_ret
        exact ⟨rfl, below_step B8.out hb9⟩
      | false =>
        have z2' : (m.f0.f0.toList == []) = false := by simpa using z2
        go_wp2
        go_roundw
        case rel => exact ⟨k + 1, by omega, by go_num, Lib.hid (all_succ hlt Hm.out HA.out ⟨z1, by simpa using z2⟩), by first | rfl | trivial⟩
        case measure => simp [intOf]; omega
    · obtain rfl : k = ms.length := by omega
      have hA := HA.out
      rw [List.take_length] at hA
      have HA := Lib.hid hA; clear hA
      have s8 := blk_lt K8.out
      have s8' := B8.out.size
      go_upto_region 17 with (fail)
      have k9 := Lib.hid (blk_new w8 (.cells #[.slice none 0 0, .slice A1 rs.length c1] 25))
      have K9 := Lib.hid (blk_alloc K8.out (.cells #[.slice none 0 0, .slice A1 rs.length c1] 25))
      have B9 := Lib.hid (below_alloc B8.out (.cells #[.slice none 0 0, .slice A1 rs.length c1] 25))
      have F9 := Lib.hid (Kd.F_below (Kd.C_F P.k41_heap (Kd.C_below h0 B8.out)) (below_alloc (Below.refl _ w8) (.cells #[.slice none 0 0, .slice A1 rs.length c1] 25)))
      have s9 : w8.heap.size < (w8.alloc (.cells #[.slice none 0 0, .slice A1 rs.length c1] 25)).heap.size := by simp
      generalize w8.alloc (.cells #[.slice none 0 0, .slice A1 rs.length c1] 25) = W9 at *
      generalize w8.heap.size = g at *
      clear p0 p1
      obtain ⟨p0, p1⟩ := blk2 K9.out
      obtain ⟨q0, q1⟩ := blk2 k9.out
      have f0 := blk_frozen k9.out 0
      have s9 := Lib.hid s9
      go_upto_region 18 with ((with_reducible refine gate_builtin (b := .append) (xs := #[.tmp 87, .tmp 89]) rfl ?_); at_builtin; refine Kd.N_append_rows P.k41 (w0 := w) w.heap.size rfl (.tmp 87) (.tmp 89) 22 41 (.agg #[(.string ⟨#[]⟩), (.string ⟨#[]⟩), (.bool false), (.string ⟨#[]⟩), (.string ⟨#[]⟩), (.string ⟨#[]⟩), (.slice none 0 0)]) 112 rfl Tryz.underlying22 P.info41 rfl (by decide) (by omega) (.slice none 0 0) [] ms A0 ms.length c0 (fun k => k ≠ g) (fun k => k < g) rfl rfl (Kd.N_nil _ _ _ _ _) F9.out (fun k hk => ⟨by omega, by simp [Value.ownBlock]⟩) (fun k hk => by have := s9.out; omega) B9.out B9.out.size (by simp; omega) ?_; intro v1 w10 ho hb10 hg10 _; rw [List.nil_append] at ho; obtain ⟨Ao, co, rfl⟩ := Kd.N_slice ho; have k10 := Lib.hid (blk_grown k9.out hg10 (by simp [Value.ownBlock])); have K10 := Lib.hid (blk_grown K9.out hg10 (by simp [Value.ownBlock])); have f10 := blk_frozen k10.out 0; have q10 := (blk2 k10.out).1)
      have gle : w.heap.size ≤ g := s8'
      have gne : w.heap.size ≠ g := by omega
      have N11 := Lib.hid (Kd.N_far (p := ⟨g, 0, none⟩) ho (fun _ hk => hk) (.slice Ao ms.length co))
      have k11 := Lib.hid (blk_put k10.out 0 (.slice Ao ms.length co) (cs' := #[.slice Ao ms.length co, .slice A1 rs.length c1]) rfl)
      have K11 := Lib.hid (blk_far K10.out (p := ⟨g, 0, none⟩) gne (.slice Ao ms.length co))
      have B11 := Lib.hid (below_set (j := 0) (v := .slice Ao ms.length co) hb10 gle)
      clear ho hb10 hg10 q10 f10 p0 p1 q0 q1 f0
      generalize w10.setCell ⟨g, 0, none⟩ (.slice Ao ms.length co) = W11 at *
      have s11 := blk_lt k11.out
      obtain ⟨q0, q1⟩ := blk2 k11.out
      cases x
      · go_upto_region 23 with (fail)
        have F13 := Lib.hid (Kd.F_alloc (Kd.R_F (pk_row W11 w.heap.size B11.out.size)) (.cells #[.string ⟨#[122, 122, 46, 122]⟩, .string ⟨#[118, 49, 46, 48, 46, 48]⟩, .bool false, .string ⟨#[]⟩, .string ⟨#[]⟩, .string ⟨#[]⟩, .slice (some ⟨W11.heap.size, 0, none⟩) 1 1] 41))
        have N13 := Lib.hid (Kd.N_alloc (Kd.N_alloc N11.out (.cells #[.string ⟨#[122, 122, 46, 122, 47, 112]⟩] 9)) (.cells #[.string ⟨#[122, 122, 46, 122]⟩, .string ⟨#[118, 49, 46, 48, 46, 48]⟩, .bool false, .string ⟨#[]⟩, .string ⟨#[]⟩, .string ⟨#[]⟩, .slice (some ⟨W11.heap.size, 0, none⟩) 1 1] 41))
        have k13 := Lib.hid (blk_alloc (blk_alloc k11.out (.cells #[.string ⟨#[122, 122, 46, 122, 47, 112]⟩] 9)) (.cells #[.string ⟨#[122, 122, 46, 122]⟩, .string ⟨#[118, 49, 46, 48, 46, 48]⟩, .bool false, .string ⟨#[]⟩, .string ⟨#[]⟩, .string ⟨#[]⟩, .slice (some ⟨W11.heap.size, 0, none⟩) 1 1] 41))
        have B13 := Lib.hid (below_alloc (below_alloc B11.out (.cells #[.string ⟨#[122, 122, 46, 122, 47, 112]⟩] 9)) (.cells #[.string ⟨#[122, 122, 46, 122]⟩, .string ⟨#[118, 49, 46, 48, 46, 48]⟩, .bool false, .string ⟨#[]⟩, .string ⟨#[]⟩, .string ⟨#[]⟩, .slice (some ⟨W11.heap.size, 0, none⟩) 1 1] 41))
        have x13 := blk_new (W11.alloc (.cells #[.string ⟨#[122, 122, 46, 122, 47, 112]⟩] 9)) (.cells #[.string ⟨#[122, 122, 46, 122]⟩, .string ⟨#[118, 49, 46, 48, 46, 48]⟩, .bool false, .string ⟨#[]⟩, .string ⟨#[]⟩, .string ⟨#[]⟩, .slice (some ⟨W11.heap.size, 0, none⟩) 1 1] 41)
        rw [World.size_alloc] at x13
        have x13 := Lib.hid x13
        have s13 := Lib.hid (show g < ((W11.alloc (.cells #[.string ⟨#[122, 122, 46, 122, 47, 112]⟩] 9)).alloc (.cells #[.string ⟨#[122, 122, 46, 122]⟩, .string ⟨#[118, 49, 46, 48, 46, 48]⟩, .bool false, .string ⟨#[]⟩, .string ⟨#[]⟩, .string ⟨#[]⟩, .slice (some ⟨W11.heap.size, 0, none⟩) 1 1] 41)).heap.size by simp; omega)
        have r13 := Lib.hid (fun k (hk : k = W11.heap.size) => (⟨by omega, fun e => by have := row_lt N11.out k e.symm; omega⟩ : k ≠ g ∧ some k ≠ (Value.slice Ao ms.length co).ownBlock))
        have n13 := Lib.hid (N11.out.1)
        generalize (W11.alloc (.cells #[.string ⟨#[122, 122, 46, 122, 47, 112]⟩] 9)).alloc (.cells #[.string ⟨#[122, 122, 46, 122]⟩, .string ⟨#[118, 49, 46, 48, 46, 48]⟩, .bool false, .string ⟨#[]⟩, .string ⟨#[]⟩, .string ⟨#[]⟩, .slice (some ⟨W11.heap.size, 0, none⟩) 1 1] 41) = W13 at *
        generalize W11.heap.size = gp at *
        clear q0 q1 s11
        obtain ⟨q0, q1⟩ := blk2 k13.out
        obtain ⟨y0, y1, y2, y3, y4, y5, y6⟩ := blk7 x13.out
        go_upto_region 24 with ((with_reducible refine gate_builtin (b := .append) (xs := #[.tmp 100, .tmp 102]) rfl ?_); at_builtin; refine Kd.N_append P.k41 (w0 := w) w.heap.size rfl (.tmp 100) (.tmp 102) 22 41 (.agg #[(.string ⟨#[]⟩), (.string ⟨#[]⟩), (.bool false), (.string ⟨#[]⟩), (.string ⟨#[]⟩), (.string ⟨#[]⟩), (.slice none 0 0)]) 112 rfl Tryz.underlying22 P.info41 rfl (by decide) (by omega) (.slice Ao ms.length co) ms (zzM false) [.string ⟨#[122, 122, 46, 122]⟩, .string ⟨#[118, 49, 46, 48, 46, 48]⟩, .bool false, .string ⟨#[]⟩, .string ⟨#[]⟩, .string ⟨#[]⟩, .slice (some ⟨gp, 0, none⟩) 1 1] (fun k => k ≠ g) (fun k => k = gp) rfl rfl (P.k41_mkF W13 _ (zzM false) (Nat.le_refl 1) F13.out) r13.out (fun k hk => by have := s13.out; omega) N13.out B13.out B13.out.size (by omega) ?_; intro v1 w14 ho hb14 hg14 _; obtain ⟨Ap, cp, rfl⟩ := Kd.N_slice ho; have ln : (ms ++ [zzM false]).length = ms.length + 1 := (by simp); rw [ln]; rw [ln] at ho; clear ln; have k14 := Lib.hid (blk_grown k13.out hg14 (fun e => n13.out g e.symm rfl)); have f14 := blk_frozen k14.out 0; have q14 := (blk2 k14.out).1; clear y0 y1 y2 y3 y4 y5 y6)
        have NR := Kd.N_far (p := ⟨g, 0, none⟩) ho (fun _ hk => hk) (.slice Ap (ms.length + 1) cp)
        have k15 := blk_put k14.out 0 (.slice Ap (ms.length + 1) cp) (cs' := #[.slice Ap (ms.length + 1) cp, .slice A1 rs.length c1]) rfl
        have B15 := Lib.hid (below_set (j := 0) (v := .slice Ap (ms.length + 1) cp) hb14 gle)
        obtain ⟨hx, lo, go⟩ := Kd.N_reads' NR
        clear hx NR ho hb14 hg14 q14 f14 q0 q1
        generalize w14.setCell ⟨g, 0, none⟩ (.slice Ap (ms.length + 1) cp) = W15 at *
        obtain ⟨q0, q1⟩ := blk2 k15
        have hpr := print_light Ap A1 cp c1 (ms ++ [zzM false]) rs W15 (light_join false HL.out (by omega)) go (by rw [List.length_append]; exact lo) (Kd.C_below h1 B15.out) hc1
        rw [show (ms ++ [zzM false]).length = ms.length + 1 by simp, show listErr (ms ++ [zzM false]) rs = 0 from if_pos (join_ok false HP.out HA.out)] at hpr
        obtain ⟨hsz, htx⟩ := join_text false HP.out HA.out
        have zs := print_size HL.out
        obtain ⟨U, hU⟩ : ∃ U, U = printP (ms ++ [zzM false]) rs := ⟨_, rfl⟩
        rw [← hU] at hpr htx
        have hty := congrArg ByteArray.toList htx
        have htb : (U.toList == (((printP ms [] ++ (⟨#[35, 32, 122, 122, 46, 122, 32, 118, 49, 46, 48, 46, 48, 10]⟩ : ByteArray)) ++ (⟨#[122, 122, 46, 122, 47, 112, 10]⟩ : ByteArray)) ++ (printP ms rs).extract (printP ms []).size (printP ms rs).size).toList) = true := by rw [beq_iff_eq]; exact hty
        clear htx hty hU
        have HPR := Lib.hid hpr
        generalize printP ms [] = T0 at *
        generalize printP ms rs = S0 at *
        have hd : decide (T0.size ≤ S0.size) = true := decide_eq_true hsz
        clear hpr k15 go lo
        go_wp2_with (go_at_call 10; (with_reducible refine HPR.out.mono ?_); rintro e w16 ⟨rfl, hb16⟩)
        go_ret
        exact ⟨by first | rfl | rw [htb], below_step B15.out hb16⟩
      · go_upto_region 23 with (fail)
        have F13 := Lib.hid (Kd.F_alloc (Kd.R_F (pk_row W11 w.heap.size B11.out.size)) (.cells #[.string ⟨#[122, 122, 46, 122]⟩, .string ⟨#[118, 49, 46, 48, 46, 48]⟩, .bool false, .string ⟨#[49, 46, 50, 48]⟩, .string ⟨#[]⟩, .string ⟨#[]⟩, .slice (some ⟨W11.heap.size, 0, none⟩) 1 1] 41))
        have N13 := Lib.hid (Kd.N_alloc (Kd.N_alloc N11.out (.cells #[.string ⟨#[122, 122, 46, 122, 47, 112]⟩] 9)) (.cells #[.string ⟨#[122, 122, 46, 122]⟩, .string ⟨#[118, 49, 46, 48, 46, 48]⟩, .bool false, .string ⟨#[49, 46, 50, 48]⟩, .string ⟨#[]⟩, .string ⟨#[]⟩, .slice (some ⟨W11.heap.size, 0, none⟩) 1 1] 41))
        have k13 := Lib.hid (blk_alloc (blk_alloc k11.out (.cells #[.string ⟨#[122, 122, 46, 122, 47, 112]⟩] 9)) (.cells #[.string ⟨#[122, 122, 46, 122]⟩, .string ⟨#[118, 49, 46, 48, 46, 48]⟩, .bool false, .string ⟨#[49, 46, 50, 48]⟩, .string ⟨#[]⟩, .string ⟨#[]⟩, .slice (some ⟨W11.heap.size, 0, none⟩) 1 1] 41))
        have B13 := Lib.hid (below_alloc (below_alloc B11.out (.cells #[.string ⟨#[122, 122, 46, 122, 47, 112]⟩] 9)) (.cells #[.string ⟨#[122, 122, 46, 122]⟩, .string ⟨#[118, 49, 46, 48, 46, 48]⟩, .bool false, .string ⟨#[49, 46, 50, 48]⟩, .string ⟨#[]⟩, .string ⟨#[]⟩, .slice (some ⟨W11.heap.size, 0, none⟩) 1 1] 41))
        have x13 := blk_new (W11.alloc (.cells #[.string ⟨#[122, 122, 46, 122, 47, 112]⟩] 9)) (.cells #[.string ⟨#[122, 122, 46, 122]⟩, .string ⟨#[118, 49, 46, 48, 46, 48]⟩, .bool false, .string ⟨#[49, 46, 50, 48]⟩, .string ⟨#[]⟩, .string ⟨#[]⟩, .slice (some ⟨W11.heap.size, 0, none⟩) 1 1] 41)
        rw [World.size_alloc] at x13
        have x13 := Lib.hid x13
        have s13 := Lib.hid (show g < ((W11.alloc (.cells #[.string ⟨#[122, 122, 46, 122, 47, 112]⟩] 9)).alloc (.cells #[.string ⟨#[122, 122, 46, 122]⟩, .string ⟨#[118, 49, 46, 48, 46, 48]⟩, .bool false, .string ⟨#[49, 46, 50, 48]⟩, .string ⟨#[]⟩, .string ⟨#[]⟩, .slice (some ⟨W11.heap.size, 0, none⟩) 1 1] 41)).heap.size by simp; omega)
        have r13 := Lib.hid (fun k (hk : k = W11.heap.size) => (⟨by omega, fun e => by have := row_lt N11.out k e.symm; omega⟩ : k ≠ g ∧ some k ≠ (Value.slice Ao ms.length co).ownBlock))
        have n13 := Lib.hid (N11.out.1)
        generalize (W11.alloc (.cells #[.string ⟨#[122, 122, 46, 122, 47, 112]⟩] 9)).alloc (.cells #[.string ⟨#[122, 122, 46, 122]⟩, .string ⟨#[118, 49, 46, 48, 46, 48]⟩, .bool false, .string ⟨#[49, 46, 50, 48]⟩, .string ⟨#[]⟩, .string ⟨#[]⟩, .slice (some ⟨W11.heap.size, 0, none⟩) 1 1] 41) = W13 at *
        generalize W11.heap.size = gp at *
        clear q0 q1 s11
        obtain ⟨q0, q1⟩ := blk2 k13.out
        obtain ⟨y0, y1, y2, y3, y4, y5, y6⟩ := blk7 x13.out
        go_upto_region 24 with ((with_reducible refine gate_builtin (b := .append) (xs := #[.tmp 100, .tmp 102]) rfl ?_); at_builtin; refine Kd.N_append P.k41 (w0 := w) w.heap.size rfl (.tmp 100) (.tmp 102) 22 41 (.agg #[(.string ⟨#[]⟩), (.string ⟨#[]⟩), (.bool false), (.string ⟨#[]⟩), (.string ⟨#[]⟩), (.string ⟨#[]⟩), (.slice none 0 0)]) 112 rfl Tryz.underlying22 P.info41 rfl (by decide) (by omega) (.slice Ao ms.length co) ms (zzM true) [.string ⟨#[122, 122, 46, 122]⟩, .string ⟨#[118, 49, 46, 48, 46, 48]⟩, .bool false, .string ⟨#[49, 46, 50, 48]⟩, .string ⟨#[]⟩, .string ⟨#[]⟩, .slice (some ⟨gp, 0, none⟩) 1 1] (fun k => k ≠ g) (fun k => k = gp) rfl rfl (P.k41_mkF W13 _ (zzM true) (Nat.le_refl 1) F13.out) r13.out (fun k hk => by have := s13.out; omega) N13.out B13.out B13.out.size (by omega) ?_; intro v1 w14 ho hb14 hg14 _; obtain ⟨Ap, cp, rfl⟩ := Kd.N_slice ho; have ln : (ms ++ [zzM true]).length = ms.length + 1 := (by simp); rw [ln]; rw [ln] at ho; clear ln; have k14 := Lib.hid (blk_grown k13.out hg14 (fun e => n13.out g e.symm rfl)); have f14 := blk_frozen k14.out 0; have q14 := (blk2 k14.out).1; clear y0 y1 y2 y3 y4 y5 y6)
        have NR := Kd.N_far (p := ⟨g, 0, none⟩) ho (fun _ hk => hk) (.slice Ap (ms.length + 1) cp)
        have k15 := blk_put k14.out 0 (.slice Ap (ms.length + 1) cp) (cs' := #[.slice Ap (ms.length + 1) cp, .slice A1 rs.length c1]) rfl
        have B15 := Lib.hid (below_set (j := 0) (v := .slice Ap (ms.length + 1) cp) hb14 gle)
        obtain ⟨hx, lo, go⟩ := Kd.N_reads' NR
        clear hx NR ho hb14 hg14 q14 f14 q0 q1
        generalize w14.setCell ⟨g, 0, none⟩ (.slice Ap (ms.length + 1) cp) = W15 at *
        obtain ⟨q0, q1⟩ := blk2 k15
        have hpr := print_light Ap A1 cp c1 (ms ++ [zzM true]) rs W15 (light_join true HL.out (by omega)) go (by rw [List.length_append]; exact lo) (Kd.C_below h1 B15.out) hc1
        rw [show (ms ++ [zzM true]).length = ms.length + 1 by simp, show listErr (ms ++ [zzM true]) rs = 0 from if_pos (join_ok true HP.out HA.out)] at hpr
        obtain ⟨hsz, htx⟩ := join_text true HP.out HA.out
        have zs := print_size HL.out
        obtain ⟨U, hU⟩ : ∃ U, U = printP (ms ++ [zzM true]) rs := ⟨_, rfl⟩
        rw [← hU] at hpr htx
        have hty := congrArg ByteArray.toList htx
        have htb : (U.toList == (((printP ms [] ++ ((⟨#[35, 32, 122, 122, 46, 122, 32, 118, 49, 46, 48, 46, 48, 10]⟩ : ByteArray) ++ (⟨#[35, 35, 32, 103, 111, 32, 49, 46, 50, 48, 10]⟩ : ByteArray))) ++ (⟨#[122, 122, 46, 122, 47, 112, 10]⟩ : ByteArray)) ++ (printP ms rs).extract (printP ms []).size (printP ms rs).size).toList) = true := by rw [beq_iff_eq]; exact hty
        clear htx hty hU
        have HPR := Lib.hid hpr
        generalize printP ms [] = T0 at *
        generalize printP ms rs = S0 at *
        have hd : decide (T0.size ≤ S0.size) = true := decide_eq_true hsz
        clear hpr k15 go lo
        go_wp2_with (go_at_call 10; (with_reducible refine HPR.out.mono ?_); rintro e w16 ⟨rfl, hb16⟩)
        go_ret
        exact ⟨by first | rfl | rw [htb], below_step B15.out hb16⟩
end Go.Proofs.YtcdcpcdfcmokkaaGreatDoor
