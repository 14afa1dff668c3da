/- Orders, fits and known modules of layers 3 and 7, by hand. · Known modules of layer 7, by hand. · Contracts of printed functions in plain words; cells of a block that is known whole. · modtxt's right: is a module by itself? · A map from texts to truths that the call itself has made: a set of texts; its look-up, its store. · Layer 19: which lists may be, in plain words. -/
import Derived.Test.YtcdcpcdfcmokkaaGreatDoorO25
import Derived.Test.YtcdcpcdfcmokkaaGreatDoorO26
import Derived.Test.YtcdcpcdfcmokkaaGreatDoorO16
import Derived.Test.YtcdcpcdfcmokkaaGreatDoorO23
import Derived.Test.YtcdcpcdfcmokkaaGreatDoorO05
import Derived.Maps.OwnOps
import Derived.Maps.OwnSet
import Derived.Maps.Views
import Derived.StringKeys
import Derived.Test.YtcdcpcdfcmokkaaGreatDoorO07
import Derived.Test.YtcdcpcdfcmokkaaGreatDoorO02
set_option linter.unusedVariables false
set_option linter.unusedSimpArgs false
section
namespace Go.Proofs.YtcdcpcdfcmokkaaGreatDoor
open Go Go.RowKit Go.Proofs.YtcdcpcdfcmokkaaGreatDoorW.PrintWords
set_option linter.unusedVariables false
set_option linter.unusedSimpArgs false
set_option maxHeartbeats 4000000 in
set_option maxRecDepth 100000 in
theorem rorderM_any (ap av bp bv : ByteArray) (w : World) (h1 : ap.size ≤ 1099511627770) (h2 : av.size ≤ 1099511627770) (h3 : bp.size ≤ 1099511627770) (h4 : bv.size ≤ 1099511627770) :
    Calls Tryz.prog 33 #[.agg #[.string ap, .string av], .agg #[.string bp, .string bv]] w fun e w' => e = .returned (.int .i64 (orderM ap av bp bv)) ∧ Below w.heap.size w w' := by
  obtain ⟨W, hW, c0, c1, d0, d1, hB⟩ := two_mods w ap av bp bv 38
  have HW := Lib.hid hW; clear hW
  go_enter Tryz.func33, Tryz.ntmps33
  go_upto_region 1 with (fail)
  rw [← HW.out]
  cases e1 : (pathCmp ap bp != 0) with
  | true =>
    have e1' : (pathCmp ap bp == 0) = false := by simpa using e1
    have HO := Lib.hid (show orderM ap av bp bv = pathCmp ap bp from if_pos (by simpa using e1))
    go_wp2_with (go_at_call 64; (with_reducible refine (rpathCompare_any _ _ _ (by omega) (by omega)).mono ?_); rintro e w1 ⟨rfl, hb1⟩)
    go_ret
    exact ⟨by rw [HO.out]; rfl, below_step hB.out hb1⟩
  | false =>
    have e1' : (pathCmp ap bp == 0) = true := by simpa using e1
    have HO := Lib.hid (show orderM ap av bp bv = orI (verCmp av bv) (cmpS av bv) from if_neg (by simpa using e1))
    cases e2 : (verCmp av bv != 0) with
    | true =>
      have HO := Lib.hid (show orderM ap av bp bv = verCmp av bv from HO.out.trans (if_pos (by simpa using e2)))
      go_wp2_with (first | (go_at_call 64; (with_reducible refine (rpathCompare_any _ _ _ (by omega) (by omega)).mono ?_); rintro e w1 ⟨rfl, hb1⟩; replace c1 := pw_cell_below hb1 c1; replace d1 := pw_cell_below hb1 d1) | (go_at_call 65; (with_reducible refine (rcompare_any _ _ _ (by omega) (by omega)).mono ?_); rintro e w2 ⟨rfl, hb2⟩))
      go_ret
      exact ⟨by rw [HO.out]; rfl, below_step (below_step hB.out hb1) hb2⟩
    | false =>
      have HO := Lib.hid (show orderM ap av bp bv = cmpS av bv from HO.out.trans (if_neg (by simpa using e2)))
      cases e3 : (av.toList == bv.toList) with
      | true =>
        have e2' : verCmp av bv = 0 := by simpa using e2
        have HO := Lib.hid (show orderM ap av bp bv = 0 by rw [HO.out, list_inj (by simpa using e3 : av.toList = bv.toList), cmpS_same])
        go_wp2_with (first | (go_at_call 64; (with_reducible refine (rpathCompare_any _ _ _ (by omega) (by omega)).mono ?_); rintro e w1 ⟨rfl, hb1⟩; replace c1 := pw_cell_below hb1 c1; replace d1 := pw_cell_below hb1 d1) | (go_at_call 65; (with_reducible refine (rcompare_any _ _ _ (by omega) (by omega)).mono ?_); rintro e w2 ⟨rfl, hb2⟩; replace c1 := pw_cell_below hb2 c1; replace d1 := pw_cell_below hb2 d1))
        go_ret
        exact ⟨by rw [HO.out]; first | rfl | rw [e2'], below_step (below_step hB.out hb1) hb2⟩
      | false =>
        have HO := Lib.hid (show orderM ap av bp bv = lessI (Op.bytesLess av.toList bv.toList) from HO.out.trans (cmpS_ne (by simpa using e3)))
        cases e4 : Op.bytesLess av.toList bv.toList with
        | _ =>
          go_wp2_with (first | (go_at_call 64; (with_reducible refine (rpathCompare_any _ _ _ (by omega) (by omega)).mono ?_); rintro e w1 ⟨rfl, hb1⟩; replace c1 := pw_cell_below hb1 c1; replace d1 := pw_cell_below hb1 d1) | (go_at_call 65; (with_reducible refine (rcompare_any _ _ _ (by omega) (by omega)).mono ?_); rintro e w2 ⟨rfl, hb2⟩; replace c1 := pw_cell_below hb2 c1; replace d1 := pw_cell_below hb2 d1))
          go_ret
          exact ⟨by rw [HO.out, e4]; rfl, below_step (below_step hB.out hb1) hb2⟩
theorem rmajor_any (s : ByteArray) (w : World) (hs : s.size ≤ 1099511627775) :
    Calls Tryz.prog 126 #[.string s] w fun e w' => e = .returned (.int .i64 (majorB s)) ∧ Below w.heap.size w w' := by
  obtain ⟨k, h⟩ := (rmajor_ev s hs).rounds
  exact P.graftbedref03_Major.calls k s _ w h
theorem major_any (s : ByteArray) (w : World) (hs : s.size ≤ 1099511627775) :
    Calls Tryz.prog 124 #[.string s] w fun e w' => e = .returned (.int .i64 (majorB s)) ∧ Below w.heap.size w w' := by
  obtain ⟨k, h⟩ := (major_ev s hs).rounds
  exact P.semver_Major.calls k s _ w h
set_option maxHeartbeats 8000000 in
set_option maxRecDepth 100000 in
theorem rfits_any (p v : ByteArray) (w : World) (hp : p.size ≤ 1099511627775) (hv : v.size ≤ 1099511627775) :
    Calls Tryz.prog 98 #[.string p, .string v] w fun e w' => e = .returned (.int .i64 (fitsB p v)) ∧ Below w.heap.size w w' := by
  have hm := major_nonneg p
  go_enter Tryz.func98, Tryz.ntmps98
  go_upto_region 2 with (go_at_call 99; (with_reducible refine (rparse_any v _ hv).mono ?_); rintro e w1 ⟨rfl, hb0⟩)
  obtain ⟨c0, c1, c2, c3, c4⟩ := blk5 (blk_new w1 (verO v 120))
  have hB := Lib.hid (below_alloc hb0 (verO v 120))
  clear hb0
  unfold verO at *
  generalize w1.alloc (.cells #[.int .i64 (numAt v 0), .int .i64 (numAt v 1), .int .i64 (numAt v 2), .string (preB v), .string (metaB v)] 120) = W at *
  generalize w1.heap.size = g1 at *
  by_cases va : verOk v = true
  · have ea : verErr v = 0 := if_pos va
    have HF := Lib.hid (show fitsB p v = _ from if_pos va)
    clear va
    go_upto_region 6 with (go_at_call 126; (with_reducible refine (rmajor_any p _ hp).mono ?_); rintro e w2 ⟨rfl, hb2⟩; replace c0 := pw_cell_below hb2 c0; replace c4 := pw_cell_below hb2 c4)
    have hB2 := Lib.hid (below_step hB.out hb2)
    clear hb2 hB
    cases e3 : ((metaB v).toList == incompat) with
    | _ =>
      have E3 := Lib.hid e3
      unfold incompat at e3
      by_cases h0 : 0 < majorB p
      · have h0' : (majorB p == 0) = false := by rw [beq_eq_false_iff_ne]; omega
        cases e4 : (numAt v 0 == majorB p) with
        | _ =>
          go_wp2
          go_ret
          exact ⟨by rw [HF.out, if_pos h0]; have := E3.out; simp_all, hB2.out⟩
      · have h0' : (majorB p == 0) = true := by rw [beq_iff_eq]; omega
        by_cases h2 : 1 < numAt v 0
        · go_wp2
          go_ret
          exact ⟨by rw [HF.out, if_neg (by omega)]; have := E3.out; simp_all, hB2.out⟩
        · go_wp2
          go_ret
          exact ⟨by rw [HF.out, if_neg (by omega)]; have := E3.out; simp_all, hB2.out⟩
  · have ea : verErr v = 30 := if_neg va
    have HF := Lib.hid (show fitsB p v = 30 from if_neg va)
    clear va
    go_wp2
    go_ret
    exact ⟨by rw [HF.out]; first | rfl | (rw [ea]; rfl), hB.out⟩
set_option maxHeartbeats 8000000 in
set_option maxRecDepth 100000 in
theorem fits_any (p v : ByteArray) (w : World) (hp : p.size ≤ 1099511627775) (hv : v.size ≤ 1099511627775) :
    Calls Tryz.prog 95 #[.string p, .string v] w fun e w' => e = .returned (.int .i64 (fitsB p v)) ∧ Below w.heap.size w w' := by
  have hm := major_nonneg p
  go_enter Tryz.func95, Tryz.ntmps95
  go_upto_region 2 with (go_at_call 80; (with_reducible refine (parse_any v _ (by omega)).mono ?_); rintro e w1 ⟨rfl, hb0⟩)
  obtain ⟨c0, c1, c2, c3, c4⟩ := blk5 (blk_new w1 (verO v 111))
  have hB := Lib.hid (below_alloc hb0 (verO v 111))
  clear hb0
  unfold verO at *
  generalize w1.alloc (.cells #[.int .i64 (numAt v 0), .int .i64 (numAt v 1), .int .i64 (numAt v 2), .string (preB v), .string (metaB v)] 111) = W at *
  generalize w1.heap.size = g1 at *
  by_cases va : verOk v = true
  · have ea : verErr v = 0 := if_pos va
    have HF := Lib.hid (show fitsB p v = _ from if_pos va)
    clear va
    go_upto_region 4 with (fail)
    go_region_held3 (fun w' => w'.cell? ⟨g1, 0, none⟩ = some (.int .i64 (numAt v 0)) ∧ w'.cell? ⟨g1, 4, none⟩ = some (.string (metaB v)) ∧ Hid (Below w.heap.size w w'))
      (first | exact keep2 (by assumption) (by assumption) | exact ⟨c0, c4, Lib.hid (below_drew1 hB.out)⟩)
      ((go_at_call 124; refine (major_any p _ hp).mono ?_; rintro e w2 ⟨rfl, hb⟩))
    rename_i hS
    obtain ⟨c0', c4', hB2⟩ := hS
    cases e3 : ((metaB v).toList == incompat) with
    | _ =>
      have E3 := Lib.hid e3
      unfold incompat at e3
      by_cases h0 : 0 < majorB p
      · have h0' : (majorB p == 0) = false := by rw [beq_eq_false_iff_ne]; omega
        cases e4 : (numAt v 0 == majorB p) with
        | _ =>
          have e4' : (numAt v 0 != majorB p) = !(numAt v 0 == majorB p) := rfl
          rw [e4] at e4'
          go_wp2
          go_ret
          exact ⟨by rw [HF.out, if_pos h0]; have := E3.out; simp_all, hB2.out⟩
      · have h0' : (majorB p == 0) = true := by rw [beq_iff_eq]; omega
        by_cases h2 : 1 < numAt v 0
        · go_wp2
          go_ret
          exact ⟨by rw [HF.out, if_neg (by omega)]; have := E3.out; simp_all, hB2.out⟩
        · go_wp2
          go_ret
          exact ⟨by rw [HF.out, if_neg (by omega)]; have := E3.out; simp_all, hB2.out⟩
  · have ea : verErr v = 30 := if_neg va
    have HF := Lib.hid (show fitsB p v = 30 from if_neg va)
    clear va
    go_wp2
    go_ret
    exact ⟨by rw [HF.out]; first | rfl | (rw [ea]; rfl), hB.out⟩
end Go.Proofs.YtcdcpcdfcmokkaaGreatDoor
end
section
namespace Go.Proofs.YtcdcpcdfcmokkaaGreatDoor
open Go Go.RowKit Go.Proofs.YtcdcpcdfcmokkaaGreatDoorW.PrintWords
set_option linter.unusedVariables false
set_option linter.unusedSimpArgs false
theorem local_any (s : ByteArray) (w : World) (hs : s.size ≤ 1099511627775) : Calls Tryz.prog 93 #[.string s] w fun e w' => e = .returned (.bool (localB s)) ∧ Below w.heap.size w w' := by
  obtain ⟨k, h⟩ := (local_ev s hs).rounds
  exact P.gomod_Local.calls k s _ w h
theorem rlocal_any (s : ByteArray) (w : World) (hs : s.size ≤ 1099511627775) : Calls Tryz.prog 96 #[.string s] w fun e w' => e = .returned (.bool (localB s)) ∧ Below w.heap.size w w' := by
  obtain ⟨k, h⟩ := (rlocal_ev s hs).rounds
  exact P.graftbedref05_Local.calls k s _ w h
theorem canon_any (s : ByteArray) (w : World) (hs : s.size ≤ 1099511627775) : Calls Tryz.prog 94 #[.string s] w fun e w' => e = .returned (.string (canonB s)) ∧ Below w.heap.size w w' :=
  P.semver_Canonical.calls s _ w (canon_eq s hs)
theorem rcanon_any (s : ByteArray) (w : World) (hs : s.size ≤ 1099511627775) : Calls Tryz.prog 97 #[.string s] w fun e w' => e = .returned (.string (canonB s)) ∧ Below w.heap.size w w' := by
  obtain ⟨k, h⟩ := (rcanon_ev s hs).rounds
  exact P.graftbedref03_Canonical.calls k s _ w h
theorem one_mod (w : World) (p v : ByteArray) (t : TypeId) : ∃ W, W = w.alloc (.cells #[.string p, .string v] t) ∧ W.cell? ⟨w.heap.size, 0, none⟩ = some (.string p) ∧ W.cell? ⟨w.heap.size, 1, none⟩ = some (.string v) ∧ Hid (Below w.heap.size w W) :=
  ⟨_, rfl, (blk2 (blk_new w (.cells #[.string p, .string v] t))).1, (blk2 (blk_new w (.cells #[.string p, .string v] t))).2, Lib.hid (below_alloc (Below.refl _ w) _)⟩
set_option maxHeartbeats 4000000 in
set_option maxRecDepth 100000 in
theorem cknown_any (p v : ByteArray) (w : World) (hp : p.size ≤ 1099511627770) (hv : v.size ≤ 1099511627770) :
    Calls Tryz.prog 62 #[.agg #[.string p, .string v]] w fun e w' => e = .returned (.int .i64 (knownB p v)) ∧ Below w.heap.size w w' := by
  obtain ⟨W, hW, c0, c1, hB⟩ := one_mod w p v 38
  have HW := Lib.hid hW; clear hW
  go_enter Tryz.func62, Tryz.ntmps62
  go_upto_region 1 with (fail)
  rw [← HW.out]
  cases e1 : (v.toList == []) with
  | true =>
    obtain ⟨e1a, e1b⟩ := pre_ne e1
    have HK := Lib.hid (show knownB p v = _ from if_pos (by simpa using e1))
    cases e2 : localB p with
    | _ =>
      go_wp2_with (first | (go_at_call 30; (with_reducible refine (module_any _ _ (by omega)).mono ?_); rintro e w1 ⟨rfl, hb1⟩; replace c0 := pw_cell_below hb1 c0; replace c1 := pw_cell_below hb1 c1) | (go_at_call 93; (with_reducible refine (local_any _ _ (by omega)).mono ?_); rintro e w2 ⟨rfl, hb2⟩; replace c1 := pw_cell_below hb2 c1))
      go_ret
      exact ⟨by rw [HK.out, e2]; rfl, below_step (below_step hB.out hb1) hb2⟩
  | false =>
    obtain ⟨e1a, e1b⟩ := pre_ne e1
    have HK := Lib.hid (show knownB p v = _ from if_neg (by simpa using e1))
    cases e2 : moduleB p with
    | false =>
      have e2' : (pathErr (moduleB p) != 0) = true := by rw [e2]; rfl
      go_wp2_with (go_at_call 30; (with_reducible refine (module_any _ _ (by omega)).mono ?_); rintro e w1 ⟨rfl, hb1⟩; replace c0 := pw_cell_below hb1 c0; replace c1 := pw_cell_below hb1 c1)
      go_ret
      exact ⟨by rw [HK.out, e2]; rfl, below_step hB.out hb1⟩
    | true =>
      have e2' : (pathErr (moduleB p) != 0) = false := by rw [e2]; rfl
      have HK := Lib.hid (HK.out.trans (by rw [if_pos e2]))
      go_upto_region 6 with (go_at_call 30; (with_reducible refine (module_any _ _ (by omega)).mono ?_); rintro e w1 ⟨rfl, hb1⟩; replace c0 := pw_cell_below hb1 c0; replace c1 := pw_cell_below hb1 c1)
      go_region_held3 (fun w' => w'.cell? ⟨w.heap.size, 0, none⟩ = some (.string p) ∧ w'.cell? ⟨w.heap.size, 1, none⟩ = some (.string v) ∧ Hid (Below w.heap.size w w'))
        (first | exact keep2 (by assumption) (by assumption) | exact ⟨c0, c1, Lib.hid (below_drew1 (below_step hB.out hb1))⟩)
        ((go_at_call 94; refine (canon_any v _ (by omega)).mono ?_; rintro e w2 ⟨rfl, hb⟩))
      rename_i hS
      obtain ⟨c0', c1', hB2⟩ := hS
      cases e3 : ((canonB v).toList == v.toList) with
      | false =>
        have e3' : ((canonB v).toList != v.toList) = true := by simpa using e3
        go_wp2
        go_ret
        exact ⟨by rw [HK.out, if_neg (by simpa using e3)]; rfl, hB2.out⟩
      | true =>
        have e3' : ((canonB v).toList != v.toList) = false := by simpa using e3
        go_wp2_with (go_at_call 95; (with_reducible refine (fits_any _ _ _ (by omega) (by omega)).mono ?_); rintro e w3 ⟨rfl, hb3⟩)
        go_ret
        exact ⟨by rw [HK.out, if_pos (by simpa using e3)]; rfl, below_step hB2.out hb3⟩
set_option maxHeartbeats 4000000 in
set_option maxRecDepth 100000 in
theorem rknown07_any (p v : ByteArray) (w : World) (hp : p.size ≤ 1099511627770) (hv : v.size ≤ 1099511627770) :
    Calls Tryz.prog 63 #[.agg #[.string p, .string v]] w fun e w' => e = .returned (.int .i64 (knownB p v)) ∧ Below w.heap.size w w' := by
  obtain ⟨W, hW, c0, c1, hB⟩ := one_mod w p v 38
  have HW := Lib.hid hW; clear hW
  go_enter Tryz.func63, Tryz.ntmps63
  go_upto_region 1 with (fail)
  rw [← HW.out]
  cases e1 : (v.toList == []) with
  | true =>
    obtain ⟨e1a, e1b⟩ := pre_ne e1
    have HK := Lib.hid (show knownB p v = _ from if_pos (by simpa using e1))
    cases e2 : localB p with
    | _ =>
      go_wp2_with (go_at_call 96; (with_reducible refine (rlocal_any _ _ (by omega)).mono ?_); rintro e w2 ⟨rfl, hb2⟩)
      go_ret
      exact ⟨by rw [HK.out, e2]; rfl, below_step hB.out hb2⟩
  | false =>
    obtain ⟨e1a, e1b⟩ := pre_ne e1
    have HK := Lib.hid (show knownB p v = _ from if_neg (by simpa using e1))
    cases e2 : moduleB p with
    | false =>
      have e2' : (pathErr false == 0) = false := rfl
      go_upto_region 6 with (go_at_call 37; (with_reducible refine (rmodule_any _ _ (by omega)).mono ?_); rw [e2]; rintro e w1 ⟨rfl, hb1⟩; replace c0 := pw_cell_below hb1 c0; replace c1 := pw_cell_below hb1 c1)
      go_quiet (fail)
      go_wp2
      go_ret
      exact ⟨by rw [HK.out, e2]; rfl, pw_below_drewN (below_step hB.out hb1) _⟩
    | true =>
      have e2' : (pathErr true == 0) = true := rfl
      have HK := Lib.hid (HK.out.trans (by rw [if_pos e2]))
      go_upto_region 6 with (go_at_call 37; (with_reducible refine (rmodule_any _ _ (by omega)).mono ?_); rw [e2]; rintro e w1 ⟨rfl, hb1⟩; replace c0 := pw_cell_below hb1 c0; replace c1 := pw_cell_below hb1 c1)
      go_region_held3 (fun w' => w'.cell? ⟨w.heap.size, 0, none⟩ = some (.string p) ∧ w'.cell? ⟨w.heap.size, 1, none⟩ = some (.string v) ∧ Hid (Below w.heap.size w w'))
        (first | exact keep2 (by assumption) (by assumption) | exact ⟨c0, c1, Lib.hid (below_drew1 (below_step hB.out hb1))⟩)
        ((go_at_call 97; refine (rcanon_any v _ (by omega)).mono ?_; rintro e w2 ⟨rfl, hb⟩))
      rename_i hS
      obtain ⟨c0', c1', hB2⟩ := hS
      cases e3 : ((canonB v).toList == v.toList) with
      | false =>
        have e3' : ((canonB v).toList != v.toList) = true := by simpa using e3
        go_wp2
        go_ret
        exact ⟨by rw [HK.out, if_neg (by simpa using e3)]; rfl, hB2.out⟩
      | true =>
        have e3' : ((canonB v).toList != v.toList) = false := by simpa using e3
        go_wp2_with (go_at_call 98; (with_reducible refine (rfits_any _ _ _ (by omega) (by omega)).mono ?_); rintro e w3 ⟨rfl, hb3⟩)
        go_ret
        exact ⟨by rw [HK.out, if_pos (by simpa using e3)]; rfl, below_step hB2.out hb3⟩
theorem known_beq (p v : ByteArray) : (knownB p v == 0) = isKnown p v := by unfold isKnown; rw [Bool.eq_iff_iff]; simp
set_option maxHeartbeats 1000000 in
theorem mknown_any (p v : ByteArray) (w : World) (hp : p.size ≤ 1099511627770) (hv : v.size ≤ 1099511627770) :
    Calls Tryz.prog 31 #[.agg #[.string p, .string v]] w fun e w' => e = .returned (.bool (isKnown p v)) ∧ Below w.heap.size w w' := by
  obtain ⟨W, hW, c0, c1, hB⟩ := one_mod w p v 38
  have HW := Lib.hid hW; clear hW
  have HK := Lib.hid (known_beq p v)
  go_enter Tryz.func31, Tryz.ntmps31
  go_upto_region 1 with (fail)
  rw [← HW.out]
  go_wp2_with (go_at_call 62; (with_reducible refine (cknown_any _ _ _ hp hv).mono ?_); rintro e w2 ⟨rfl, hb2⟩)
  go_ret
  exact ⟨by rw [← HK.out]; rfl, below_step hB.out hb2⟩
set_option maxHeartbeats 1000000 in
theorem rknown_any (p v : ByteArray) (w : World) (hp : p.size ≤ 1099511627770) (hv : v.size ≤ 1099511627770) :
    Calls Tryz.prog 32 #[.agg #[.string p, .string v]] w fun e w' => e = .returned (.bool (isKnown p v)) ∧ Below w.heap.size w w' := by
  obtain ⟨W, hW, c0, c1, hB⟩ := one_mod w p v 38
  have HW := Lib.hid hW; clear hW
  have HK := Lib.hid (known_beq p v)
  go_enter Tryz.func32, Tryz.ntmps32
  go_upto_region 1 with (fail)
  rw [← HW.out]
  go_wp2_with (go_at_call 63; (with_reducible refine (rknown07_any _ _ _ hp hv).mono ?_); rintro e w2 ⟨rfl, hb2⟩)
  go_ret
  exact ⟨by rw [← HK.out]; rfl, below_step hB.out hb2⟩
end Go.Proofs.YtcdcpcdfcmokkaaGreatDoor
end
section
namespace Go.Proofs.YtcdcpcdfcmokkaaGreatDoor
open Go Go.RowKit Go.Proofs.YtcdcpcdfcmokkaaGreatDoorW.PrintWords
set_option linter.unusedVariables false
theorem within_any (s d : ByteArray) (w : World) (hd : d.size ≤ 1099511627770) :
    Calls Tryz.prog 49 #[.string s, .string d] w fun e w' => e = .returned (.tuple #[.string (withinB s d).1, .bool (withinB s d).2]) ∧ Below w.heap.size w w' :=
  (P.paths_Within.calls s d (withinB s d).1 (withinB s d).2 w (within_eq s d (by omega))).mono fun e w' h => ⟨h.1, h.2.below⟩
theorem release_any (s : ByteArray) (w : World) (hs : s.size ≤ 1099511627770) :
    Calls Tryz.prog 51 #[.string s] w fun e w' => e = .returned (.bool (releaseB s)) ∧ Below w.heap.size w w' := by
  exact P.gomod_Release.calls s _ w (release_eq s hs)
end Go.Proofs.YtcdcpcdfcmokkaaGreatDoor
end
section
namespace Go.Proofs.YtcdcpcdfcmokkaaGreatDoor.P
open Go.RowKit Go.Proofs.YtcdcpcdfcmokkaaGreatDoorW.PrintWords Go.Proofs.YtcdcpcdfcmokkaaGreatDoorW.PrintLast Go.Proofs.YtcdcpcdfcmokkaaGreatDoorW.PrintMore
open Go.Proofs.YtcdcpcdfcmokkaaGreatDoor (str_gtr str_leq str_geq bne_empty)
attribute [local go_sem] max2_int min2_int max_two min_two max_three min_three max_four min_four str_gtr str_leq str_geq   -- for this text's walks alone
set_option linter.unusedVariables false
set_option linter.unusedSimpArgs false
theorem eqA38 (d : Nat) (w : World) (x0 y0 : ByteArray) (x1 y1 : ByteArray) :
    (Op.equalIn (d + 2) 38 (.agg #[.string x0, .string x1]) (.agg #[.string y0, .string y1])).run Tryz.prog w = .ok (x0.toList == y0.toList && (x1.toList == y1.toList)) w := by
  refine eqA_of Tryz.underlying38 (by kernel_rfl) ?_
  refine eqf_cons (by rfl) (by go_simp; rfl) (by go_simp; rfl) (by go_simp) ?_
  exact eqf_last (by rfl) (by go_simp; rfl) (by go_simp; rfl) (by go_simp)
end Go.Proofs.YtcdcpcdfcmokkaaGreatDoor.P
end
section
namespace Go.Proofs.YtcdcpcdfcmokkaaGreatDoor
open Go Go.RowKit Go.Shelf Go.Proofs.YtcdcpcdfcmokkaaGreatDoorW.PrintWords
set_option linter.unusedVariables false
attribute [local go_sem] str_leq
attribute [local go_sem high] P.eqA38
theorem getD_le {l : List ByteArray} {n : Nat} (h : ∀ s ∈ l, s.size ≤ n) (k : Nat) : (l.getD k emp).size ≤ n := by
  rw [List.getD_eq_getElem?_getD]
  cases e : l[k]? with
  | none => exact Nat.zero_le _
  | some s => exact h s (List.mem_of_getElem? e)
def pkgOk (dir : ByteArray) (l : List ByteArray) (i : Nat) : Bool :=
  (withinB (l.getD i emp) dir).2 && (importB (l.getD i emp) && (decide (i = 0) || Op.bytesLess (l.getD (i - 1) emp).toList (l.getD i emp).toList))
def rightB (p v : ByteArray) (x : Bool) (g np nv : ByteArray) (l : List ByteArray) : Bool :=
  (isKnown p v && (!v.toList.isEmpty && (x || !l.isEmpty))) && (upto (pkgOk p l) l.length && ((g.toList.isEmpty || releaseB g) && ((np.toList.isEmpty && nv.toList.isEmpty) || isKnown np nv)))
set_option maxHeartbeats 4000000 in
set_option maxRecDepth 100000 in
theorem right_any (p v g np nv : ByteArray) (x : Bool) (A : Option Addr) (c : Nat) (l : List ByteArray) (w : World) (hr : Kd.string.C w A l.length l) (hc : l.length ≤ c)
    (sp : p.size ≤ 1099511627770) (sv : v.size ≤ 1099511627770) (sg : g.size ≤ 1099511627770) (snp : np.size ≤ 1099511627770) (snv : nv.size ≤ 1099511627770) (sl : ∀ s ∈ l, s.size ≤ 1099511627770) (hl : l.length ≤ 1099511627770) :
    Calls Tryz.prog 28 #[.agg #[.string p, .string v, .bool x, .string g, .string np, .string nv, .slice A l.length c]] w fun e w' => e = .returned (.bool (rightB p v x g np nv l)) ∧ Below w.heap.size w w' := by
  have hnew := blk_new w (.cells #[.string p, .string v, .bool x, .string g, .string np, .string nv, .slice A l.length c] 41)
  have hba : Below w.heap.size w (w.alloc (.cells #[.string p, .string v, .bool x, .string g, .string np, .string nv, .slice A l.length c] 41)) := (Below.refl _ w).alloc (Nat.le_refl _) _
  by_cases h1 : (isKnown p v && (!v.toList.isEmpty && (x || !l.isEmpty))) = true
  · simp only [Bool.and_eq_true, Bool.or_eq_true] at h1
    obtain ⟨hk, hv, hx⟩ := h1
    have hv2 : v.toList.isEmpty = false := by simpa using hv
    have hR : rightB p v x g np nv l = (upto (pkgOk p l) l.length && ((g.toList.isEmpty || releaseB g) && ((np.toList.isEmpty && nv.toList.isEmpty) || isKnown np nv))) := by
      unfold rightB; rw [hk, hv2]
      have : (x || !l.isEmpty) = true := by rw [Bool.or_eq_true]; exact hx
      rw [this]; rfl
    have hx2 : x = false → ((l.length : Int) == 0) = false := by
      rintro rfl
      rcases hx with hx | hx
      · cases hx
      · have : l.length ≠ 0 := fun e => by simp [List.eq_nil_of_length_eq_zero e] at hx
        rw [beq_eq_false_iff_ne]; omega
    have HR := Lib.hid hR; clear hR hv hx
    have HX := Lib.hid hx2; clear hx2
    cases x
    all_goals
      have hx3 := HX.out
      simp only [Bool.true_eq_false, false_implies, true_implies] at hx3
      go_enter Tryz.func28, Tryz.ntmps28
      go_wp2_with (go_at_call 31; (with_reducible refine (mknown_any _ _ _ sp sv).mono ?_); rintro e w1 ⟨rfl, hb1⟩; obtain ⟨c0, c1, c2, c3, c4, c5, c6⟩ := blk7 (blk_at hnew hb1))
      go_loopw [31] (fun i wr => ∃ k : Nat, k ≤ l.length ∧ i = .int .i64 k ∧ Hid (upto (pkgOk p l) k = true) ∧ Below w.heap.size w wr ∧ Hid (wr.heap[w.heap.size]? = some (.cells #[.string p, .string v, .bool _, .string g, .string np, .string nv, .slice A l.length c] 41 (0, 0)))) (fun i wr => l.length - (intOf i).toNat)
      case atStart => exact ⟨0, Nat.zero_le _, rfl, rfl, hba.trans (hb1.mono (by simp)), blk_at hnew hb1⟩
      case round =>
        obtain ⟨k, hk, rfl, hu, hb, hz⟩ := hrel
        by_cases hlt : k < l.length
        · obtain ⟨ad, hA, hcell⟩ := strC_cell (Kd.C_below hr hb) hlt
          have hprev : 0 < k → wr.cell? (ad.add (k - 1)) = some (.string (l.getD (k - 1) emp)) := fun h0 => by
            obtain ⟨ad', hA', hc'⟩ := strC_cell (Kd.C_below hr hb) (show k - 1 < l.length by omega)
            rw [hA] at hA'; cases hA'; exact hc'
          subst hA
          have se := getD_le sl k
          obtain ⟨e, He⟩ : ∃ e, Hid (l.getD k emp = e) := ⟨_, rfl⟩
          obtain ⟨q, Hq⟩ : ∃ q, Hid (l.getD (k - 1) emp = q) := ⟨_, rfl⟩
          have hp : pkgOk p l k = ((withinB e p).2 && (importB e && (decide (k = 0) || Op.bytesLess q.toList e.toList))) := by unfold pkgOk; rw [He.out, Hq.out]
          have Hp := Lib.hid hp; clear hp
          rw [He.out] at hcell se
          rw [Hq.out] at hprev
          have hbad : Hid (pkgOk p l k = false → _ = false) := fun h => HR.out.trans (by rw [upto_no h _ hlt]; rfl)
          obtain ⟨c0, c1, c2, c3, c4, c5, c6⟩ := blk7 hz.out
          cases h1 : (withinB e p).2 with
          | false =>
            clear hprev
            go_wp2_with (go_at_call 49; (with_reducible refine (within_any _ _ _ sp).mono ?_); rintro e w2 ⟨rfl, hb2⟩)
            go_ret
            exact ⟨by rw [hbad.out (by rw [Hp.out, h1]; rfl)]; rfl, hb.trans (hb2.mono hb.size)⟩
          | true =>
            cases h2 : importB e with
            | false =>
              clear hprev
              have h2' : (pathErr (importB e) != 0) = true := by rw [h2]; rfl
              go_wp2_with (first | (go_at_call 49; (with_reducible refine (within_any _ _ _ sp).mono ?_); rintro e w2 ⟨rfl, hb2⟩; obtain ⟨d0, d1, d2, d3, d4, d5, d6⟩ := blk7 (blk_at hz.out hb2)) | (go_at_call 50; (with_reducible refine (import_any _ _ (by omega)).mono ?_); rintro e w3 ⟨rfl, hb3⟩))
              go_ret
              exact ⟨by rw [hbad.out (by rw [Hp.out, h1, h2]; rfl)]; rfl, hb.trans ((hb2.mono hb.size).trans (hb3.mono (Nat.le_trans hb.size hb2.size)))⟩
            | true =>
              have h2' : (pathErr (importB e) != 0) = false := by rw [h2]; rfl
              have hbb : ∀ w2 w3, Below wr.heap.size wr w2 → Below w2.heap.size w2 w3 → Below w.heap.size w w3 := fun w2 w3 hb2 hb3 => hb.trans ((hb2.mono hb.size).trans (hb3.mono (Nat.le_trans hb.size hb2.size)))
              have HB := Lib.hid hbb; clear hbb
              by_cases h0 : k = 0
              · subst h0
                have hk0 : decide ((0 : Int) < ((0 : Nat) : Int)) = false := by decide
                clear hprev
                have hcell0 : wr.cell? ad = some (.string e) := hcell
                clear hcell
                go_wp2_with (first | (go_at_call 49; (with_reducible refine (within_any _ _ _ sp).mono ?_); rintro e w2 ⟨rfl, hb2⟩; obtain ⟨d0, d1, d2, d3, d4, d5, d6⟩ := blk7 (blk_at hz.out hb2)) | (go_at_call 50; (with_reducible refine (import_any _ _ (by omega)).mono ?_); rintro e w3 ⟨rfl, hb3⟩; obtain ⟨e0, e1, e2, e3, e4, e5, e6⟩ := blk7 (blk_at (blk_at hz.out hb2) hb3)))
                go_roundw
                case rel => exact ⟨1, by omega, by go_num, (show upto (pkgOk p l) 1 = true from by simp only [upto, Hp.out, h1, h2]; rfl), HB.out _ _ hb2 hb3, blk_at (blk_at hz.out hb2) hb3⟩
                case measure => simp [intOf]; omega
              · have hk0 : decide ((0 : Int) < (k : Int)) = true := decide_eq_true (by omega)
                have hcp := hprev (by omega)
                clear hprev
                have hk1 : (1 : Int) ≤ (k : Int) := by omega
                cases h3 : Op.bytesLess q.toList e.toList with
                | false =>
                  go_wp2_with (first | (go_at_call 49; (with_reducible refine (within_any _ _ _ sp).mono ?_); rintro e w2 ⟨rfl, hb2⟩; obtain ⟨d0, d1, d2, d3, d4, d5, d6⟩ := blk7 (blk_at hz.out hb2)) | (go_at_call 50; (with_reducible refine (import_any _ _ (by omega)).mono ?_); rintro e w3 ⟨rfl, hb3⟩; obtain ⟨e0, e1, e2, e3, e4, e5, e6⟩ := blk7 (blk_at (blk_at hz.out hb2) hb3); have hcq := pw_cell_below hb3 (pw_cell_below hb2 hcp)))
                  go_ret
                  exact ⟨by rw [hbad.out (by rw [Hp.out, h1, h2, h3, decide_eq_false h0]; rfl)]; rfl, HB.out _ _ hb2 hb3⟩
                | true =>
                  go_wp2_with (first | (go_at_call 49; (with_reducible refine (within_any _ _ _ sp).mono ?_); rintro e w2 ⟨rfl, hb2⟩; obtain ⟨d0, d1, d2, d3, d4, d5, d6⟩ := blk7 (blk_at hz.out hb2)) | (go_at_call 50; (with_reducible refine (import_any _ _ (by omega)).mono ?_); rintro e w3 ⟨rfl, hb3⟩; obtain ⟨e0, e1, e2, e3, e4, e5, e6⟩ := blk7 (blk_at (blk_at hz.out hb2) hb3); have hcq := pw_cell_below hb3 (pw_cell_below hb2 hcp)))
                  go_roundw
                  case rel => exact ⟨k + 1, by omega, by go_num, (show upto (pkgOk p l) (k + 1) = true from by simp only [upto, hu.out, Hp.out, h1, h2, h3]; simp), HB.out _ _ hb2 hb3, blk_at (blk_at hz.out hb2) hb3⟩
                  case measure => simp [intOf]; omega
        · obtain rfl : k = l.length := by omega
          obtain ⟨c0, c1, c2, c3, c4, c5, c6⟩ := blk7 hz.out
          have hR2 := HR.out
          rw [hu.out] at hR2
          have HR2 := Lib.hid hR2; clear hR2
          by_cases g1 : g.toList = []
          · have g2 : g.toList.isEmpty = true := by simpa using g1
            cases n1 : (np.toList.isEmpty && nv.toList.isEmpty) with
            | true =>
              go_wp2
              go_ret
              exact ⟨by rw [HR2.out, g2, n1]; rfl, hb⟩
            | false =>
              go_wp2_with (go_at_call 31; (with_reducible refine (mknown_any _ _ _ snp snv).mono ?_); rintro e w2 ⟨rfl, hb2⟩)
              go_ret
              exact ⟨by rw [HR2.out, g2, n1]; rfl, hb.trans (hb2.mono hb.size)⟩
          · have g2 : g.toList.isEmpty = false := by simpa using g1
            cases r1 : releaseB g with
            | false =>
              go_wp2_with (go_at_call 51; (with_reducible refine (release_any _ _ sg).mono ?_); rintro e w2 ⟨rfl, hb2⟩)
              go_ret
              exact ⟨by rw [HR2.out, g2, r1]; rfl, hb.trans (hb2.mono hb.size)⟩
            | true =>
              cases n1 : (np.toList.isEmpty && nv.toList.isEmpty) with
              | true =>
                go_wp2_with (go_at_call 51; (with_reducible refine (release_any _ _ sg).mono ?_); rintro e w2 ⟨rfl, hb2⟩; obtain ⟨d0, d1, d2, d3, d4, d5, d6⟩ := blk7 (blk_at hz.out hb2))
                go_ret
                exact ⟨by rw [HR2.out, g2, r1, n1]; rfl, hb.trans (hb2.mono hb.size)⟩
              | false =>
                go_wp2_with (first | (go_at_call 51; (with_reducible refine (release_any _ _ sg).mono ?_); rintro e w2 ⟨rfl, hb2⟩; obtain ⟨d0, d1, d2, d3, d4, d5, d6⟩ := blk7 (blk_at hz.out hb2)) | (go_at_call 31; (with_reducible refine (mknown_any _ _ _ snp snv).mono ?_); rintro e w3 ⟨rfl, hb3⟩))
                go_ret
                exact ⟨by rw [HR2.out, g2, r1, n1]; rfl, hb.trans ((hb2.mono hb.size).trans (hb3.mono (Nat.le_trans hb.size hb2.size)))⟩
  · have hR : rightB p v x g np nv l = false := by
      unfold rightB; rw [Bool.eq_false_iff.2 h1]; rfl
    have HR := Lib.hid hR; clear hR
    cases hk : isKnown p v with
    | false =>
      clear h1
      go_enter Tryz.func28, Tryz.ntmps28
      go_wp2_with (go_at_call 31; (with_reducible refine (mknown_any _ _ _ sp sv).mono ?_); rintro e w1 ⟨rfl, hb1⟩)
      go_ret
      exact ⟨by rw [HR.out]; rfl, hba.trans (hb1.mono (by simp))⟩
    | true =>
      by_cases hv : v.toList = []
      · have hv1 : v.toList.isEmpty = true := by simpa using hv
        clear h1 hv
        go_enter Tryz.func28, Tryz.ntmps28
        go_wp2_with (go_at_call 31; (with_reducible refine (mknown_any _ _ _ sp sv).mono ?_); rintro e w1 ⟨rfl, hb1⟩; obtain ⟨c0, c1, c2, c3, c4, c5, c6⟩ := blk7 (blk_at hnew hb1))
        go_ret
        exact ⟨by rw [HR.out]; rfl, hba.trans (hb1.mono (by simp))⟩
      · have hv1 : v.toList.isEmpty = false := by simpa using hv
        have hx : x = false ∧ l = [] := by
          rw [hk] at h1
          rw [hv1] at h1
          cases x <;> simp_all
        obtain ⟨rfl, rfl⟩ := hx
        clear h1 hv
        go_enter Tryz.func28, Tryz.ntmps28
        go_wp2_with (go_at_call 31; (with_reducible refine (mknown_any _ _ _ sp sv).mono ?_); rintro e w1 ⟨rfl, hb1⟩; obtain ⟨c0, c1, c2, c3, c4, c5, c6⟩ := blk7 (blk_at hnew hb1))
        go_ret
        exact ⟨by rw [HR.out]; rfl, hba.trans (hb1.mono (by simp))⟩
end Go.Proofs.YtcdcpcdfcmokkaaGreatDoor
end
section
namespace Go.Proofs.YtcdcpcdfcmokkaaGreatDoor
open Go Go.Maps Go.RowKit Go.WideMaps
def litB (s : ByteArray) : Lit := .string s.data.toList
theorem litB_inj {a b : ByteArray} (h : litB a = litB b) : a = b := by
  unfold litB at h
  injection h with h
  rw [← Lib.mk_data a, h, Lib.mk_data]
theorem litB_key (s : ByteArray) : WideAt.IsKeyLit (litB s) := trivial
def inB (s : ByteArray) (l : List ByteArray) : Bool := l.any fun p => p.toList == s.toList
theorem inB_iff {s : ByteArray} {l : List ByteArray} : inB s l = true ↔ s ∈ l := by
  unfold inB
  rw [List.any_eq_true]
  constructor
  · rintro ⟨p, hp, h⟩
    have h := eq_of_beq h
    rw [ByteArray.toList_eq, ByteArray.toList_eq] at h
    have : p = s := by rw [← Lib.mk_data p, h, Lib.mk_data]
    exact this ▸ hp
  · intro h; exact ⟨s, h, by simp⟩
def OwnsSet (w : World) (P : Program) (k e : TypeId) (b : Nat) (l : List ByteArray) : Prop :=
  ∃ n, n ≤ l.length ∧ w.ownsMap (H := Unit) P k (plainElem P e) b n (setOf (.lit (.bool true)) (l.map litB))
theorem atKey_fold (u z : DataW Unit) (s : ByteArray) : ∀ (l : List ByteArray) (m : DataW Unit), IsMap m → ((l.map litB).foldl (fun m x => m.put x u) m).atKey (litB s) z = if inB s l = true then u else m.atKey (litB s) z
  | [], m, _ => by simp [inB]
  | x :: l, m, hm => by
    rw [List.map_cons, List.foldl_cons, atKey_fold u z s l _ (hm.put _ _)]
    by_cases h : inB s l = true
    · rw [if_pos h, if_pos (inB_iff.2 (List.mem_cons_of_mem _ (inB_iff.1 h)))]
    · rw [if_neg h]
      by_cases e : s = x
      · subst e
        rw [atKey_put_same hm (litB_key s), if_pos (inB_iff.2 List.mem_cons_self)]
      · rw [atKey_put_other (fun k => e (litB_inj k)), if_neg (fun k => by rcases List.mem_cons.1 (inB_iff.1 k) with k | k; · exact e k
                                                                           · exact h (inB_iff.2 k))]
theorem atKey_set (s : ByteArray) (l : List ByteArray) : (setOf (.lit (.bool true)) (l.map litB) : DataW Unit).atKey (litB s) (.lit (.bool false)) = .lit (.bool (inB s l)) := by
  unfold setOf
  rw [atKey_fold _ _ _ _ _ isMap_empty]
  cases h : inB s l with
  | true => rfl
  | false => rfl
section
variable {P : Program} {k e t : TypeId} {w w' : World} {b : Nat} {l : List ByteArray}
theorem OwnsSet.made (w : World) (P : Program) (k e : TypeId) : OwnsSet (w.alloc (.map #[] 0)) P k e w.heap.size [] := ⟨0, Nat.le_refl _, World.ownsMap_made _ _ _ _⟩
theorem OwnsSet.lt (h : OwnsSet w P k e b l) : b < w.heap.size := by obtain ⟨n, _, h⟩ := h; exact h.lt
theorem OwnsSet.kept {row : Option Nat} (h : OwnsSet w P k e b l) (hg : w.grownBy w' row) (hne : some b ≠ row) : OwnsSet w' P k e b l := by
  obtain ⟨n, hn, h⟩ := h; exact ⟨n, hn, h.kept hg hne⟩
theorem OwnsSet.alloc (h : OwnsSet w P k e b l) (o : Obj) : OwnsSet (w.alloc o) P k e b l := h.kept (World.grownBy_alloc w o none) (by simp)
theorem OwnsSet.below (h : OwnsSet w P k e b l) (hb : Below w.heap.size w w') : OwnsSet w' P k e b l :=
  h.kept (row := none) ⟨hb.os, hb.tape, hb.output, hb.size, fun i hi _ => hb.block i hi⟩ (by simp)
theorem OwnsSet.setCell (h : OwnsSet w P k e b l) {a : Addr} (ha : b ≠ a.block) (u : Value) : OwnsSet (w.setCell a u) P k e b l := by
  obtain ⟨n, hn, h⟩ := h; exact ⟨n, hn, h.setCell ha u⟩
theorem OwnsSet.drew (h : OwnsSet w P k e b l) : OwnsSet w.drew P k e b l := h
theorem wpList_lookup_set {ops : Array Oper} {rest : List Oper} {o : Oper} {a : Act} {Q : Exit → Act → World → Prop}
    (hg : o.guard = none) (m x : Operand) (t : TypeId) (hop : o.op = Op.lookup t m x false) (k e : TypeId)
    (hk : P.underlying k = some .string) (ht : P.underlying t = some (.map k e)) (he : P.underlying e = some .bool) (hz : ∀ w, (zeroValue e).run P w = .ok (.bool false) w)
    (b : Nat) (l : List ByteArray) (hm : a.eval m = .map (some b)) (hown : OwnsSet w P k e b l) (s : ByteArray) (hx : a.eval x = .string s) (hs : s.size ≤ 9223372036854775807)
    (hK : wpList P ops Q rest (a.put o.dst (.bool (inB s l))) w) : wpList P ops Q (o :: rest) a w := by
  obtain ⟨n, hn, hown⟩ := hown
  refine wpList_plain hg fun K' hK' => ?_
  obtain ⟨v, ps, hrun, hv⟩ := hown.lookup (string_keyed hk) ht (hz w) (plainElem_bool he false) (keyOf_string_mk hk (s := s) hs)
  rw [show (Lit.string s.data.toList) = litB s from rfl, atKey_set s l] at hv
  have hv2 : v = .bool (inB s l) := by
    unfold plainElem at hv
    rw [he] at hv
    cases v <;> simp at hv
    rw [hv.1]
  subst hv2
  unfold Oper.wp
  simp [execOp, hop, hm, hx, hrun, Result.andThen]
  exact hK' _ _ hK
theorem wpList_update_set {ops : Array Oper} {rest : List Oper} {o : Oper} {a : Act} {Q : Exit → Act → World → Prop}
    (hg : o.guard = none) (m x v : Operand) (t : TypeId) (hop : o.op = Op.mapUpdate t m x v) (k e : TypeId)
    (hk : P.underlying k = some .string) (ht : P.underlying t = some (.map k e)) (he : P.underlying e = some .bool)
    (b : Nat) (l : List ByteArray) (hm : a.eval m = .map (some b)) (hown : OwnsSet w P k e b l) (hl : l.length < 9223372036854775807) (s : ByteArray) (hx : a.eval x = .string s) (hs : s.size ≤ 9223372036854775807) (hv : a.eval v = .bool true)
    (hK : ∀ w', OwnsSet w' P k e b (l ++ [s]) → w.grownBy w' (some b) → wpList P ops Q rest (a.put o.dst undef) w') : wpList P ops Q (o :: rest) a w := by
  obtain ⟨n, hn, hown⟩ := hown
  refine wpList_mapUpdate_own w hg m x v t hop k e (string_keyed hk) ht (plainElem P e) b n _ hm hown (by show n < 9223372036854775807; omega) (.string s) (.bool true) _ hx hv (keyOf_string_mk hk (s := s) hs) (.lit (.bool true)) [] (plainElem_bool he true) ?_
  intro w' h1 h2
  refine hK w' ⟨n + 1, by simp; omega, ?_⟩ h2
  rw [List.map_append, List.map_cons, List.map_nil, setOf_snoc]
  exact h1
end
end Go.Proofs.YtcdcpcdfcmokkaaGreatDoor
end
section
namespace Go.Proofs.YtcdcpcdfcmokkaaGreatDoor
open Go Go.RowKit Go.Proofs.YtcdcpcdfcmokkaaGreatDoorW.PrintWords
set_option linter.unusedVariables false
abbrev SMod := P.S38
abbrev SM := P.S41
abbrev SR := P.S59
abbrev zM : SM := P.z41
abbrev zR : SR := P.z59
def rightM (m : SM) : Bool := rightB m.f0.f0 m.f0.f1 m.f1 m.f2 m.f3.f0 m.f3.f1 m.f4
def ordM (a b : SMod) : Int := orderM a.f0 a.f1 b.f0 b.f1
def metB (ms : List SM) (i : Nat) : List ByteArray := (ms.take i).flatMap (·.f4)
def newP (ms : List SM) (i k : Nat) : Bool := !inB ((ms.getD i zM).f4.getD k emp) (metB ms i ++ (ms.getD i zM).f4.take k)
def modOk (ms : List SM) (i : Nat) : Bool :=
  (rightM (ms.getD i zM) && (decide (i = 0) || (decide (ordM (ms.getD (i - 1) zM).f0 (ms.getD i zM).f0 < 0) && !((ms.getD (i - 1) zM).f0.f0.toList == (ms.getD i zM).f0.f0.toList)))) && upto (newP ms i) (ms.getD i zM).f4.length
def repOk (rs : List SR) (i : Nat) : Bool :=
  moduleB (rs.getD i zR).f0.f0 && (((rs.getD i zR).f0.f1.toList.isEmpty || isKnown (rs.getD i zR).f0.f0 (rs.getD i zR).f0.f1) && (isKnown (rs.getD i zR).f1.f0 (rs.getD i zR).f1.f1 && (decide (i = 0) || decide (ordM (rs.getD (i - 1) zR).f0 (rs.getD i zR).f0 < 0))))
def listB (ms : List SM) (rs : List SR) : Bool := upto (modOk ms) ms.length && upto (repOk rs) rs.length
def listErr (ms : List SM) (rs : List SR) : Int := if listB ms rs = true then 0 else 190
theorem listErr_bad {ms : List SM} {rs : List SR} (h : listB ms rs = false) : listErr ms rs = 190 := by unfold listErr; rw [h]; rfl
theorem listErr_mod {ms : List SM} {rs : List SR} {i : Nat} (hi : i < ms.length) (h : modOk ms i = false) : listErr ms rs = 190 := listErr_bad (by unfold listB; rw [upto_no h _ hi]; rfl)
theorem listErr_rep {ms : List SM} {rs : List SR} {i : Nat} (hi : i < rs.length) (h : repOk rs i = false) : listErr ms rs = 190 := listErr_bad (by unfold listB; rw [upto_no h _ hi, Bool.and_false])
theorem metB_succ (ms : List SM) (i : Nat) (h : i < ms.length) : metB ms (i + 1) = metB ms i ++ (ms.getD i zM).f4 := by
  unfold metB
  rw [List.take_succ_eq_append_getElem h, List.flatMap_append]
  simp [List.getD_eq_getElem?_getD, List.getElem?_eq_getElem h]
theorem elemsB_some {p : ByteArray} (h : p.toList ≠ []) : 0 < (elemsB p).length := by
  unfold elemsB
  rw [ByteArray.toList_eq] at h
  rw [if_neg h]
  unfold piecesB
  rw [List.length_map]
  have := pieces_ne 47 p.data.toList
  cases e : pieces 47 p.data.toList with
  | nil => exact absurd e this
  | cons a b => simp
theorem order_first {p v : ByteArray} (h : moduleB p = true) : orderM emp emp p v < 0 ∧ p.toList ≠ [] := by
  have hp : p.toList ≠ [] := by
    intro e
    unfold moduleB at h
    have : validB p = false := by simp [validB, e]
    rw [this] at h
    simp at h
  refine ⟨?_, hp⟩
  have h1 : pathCmp emp p = -1 := by
    unfold pathCmp
    rw [show elemsB emp = [] from rfl, cmpLs_nil, if_neg (by have := elemsB_some hp; omega)]
  unfold orderM
  rw [h1, show orI (-1) (orI (verCmp emp v) (cmpS emp v)) = -1 from if_pos (by decide)]
  decide
theorem known_module {p v : ByteArray} (h : isKnown p v = true) (hv : v.toList.isEmpty = false) : moduleB p = true := by
  unfold isKnown knownB at h
  have hv' : ¬ v.toList = [] := by intro e; rw [e] at hv; cases hv
  rw [if_neg hv'] at h
  cases hm : moduleB p with
  | true => rfl
  | false => rw [hm] at h; simp at h
theorem right_module {m : SM} (h : rightM m = true) : moduleB m.f0.f0 = true := by
  unfold rightM rightB at h
  simp only [Bool.and_eq_true, Bool.not_eq_true'] at h
  exact known_module h.1.1 h.1.2.1
end Go.Proofs.YtcdcpcdfcmokkaaGreatDoor
end
