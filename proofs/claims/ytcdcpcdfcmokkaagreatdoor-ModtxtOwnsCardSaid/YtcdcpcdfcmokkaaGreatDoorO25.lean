/- Versions in order, by hand: the document's Compare. · Orders of layer 7 by hand. -/
import Derived.Test.YtcdcpcdfcmokkaaGreatDoorO24
import Derived.Test.YtcdcpcdfcmokkaaGreatDoorO17
import Derived.WalkSpells
import Derived.Deep.DeepCutAuto
import Derived.Deep.QuietTactic
import Derived.BigQuiet
import Derived.Deep.RegionHeld3
set_option linter.unusedVariables false
set_option linter.unusedSimpArgs false
section
namespace Go.Proofs.YtcdcpcdfcmokkaaGreatDoor
open Go Go.RowKit Go.Proofs.YtcdcpcdfcmokkaaGreatDoorW.PrintWords
set_option linter.unusedVariables false
set_option linter.unusedSimpArgs false
theorem less_any (b : Bool) (w : World) : Calls Tryz.prog 100 #[.bool b] w fun e w' => e = .returned (.int .i64 (lessI b)) ∧ w = w' := by
  cases b <;> (go_enter Tryz.func100, Tryz.ntmps100; go_wp2; go_ret; exact ⟨rfl, rfl⟩)
theorem rorder_any (a b : ByteArray) (w : World) (ha : a.size ≤ 1099511627775) (hb : b.size ≤ 1099511627775) :
    Calls Tryz.prog 102 #[.string a, .string b] w fun e w' => e = .returned (.int .i64 (orderB a b)) ∧ ∃ n, w' = w.drewN n := by
  obtain ⟨k, h⟩ := (rorder_ev a b (by omega) (by omega)).rounds
  exact (P.graftbedref03_order.calls k a b _ w h).mono fun e w' h => ⟨h.1, h.2.out⟩
theorem pre_ne {s : ByteArray} {b : Bool} (h : (s.toList == []) = b) : (s.toList != []) = !b ∧ s.toList.isEmpty = b := by
  subst h; refine ⟨rfl, ?_⟩; cases s.toList <;> rfl
theorem num_ne {a b : Int} (h : ¬ a = b) : (a != b) = true := by simpa using h
theorem cmpL_take {X Y : List ByteArray} {k : Nat} (h : X.take k = Y.take k) : cmpL X Y = cmpL (X.drop k) (Y.drop k) := by
  induction k generalizing X Y with
  | zero => rfl
  | succ k ih =>
    cases X with
    | nil => cases Y with
      | nil => rfl
      | cons y ys => simp at h
    | cons x xs => cases Y with
      | nil => simp at h
      | cons y ys =>
        simp only [List.take_succ_cons, List.cons.injEq] at h
        obtain ⟨rfl, h⟩ := h
        rw [List.drop_succ_cons, List.drop_succ_cons, ← ih h, cmpL, if_pos (orderB_same _)]
set_option maxHeartbeats 8000000 in
set_option maxRecDepth 100000 in
theorem rcompare_any (a b : ByteArray) (w : World) (ha : a.size ≤ 1099511627775) (hb : b.size ≤ 1099511627775) :
    Calls Tryz.prog 65 #[.string a, .string b] w fun e w' => e = .returned (.int .i64 (verCmp a b)) ∧ Below w.heap.size w w' := by
  have hpa := preB_le a ha
  have hpb := preB_le b hb
  go_enter Tryz.func65, Tryz.ntmps65
  go_upto_region 3 with (first | (go_at_call 99; (with_reducible refine (rparse_any a _ ha).mono ?_); rintro e w1 ⟨rfl, hb0⟩) | (go_at_call 99; (with_reducible refine (rparse_any b _ hb).mono ?_); rintro e w2 ⟨rfl, hb1⟩))
  have k1 := blk_below (blk_new w1 (.cells #[.int .i64 (numAt a 0), .int .i64 (numAt a 1), .int .i64 (numAt a 2), .string (preB a), .string (metaB a)] 120)) hb1
  have k2 := blk_new w2 (.cells #[.int .i64 (numAt b 0), .int .i64 (numAt b 1), .int .i64 (numAt b 2), .string (preB b), .string (metaB b)] 120)
  have k1' := blk_alloc k1 (.cells #[.int .i64 (numAt b 0), .int .i64 (numAt b 1), .int .i64 (numAt b 2), .string (preB b), .string (metaB b)] 120)
  have hB := Lib.hid (below_alloc (below_step (below_alloc hb0 (.cells #[.int .i64 (numAt a 0), .int .i64 (numAt a 1), .int .i64 (numAt a 2), .string (preB a), .string (metaB a)] 120)) hb1) (.cells #[.int .i64 (numAt b 0), .int .i64 (numAt b 1), .int .i64 (numAt b 2), .string (preB b), .string (metaB b)] 120))
  obtain ⟨W, hW⟩ : ∃ W, W = w2.alloc (.cells #[.int .i64 (numAt b 0), .int .i64 (numAt b 1), .int .i64 (numAt b 2), .string (preB b), .string (metaB b)] 120) := ⟨_, rfl⟩
  rw [← hW] at k2 k1' hB ⊢
  clear hW k1 hb0 hb1
  obtain ⟨g1, hg1⟩ : ∃ g, g = w1.heap.size := ⟨_, rfl⟩
  obtain ⟨g2, hg2⟩ : ∃ g, g = w2.heap.size := ⟨_, rfl⟩
  rw [← hg1] at k1' ⊢
  rw [← hg2] at k2 ⊢
  clear hg1 hg2
  obtain ⟨c0, c1, c2, c3, c4⟩ := blk5 k1'
  obtain ⟨d0, d1, d2, d3, d4⟩ := blk5 k2
  by_cases va : verOk a = true
  · have ea : verErr a = 0 := if_pos va
    by_cases vb : verOk b = true
    · have eb : verErr b = 0 := if_pos vb
      have HV := Lib.hid (show verCmp a b = orI (cmpI (numAt a 0) (numAt b 0)) (orI (cmpI (numAt a 1) (numAt b 1)) (orI (cmpI (numAt a 2) (numAt b 2)) (orderPreB (preB a) (preB b)))) from (if_pos va).trans (if_pos vb))
      clear va vb k1' k2
      by_cases m0 : numAt a 0 = numAt b 0
      · have m0' : (numAt b 0 != numAt b 0) = false := by simp
        by_cases m1 : numAt a 1 = numAt b 1
        · have m1' : (numAt b 1 != numAt b 1) = false := by simp
          by_cases m2 : numAt a 2 = numAt b 2
          · have m2' : (numAt b 2 != numAt b 2) = false := by simp
            have hv := HV.out
            rw [m0, m1, m2, cmpI_same, cmpI_same, cmpI_same] at hv
            have HV := Lib.hid (show verCmp a b = orderPreB (preB a) (preB b) by rw [hv]; simp [orI])
            clear hv
            cases p0 : ((preB a).toList == (preB b).toList) with
            | true =>
              go_wp2
              go_ret
              exact ⟨by rw [HV.out]; unfold orderPreB; rw [if_pos (by simpa using p0)]; rfl, hB.out⟩
            | false =>
              have P0 := Lib.hid (show ¬ (preB a).toList = (preB b).toList by simpa using p0)
              have hne : (preB a).toList ≠ (preB b).toList := P0.out
              cases p1 : ((preB a).toList == []) with
              | true =>
                obtain ⟨p1a, p1b⟩ := pre_ne p1
                have HV2 := Lib.hid (show verCmp a b = lessI (!true) by rw [HV.out]; unfold orderPreB; rw [if_neg P0.out, if_pos (by simpa using p1)]; rfl)
                clear hne
                go_wp2_with (go_at_call 100; with_reducible refine (less_any _ _).mono ?_; rintro e w' ⟨rfl, rfl⟩)
                go_ret
                exact ⟨by rw [HV2.out]; rfl, hB.out⟩
              | false =>
                obtain ⟨p1a, p1b⟩ := pre_ne p1
                cases p2 : ((preB b).toList == []) with
                | true =>
                  obtain ⟨p2a, p2b⟩ := pre_ne p2
                  have HV2 := Lib.hid (show verCmp a b = lessI (!false) by rw [HV.out]; unfold orderPreB; rw [if_neg P0.out, if_neg (by simpa using p1), if_pos (by simpa using p2)]; rfl)
                  clear hne
                  go_wp2_with (go_at_call 100; with_reducible refine (less_any _ _).mono ?_; rintro e w' ⟨rfl, rfl⟩)
                  go_ret
                  exact ⟨by rw [HV2.out]; rfl, hB.out⟩
                | false =>
                  obtain ⟨p2a, p2b⟩ := pre_ne p2
                  obtain ⟨X, hX⟩ : ∃ X, X = piecesB 46 (preB a) := ⟨_, rfl⟩
                  obtain ⟨Y, hY⟩ : ∃ X, X = piecesB 46 (preB b) := ⟨_, rfl⟩
                  have HN := Lib.hid (show X ≠ Y from fun e => hne (by rw [hX, hY] at e; rw [piecesB_inj e]))
                  have HV2 := Lib.hid (show verCmp a b = cmpL X Y by rw [HV.out, hX, hY]; unfold orderPreB; rw [if_neg P0.out, if_neg (by simpa using p1), if_neg (by simpa using p2)])
                  clear hne
                  have SX : X.length ≤ 1099511627776 ∧ ∀ e ∈ X, e.size ≤ 60 := by rw [hX]; exact ⟨(piecesB_small (by omega)).1, fun e he => Nat.le_trans (piece_size he) hpa⟩
                  have SY : Y.length ≤ 1099511627776 ∧ ∀ e ∈ Y, e.size ≤ 60 := by rw [hY]; exact ⟨(piecesB_small (by omega)).1, fun e he => Nat.le_trans (piece_size he) hpb⟩
                  have x0 : 0 < X.length := by rw [hX]; exact List.length_pos_iff.2 (by simp [piecesB, pieces_ne])
                  have y0 : 0 < Y.length := by rw [hY]; exact List.length_pos_iff.2 (by simp [piecesB, pieces_ne])
                  have HX := Lib.hid hX; have HY := Lib.hid hY
                  clear hX hY
                  obtain ⟨lx, sx⟩ := SX; obtain ⟨ly, sy⟩ := SY
                  have sx := Lib.hid sx; have sy := Lib.hid sy
                  go_wp2_with (first | (go_at_call 101; (with_reducible refine (rsplit_any (preB a) _ (by omega)).mono ?_); rintro e w3 ⟨vx, rfl, hRx, hb3⟩; rw [← HX.out] at hRx; obtain ⟨gx, cx, rfl, ex1, ex2, _⟩ := Kd.R_form hRx x0; replace d3 := pw_cell_below hb3 d3) | (go_at_call 101; (with_reducible refine (rsplit_any (preB b) _ (by omega)).mono ?_); rintro e w4 ⟨vy, rfl, hRy, hb4⟩; rw [← HY.out] at hRy; obtain ⟨gy, cy, rfl, ey1, ey2, _⟩ := Kd.R_form hRy y0))
                  go_loopw [11] (fun i wr => ∃ k n : Nat, k ≤ X.length ∧ k ≤ Y.length ∧ i = .int .i64 k ∧ Hid (X.take k = Y.take k) ∧ wr = w4.drewN n) (fun i wr => X.length - (intOf i).toNat)
                  case atStart => exact ⟨0, 0, Nat.zero_le _, Nat.zero_le _, rfl, Lib.hid rfl, rfl⟩
                  case round =>
                    obtain ⟨k, n, hkx, hky, rfl, HT, hw⟩ := hrel
                    have HC := Lib.hid (cmpL_take HT.out)
                    have HB := Lib.hid (show Below w.heap.size w wr from hw ▸ pw_below_drewN (hB.out.trans ((hb3.trans (hb4.mono hb3.size)).mono hB.out.size)) n)
                    have HW := Lib.hid hw
                    clear hw
                    by_cases hx : k < X.length
                    · have ax : wr.cell? ⟨gx, k, none⟩ = some (.string (X.getD k ByteArray.empty)) := by rw [HW.out]; exact pw_cell_below hb4 (str_cell hRx k hx)
                      obtain ⟨x, Hx⟩ : ∃ x, Hid (X.getD k ByteArray.empty = x) := ⟨_, rfl⟩
                      rw [Hx.out] at ax
                      have dx := Lib.hid (drop_getD hx Hx.out)
                      by_cases hy : k < Y.length
                      · have ay : wr.cell? ⟨gy, k, none⟩ = some (.string (Y.getD k ByteArray.empty)) := by rw [HW.out]; exact str_cell hRy k hy
                        obtain ⟨y, Hy⟩ : ∃ x, Hid (Y.getD k ByteArray.empty = x) := ⟨_, rfl⟩
                        rw [Hy.out] at ay
                        have dy := Lib.hid (drop_getD hy Hy.out)
                        have zx : x.size ≤ 60 := sx.out x (by rw [← Hx.out]; exact getD_in hx)
                        have zy : y.size ≤ 60 := sy.out y (by rw [← Hy.out]; exact getD_in hy)
                        have HO := Lib.hid (show cmpL (X.drop k) (Y.drop k) = if orderB x y = 0 then cmpL (X.drop (k + 1)) (Y.drop (k + 1)) else orderB x y by rw [dx.out, dy.out, cmpL])
                        cases o : (orderB x y != 0) with
                        | true =>
                          go_wp2
                          go_quiet ((go_at_call 102; exact Calls.quiet_of (rorder_any x y _ (by omega) (by omega))))
                          go_wp2
                          go_ret
                          exact ⟨by rw [HV2.out, HC.out, HO.out, if_neg (by simpa using o)]; rfl, pw_below_drewN HB.out _⟩
                        | false =>
                          have o2 : orderB x y = 0 := by simpa using o
                          have HT2 := Lib.hid (show X.take (k + 1) = Y.take (k + 1) by rw [takeB_getD hx Hx.out, takeB_getD hy Hy.out, HT.out, orderB_zero o2])
                          clear o2
                          go_wp2
                          go_quiet ((go_at_call 102; exact Calls.quiet_of (rorder_any x y _ (by omega) (by omega))))
                          go_wp2
                          go_roundw
                          case rel => exact ⟨k + 1, n + nq, by omega, by omega, by go_num, HT2, by rw [HW.out, World.drewN_drewN]⟩
                          case measure => simp [intOf]; omega
                      · have hxy : decide (X.length < Y.length) = false := decide_eq_false (by omega)
                        have HE := Lib.hid (show verCmp a b = lessI false by rw [HV2.out, HC.out, dx.out, List.drop_of_length_le (show Y.length ≤ k by omega)]; rfl)
                        go_wp2_with (go_at_call 100; with_reducible refine (less_any _ _).mono ?_; rintro e w' ⟨rfl, rfl⟩)
                        go_ret
                        exact ⟨by rw [HE.out]; rfl, HB.out⟩
                    · obtain rfl : k = X.length := by omega
                      have hl : X.length < Y.length := by
                        rcases Nat.lt_or_ge X.length Y.length with h | h
                        · exact h
                        · have := HT.out; rw [List.take_of_length_le (Nat.le_refl _), List.take_of_length_le h] at this; exact absurd this HN.out
                      have HE := Lib.hid (show verCmp a b = lessI true by rw [HV2.out, HC.out, List.drop_length]; rfl)
                      have hxy : decide (X.length < Y.length) = true := decide_eq_true (by omega)
                      go_wp2_with (go_at_call 100; with_reducible refine (less_any _ _).mono ?_; rintro e w' ⟨rfl, rfl⟩)
                      go_ret
                      exact ⟨by rw [HE.out]; rfl, HB.out⟩
          · have m2' := num_ne m2
            have hc := cmpI_ne m2
            have hv := HV.out
            rw [m0, m1, cmpI_same, cmpI_same] at hv
            have HV := Lib.hid (show verCmp a b = lessI (decide (numAt a 2 < numAt b 2)) by rw [hv]; simp only [orI, hc.2, ne_eq, not_true_eq_false, not_false_eq_true, if_true, if_false]; exact hc.1)
            clear hv hc m2
            go_wp2_with (go_at_call 100; with_reducible refine (less_any _ _).mono ?_; rintro e w' ⟨rfl, rfl⟩)
            go_ret
            exact ⟨by rw [HV.out]; rfl, hB.out⟩
        · have m1' := num_ne m1
          have hc := cmpI_ne m1
          have hv := HV.out
          rw [m0, cmpI_same] at hv
          have HV := Lib.hid (show verCmp a b = lessI (decide (numAt a 1 < numAt b 1)) by rw [hv]; simp only [orI, hc.2, ne_eq, not_true_eq_false, not_false_eq_true, if_true, if_false]; exact hc.1)
          clear hv hc m1
          go_wp2_with (go_at_call 100; with_reducible refine (less_any _ _).mono ?_; rintro e w' ⟨rfl, rfl⟩)
          go_ret
          exact ⟨by rw [HV.out]; rfl, hB.out⟩
      · have m0' := num_ne m0
        have hc := cmpI_ne m0
        have HV := Lib.hid (show verCmp a b = lessI (decide (numAt a 0 < numAt b 0)) by rw [HV.out]; simp only [orI, hc.2, ne_eq, not_true_eq_false, not_false_eq_true, if_true, if_false]; exact hc.1)
        clear hc m0
        go_wp2_with (go_at_call 100; with_reducible refine (less_any _ _).mono ?_; rintro e w' ⟨rfl, rfl⟩)
        go_ret
        exact ⟨by rw [HV.out]; rfl, hB.out⟩
    · have eb : verErr b = 30 := if_neg vb
      have HV := Lib.hid (show verCmp a b = 1 from (if_pos va).trans (if_neg vb))
      clear va vb
      go_wp2_with (go_at_call 100; with_reducible refine (less_any _ _).mono ?_; rintro e w' ⟨rfl, rfl⟩)
      go_ret
      exact ⟨by rw [HV.out]; rfl, hB.out⟩
  · have ea : verErr a = 30 := if_neg va
    by_cases vb : verOk b = true
    · have eb : verErr b = 0 := if_pos vb
      have HV := Lib.hid (show verCmp a b = -1 from (if_neg va).trans (if_pos vb))
      clear va vb
      go_wp2_with (go_at_call 100; with_reducible refine (less_any _ _).mono ?_; rintro e w' ⟨rfl, rfl⟩)
      go_ret
      exact ⟨by rw [HV.out]; rfl, hB.out⟩
    · have eb : verErr b = 30 := if_neg vb
      have HV := Lib.hid (show verCmp a b = 0 from (if_neg va).trans (if_neg vb))
      clear va vb
      go_wp2
      go_ret
      exact ⟨by rw [HV.out]; rfl, hB.out⟩
end Go.Proofs.YtcdcpcdfcmokkaaGreatDoor
end
section
namespace Go.Proofs.YtcdcpcdfcmokkaaGreatDoor
open Go Go.RowKit Go.Proofs.YtcdcpcdfcmokkaaGreatDoorW.PrintWords
set_option linter.unusedVariables false
set_option linter.unusedSimpArgs false
theorem keep4 {w W W' : World} {a b c d : Addr} {x y z u : Value} (h : W.cell? a = some x ∧ W.cell? b = some y ∧ W.cell? c = some z ∧ W.cell? d = some u ∧ Hid (Below w.heap.size w W)) (hb : Below W.heap.size W W') :
    W'.cell? a = some x ∧ W'.cell? b = some y ∧ W'.cell? c = some z ∧ W'.cell? d = some u ∧ Hid (Below w.heap.size w W') :=
  ⟨pw_cell_below hb h.1, pw_cell_below hb h.2.1, pw_cell_below hb h.2.2.1, pw_cell_below hb h.2.2.2.1, Lib.hid (below_step h.2.2.2.2.out hb)⟩
theorem compareI_any (a b : Int) (w : World) :
    Calls Tryz.prog 85 #[.int .i64 a, .int .i64 b] w fun e w' => e = .returned (.int .i64 (cmpI a b)) ∧ Below w.heap.size w w' := (compare_int a b w).mono fun e w' ⟨h, n, hn⟩ => ⟨h, hn ▸ pw_below_drewN (Below.refl _ _) n⟩
theorem compareS_any (a b : ByteArray) (w : World) :
    Calls Tryz.prog 55 #[.string a, .string b] w fun e w' => e = .returned (.int .i64 (cmpS a b)) ∧ Below w.heap.size w w' := (compare_string a b w).mono fun e w' ⟨h, n, hn⟩ => ⟨h, hn ▸ pw_below_drewN (Below.refl _ _) n⟩
theorem pathCompare_any (a b : ByteArray) (w : World) (ha : a.size ≤ 1099511627775) (hb : b.size ≤ 1099511627775) :
    Calls Tryz.prog 53 #[.string a, .string b] w fun e w' => e = .returned (.int .i64 (pathCmp a b)) ∧ Below w.heap.size w w' := by
  obtain ⟨k, h⟩ := (pathCompare_ev a b ha hb).rounds
  exact P.paths_Compare.calls k a b _ w h
theorem or3_any (x y z : Int) (w : World) (A : Option Addr) (h : (Kd.int .i64).C w A 3 [x, y, z]) :
    Calls Tryz.prog 52 #[.slice A 3 3] w fun e w' => e = .returned (.int .i64 (orI x (orI y z))) ∧ Below w.heap.size w w' := by
  obtain ⟨k, hk⟩ := (or3_ev x y z).rounds
  exact (P.cmp_Or_int.calls k A 3 [x, y, z] _ w h (Nat.le_refl _) hk).mono fun e w' h => ⟨h.1, h.2.below⟩
theorem lit_int3 (w : World) (e : TypeId) (x y z : Int) : (Kd.int .i64).C (w.alloc (.cells #[.int .i64 x, .int .i64 y, .int .i64 z] e)) (some ⟨w.heap.size, 0, none⟩) 3 [x, y, z] :=
  Kd.C_of_reads (d := 0) (readsInt_of.1 (own_reads' (own_lit w w.heap.size e .i64 [x, y, z] (Nat.le_refl _) (by simp))))
theorem held4 {w W : World} {a b c d : Addr} {x y z u : Value} (h : W.cell? a = some x ∧ W.cell? b = some y ∧ W.cell? c = some z ∧ W.cell? d = some u ∧ Hid (Below w.heap.size w W)) : Below w.heap.size w W := h.2.2.2.2.out
theorem keep2 {w W W' : World} {a b : Addr} {x y : Value} (h : W.cell? a = some x ∧ W.cell? b = some y ∧ Hid (Below w.heap.size w W)) (hb : Below W.heap.size W W') :
    W'.cell? a = some x ∧ W'.cell? b = some y ∧ Hid (Below w.heap.size w W') := ⟨pw_cell_below hb h.1, pw_cell_below hb h.2.1, Lib.hid (below_step h.2.2.out hb)⟩
theorem keep8 {w W W' : World} {a b c d a' b' c' d' : Addr} {x y z u x' y' z' u' : Value} (h : W.cell? a = some x ∧ W.cell? b = some y ∧ W.cell? c = some z ∧ W.cell? d = some u ∧ W.cell? a' = some x' ∧ W.cell? b' = some y' ∧ W.cell? c' = some z' ∧ W.cell? d' = some u' ∧ Hid (Below w.heap.size w W)) (hb : Below W.heap.size W W') :
    W'.cell? a = some x ∧ W'.cell? b = some y ∧ W'.cell? c = some z ∧ W'.cell? d = some u ∧ W'.cell? a' = some x' ∧ W'.cell? b' = some y' ∧ W'.cell? c' = some z' ∧ W'.cell? d' = some u' ∧ Hid (Below w.heap.size w W') :=
  ⟨pw_cell_below hb h.1, pw_cell_below hb h.2.1, pw_cell_below hb h.2.2.1, pw_cell_below hb h.2.2.2.1, pw_cell_below hb h.2.2.2.2.1, pw_cell_below hb h.2.2.2.2.2.1, pw_cell_below hb h.2.2.2.2.2.2.1, pw_cell_below hb h.2.2.2.2.2.2.2.1, Lib.hid (below_step h.2.2.2.2.2.2.2.2.out hb)⟩
theorem held8 {w W : World} {a b c d a' b' c' d' : Addr} {x y z u x' y' z' u' : Value} (h : W.cell? a = some x ∧ W.cell? b = some y ∧ W.cell? c = some z ∧ W.cell? d = some u ∧ W.cell? a' = some x' ∧ W.cell? b' = some y' ∧ W.cell? c' = some z' ∧ W.cell? d' = some u' ∧ Hid (Below w.heap.size w W)) : Below w.heap.size w W := h.2.2.2.2.2.2.2.2.out
theorem or4_any (x y z u : Int) (w : World) (A : Option Addr) (h : (Kd.int .i64).C w A 4 [x, y, z, u]) :
    Calls Tryz.prog 52 #[.slice A 4 4] w fun e w' => e = .returned (.int .i64 (orI x (orI y (orI z u)))) ∧ Below w.heap.size w w' := by
  obtain ⟨k, hk⟩ := (or4_ev x y z u).rounds
  exact (P.cmp_Or_int.calls k A 4 [x, y, z, u] _ w h (Nat.le_refl _) hk).mono fun e w' h => ⟨h.1, h.2.below⟩
theorem lit_int4 (w : World) (e : TypeId) (x y z u : Int) : (Kd.int .i64).C (w.alloc (.cells #[.int .i64 x, .int .i64 y, .int .i64 z, .int .i64 u] e)) (some ⟨w.heap.size, 0, none⟩) 4 [x, y, z, u] :=
  Kd.C_of_reads (d := 0) (readsInt_of.1 (own_reads' (own_lit w w.heap.size e .i64 [x, y, z, u] (Nat.le_refl _) (by simp))))
def verO (s : ByteArray) (t : TypeId) : Obj := .cells #[.int .i64 (numAt s 0), .int .i64 (numAt s 1), .int .i64 (numAt s 2), .string (preB s), .string (metaB s)] t (0, 0)
set_option maxHeartbeats 4000000 in
set_option maxRecDepth 100000 in
theorem verCompare_any (a b : ByteArray) (w : World) (ha : a.size ≤ 1099511627775) (hb : b.size ≤ 1099511627775) :
    Calls Tryz.prog 54 #[.string a, .string b] w fun e w' => e = .returned (.int .i64 (verCmp a b)) ∧ Below w.heap.size w w' := by
  have hpa := preB_le a ha
  have hpb := preB_le b hb
  go_enter Tryz.func54, Tryz.ntmps54
  go_upto_region 3 with (first | (go_at_call 80; (with_reducible refine (parse_any a _ (by omega)).mono ?_); rintro e w1 ⟨rfl, hb0⟩) | (go_at_call 80; (with_reducible refine (parse_any b _ (by omega)).mono ?_); rintro e w2 ⟨rfl, hb1⟩))
  have k1 := blk_alloc (blk_below (blk_new w1 (verO a 111)) hb1) (verO b 111)
  have k2 := blk_new w2 (verO b 111)
  have hB := Lib.hid (below_alloc (below_step (below_alloc hb0 (verO a 111)) hb1) (verO b 111))
  obtain ⟨c0, c1, c2, c3, c4⟩ := blk5 k1
  obtain ⟨d0, d1, d2, d3, d4⟩ := blk5 k2
  clear k1 k2 hb0 hb1
  unfold verO at *
  generalize w2.alloc (.cells #[.int .i64 (numAt b 0), .int .i64 (numAt b 1), .int .i64 (numAt b 2), .string (preB b), .string (metaB b)] 111) = W at *
  generalize w1.heap.size = g1 at *
  generalize w2.heap.size = g2 at *
  by_cases va : verOk a = true
  · have ea : verErr a = 0 := if_pos va
    by_cases vb : verOk b = true
    · have eb : verErr b = 0 := if_pos vb
      have HV := Lib.hid (show verCmp a b = orI (cmpI (numAt a 0) (numAt b 0)) (orI (cmpI (numAt a 1) (numAt b 1)) (orI (cmpI (numAt a 2) (numAt b 2)) (orderPreB (preB a) (preB b)))) from (if_pos va).trans (if_pos vb))
      clear va vb
      go_wp2
      go_region_held3 (fun w' => w'.cell? ⟨g1, 0, none⟩ = some (.int .i64 (numAt a 0)) ∧ w'.cell? ⟨g1, 1, none⟩ = some (.int .i64 (numAt a 1)) ∧ w'.cell? ⟨g1, 2, none⟩ = some (.int .i64 (numAt a 2)) ∧ w'.cell? ⟨g1, 3, none⟩ = some (.string (preB a)) ∧ w'.cell? ⟨g2, 0, none⟩ = some (.int .i64 (numAt b 0)) ∧ w'.cell? ⟨g2, 1, none⟩ = some (.int .i64 (numAt b 1)) ∧ w'.cell? ⟨g2, 2, none⟩ = some (.int .i64 (numAt b 2)) ∧ w'.cell? ⟨g2, 3, none⟩ = some (.string (preB b)) ∧ Hid (Below w.heap.size w w'))
        (first | exact keep8 (by assumption) (by assumption) | exact keep8 (by assumption) (below_alloc (Below.refl _ _) _) | exact ⟨c0, c1, c2, c3, d0, d1, d2, d3, Lib.hid (below_drew1 hB.out)⟩)
        (first | (go_at_call 85; refine (compareI_any _ _ _).mono ?_; rintro e w' ⟨rfl, hb⟩) | (go_at_call 86; refine (orderPre_any _ _ _ (by omega) (by omega)).mono ?_; rintro e w' ⟨rfl, hb⟩) | (go_at_call 52; refine (or4_any _ _ _ _ _ _ (lit_int4 _ _ _ _ _ _)).mono ?_; rintro e w' ⟨rfl, hb⟩))
      go_wp2
      go_ret
      exact ⟨by rw [HV.out]; rfl, held8 (by assumption)⟩
    · have eb : verErr b = 30 := if_neg vb
      have HV := Lib.hid (show verCmp a b = 1 from (if_pos va).trans (if_neg vb))
      clear va vb
      go_wp2
      go_ret
      exact ⟨by rw [HV.out]; rfl, hB.out⟩
  · have ea : verErr a = 30 := if_neg va
    by_cases vb : verOk b = true
    · have eb : verErr b = 0 := if_pos vb
      have HV := Lib.hid (show verCmp a b = -1 from (if_neg va).trans (if_pos vb))
      clear va vb
      go_wp2
      go_ret
      exact ⟨by rw [HV.out]; rfl, hB.out⟩
    · have eb : verErr b = 30 := if_neg vb
      have HV := Lib.hid (show verCmp a b = 0 from (if_neg va).trans (if_neg vb))
      clear va vb
      go_wp2
      go_ret
      exact ⟨by rw [HV.out]; rfl, hB.out⟩
theorem two_mods (w : World) (ap av bp bv : ByteArray) (t : TypeId) : ∃ W, W = (w.alloc (.cells #[.string ap, .string av] t)).alloc (.cells #[.string bp, .string bv] t) ∧ W.cell? ⟨w.heap.size, 0, none⟩ = some (.string ap) ∧ W.cell? ⟨w.heap.size, 1, none⟩ = some (.string av) ∧ W.cell? ⟨w.heap.size + 1, 0, none⟩ = some (.string bp) ∧ W.cell? ⟨w.heap.size + 1, 1, none⟩ = some (.string bv) ∧ Hid (Below w.heap.size w W) := by
  have k1 := blk_alloc (blk_new w (.cells #[.string ap, .string av] t)) (.cells #[.string bp, .string bv] t)
  have k2 := blk_new (w.alloc (.cells #[.string ap, .string av] t)) (.cells #[.string bp, .string bv] t)
  rw [World.size_alloc] at k2
  exact ⟨_, rfl, (blk2 k1).1, (blk2 k1).2, (blk2 k2).1, (blk2 k2).2, Lib.hid (below_alloc (below_alloc (Below.refl _ w) _) _)⟩
set_option maxHeartbeats 2000000 in
set_option maxRecDepth 100000 in
theorem orderM_any (ap av bp bv : ByteArray) (w : World) (h1 : ap.size ≤ 1099511627770) (h2 : av.size ≤ 1099511627770) (h3 : bp.size ≤ 1099511627770) (h4 : bv.size ≤ 1099511627770) :
    Calls Tryz.prog 29 #[.agg #[.string ap, .string av], .agg #[.string bp, .string bv]] w fun e w' => e = .returned (.int .i64 (orderM ap av bp bv)) ∧ Below w.heap.size w w' := by
  obtain ⟨W, hW, c0, c1, d0, d1, hB⟩ := two_mods w ap av bp bv 38
  have HW := Lib.hid hW; clear hW
  go_enter Tryz.func29, Tryz.ntmps29
  go_wp2
  rw [← HW.out]
  go_region_held3 (fun w' => w'.cell? ⟨w.heap.size, 0, none⟩ = some (.string ap) ∧ w'.cell? ⟨w.heap.size, 1, none⟩ = some (.string av) ∧ w'.cell? ⟨w.heap.size + 1, 0, none⟩ = some (.string bp) ∧ w'.cell? ⟨w.heap.size + 1, 1, none⟩ = some (.string bv) ∧ Hid (Below w.heap.size w w'))
    (first | exact keep4 (by assumption) (by assumption) | exact keep4 (by assumption) (below_alloc (Below.refl _ _) _) | exact ⟨c0, c1, d0, d1, Lib.hid (below_drew1 hB.out)⟩)
    (first | (go_at_call 53; refine (pathCompare_any ap bp _ (by omega) (by omega)).mono ?_; rintro e w' ⟨rfl, hb⟩) | (go_at_call 54; refine (verCompare_any _ _ _ (by omega) (by omega)).mono ?_; rintro e w' ⟨rfl, hb⟩) | (go_at_call 55; refine (compareS_any av bv _).mono ?_; rintro e w' ⟨rfl, hb⟩) | (go_at_call 52; refine (or3_any _ _ _ _ _ (lit_int3 _ _ _ _ _)).mono ?_; rintro e w' ⟨rfl, hb⟩))
  go_wp2
  go_ret
  exact ⟨rfl, held4 (by assumption)⟩
end Go.Proofs.YtcdcpcdfcmokkaaGreatDoor
end
