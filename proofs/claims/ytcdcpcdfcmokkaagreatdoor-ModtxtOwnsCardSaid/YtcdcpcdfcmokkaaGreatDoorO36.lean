/- Which module has a package: Contains, both Owners, Alike. · No package stands twice in a list that may be; how often a path stands among the packages. -/
import Derived.Test.YtcdcpcdfcmokkaaGreatDoorO31
import Derived.Test.YtcdcpcdfcmokkaaGreatDoorO15
import Derived.Test.YtcdcpcdfcmokkaaGreatDoorO27
import Derived.WalkSpells
import Derived.Outline
import Derived.Deep.DeepCutAuto
import Derived.Deep.QuietTactic
import Derived.BigQuiet
import Derived.Test.YtcdcpcdfcmokkaaGreatDoorO35
set_option linter.unusedVariables false
set_option linter.unusedSimpArgs false
section
namespace Go.Proofs.YtcdcpcdfcmokkaaGreatDoor
open Go Go.RowKit Go.Shelf Go.Proofs.YtcdcpcdfcmokkaaGreatDoorW.PrintWords
set_option linter.unusedVariables false
set_option linter.unusedSimpArgs false
theorem inB_next {s : ByteArray} {l : List ByteArray} {k : Nat} {x : ByteArray} (h : k < l.length) (hx : l.getD k emp = x) : inB s (l.take (k + 1)) = (inB s (l.take k) || x.toList == s.toList) := by
  unfold inB; rw [takeB_getD h hx, List.any_append]; simp
theorem inB_here {s : ByteArray} {l : List ByteArray} {k : Nat} {x : ByteArray} (h : k < l.length) (hx : l.getD k emp = x) (e : (x.toList == s.toList) = true) : inB s l = true := by
  unfold inB; rw [List.any_eq_true]; exact ⟨x, hx ▸ getD_in h, e⟩
def idxB (s : ByteArray) (l : List ByteArray) (r : Int) : Prop := decide (0 ≤ r) = inB s l
set_option maxHeartbeats 1000000 in
set_option maxRecDepth 100000 in
theorem indexS_any (A : Option Addr) (c : Nat) (l : List ByteArray) (s : ByteArray) (w : World) (hr : Kd.string.C w A l.length l) (hl : l.length ≤ 1099511627770) :
    Calls Tryz.prog 48 #[.slice A l.length c, .string s] w fun e w' => ∃ r : Int, e = .returned (.int .i64 r) ∧ idxB s l r ∧ w = w' := by
  go_enter Tryz.func48, Tryz.ntmps48
  go_wp2
  go_loopw [8] (fun i wr => ∃ k : Nat, k ≤ l.length ∧ i = .int .i64 k ∧ Hid (inB s (l.take k) = false) ∧ wr = w) (fun i wr => l.length - (intOf i).toNat)
  case atStart => exact ⟨0, Nat.zero_le _, rfl, Lib.hid rfl, rfl⟩
  case round =>
    obtain ⟨k, hk, rfl, HA, rfl⟩ := hrel
    by_cases hlt : k < l.length
    · obtain ⟨x, Hx⟩ : ∃ x, Hid (l.getD k emp = x) := ⟨_, rfl⟩
      obtain ⟨ad, e1, cx⟩ := strC_cell hr hlt
      subst e1
      rw [Hx.out] at cx
      cases t1 : (s.toList == x.toList) with
      | true =>
        have HI := Lib.hid (inB_here hlt Hx.out (show (x.toList == s.toList) = true by rw [beq_iff_eq] at t1 ⊢; exact t1.symm))
        go_wp2
        go_ret
        exact ⟨(k : Int), rfl, by unfold idxB; rw [HI.out]; exact decide_eq_true (by omega), by first | rfl | trivial⟩
      | false =>
        have t2 : (x.toList == s.toList) = false := by rw [beq_eq_false_iff_ne] at t1 ⊢; exact fun e => t1 e.symm
        have HI := Lib.hid (show inB s (l.take (k + 1)) = false by rw [inB_next hlt Hx.out, HA.out, t2]; rfl)
        clear t2
        go_wp2
        go_roundw
        case rel => exact ⟨k + 1, by omega, by go_num, HI, by first | rfl | trivial⟩
        case measure => simp [intOf]; omega
    · obtain rfl : k = l.length := by omega
      have HI := Lib.hid (show inB s l = false by have := HA.out; rwa [List.take_length] at this)
      go_wp2
      go_ret
      exact ⟨-1, rfl, by unfold idxB; rw [HI.out]; rfl, by first | rfl | trivial⟩
set_option maxHeartbeats 1000000 in
theorem contains_any (A : Option Addr) (c : Nat) (l : List ByteArray) (s : ByteArray) (w : World) (hr : Kd.string.C w A l.length l) (hl : l.length ≤ 1099511627770) :
    Calls Tryz.prog 26 #[.slice A l.length c, .string s] w fun e w' => e = .returned (.bool (inB s l)) ∧ w = w' := by
  go_enter Tryz.func26, Tryz.ntmps26
  go_wp2_with (go_at_call 48; (with_reducible refine (indexS_any A c l s _ hr hl).mono ?_); rintro e w' ⟨r, rfl, hi, rfl⟩)
  go_ret
  exact ⟨by rw [← hi]; rfl, rfl⟩
theorem blk_put7 {w : World} {g t : Nat} {z0 z1 z2 z3 z4 z5 z6 : Value} (h : w.heap[g]? = some (.cells #[z0, z1, z2, z3, z4, z5, z6] t (0, 0))) (a0 a1 a2 a3 a4 a5 a6 : Value) :
    (((((((w.setCell ⟨g, 0, none⟩ a0).setCell ⟨g, 1, none⟩ a1).setCell ⟨g, 2, none⟩ a2).setCell ⟨g, 3, none⟩ a3).setCell ⟨g, 4, none⟩ a4).setCell ⟨g, 5, none⟩ a5).setCell ⟨g, 6, none⟩ a6).heap[g]? = some (.cells #[a0, a1, a2, a3, a4, a5, a6] t (0, 0)) := by
  have h0 := blk_put h 0 a0 (cs' := #[a0, z1, z2, z3, z4, z5, z6]) rfl
  have h1 := blk_put h0 1 a1 (cs' := #[a0, a1, z2, z3, z4, z5, z6]) rfl
  have h2 := blk_put h1 2 a2 (cs' := #[a0, a1, a2, z3, z4, z5, z6]) rfl
  have h3 := blk_put h2 3 a3 (cs' := #[a0, a1, a2, a3, z4, z5, z6]) rfl
  have h4 := blk_put h3 4 a4 (cs' := #[a0, a1, a2, a3, a4, z5, z6]) rfl
  have h5 := blk_put h4 5 a5 (cs' := #[a0, a1, a2, a3, a4, a5, z6]) rfl
  exact blk_put h5 6 a6 (cs' := #[a0, a1, a2, a3, a4, a5, a6]) rfl
theorem far_put7 {w : World} {g : Nat} (k : Nat) (hk : k ≠ g) (a0 a1 a2 a3 a4 a5 a6 : Value) :
    (((((((w.setCell ⟨g, 0, none⟩ a0).setCell ⟨g, 1, none⟩ a1).setCell ⟨g, 2, none⟩ a2).setCell ⟨g, 3, none⟩ a3).setCell ⟨g, 4, none⟩ a4).setCell ⟨g, 5, none⟩ a5).setCell ⟨g, 6, none⟩ a6).heap[k]? = w.heap[k]? := by
  have st : ∀ (W : World) (j : Nat) (v : Value), (W.setCell ⟨g, j, none⟩ v).heap[k]? = W.heap[k]? := fun W j v => Below.heap_setCell W ⟨g, j, none⟩ v k hk
  rw [st, st, st, st, st, st, st]
theorem below_put7 {w0 w : World} {g : Nat} (h : Below w0.heap.size w0 w) (hg : w0.heap.size ≤ g) (a0 a1 a2 a3 a4 a5 a6 : Value) :
    Below w0.heap.size w0 (((((((w.setCell ⟨g, 0, none⟩ a0).setCell ⟨g, 1, none⟩ a1).setCell ⟨g, 2, none⟩ a2).setCell ⟨g, 3, none⟩ a3).setCell ⟨g, 4, none⟩ a4).setCell ⟨g, 5, none⟩ a5).setCell ⟨g, 6, none⟩ a6) :=
  below_set (below_set (below_set (below_set (below_set (below_set (below_set h hg) hg) hg) hg) hg) hg) hg
def ownS (s : ByteArray) : List SM → SM × Bool
  | [] => (zM, false)
  | m :: ms => if inB s m.f4 = true then (m, true) else ownS s ms
theorem drop_mod {l : List SM} {k : Nat} {m : SM} (h : k < l.length) (hm : l.getD k zM = m) : l.drop k = m :: l.drop (k + 1) := by
  rw [List.drop_eq_getElem_cons h, ← hm, List.getD_eq_getElem?_getD, List.getElem?_eq_getElem h]; rfl
def modA (m : SM) (A : Option Addr) (c : Nat) : Array Value := #[.string m.f0.f0, .string m.f0.f1, .bool m.f1, .string m.f2, .string m.f3.f0, .string m.f3.f1, .slice A m.f4.length c]
set_option maxHeartbeats 4000000 in
set_option maxRecDepth 100000 in
theorem owner_any (A0 A1 : Option Addr) (c0 c1 : Nat) (ms : List SM) (rs : List SR) (s : ByteArray) (w : World) (h0 : Kd.C P.k41 w A0 ms.length ms) (lm : ms.length ≤ 1048576) (sl : ∀ m ∈ ms, m.f4.length ≤ 1048576) :
    Calls Tryz.prog 13 #[.agg #[.slice A0 ms.length c0, .slice A1 rs.length c1], .string s] w fun e w' => ∃ A c, e = .returned (.tuple #[.agg (modA (ownS s ms).1 A c), .bool (ownS s ms).2]) ∧ (ownS s ms).1.f4.length ≤ c ∧ Kd.string.C w' A (ownS s ms).1.f4.length (ownS s ms).1.f4 ∧ Below w.heap.size w w' := by
  have K0 := Lib.hid (blk_alloc (blk_new w (.cells #[.slice A0 ms.length c0, .slice A1 rs.length c1] 25)) (.cells #[.string ⟨#[]⟩, .string ⟨#[]⟩, .bool false, .string ⟨#[]⟩, .string ⟨#[]⟩, .string ⟨#[]⟩, .slice none 0 0] 41))
  have k1 := blk_new (w.alloc (.cells #[.slice A0 ms.length c0, .slice A1 rs.length c1] 25)) (.cells #[.string ⟨#[]⟩, .string ⟨#[]⟩, .bool false, .string ⟨#[]⟩, .string ⟨#[]⟩, .string ⟨#[]⟩, .slice none 0 0] 41)
  rw [World.size_alloc] at k1
  have K1 := Lib.hid k1
  clear k1
  have B0 := Lib.hid (below_alloc (below_alloc (Below.refl _ w) (.cells #[.slice A0 ms.length c0, .slice A1 rs.length c1] 25)) (.cells #[.string ⟨#[]⟩, .string ⟨#[]⟩, .bool false, .string ⟨#[]⟩, .string ⟨#[]⟩, .string ⟨#[]⟩, .slice none 0 0] 41))
  go_enter Tryz.func13, Tryz.ntmps13
  go_upto_region 1 with (fail)
  generalize (w.alloc (.cells #[.slice A0 ms.length c0, .slice A1 rs.length c1] 25)).alloc (.cells #[.string ⟨#[]⟩, .string ⟨#[]⟩, .bool false, .string ⟨#[]⟩, .string ⟨#[]⟩, .string ⟨#[]⟩, .slice none 0 0] 41) = W0 at *
  obtain ⟨p0, p1⟩ := blk2 K0.out
  go_wp2
  clear p0 p1
  go_loopw [11] (fun i wr => ∃ k : Nat, k ≤ ms.length ∧ i = .int .i64 k ∧ Hid (ownS s ms = ownS s (ms.drop k)) ∧ Hid (Below w.heap.size w wr) ∧ Hid (wr.heap[w.heap.size + 1]? = some (.cells #[.string ⟨#[]⟩, .string ⟨#[]⟩, .bool false, .string ⟨#[]⟩, .string ⟨#[]⟩, .string ⟨#[]⟩, .slice none 0 0] 41 (0, 0)))) (fun i wr => ms.length - (intOf i).toNat)
  case atStart => exact ⟨0, Nat.zero_le _, rfl, Lib.hid rfl, B0, K1⟩
  case round =>
    clear K0 K1 B0
    obtain ⟨k, hk, rfl, HO, HB, K1⟩ := hrel
    by_cases hlt : k < ms.length
    · obtain ⟨m, Hm⟩ : ∃ m, Hid (ms.getD k zM = m) := ⟨_, rfl⟩
      obtain ⟨ad, A6, c6, hA, e0, e1, e2, e3, e4, e5, e6, l6, g6⟩ := mod_at (Kd.C_below h0 HB.out) hlt Hm.out
      subst hA
      have lp : m.f4.length ≤ 1048576 := sl m (by rw [← Hm.out, List.getD_eq_getElem?_getD, List.getElem?_eq_getElem hlt]; exact List.getElem_mem hlt)
      have HD := Lib.hid (show ownS s ms = if inB s m.f4 = true then (m, true) else ownS s (ms.drop (k + 1)) by rw [HO.out, drop_mod hlt Hm.out]; rfl)
      have KN := Lib.hid (blk_new wr (.cells (modA m A6 c6) 41))
      have K1' := Lib.hid (blk_alloc K1.out (.cells (modA m A6 c6) 41))
      have HB' := Lib.hid (below_alloc HB.out (.cells (modA m A6 c6) 41))
      have G6 := Lib.hid (Kd.C_alloc g6 (.cells (modA m A6 c6) 41))
      have gne : w.heap.size + 1 ≠ wr.heap.size := by have := blk_lt K1.out; omega
      have gle : w.heap.size ≤ wr.heap.size := HB.out.size
      clear K1 HB g6
      go_upto_region 4 with (fail)
      unfold modA at *
      generalize wr.alloc (.cells #[.string m.f0.f0, .string m.f0.f1, .bool m.f1, .string m.f2, .string m.f3.f0, .string m.f3.f1, .slice A6 m.f4.length c6] 41) = W1 at *
      generalize wr.heap.size = gm at *
      clear e0 e1 e2 e3 e4 e5 e6
      obtain ⟨f0, f1, f2, f3, f4, f5, f6⟩ := blk7 KN.out
      cases hc : inB s m.f4 with
      | false =>
        have HO2 := Lib.hid (show ownS s ms = ownS s (ms.drop (k + 1)) by rw [HD.out, hc]; rfl)
        go_wp2_with (go_at_call 26; (with_reducible refine (contains_any A6 c6 m.f4 s _ G6.out (by omega)).mono ?_); rw [hc]; rintro e w' ⟨rfl, rfl⟩)
        go_roundw
        case rel => exact ⟨k + 1, by omega, by go_num, HO2, HB', K1'⟩
        case measure => simp [intOf]; omega
      | true =>
        have HO2 := Lib.hid (show ownS s ms = (m, true) by rw [HD.out, hc]; rfl)
        go_upto_region 6 with (first | (go_at_call 26; (with_reducible refine (contains_any A6 c6 m.f4 s _ G6.out (by omega)).mono ?_); rw [hc]; rintro e w' ⟨rfl, rfl⟩) | (go_at_call 27; (with_reducible refine (clone_any A6 c6 m.f4 _ G6.out l6 (by omega)).mono ?_); rintro e w2 ⟨v, rfl, hR, hb2⟩; obtain ⟨A, c, rfl, lc, gc⟩ := Kd.R_reads hR; have KN2 := Lib.hid (blk_at KN.out hb2); have K12 := Lib.hid (blk_at K1'.out hb2); have HB2 := Lib.hid (below_step HB'.out hb2); have fz := blk_frozen KN2.out 6; have f6' := pw_cell_below hb2 f6))
        have kN3 := blk_put KN2.out 6 (.slice A m.f4.length c) (cs' := #[.string m.f0.f0, .string m.f0.f1, .bool m.f1, .string m.f2, .string m.f3.f0, .string m.f3.f1, .slice A m.f4.length c]) rfl
        have K13 := Lib.hid (blk_far K12.out (p := ⟨gm, 6, none⟩) gne (.slice A m.f4.length c))
        have B3 := Lib.hid (below_set (j := 6) (v := .slice A m.f4.length c) HB2.out gle)
        have R3 := Kd.R_mono (Kd.R_far (p := ⟨gm, 6, none⟩) (Kd.R_types hR KN2.out (by decide)) (fun _ hk => hk.2) (.slice A m.f4.length c)) (fun _ hk => hk.1)
        clear f0 f1 f2 f3 f4 f5 f6 f6' fz gc
        generalize w2.setCell ⟨gm, 6, none⟩ (.slice A m.f4.length c) = W3 at *
        obtain ⟨f0, f1, f2, f3, f4, f5, f6⟩ := blk7 kN3
        obtain ⟨y0, y1, y2, y3, y4, y5, y6⟩ := blk7 K13.out
        have z0 := blk_frozen K13.out 0; have z1 := blk_frozen K13.out 1; have z2 := blk_frozen K13.out 2; have z3 := blk_frozen K13.out 3
        have z4 := blk_frozen K13.out 4; have z5 := blk_frozen K13.out 5; have z6 := blk_frozen K13.out 6
        have KF := Lib.hid (blk_put7 K13.out (.string m.f0.f0) (.string m.f0.f1) (.bool m.f1) (.string m.f2) (.string m.f3.f0) (.string m.f3.f1) (.slice A m.f4.length c))
        have BF := Lib.hid (below_put7 B3.out (show w.heap.size ≤ w.heap.size + 1 by omega) (.string m.f0.f0) (.string m.f0.f1) (.bool m.f1) (.string m.f2) (.string m.f3.f0) (.string m.f3.f1) (.slice A m.f4.length c))
        have RF := Kd.R_step (Kd.R_types R3 K13.out (by decide)) (fun k hk _ => far_put7 (w := W3) k hk.2 (.string m.f0.f0) (.string m.f0.f1) (.bool m.f1) (.string m.f2) (.string m.f3.f0) (.string m.f3.f1) (.slice A m.f4.length c))
        obtain ⟨_, _, CF⟩ := Kd.R_reads' RF
        have CF := Lib.hid CF
        clear kN3 R3 RF
        go_wp2
        refine bodyPost_ret (results_ct rfl _ _ (w.heap.size + 1) 41 _ (0, 0) _ rfl KF.out Tryz.underlying41 rfl (by kernel_rfl)) rfl ⟨A, c, ?_, ?_, ?_, BF.out⟩
        · rw [HO2.out]; rfl
        · rw [HO2.out]; exact lc
        · rw [HO2.out]; exact CF.out
    · obtain rfl : k = ms.length := by omega
      have HO2 := Lib.hid (show ownS s ms = (zM, false) by rw [HO.out, List.drop_length]; rfl)
      obtain ⟨y0, y1, y2, y3, y4, y5, y6⟩ := blk7 K1.out
      have z0 := blk_frozen K1.out 0; have z1 := blk_frozen K1.out 1; have z2 := blk_frozen K1.out 2; have z3 := blk_frozen K1.out 3
      have z4 := blk_frozen K1.out 4; have z5 := blk_frozen K1.out 5; have z6 := blk_frozen K1.out 6
      have KF := Lib.hid (blk_put7 K1.out (.string ⟨#[]⟩) (.string ⟨#[]⟩) (.bool false) (.string ⟨#[]⟩) (.string ⟨#[]⟩) (.string ⟨#[]⟩) (.slice none 0 0))
      have BF := Lib.hid (below_put7 HB.out (show w.heap.size ≤ w.heap.size + 1 by omega) (.string ⟨#[]⟩) (.string ⟨#[]⟩) (.bool false) (.string ⟨#[]⟩) (.string ⟨#[]⟩) (.string ⟨#[]⟩) (.slice none 0 0))
      go_wp2
      refine bodyPost_ret (results_ct rfl _ _ (w.heap.size + 1) 41 _ (0, 0) _ rfl KF.out Tryz.underlying41 rfl (by kernel_rfl)) rfl ⟨none, 0, ?_, ?_, ?_, BF.out⟩
      · rw [HO2.out]; rfl
      · rw [HO2.out]; exact Nat.le_refl 0
      · rw [HO2.out]; exact Kd.C_nil _ _
set_option maxHeartbeats 4000000 in
set_option maxRecDepth 100000 in
theorem rowner_any (A0 A1 : Option Addr) (c0 c1 n1 : Nat) (ds : List DM) (s : ByteArray) (w : World) (h0 : Kd.C P.k45 w A0 ds.length ds) (lm : ds.length ≤ 1048576) (sl : ∀ m ∈ ds, m.f4.length ≤ 1048576) :
    Calls Tryz.prog 14 #[.agg #[.slice A0 ds.length c0, .slice A1 n1 c1], .string s] w fun e w' => ∃ A c, e = .returned (.tuple #[.agg (modA (ownS s (ds.map toM)).1 A c), .bool (ownS s (ds.map toM)).2]) ∧ (ownS s (ds.map toM)).1.f4.length ≤ c ∧ Kd.string.C w' A (ownS s (ds.map toM)).1.f4.length (ownS s (ds.map toM)).1.f4 ∧ Below w.heap.size w w' := by
  have K0 := Lib.hid (blk_alloc (blk_new w (.cells #[.slice A0 ds.length c0, .slice A1 n1 c1] 35)) (.cells #[.string ⟨#[]⟩, .string ⟨#[]⟩, .bool false, .string ⟨#[]⟩, .string ⟨#[]⟩, .string ⟨#[]⟩, .slice none 0 0] 45))
  have k1 := blk_new (w.alloc (.cells #[.slice A0 ds.length c0, .slice A1 n1 c1] 35)) (.cells #[.string ⟨#[]⟩, .string ⟨#[]⟩, .bool false, .string ⟨#[]⟩, .string ⟨#[]⟩, .string ⟨#[]⟩, .slice none 0 0] 45)
  rw [World.size_alloc] at k1
  have K1 := Lib.hid k1
  clear k1
  have B0 := Lib.hid (below_alloc (below_alloc (Below.refl _ w) (.cells #[.slice A0 ds.length c0, .slice A1 n1 c1] 35)) (.cells #[.string ⟨#[]⟩, .string ⟨#[]⟩, .bool false, .string ⟨#[]⟩, .string ⟨#[]⟩, .string ⟨#[]⟩, .slice none 0 0] 45))
  go_enter Tryz.func14, Tryz.ntmps14
  go_upto_region 1 with (fail)
  generalize (w.alloc (.cells #[.slice A0 ds.length c0, .slice A1 n1 c1] 35)).alloc (.cells #[.string ⟨#[]⟩, .string ⟨#[]⟩, .bool false, .string ⟨#[]⟩, .string ⟨#[]⟩, .string ⟨#[]⟩, .slice none 0 0] 45) = W0 at *
  obtain ⟨p0, p1⟩ := blk2 K0.out
  go_wp2
  go_loopw [6] (fun i wr => ∃ k : Nat, k ≤ ds.length ∧ i = .int .i64 k ∧ Hid (ownS s (ds.map toM) = ownS s ((ds.drop k).map toM)) ∧ wr = W0) (fun i wr => ds.length - (intOf i).toNat)
  case atStart => exact ⟨0, Nat.zero_le _, rfl, Lib.hid rfl, rfl⟩
  case round =>
    obtain ⟨k, hk, rfl, HO, rfl⟩ := hrel
    obtain ⟨W0, rfl⟩ : ∃ wo : World, wo = wr := ⟨_, rfl⟩
    by_cases hlt : k < ds.length
    · obtain ⟨d, Hd⟩ : ∃ m, Hid (ds.getD k zDM = m) := ⟨_, rfl⟩
      obtain ⟨ad, A6, c6, hA, e0, e1, e2, e3, e4, e5, e6, l6, g6⟩ := rmod_at h0 hlt Hd.out
      subst hA
      replace e0 := pw_cell_below B0.out e0; replace e1 := pw_cell_below B0.out e1; replace e2 := pw_cell_below B0.out e2; replace e3 := pw_cell_below B0.out e3
      replace e4 := pw_cell_below B0.out e4; replace e5 := pw_cell_below B0.out e5; replace e6 := pw_cell_below B0.out e6
      have lp : d.f4.length ≤ 1048576 := sl d (by rw [← Hd.out, List.getD_eq_getElem?_getD, List.getElem?_eq_getElem hlt]; exact List.getElem_mem hlt)
      have HD := Lib.hid (show ownS s (ds.map toM) = if inB s d.f4 = true then (toM d, true) else ownS s ((ds.drop (k + 1)).map toM) by
        rw [HO.out, List.drop_eq_getElem_cons hlt, List.map_cons, show ds[k] = d by rw [← Hd.out, List.getD_eq_getElem?_getD, List.getElem?_eq_getElem hlt]; rfl]; rfl)
      have g6 := Lib.hid g6
      go_wp2
      go_loopw [7] (fun j wr => ∃ n : Nat, n ≤ d.f4.length ∧ j = .int .i64 n ∧ Hid (inB s (d.f4.take n) = false) ∧ wr = W0) (fun j wr => d.f4.length - (intOf j).toNat)
      case atStart => exact ⟨0, Nat.zero_le _, rfl, Lib.hid rfl, rfl⟩
      case round =>
        obtain ⟨n, hn, rfl, HN, rfl⟩ := hrel
        obtain ⟨W0, rfl⟩ : ∃ wo : World, wo = wr := ⟨_, rfl⟩
        by_cases hnl : n < d.f4.length
        · obtain ⟨x, Hx⟩ : ∃ x, Hid (d.f4.getD n emp = x) := ⟨_, rfl⟩
          obtain ⟨ax, e7, cx⟩ := strC_cell (Kd.C_below g6.out B0.out) hnl
          subst e7
          rw [Hx.out] at cx
          cases t1 : (x.toList == s.toList) with
          | true =>
            have HO2 := Lib.hid (show ownS s (ds.map toM) = (toM d, true) by rw [HD.out, inB_here hnl Hx.out t1]; rfl)
            obtain ⟨y0, y1, y2, y3, y4, y5, y6⟩ := blk7 K1.out
            have z0 := blk_frozen K1.out 0; have z1 := blk_frozen K1.out 1; have z2 := blk_frozen K1.out 2; have z3 := blk_frozen K1.out 3
            have z4 := blk_frozen K1.out 4; have z5 := blk_frozen K1.out 5; have z6 := blk_frozen K1.out 6
            have KF := Lib.hid (blk_put7 K1.out (.string d.f0.f0) (.string d.f0.f1) (.bool d.f1) (.string d.f2) (.string d.f3.f0) (.string d.f3.f1) (.slice (some ax) d.f4.length c6))
            have BF := Lib.hid (below_put7 B0.out (show w.heap.size ≤ w.heap.size + 1 by omega) (.string d.f0.f0) (.string d.f0.f1) (.bool d.f1) (.string d.f2) (.string d.f3.f0) (.string d.f3.f1) (.slice (some ax) d.f4.length c6))
            have CF := Lib.hid (Kd.C_below g6.out BF.out)
            go_wp2
            refine bodyPost_ret (results_ct rfl _ _ (w.heap.size + 1) 45 _ (0, 0) _ rfl KF.out Tryz.underlying45 rfl (by kernel_rfl)) rfl ⟨some ax, c6, ?_, ?_, ?_, BF.out⟩
            · rw [HO2.out]; rfl
            · rw [HO2.out]; exact l6
            · rw [HO2.out]; exact CF.out
          | false =>
            have HN2 := Lib.hid (show inB s (d.f4.take (n + 1)) = false by rw [inB_next hnl Hx.out, HN.out, t1]; rfl)
            go_wp2
            go_roundw
            case rel => exact ⟨n + 1, by omega, by go_num, HN2, by first | rfl | trivial⟩
            case measure => simp [intOf]; omega
        · obtain rfl : n = d.f4.length := by omega
          have HO2 := Lib.hid (show ownS s (ds.map toM) = ownS s ((ds.drop (k + 1)).map toM) by
            rw [HD.out]
            have := HN.out
            rw [List.take_length] at this
            rw [this]; rfl)
          go_wp2
          refine ⟨⟨k + 1, by omega, by go_num, HO2, by first | rfl | trivial⟩, by simp [intOf]; omega⟩
    · obtain rfl : k = ds.length := by omega
      have HO2 := Lib.hid (show ownS s (ds.map toM) = (zM, false) by rw [HO.out, List.drop_length]; rfl)
      obtain ⟨y0, y1, y2, y3, y4, y5, y6⟩ := blk7 K1.out
      have z0 := blk_frozen K1.out 0; have z1 := blk_frozen K1.out 1; have z2 := blk_frozen K1.out 2; have z3 := blk_frozen K1.out 3
      have z4 := blk_frozen K1.out 4; have z5 := blk_frozen K1.out 5; have z6 := blk_frozen K1.out 6
      have KF := Lib.hid (blk_put7 K1.out (.string ⟨#[]⟩) (.string ⟨#[]⟩) (.bool false) (.string ⟨#[]⟩) (.string ⟨#[]⟩) (.string ⟨#[]⟩) (.slice none 0 0))
      have BF := Lib.hid (below_put7 B0.out (show w.heap.size ≤ w.heap.size + 1 by omega) (.string ⟨#[]⟩) (.string ⟨#[]⟩) (.bool false) (.string ⟨#[]⟩) (.string ⟨#[]⟩) (.string ⟨#[]⟩) (.slice none 0 0))
      go_wp2
      refine bodyPost_ret (results_ct rfl _ _ (w.heap.size + 1) 45 _ (0, 0) _ rfl KF.out Tryz.underlying45 rfl (by kernel_rfl)) rfl ⟨none, 0, ?_, ?_, ?_, BF.out⟩
      · rw [HO2.out]; rfl
      · rw [HO2.out]; exact Nat.le_refl 0
      · rw [HO2.out]; exact Kd.C_nil _ _
attribute [local go_sem high] P.eqA38
set_option maxHeartbeats 4000000 in
set_option maxRecDepth 100000 in
theorem alike_any (A B : Option Addr) (c d : Nat) (m : SM) (w : World) (hA : Kd.string.C w A m.f4.length m.f4) (hB : Kd.string.C w B m.f4.length m.f4) (lp : m.f4.length ≤ 1048576) :
    Calls Tryz.prog 15 #[.agg (modA m A c), .agg (modA m B d)] w fun e w' => e = .returned (.bool true) ∧ Below w.heap.size w w' := by
  have K0 := Lib.hid (blk_alloc (blk_new w (.cells (modA m A c) 45)) (.cells (modA m B d) 45))
  have k1 := blk_new (w.alloc (.cells (modA m A c) 45)) (.cells (modA m B d) 45)
  rw [World.size_alloc] at k1
  have K1 := Lib.hid k1
  clear k1
  have B0 := Lib.hid (below_alloc (below_alloc (Below.refl _ w) (.cells (modA m A c) 45)) (.cells (modA m B d) 45))
  have hA := Lib.hid (Kd.C_below hA B0.out)
  have hB := Lib.hid (Kd.C_below hB B0.out)
  unfold modA at *
  go_enter Tryz.func15, Tryz.ntmps15
  go_upto_region 1 with (fail)
  generalize (w.alloc (.cells #[.string m.f0.f0, .string m.f0.f1, .bool m.f1, .string m.f2, .string m.f3.f0, .string m.f3.f1, .slice A m.f4.length c] 45)).alloc (.cells #[.string m.f0.f0, .string m.f0.f1, .bool m.f1, .string m.f2, .string m.f3.f0, .string m.f3.f1, .slice B m.f4.length d] 45) = W at *
  obtain ⟨f0, f1, f2, f3, f4, f5, f6⟩ := blk7 K0.out
  obtain ⟨y0, y1, y2, y3, y4, y5, y6⟩ := blk7 K1.out
  go_wp2
  go_loopw [5] (fun i wr => ∃ k n : Nat, k ≤ m.f4.length ∧ i = .int .i64 k ∧ Hid (wr = W.drewN n)) (fun i wr => m.f4.length - (intOf i).toNat)
  case atStart => exact ⟨0, 0, Nat.zero_le _, rfl, Lib.hid rfl⟩
  case round =>
    clear f0 f1 f2 f3 f4 f5 y0 y1 y2 y3 y4 y5
    obtain ⟨k, n, hk, rfl, HW⟩ := hrel
    have HB := Lib.hid (show Below w.heap.size w wr from HW.out ▸ pw_below_drewN B0.out n)
    have f6' : wr.cell? ⟨w.heap.size, 6, none⟩ = some (.slice A m.f4.length c) := by rw [HW.out]; exact f6
    have y6' : wr.cell? ⟨w.heap.size + 1, 6, none⟩ = some (.slice B m.f4.length d) := by rw [HW.out]; exact y6
    by_cases hlt : k < m.f4.length
    · obtain ⟨x, Hx⟩ : ∃ x, Hid (m.f4.getD k emp = x) := ⟨_, rfl⟩
      obtain ⟨a, e1, cx⟩ := strC_cell hA.out hlt
      obtain ⟨b, e2, cy⟩ := strC_cell hB.out hlt
      subst e1; subst e2
      rw [Hx.out] at cx cy
      have cx' : wr.cell? (a.add k) = some (.string x) := by rw [HW.out]; exact cx
      have cy' : wr.cell? (b.add k) = some (.string x) := by rw [HW.out]; exact cy
      clear cx cy f6 y6
      go_wp2
      go_quiet (fail)
      go_wp2
      go_roundw
      case rel => exact ⟨k + 1, n + nq, by omega, by go_num, Lib.hid (by rw [HW.out, World.drewN_drewN])⟩
      case measure => simp [intOf]; omega
    · obtain rfl : k = m.f4.length := by omega
      go_wp2
      go_ret
      exact ⟨rfl, HB.out⟩
end Go.Proofs.YtcdcpcdfcmokkaaGreatDoor
end
section
namespace Go.Proofs.YtcdcpcdfcmokkaaGreatDoor
open Go Go.RowKit Go.Proofs.YtcdcpcdfcmokkaaGreatDoorW.PrintWords
set_option linter.unusedVariables false
def cntB (s : ByteArray) (l : List ByteArray) : Nat := l.countP fun p => p.toList == s.toList
theorem cnt_zero {s : ByteArray} {l : List ByteArray} (h : inB s l = false) : cntB s l = 0 := by
  unfold cntB; unfold inB at h
  rw [List.countP_eq_zero]; rw [List.any_eq_false] at h; exact h
theorem cnt_snoc (s x : ByteArray) (l : List ByteArray) : cntB s (l ++ [x]) = cntB s l + (if (x.toList == s.toList) = true then 1 else 0) := by
  unfold cntB; rw [List.countP_append, List.countP_singleton]
theorem cnt_step {s x : ByteArray} {l : List ByteArray} (h : cntB s l ≤ 1) (hx : inB x l = false) : cntB s (l ++ [x]) ≤ 1 := by
  rw [cnt_snoc]
  split
  · rename_i e
    have hs : x = s := list_inj (by simpa using e)
    subst hs
    rw [cnt_zero hx]; exact Nat.le_refl 1
  · omega
theorem cnt_pos {s : ByteArray} {l : List ByteArray} : inB s l = decide (0 < cntB s l) := by
  cases h : inB s l with
  | false => rw [cnt_zero h]; rfl
  | true =>
    unfold inB at h
    rw [List.any_eq_true] at h
    exact (decide_eq_true (List.countP_pos_iff.2 h)).symm
theorem getD_take_app {l : List ByteArray} {k : Nat} (h : k < l.length) : l.take (k + 1) = l.take k ++ [l.getD k emp] := takeB_getD h rfl
theorem cnt_mod {ms : List SM} (s : ByteArray) (i : Nat) (hi : i < ms.length) (h : upto (newP ms i) (ms.getD i zM).f4.length = true) (h0 : cntB s (metB ms i) ≤ 1) :
    ∀ k, k ≤ (ms.getD i zM).f4.length → cntB s (metB ms i ++ (ms.getD i zM).f4.take k) ≤ 1
  | 0, _ => by rw [List.take_zero, List.append_nil]; exact h0
  | k + 1, hk => by
    have ih := cnt_mod s i hi h h0 k (by omega)
    have hn := (upto_iff _).1 h k (by omega)
    rw [getD_take_app (by omega), ← List.append_assoc]
    refine cnt_step ih ?_
    unfold newP at hn
    simpa using hn
theorem cnt_met {ms : List SM} {rs : List SR} (s : ByteArray) (h : listB ms rs = true) : ∀ i, i ≤ ms.length → cntB s (metB ms i) ≤ 1 ∧ (i < ms.length → ∀ k, k ≤ (ms.getD i zM).f4.length → cntB s (metB ms i ++ (ms.getD i zM).f4.take k) ≤ 1) := by
  have hu : ∀ i, i < ms.length → upto (newP ms i) (ms.getD i zM).f4.length = true := fun i hi => by
    unfold listB at h
    rw [Bool.and_eq_true] at h
    have := (upto_iff _).1 h.1 i hi
    unfold modOk at this
    rw [Bool.and_eq_true] at this
    exact this.2
  intro i
  induction i with
  | zero =>
    intro _
    have h0 : cntB s (metB ms 0) ≤ 1 := by unfold metB; simp [cntB]
    exact ⟨h0, fun hi => cnt_mod s 0 hi (hu 0 hi) h0⟩
  | succ i ih =>
    intro hi
    have hlt : i < ms.length := by omega
    have h0 : cntB s (metB ms (i + 1)) ≤ 1 := by
      have := (ih (by omega)).2 hlt _ (Nat.le_refl _)
      rw [List.take_length] at this
      rwa [metB_succ ms i hlt]
    exact ⟨h0, fun hi2 => cnt_mod s (i + 1) hi2 (hu _ hi2) h0⟩
theorem own_is (s : ByteArray) : ∀ ms : List SM, (ownS s ms).2 = inB s (ms.flatMap (·.f4))
  | [] => rfl
  | m :: ms => by
    rw [ownS, List.flatMap_cons]
    have : inB s (m.f4 ++ ms.flatMap (·.f4)) = (inB s m.f4 || inB s (ms.flatMap (·.f4))) := by unfold inB; rw [List.any_append]
    rw [this]
    cases inB s m.f4 with
    | true => rfl
    | false => rw [if_neg (by decide), own_is s ms]; rfl
theorem own_in (s : ByteArray) : ∀ ms : List SM, (ownS s ms).1 ∈ ms ∨ (ownS s ms).1 = zM
  | [] => .inr rfl
  | m :: ms => by
    rw [ownS]
    split
    · exact .inl List.mem_cons_self
    · rcases own_in s ms with h | h
      · exact .inl (List.mem_cons_of_mem _ h)
      · exact .inr h
theorem met_all (ms : List SM) : metB ms ms.length = ms.flatMap (·.f4) := by unfold metB; rw [List.take_length]
theorem cnt_is {ms : List SM} {rs : List SR} (s : ByteArray) (h : listB ms rs = true) : cntB s (metB ms ms.length) ≤ 1 ∧ (((cntB s (metB ms ms.length) : Nat) : Int) == 1) = (ownS s ms).2 := by
  have h1 := (cnt_met s h ms.length (Nat.le_refl _)).1
  refine ⟨h1, ?_⟩
  rw [own_is, ← met_all, cnt_pos]
  rcases Nat.lt_or_ge 0 (cntB s (metB ms ms.length)) with hc | hc
  · rw [show cntB s (metB ms ms.length) = 1 by omega]; rfl
  · rw [show cntB s (metB ms ms.length) = 0 by omega]; rfl
theorem light_zM : LightM zM := by unfold LightM; decide
theorem own_light {ms : List SM} {rs : List SR} (s : ByteArray) (h : Light ms rs) : LightM (ownS s ms).1 := by
  rcases own_in s ms with e | e
  · exact h.2.2.1 _ e
  · rw [e]; exact light_zM
theorem one_modC {w : World} {g : Nat} {m : SM} {A : Option Addr} {c : Nat} (h : w.heap[g]? = some (.cells (modA m A c) 41 (0, 0))) (lc : m.f4.length ≤ c) (hA : Kd.string.C w A m.f4.length m.f4) : Kd.C P.k41 w (some ⟨g, 0, none⟩) 1 [m] := by
  refine ⟨rfl, by decide, fun _ => ⟨⟨g, 0, none⟩, rfl, fun j p hp => ?_⟩⟩
  cases j with
  | zero =>
    obtain rfl : m = p := by simpa using hp
    refine ⟨_, rfl, P.k41_mk w m lc hA, fun i u hu => ?_⟩
    have hc := blk_cell h i
    rw [show (⟨g, 0, none⟩ : Addr).add (0 * P.k41.sz + i) = ⟨g, i, none⟩ by rw [Nat.zero_mul, Nat.zero_add]; unfold Addr.add; simp; exact fun e => e.symm]
    rw [hc]
    simpa [modA] using hu
  | succ j => simp at hp
theorem rowner_light (A0 A1 : Option Addr) (c0 c1 n1 : Nat) {rs : List SR} (ms : List SM) (s : ByteArray) (w : World) (h : Light ms rs) (h0 : Kd.C P.k45 w A0 ms.length (ms.map toD)) :
    Calls Tryz.prog 14 #[.agg #[.slice A0 ms.length c0, .slice A1 n1 c1], .string s] w fun e w' => ∃ A c, e = .returned (.tuple #[.agg (modA (ownS s ms).1 A c), .bool (ownS s ms).2]) ∧ (ownS s ms).1.f4.length ≤ c ∧ Kd.string.C w' A (ownS s ms).1.f4.length (ownS s ms).1.f4 ∧ Below w.heap.size w w' := by
  have hq := rowner_any A0 A1 c0 c1 n1 (ms.map toD) s w (by rw [List.length_map]; exact h0) (by rw [List.length_map]; have := h.1; omega) (fun m hm => by
    obtain ⟨x, hx, rfl⟩ := List.mem_map.mp hm
    exact Nat.le_trans (h.2.2.1 x hx).1 (by decide))
  rw [toM_toD, List.length_map] at hq
  exact hq
theorem theirs_one (A0 : Option Addr) (c0 : Nat) (m : SM) (w : World) (h0 : Kd.C P.k41 w A0 1 [m]) (hc0 : 1 ≤ c0) :
    Calls Tryz.prog 12 #[.agg #[.slice A0 1 c0, .slice none 0 0]] w fun e w' => ∃ ad d0 B1 d1 A6 c6, e = .returned (.agg #[.slice (some ad) 1 d0, .slice B1 0 d1]) ∧ w'.cell? ad = some (.string m.f0.f0) ∧ w'.cell? ⟨ad.block, ad.off + 1, none⟩ = some (.string m.f0.f1) ∧ w'.cell? ⟨ad.block, ad.off + 2, none⟩ = some (.bool m.f1) ∧ w'.cell? ⟨ad.block, ad.off + 3, none⟩ = some (.string m.f2) ∧ w'.cell? ⟨ad.block, ad.off + 4, none⟩ = some (.string m.f3.f0) ∧ w'.cell? ⟨ad.block, ad.off + 5, none⟩ = some (.string m.f3.f1) ∧ w'.cell? ⟨ad.block, ad.off + 6, none⟩ = some (.slice A6 m.f4.length c6) ∧ Hid (Kd.string.C w' A6 m.f4.length m.f4) ∧ Below w.heap.size w w' := by
  refine (theirs_any A0 none c0 0 [m] [] w (by simp) (by simp) h0 hc0 (⟨rfl, by simp, fun h => absurd h (Nat.lt_irrefl 0)⟩ : Kd.C P.k59 w none 0 ([] : List SR)) (Nat.le_refl 0)).mono ?_
  rintro e w' ⟨B0, d0, B1, d1, rfl, l0, g0, l1, g1, hb⟩
  obtain ⟨ad, A6, c6, hA, e0, e1, e2, e3, e4, e5, e6, l6, g6⟩ := rmod_at (ms := [toD m]) (k := 0) g0 (by simp) (m := toD m) rfl
  subst hA
  have ha : ad.add (0 * 7) = ad := by unfold Addr.add; rw [if_pos rfl]
  rw [ha] at e0 e1 e2 e3 e4 e5 e6
  exact ⟨ad, d0, B1, d1, A6, c6, rfl, e0, e1, e2, e3, e4, e5, e6, Lib.hid g6, hb⟩
theorem keep9 {W W' : World} {Q : World → Prop} {a b c d e f g h i : Addr} {u v x y z r s t q : Value}
    (H : W.cell? a = some u ∧ W.cell? b = some v ∧ W.cell? c = some x ∧ W.cell? d = some y ∧ W.cell? e = some z ∧ W.cell? f = some r ∧ W.cell? g = some s ∧ W.cell? h = some t ∧ W.cell? i = some q ∧ Hid (Q W)) (hb : Below W.heap.size W W') (hQ : Q W → Q W') :
    W'.cell? a = some u ∧ W'.cell? b = some v ∧ W'.cell? c = some x ∧ W'.cell? d = some y ∧ W'.cell? e = some z ∧ W'.cell? f = some r ∧ W'.cell? g = some s ∧ W'.cell? h = some t ∧ W'.cell? i = some q ∧ Hid (Q W') :=
  ⟨pw_cell_below hb H.1, pw_cell_below hb H.2.1, pw_cell_below hb H.2.2.1, pw_cell_below hb H.2.2.2.1, pw_cell_below hb H.2.2.2.2.1, pw_cell_below hb H.2.2.2.2.2.1, pw_cell_below hb H.2.2.2.2.2.2.1, pw_cell_below hb H.2.2.2.2.2.2.2.1, pw_cell_below hb H.2.2.2.2.2.2.2.2.1, Lib.hid (hQ H.2.2.2.2.2.2.2.2.2.out)⟩
def OwnQ (w : World) (o : Obj) (A : Option Addr) (l : List ByteArray) (W : World) : Prop := Below w.heap.size w W ∧ W.heap[w.heap.size]? = some o ∧ Kd.string.C W A l.length l
theorem OwnQ.step {w : World} {o : Obj} {A : Option Addr} {l : List ByteArray} {W W' : World} (hb : Below W.heap.size W W') (h : OwnQ w o A l W) : OwnQ w o A l W' := ⟨below_step h.1 hb, blk_at h.2.1 hb, Kd.C_below h.2.2 hb⟩
theorem held9 {W : World} {Q : Prop} {a b c d e f g h i : Addr} {u v x y z r s t q : Value}
    (H : W.cell? a = some u ∧ W.cell? b = some v ∧ W.cell? c = some x ∧ W.cell? d = some y ∧ W.cell? e = some z ∧ W.cell? f = some r ∧ W.cell? g = some s ∧ W.cell? h = some t ∧ W.cell? i = some q ∧ Hid Q) : Q := H.2.2.2.2.2.2.2.2.2.out
theorem check_light (A0 A1 : Option Addr) (c0 c1 : Nat) (ms : List SM) (rs : List SR) (w : World) (h : Light ms rs) (h0 : Kd.C P.k41 w A0 ms.length ms) (hc0 : ms.length ≤ c0) (h1 : Kd.C P.k59 w A1 rs.length rs) (hc1 : rs.length ≤ c1) :
    Calls Tryz.prog 16 #[.agg #[.slice A0 ms.length c0, .slice A1 rs.length c1]] w fun e w' => e = .returned (.int .i64 (listErr ms rs)) ∧ Below w.heap.size w w' :=
  check_any A0 A1 c0 c1 ms rs w h0 hc0 h1 hc1 (fun m hm => smallM_light (h.2.2.1 m hm)) (fun r hr => smallR_light (h.2.2.2 r hr)) (by have := h.1; omega) (by have := h.2.1; omega) (by have := metB_light ms h.1 h.2.2.1 ms.length; omega)
theorem rcheck_light (A0 A1 : Option Addr) (c0 c1 : Nat) (ms : List SM) (rs : List SR) (w : World) (h : Light ms rs) (h0 : Kd.C P.k45 w A0 ms.length (ms.map toD)) (hc0 : ms.length ≤ c0) (h1 : Kd.C P.k72 w A1 rs.length (rs.map toE)) (hc1 : rs.length ≤ c1) :
    Calls Tryz.prog 17 #[.agg #[.slice A0 ms.length c0, .slice A1 rs.length c1]] w fun e w' => e = .returned (.int .i64 (listErr ms rs)) ∧ Below w.heap.size w w' := by
  have hp := rcheck_any A0 A1 c0 c1 (ms.map toD) (rs.map toE) w (by rw [List.length_map]; exact h0) (by rw [List.length_map]; exact hc0) (by rw [List.length_map]; exact h1) (by rw [List.length_map]; exact hc1) (fun m hm => by obtain ⟨x, hx, rfl⟩ := List.mem_map.mp hm; exact smallM_light (h.2.2.1 x hx)) (fun r hr => by obtain ⟨x, hx, rfl⟩ := List.mem_map.mp hr; exact smallR_light (h.2.2.2 x hx)) (by have := h.1; rw [List.length_map]; omega) (by have := h.2.1; rw [List.length_map]; omega)
    (by rw [toM_toD]; have := metB_light ms h.1 h.2.2.1 ms.length; omega)
  rw [toM_toD, toR_toE, List.length_map, List.length_map] at hp
  exact hp
theorem alike_held {w W : World} {o : Obj} (A' A6 : Option Addr) (c' c6 : Nat) (m : SM) (H : OwnQ w o A' m.f4 W) (g6 : Kd.string.C W A6 m.f4.length m.f4) (lp : m.f4.length ≤ 20) :
    Calls Tryz.prog 15 #[.agg #[.string m.f0.f0, .string m.f0.f1, .bool m.f1, .string m.f2, .string m.f3.f0, .string m.f3.f1, .slice A6 m.f4.length c6], .agg #[.string m.f0.f0, .string m.f0.f1, .bool m.f1, .string m.f2, .string m.f3.f0, .string m.f3.f1, .slice A' m.f4.length c']] W fun e w' => e = .returned (.bool true) ∧ Below W.heap.size W w' :=
  alike_any A6 A' c6 c' m W g6 H.2.2 (by omega)
theorem cnt_next {s x : ByteArray} {acc l : List ByteArray} {k : Nat} (h : k < l.length) (hx : l.getD k emp = x) : cntB s (acc ++ l.take (k + 1)) = cntB s (acc ++ l.take k) + (if (x.toList == s.toList) = true then 1 else 0) := by
  rw [takeB_getD h hx, ← List.append_assoc, cnt_snoc]
theorem cnt_row {s : ByteArray} {ms : List SM} {i : Nat} {m : SM} (h : i < ms.length) (hm : ms.getD i zM = m) : cntB s (metB ms (i + 1)) = cntB s (metB ms i ++ m.f4.take m.f4.length) := by
  rw [metB_succ ms i h, List.take_length, hm]
theorem cnt_here {ms : List SM} {rs : List SR} (s : ByteArray) (h : listB ms rs = true) {i : Nat} (hi : i < ms.length) {m : SM} (hm : ms.getD i zM = m) {k : Nat} (hk : k ≤ m.f4.length) : cntB s (metB ms i ++ m.f4.take k) ≤ 1 := by
  subst hm; exact (cnt_met s h i (by omega)).2 hi k hk
end Go.Proofs.YtcdcpcdfcmokkaaGreatDoor
end
