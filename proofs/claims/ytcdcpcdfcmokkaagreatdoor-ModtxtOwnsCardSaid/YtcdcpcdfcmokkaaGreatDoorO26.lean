/- The document's layer 1 by hand: Valid, Import, Module, Compare. -/
import Derived.Test.YtcdcpcdfcmokkaaGreatDoorO24
import Derived.Test.YtcdcpcdfcmokkaaGreatDoorO17
import Derived.WalkSpells
import Derived.Deep.DeepCutAuto
import Derived.Deep.QuietTactic
import Derived.BigQuiet
set_option linter.unusedVariables false
set_option linter.unusedSimpArgs false
namespace Go.Proofs.YtcdcpcdfcmokkaaGreatDoor
open Go Go.RowKit Go.Proofs.YtcdcpcdfcmokkaaGreatDoorW.PrintWords
set_option linter.unusedVariables false
set_option linter.unusedSimpArgs false
theorem relems_any (s : ByteArray) (w : World) (hs : s.size ≤ 1099511627775) :
    Calls Tryz.prog 70 #[.string s] w fun e w' => ∃ v, e = .returned v ∧ Kd.R Kd.string 9 w' w.heap.size (fun _ => True) v (elemsB s) ∧ Below w.heap.size w w' := by
  obtain ⟨k, h⟩ := (relems_ev s (by omega)).rounds
  exact P.graftbedref01_Elems.calls k s _ w h
theorem rfine_any (s : ByteArray) (i : Nat) (w : World) : Calls Tryz.prog 104 #[.int .u8 (bt s i)] w fun e w' => e = .returned (.bool (fineB (bt s i))) ∧ ∃ n, w' = w.drewN n := by
  obtain ⟨k, h⟩ := (rfine_ev s i).rounds
  exact (P.graftbedref01_fine.calls k _ _ w h).mono fun e w' h => ⟨h.1, h.2.out⟩
theorem size_zero {s : ByteArray} : s.size < 1 ↔ s.toList = [] := by rw [Lib.toList_data, ← List.length_eq_zero_iff, ← Lib.size_eq]; omega
theorem elems_pos {s : ByteArray} (h : ¬ s.size < 1) : 0 < (elemsB s).length := by
  unfold elemsB; rw [if_neg (by rw [← Lib.toList_data]; exact fun e => h (size_zero.2 e))]
  exact List.length_pos_iff.2 (by simp [piecesB, pieces_ne])
set_option maxHeartbeats 4000000 in
set_option maxRecDepth 100000 in
theorem rvalid_any (s : ByteArray) (w : World) (hs : s.size ≤ 1099511627775) :
    Calls Tryz.prog 68 #[.string s] w fun e w' => e = .returned (.bool (validB s)) ∧ Below w.heap.size w w' := by
  by_cases h1 : s.size < 1
  · have HV := Lib.hid (show validB s = false by unfold validB; rw [size_zero.1 h1]; rfl)
    go_enter Tryz.func68, Tryz.ntmps68
    go_wp2
    go_ret
    exact ⟨by rw [HV.out]; rfl, Below.refl _ _⟩
  by_cases h2 : 60 < s.size
  · have HV := Lib.hid (show validB s = false by unfold validB; rw [decide_eq_false (show ¬ s.size ≤ 60 by omega)]; simp)
    go_enter Tryz.func68, Tryz.ntmps68
    go_wp2
    go_ret
    exact ⟨by rw [HV.out]; rfl, Below.refl _ _⟩
  have HV := Lib.hid (show validB s = (elemsB s).all elemOk by unfold validB; rw [decide_eq_true (show s.size ≤ 60 by omega), show (s.toList == []) = false by simpa using fun e => h1 (size_zero.2 e)]; simp)
  have l0 := elems_pos h1
  have hsm := elems_small hs
  obtain ⟨L, hL⟩ : ∃ L, L = elemsB s := ⟨_, rfl⟩
  rw [← hL] at l0 hsm HV
  have HL := Lib.hid hL
  clear hL
  have ll := hsm.1
  have ls := Lib.hid hsm.2
  clear hsm
  go_enter Tryz.func68, Tryz.ntmps68
  go_wp2_with (go_at_call 70; (with_reducible refine (relems_any s _ hs).mono ?_); rintro e w1 ⟨v, rfl, hR, hb⟩; rw [← HL.out] at hR; obtain ⟨g, c, rfl, _, _, _⟩ := Kd.R_form hR l0)
  go_loopw [4] (fun i wr => ∃ k n : Nat, k ≤ L.length ∧ i = .int .i64 k ∧ Hid ((L.take k).all elemOk = true) ∧ Hid (wr = w1.drewN n)) (fun i wr => L.length - (intOf i).toNat)
  case atStart => exact ⟨0, 0, Nat.zero_le _, rfl, Lib.hid rfl, Lib.hid rfl⟩
  case round =>
    obtain ⟨k, n, hk, rfl, HA, HW⟩ := hrel
    have HB := Lib.hid (show Below w.heap.size w wr from HW.out ▸ pw_below_drewN hb n)
    by_cases hlt : k < L.length
    · obtain ⟨x, Hx⟩ : ∃ x, Hid (L.getD k ByteArray.empty = x) := ⟨_, rfl⟩
      have cx := str_drew hR hlt Hx.out HW.out
      have zx := ls.out x (Hx.out ▸ getD_in hlt)
      have HN := Lib.hid (fun h : elemOk x = false => HV.out.trans (allB_no hlt Hx.out h))
      by_cases t1 : x.size < 1
      · go_wp2
        go_ret
        exact ⟨by rw [HN.out (by simp [elemOk, size_zero.1 t1])]; rfl, HB.out⟩
      by_cases t2 : 30 < x.size
      · go_wp2
        go_ret
        exact ⟨by rw [HN.out (by simp [elemOk]; omega)]; rfl, HB.out⟩
      cases t3 : (x.toList == [46]) with
      | true =>
        go_wp2
        go_ret
        exact ⟨by rw [HN.out (by simp [elemOk, t3])]; rfl, HB.out⟩
      | false =>
      cases t4 : (x.toList == [46, 46]) with
      | true =>
        go_wp2
        go_ret
        exact ⟨by rw [HN.out (by simp [elemOk, t4])]; rfl, HB.out⟩
      | false =>
      have HE := Lib.hid (show elemOk x = fineAll x x.size by unfold elemOk; rw [t3, t4, decide_eq_true (show x.size ≤ 30 by omega), show (x.toList == []) = false by simpa using fun e => t1 (size_zero.2 e)]; simp)
      go_wp2
      obtain ⟨wo, rfl⟩ : ∃ wo : World, wo = wr := ⟨_, rfl⟩
      go_loopw [5] (fun j wr => ∃ m n : Nat, m ≤ x.size ∧ j = .int .i64 m ∧ Hid (fineAll x m = true) ∧ Hid (wr = w1.drewN n)) (fun j wr => x.size - (intOf j).toNat)
      case atStart => exact ⟨0, n, Nat.zero_le _, rfl, Lib.hid rfl, HW⟩
      case round =>
        clear HB cx
        obtain ⟨m, n', hm, rfl, HF, HW'⟩ := hrel
        have HB := Lib.hid (show Below w.heap.size w wr from HW'.out ▸ pw_below_drewN hb n')
        have cx := str_drew hR hlt Hx.out HW'.out
        by_cases hml : m < x.size
        · have hbt : ((x[m]'hml).toNat : Int) = bt x m := bt_at x (m : Int) hml
          cases f1 : fineB (bt x m) with
          | true =>
            go_wp2_with (go_at_call 104; (with_reducible refine (rfine_any x m _).mono ?_); rw [f1]; rintro e w2 ⟨rfl, q, rfl⟩)
            go_roundw
            case rel => exact ⟨m + 1, n' + q, by omega, by go_num, Lib.hid (by simp [fineAll, HF.out, f1]), Lib.hid (by rw [HW'.out, World.drewN_drewN])⟩
            case measure => simp [intOf]; omega
          | false =>
            go_wp2_with (go_at_call 104; (with_reducible refine (rfine_any x m _).mono ?_); rw [f1]; rintro e w2 ⟨rfl, q, rfl⟩)
            go_ret
            exact ⟨by rw [HN.out (by rw [HE.out]; exact fineAll_no x m f1 _ hml)]; rfl, pw_below_drewN HB.out _⟩
        · obtain rfl : m = x.size := by omega
          go_wp2
          refine ⟨⟨k + 1, n', by omega, by go_num, Lib.hid (allB_succ hlt Hx.out HA.out (HE.out.trans HF.out)), HW'⟩, by simp [intOf]; omega⟩
    · obtain rfl : k = L.length := by omega
      go_wp2
      go_ret
      exact ⟨by rw [HV.out, allB_end HA.out]; rfl, HB.out⟩
set_option maxHeartbeats 4000000 in
set_option maxRecDepth 100000 in
theorem rmade_any (s : ByteArray) (up : Bool) (more : ByteArray) (w : World) (hm : more.size ≤ 1000) (hs : s.size ≤ 1099511627775) :
    Calls Tryz.prog 69 #[.string s, .bool up, .string more] w fun e w' => e = .returned (.bool (everyUpto (rgood up more) s s.size)) ∧ w = w' := by
  go_enter Tryz.func69, Tryz.ntmps69
  go_wp2
  go_loopw [7] (fun i wr => ∃ k : Nat, k ≤ s.size ∧ i = .int .i64 k ∧ Hid (everyUpto (rgood up more) s k = true) ∧ wr = w) (fun i wr => s.size - (intOf i).toNat)
  case atStart => exact ⟨0, Nat.zero_le _, rfl, Lib.hid rfl, rfl⟩
  case round =>
    obtain ⟨k, hk, rfl, HA, rfl⟩ := hrel
    by_cases hlt : k < s.size
    · have hbt : ((s[k]'hlt).toNat : Int) = bt s k := bt_at s (k : Int) hlt
      obtain ⟨c, hc⟩ : ∃ c, bt s k = c := ⟨_, rfl⟩
      rw [hc] at hbt
      have HY := Lib.hid (fun h : rgood up more c = true => show everyUpto (rgood up more) s (k + 1) = true by rw [everyUpto, HA.out, hc, h]; rfl)
      have HZ := Lib.hid (fun h : rgood up more c = false => everyUpto_no (rgood up more) s k (by rw [hc]; exact h) _ hlt)
      clear hc
      obtain ⟨w, rfl⟩ : ∃ wo : World, wo = wr := ⟨_, rfl⟩
      go_upto_region 5 with (fail)
      go_cut [9] (fun v wc => v = .bool (inRange up c) ∧ wc = w)
      case first =>
        rcases (show (97 ≤ c ∧ c ≤ 122) ∨ (48 ≤ c ∧ c ≤ 57) ∨ (65 ≤ c ∧ c ≤ 90) ∨ c < 48 ∨ (57 < c ∧ c < 65) ∨ (90 < c ∧ c < 97) ∨ 122 < c by omega) with h | h | h | h | h | h | h
        all_goals
          cases up
          all_goals
            go_wp2
            go_meet
            case rel => exact ⟨by congr 1; unfold inRange; rw [Bool.eq_iff_iff]; simp only [Bool.or_eq_true, Bool.and_eq_true, decide_eq_true_eq, true_iff, Bool.false_eq_true, false_iff, Bool.true_and, Bool.false_and, Bool.or_false, true_and, false_and, or_false]; omega, by first | rfl | trivial⟩
      case rest =>
        obtain ⟨rfl, rfl⟩ := hcut
        go_wp2
        obtain ⟨w, rfl⟩ : ∃ wo : World, wo = wc := ⟨_, rfl⟩
        go_loopw [9, 10] (fun v j wr => ∃ m : Nat, m ≤ more.size ∧ j = .int .i64 m ∧ v = .bool (inRange up c || anyIs more c m) ∧ wr = w) (fun v j wr => more.size - (intOf j).toNat)
        case atStart => exact ⟨0, Nat.zero_le _, rfl, by rw [anyIs, Bool.or_false], rfl⟩
        case round =>
          obtain ⟨m, hm', rfl, rfl, rfl⟩ := hrel
          by_cases hml : m < more.size
          · have hbm : ((more[m]'hml).toNat : Int) = bt more m := bt_at more (m : Int) hml
            cases q : (inRange up c || anyIs more c m) with
            | true =>
              go_wp2
              go_roundw
              case rel => exact ⟨m + 1, by omega, by go_num, by rw [anyIs, ← Bool.or_assoc, q]; rfl, by first | rfl | trivial⟩
              case measure => simp [intOf]; omega
            | false =>
              go_wp2
              go_roundw
              case rel => exact ⟨m + 1, by omega, by go_num, by rw [anyIs, ← Bool.or_assoc, q]; rfl, by first | rfl | trivial⟩
              case measure => simp [intOf]; omega
          · obtain rfl : m = more.size := by omega
            cases q : (inRange up c || anyIs more c more.size) with
            | true =>
              go_wp2
              refine ⟨⟨k + 1, by omega, by go_num, Lib.hid (HY.out q), by first | rfl | trivial⟩, by simp [intOf]; omega⟩
            | false =>
              go_wp2
              go_ret
              exact ⟨by rw [HZ.out q]; rfl, by first | rfl | trivial⟩
    · obtain rfl : k = s.size := by omega
      go_wp2
      go_ret
      exact ⟨by rw [HA.out]; rfl, rfl⟩
theorem rmadeS_any (s : ByteArray) (w : World) (hs : s.size ≤ 1099511627775) : Calls Tryz.prog 69 #[.string s, .bool false, .string ⟨#[45, 46, 95, 126, 47]⟩] w fun e w' => e = .returned (.bool (madeB s ⟨#[]⟩)) ∧ Below w.heap.size w w' := by
  have h := rmade_any s false ⟨#[45, 46, 95, 126, 47]⟩ w (by decide) hs
  rw [made_upto _ ⟨#[]⟩ s (fun i => by
    have h := bt_range s i
    obtain ⟨c, hc⟩ : ∃ c : Nat, bt s i = c := ⟨(bt s i).toNat, by omega⟩
    rw [hc]; exact (good_small ⟨c, by omega⟩).1)] at h
  exact h.mono fun e w' h => ⟨h.1, h.2 ▸ Below.refl _ _⟩
theorem rmadeB_any (s : ByteArray) (w : World) (hs : s.size ≤ 1099511627775) : Calls Tryz.prog 69 #[.string s, .bool true, .string ⟨#[45, 46, 95, 126, 47, 43]⟩] w fun e w' => e = .returned (.bool (madeB s bigSigns)) ∧ Below w.heap.size w w' := by
  have h := rmade_any s true ⟨#[45, 46, 95, 126, 47, 43]⟩ w (by decide) hs
  rw [made_upto _ bigSigns s (fun i => by
    have h := bt_range s i
    obtain ⟨c, hc⟩ : ∃ c : Nat, bt s i = c := ⟨(bt s i).toNat, by omega⟩
    rw [hc]; exact (good_small ⟨c, by omega⟩).2)] at h
  exact h.mono fun e w' h => ⟨h.1, h.2 ▸ Below.refl _ _⟩
theorem bt_zero {x : ByteArray} (h : 0 < x.size) : ((x[0]'h).toNat : Int) = bt x 0 := bt_at x (0 : Int) h
theorem bt_last {x : ByteArray} (h : 0 < x.size) : ((x[x.size - 1]'(by omega)).toNat : Int) = bt x ((x.size - 1 : Nat) : Int) := bt_at x ((x.size - 1 : Nat) : Int) (by omega)
set_option maxHeartbeats 4000000 in
set_option maxRecDepth 100000 in
theorem rimport_any (s : ByteArray) (w : World) (hs : s.size ≤ 1099511627770) :
    Calls Tryz.prog 36 #[.string s] w fun e w' => e = .returned (.int .i64 (pathErr (importB s))) ∧ Below w.heap.size w w' := by
  cases hV : validB s with
  | false =>
    have HI := Lib.hid (show importB s = false by unfold importB; rw [hV]; rfl)
    go_enter Tryz.func36, Tryz.ntmps36
    go_wp2_with (go_at_call 68; (with_reducible refine (rvalid_any s _ (by omega)).mono ?_); rw [hV]; rintro e w1 ⟨rfl, hb⟩)
    go_ret
    exact ⟨by rw [HI.out]; rfl, hb⟩
  | true =>
  have HP := Lib.hid (fun e h => elem_pos hV (x := e) h)
  cases hM : madeB s bigSigns with
  | false =>
    have HI := Lib.hid (show importB s = false by unfold importB; rw [hM]; simp)
    go_enter Tryz.func36, Tryz.ntmps36
    go_wp2_with (first | (go_at_call 68; (with_reducible refine (rvalid_any s _ (by omega)).mono ?_); rw [hV]; rintro e w1 ⟨rfl, hb⟩) | (go_at_call 69; (with_reducible refine (rmadeB_any s _ (by omega)).mono ?_); rw [hM]; rintro e w2 ⟨rfl, hb2⟩))
    go_ret
    exact ⟨by rw [HI.out]; rfl, below_step hb hb2⟩
  | true =>
  have HI := Lib.hid (show importB s = (elemsB s).all impElem by unfold importB; rw [hM, hV]; rfl)
  have l0 := elems_pos (s := s) (by have := valid_pos hV; omega)
  have hsm := elems_small (s := s) (by omega)
  obtain ⟨L, hL⟩ : ∃ L, L = elemsB s := ⟨_, rfl⟩
  rw [← hL] at l0 hsm HI HP
  have HL := Lib.hid hL
  clear hL
  have ll := hsm.1
  have ls := Lib.hid hsm.2
  clear hsm
  go_enter Tryz.func36, Tryz.ntmps36
  go_wp2_with (first | (go_at_call 68; (with_reducible refine (rvalid_any s _ (by omega)).mono ?_); rw [hV]; rintro e w1 ⟨rfl, hb⟩) | (go_at_call 69; (with_reducible refine (rmadeB_any s _ (by omega)).mono ?_); rw [hM]; rintro e w2 ⟨rfl, hb2⟩) | (go_at_call 70; (with_reducible refine (relems_any s _ (by omega)).mono ?_); rintro e w3 ⟨v, rfl, hR, hb3⟩; rw [← HL.out] at hR; obtain ⟨g, c, rfl, _, _, _⟩ := Kd.R_form hR l0))
  go_loopw [4] (fun i wr => ∃ k n : Nat, k ≤ L.length ∧ i = .int .i64 k ∧ Hid ((L.take k).all impElem = true) ∧ Hid (wr = w3.drewN n)) (fun i wr => L.length - (intOf i).toNat)
  case atStart => exact ⟨0, 0, Nat.zero_le _, rfl, Lib.hid rfl, Lib.hid rfl⟩
  case round =>
    obtain ⟨k, n, hk, rfl, HA, HW⟩ := hrel
    have HB := Lib.hid (show Below w.heap.size w wr from HW.out ▸ pw_below_drewN (below_step (below_step hb hb2) hb3) n)
    by_cases hlt : k < L.length
    · obtain ⟨x, Hx⟩ : ∃ x, Hid (L.getD k ByteArray.empty = x) := ⟨_, rfl⟩
      have cx := str_drew hR hlt Hx.out HW.out
      have zx := ls.out x (Hx.out ▸ getD_in hlt)
      have px := HP.out x (Hx.out ▸ getD_in hlt)
      have HN := Lib.hid (fun h : impElem x = false => HI.out.trans (allB_no hlt Hx.out h))
      have SF := Lib.hid (suf1 46 x px)
      have b0 := bt_zero px
      have bl := bt_last px
      have q1 : (1 : Int) ≤ (x.size : Int) := by omega
      cases t1 : (bt x 0 == 46) with
      | true =>
        go_wp2
        go_quiet (fail)
        go_wp2
        go_ret
        exact ⟨by rw [HN.out (by simp [impElem, t1])]; rfl, pw_below_drewN HB.out _⟩
      | false =>
      cases t2 : (bt x 0 == 45) with
      | true =>
        go_wp2
        go_quiet (fail)
        go_wp2
        go_ret
        exact ⟨by rw [HN.out (by simp [impElem, t2])]; rfl, pw_below_drewN HB.out _⟩
      | false =>
      cases t3 : (bt x ((x.size - 1 : Nat) : Int) == 46) with
      | true =>
        go_wp2
        go_quiet (fail)
        go_wp2
        go_ret
        exact ⟨by rw [HN.out (by unfold impElem; rw [SF.out, show ((46 : UInt8).toNat : Int) = 46 from rfl, t3]; simp)]; rfl, pw_below_drewN HB.out _⟩
      | false =>
        go_wp2
        go_quiet (fail)
        go_wp2
        go_roundw
        case rel => exact ⟨k + 1, n + nq, by omega, by go_num, Lib.hid (allB_succ hlt Hx.out HA.out (by unfold impElem; rw [SF.out, show ((46 : UInt8).toNat : Int) = 46 from rfl, t1, t2, t3]; rfl)), Lib.hid (by rw [HW.out, World.drewN_drewN])⟩
        case measure => simp [intOf]; omega
    · obtain rfl : k = L.length := by omega
      go_wp2
      go_ret
      exact ⟨by rw [HI.out, allB_end HA.out]; rfl, HB.out⟩
theorem module_eq {s : ByteArray} (hV : validB s = true) (hM : madeB s ⟨#[]⟩ = true) : (elemsB s).getD 0 ByteArray.empty = (cutB 47 s).1 ∧ moduleB s = (!(bt (cutB 47 s).1 0 == 45) && (anyIs (cutB 47 s).1 46 (cutB 47 s).1.size && (elemsB s).all modElem)) := by
  have e := elems_ne hV
  have h0 : 0 < (cutB 47 s).1.size := elem_pos hV (by rw [e]; exact List.mem_cons_self)
  refine ⟨by rw [e]; rfl, ?_⟩
  unfold moduleB
  rw [hV, hM, show anyIs (cutB 47 s).1 46 (cutB 47 s).1.size = _ from anyIs_index (cutB 47 s).1 46, head_byte 47 s h0]; rfl
set_option maxHeartbeats 4000000 in
set_option maxRecDepth 100000 in
theorem rmodule_any (s : ByteArray) (w : World) (hs : s.size ≤ 1099511627770) :
    Calls Tryz.prog 37 #[.string s] w fun e w' => e = .returned (.int .i64 (pathErr (moduleB s))) ∧ Below w.heap.size w w' := by
  cases hV : validB s with
  | false =>
    have HI := Lib.hid (show moduleB s = false by unfold moduleB; rw [hV]; rfl)
    go_enter Tryz.func37, Tryz.ntmps37
    go_wp2_with (go_at_call 68; (with_reducible refine (rvalid_any s _ (by omega)).mono ?_); rw [hV]; rintro e w1 ⟨rfl, hb⟩)
    go_ret
    exact ⟨by rw [HI.out]; rfl, hb⟩
  | true =>
  have HP := Lib.hid (fun e h => elem_pos hV (x := e) h)
  cases hM : madeB s ⟨#[]⟩ with
  | false =>
    have HI := Lib.hid (show moduleB s = false by unfold moduleB; rw [hM]; simp)
    go_enter Tryz.func37, Tryz.ntmps37
    go_wp2_with (first | (go_at_call 68; (with_reducible refine (rvalid_any s _ (by omega)).mono ?_); rw [hV]; rintro e w1 ⟨rfl, hb⟩) | (go_at_call 69; (with_reducible refine (rmadeS_any s _ (by omega)).mono ?_); rw [hM]; rintro e w2 ⟨rfl, hb2⟩))
    go_ret
    exact ⟨by rw [HI.out]; rfl, below_step hb hb2⟩
  | true =>
  obtain ⟨e0, hI⟩ := module_eq hV hM
  have l0 := elems_pos (s := s) (by have := valid_pos hV; omega)
  have hsm := elems_small (s := s) (by omega)
  obtain ⟨L, hL⟩ : ∃ L, L = elemsB s := ⟨_, rfl⟩
  obtain ⟨y, hy⟩ : ∃ y, y = (cutB 47 s).1 := ⟨_, rfl⟩
  rw [← hL] at l0 hsm HP e0 hI
  rw [← hy] at e0 hI
  have HI := Lib.hid hI
  have HL := Lib.hid hL
  have E0 := Lib.hid e0
  clear hL hy hI e0
  have ll := hsm.1
  have ls := Lib.hid hsm.2
  clear hsm
  have py := HP.out y (E0.out ▸ getD_in l0)
  have zy := ls.out y (E0.out ▸ getD_in l0)
  have by0 := bt_zero py
  go_enter Tryz.func37, Tryz.ntmps37
  go_wp2_with (first | (go_at_call 68; (with_reducible refine (rvalid_any s _ (by omega)).mono ?_); rw [hV]; rintro e w1 ⟨rfl, hb⟩) | (go_at_call 69; (with_reducible refine (rmadeS_any s _ (by omega)).mono ?_); rw [hM]; rintro e w2 ⟨rfl, hb2⟩) | (go_at_call 70; (with_reducible refine (relems_any s _ (by omega)).mono ?_); rintro e w3 ⟨v, rfl, hR, hb3⟩; rw [← HL.out] at hR; obtain ⟨g, c, rfl, _, _, _⟩ := Kd.R_form hR l0))
  have cy : w3.cell? ⟨g, 0, none⟩ = some (.string y) := str_drew (n := 0) hR l0 E0.out rfl
  have HB3 := Lib.hid (below_step (below_step hb hb2) hb3)
  go_loopw [4, 5] (fun d i wr => ∃ k : Nat, k ≤ y.size ∧ i = .int .i64 k ∧ d = .bool (anyIs y 46 k) ∧ wr = w3) (fun d i wr => y.size - (intOf i).toNat)
  case atStart => exact ⟨0, Nat.zero_le _, rfl, rfl, rfl⟩
  case round =>
    obtain ⟨k, hk, rfl, rfl, rfl⟩ := hrel
    by_cases hlt : k < y.size
    · have hbt : ((y[k]'hlt).toNat : Int) = bt y k := bt_at y (k : Int) hlt
      cases a1 : anyIs y 46 k with
      | _ =>
        go_wp2
        go_roundw
        case rel => exact ⟨k + 1, by omega, by go_num, by rw [anyIs, a1]; rfl, by first | rfl | trivial⟩
        case measure => simp [intOf]; omega
    · obtain rfl : k = y.size := by omega
      cases a1 : anyIs y 46 y.size with
      | false =>
        go_wp2
        go_ret
        exact ⟨by rw [HI.out, a1]; simp [pathErr], HB3.out⟩
      | true =>
      cases t0 : (bt y 0 == 45) with
      | true =>
        go_wp2
        go_ret
        exact ⟨by rw [HI.out, t0]; rfl, HB3.out⟩
      | false =>
      have HI := Lib.hid (show moduleB s = L.all modElem by rw [HI.out, t0, a1]; rfl)
      go_wp2
      clear a1 t0
      obtain ⟨w3, rfl⟩ : ∃ wo : World, wo = wr := ⟨_, rfl⟩
      go_loopw [6] (fun i wr => ∃ k n : Nat, k ≤ L.length ∧ i = .int .i64 k ∧ Hid ((L.take k).all modElem = true) ∧ Hid (wr = w3.drewN n)) (fun i wr => L.length - (intOf i).toNat)
      case atStart => exact ⟨0, 0, Nat.zero_le _, rfl, Lib.hid rfl, Lib.hid rfl⟩
      case round =>
        clear cy by0
        obtain ⟨k, n, hk, rfl, HA, HW⟩ := hrel
        have HB := Lib.hid (show Below w.heap.size w wr from HW.out ▸ pw_below_drewN HB3.out n)
        by_cases hlt : k < L.length
        · obtain ⟨x, Hx⟩ : ∃ x, Hid (L.getD k ByteArray.empty = x) := ⟨_, rfl⟩
          have cx := str_drew hR hlt Hx.out HW.out
          have zx := ls.out x (Hx.out ▸ getD_in hlt)
          have px := HP.out x (Hx.out ▸ getD_in hlt)
          have HN := Lib.hid (fun h : modElem x = false => HI.out.trans (allB_no hlt Hx.out h))
          have ME := Lib.hid (show modElem x = (!(bt x 0 == 46) && !(bt x ((x.size - 1 : Nat) : Int) == 46)) by unfold modElem; rw [suf1 46 x px, pref1 46 x px]; rfl)
          have b0 := bt_zero px
          have bl := bt_last px
          have q1 : (1 : Int) ≤ (x.size : Int) := by omega
          cases t1 : (bt x 0 == 46) with
          | true =>
            go_wp2
            go_quiet (fail)
            go_wp2
            go_ret
            exact ⟨by rw [HN.out (by rw [ME.out, t1]; rfl)]; rfl, pw_below_drewN HB.out _⟩
          | false =>
          cases t3 : (bt x ((x.size - 1 : Nat) : Int) == 46) with
          | true =>
            go_wp2
            go_quiet (fail)
            go_wp2
            go_ret
            exact ⟨by rw [HN.out (by rw [ME.out, t3]; simp)]; rfl, pw_below_drewN HB.out _⟩
          | false =>
            go_wp2
            go_quiet (fail)
            go_wp2
            go_roundw
            case rel => exact ⟨k + 1, n + nq, by omega, by go_num, Lib.hid (allB_succ hlt Hx.out HA.out (by rw [ME.out, t1, t3]; rfl)), Lib.hid (by rw [HW.out, World.drewN_drewN])⟩
            case measure => simp [intOf]; omega
        · obtain rfl : k = L.length := by omega
          go_wp2
          go_ret
          exact ⟨by rw [HI.out, allB_end HA.out]; rfl, HB.out⟩
attribute [local go_sem] str_gtr
set_option maxHeartbeats 4000000 in
set_option maxRecDepth 100000 in
theorem rpathCompare_any (a b : ByteArray) (w : World) (ha : a.size ≤ 1099511627775) (hb : b.size ≤ 1099511627775) :
    Calls Tryz.prog 64 #[.string a, .string b] w fun e w' => e = .returned (.int .i64 (pathCmp a b)) ∧ Below w.heap.size w w' := by
  have hx := elems_small ha
  have hy := elems_small hb
  obtain ⟨X, hX⟩ : ∃ L, L = elemsB a := ⟨_, rfl⟩
  obtain ⟨Y, hY⟩ : ∃ L, L = elemsB b := ⟨_, rfl⟩
  have HV := Lib.hid (show pathCmp a b = cmpLs X Y by rw [hX, hY]; rfl)
  rw [← hX] at hx
  rw [← hY] at hy
  have HX := Lib.hid hX
  have HY := Lib.hid hY
  have lx := hx.1
  have ly := hy.1
  have sx := Lib.hid hx.2
  have sy := Lib.hid hy.2
  clear hX hY hx hy
  go_enter Tryz.func64, Tryz.ntmps64
  go_wp2_with (first | (go_at_call 70; (with_reducible refine (relems_any a _ ha).mono ?_); rintro e w1 ⟨vx, rfl, hR, hb1⟩; rw [← HX.out] at hR; obtain ⟨A, ca, rfl, _, hC⟩ := Kd.R_reads hR) | (go_at_call 70; (with_reducible refine (relems_any b _ hb).mono ?_); rintro e w2 ⟨vy, rfl, hR2, hb2⟩; rw [← HY.out] at hR2; obtain ⟨B, cb, rfl, _, hD⟩ := Kd.R_reads hR2))
  have hC := Kd.C_below hC hb2
  go_loopw [7] (fun i wr => ∃ k : Nat, k ≤ X.length ∧ k ≤ Y.length ∧ i = .int .i64 k ∧ Hid (cmpLs X Y = cmpLs (X.drop k) (Y.drop k)) ∧ Hid (Below w2.heap.size w2 wr)) (fun i wr => X.length - (intOf i).toNat)
  case atStart => exact ⟨0, Nat.zero_le _, Nat.zero_le _, rfl, Lib.hid rfl, Lib.hid (Below.refl _ _)⟩
  case round =>
    obtain ⟨k, hkx, hky, rfl, HA, HW⟩ := hrel
    have HB := Lib.hid (below_step (below_step hb1 hb2) HW.out)
    by_cases hx : k < X.length
    · obtain ⟨x, Hx⟩ : ∃ x, Hid (X.getD k emp = x) := ⟨_, rfl⟩
      have dx := Lib.hid (drop_getD hx Hx.out)
      by_cases hy : k < Y.length
      · obtain ⟨y, Hy⟩ : ∃ x, Hid (Y.getD k emp = x) := ⟨_, rfl⟩
        have dy := Lib.hid (drop_getD hy Hy.out)
        obtain ⟨ax, e1, cx⟩ := strC_cell (Kd.C_below hC HW.out) hx
        obtain ⟨ay, e2, cy⟩ := strC_cell (Kd.C_below hD HW.out) hy
        subst e1; subst e2
        rw [Hx.out] at cx
        rw [Hy.out] at cy
        have HC := Lib.hid (show cmpLs X Y = if cmpS x y = 0 then cmpLs (X.drop (k + 1)) (Y.drop (k + 1)) else cmpS x y by rw [HA.out, dx.out, dy.out, cmpLs])
        cases h1 : Op.bytesLess x.toList y.toList with
        | true =>
          have hc : cmpS x y = -1 := by unfold cmpS; rw [if_pos h1]
          have HC := Lib.hid (show pathCmp a b = -1 by rw [HV.out, HC.out, if_neg (by rw [hc]; decide), hc])
          clear hc
          go_wp2
          go_quiet (fail)
          go_wp2
          go_ret
          exact ⟨by rw [HC.out]; rfl, pw_below_drewN HB.out _⟩
        | false =>
        cases h2 : Op.bytesLess y.toList x.toList with
        | true =>
          have hc : cmpS x y = 1 := by unfold cmpS; rw [if_neg (by rw [h1]; decide), if_pos h2]
          have HC := Lib.hid (show pathCmp a b = 1 by rw [HV.out, HC.out, if_neg (by rw [hc]; decide), hc])
          clear hc
          go_wp2
          go_quiet (fail)
          go_wp2
          go_quiet (fail)
          go_wp2
          go_ret
          exact ⟨by rw [HC.out]; rfl, pw_below_drewN (pw_below_drewN HB.out _) _⟩
        | false =>
          have hc : cmpS x y = 0 := by unfold cmpS; rw [if_neg (by rw [h1]; decide), if_neg (by rw [h2]; decide)]
          have HC := Lib.hid (show cmpLs X Y = cmpLs (X.drop (k + 1)) (Y.drop (k + 1)) by rw [HC.out, if_pos hc])
          clear hc
          go_wp2
          go_quiet (fail)
          go_wp2
          go_quiet (fail)
          go_wp2
          go_roundw
          case rel => exact ⟨k + 1, by omega, by omega, by go_num, HC, Lib.hid (pw_below_drewN HW.out _)⟩
          case measure => simp [intOf]; omega
      · have HC := Lib.hid (show pathCmp a b = 1 by rw [HV.out, HA.out, dx.out, List.drop_of_length_le (show Y.length ≤ k by omega)]; rfl)
        have g1 : decide (X.length < Y.length) = false := decide_eq_false (by omega)
        have g2 : decide (Y.length < X.length) = true := decide_eq_true (by omega)
        go_wp2
        go_ret
        exact ⟨by rw [HC.out]; rfl, HB.out⟩
    · obtain rfl : k = X.length := by omega
      have HC := Lib.hid (show pathCmp a b = if Y.length - X.length = 0 then 0 else -1 by rw [HV.out, HA.out, List.drop_length, cmpLs_nil, List.length_drop])
      by_cases hl : X.length < Y.length
      · have HC := Lib.hid (HC.out.trans (if_neg (by omega)))
        have g1 : decide (X.length < Y.length) = true := decide_eq_true (by omega)
        go_wp2
        go_ret
        exact ⟨by rw [HC.out]; rfl, HB.out⟩
      · have HC := Lib.hid (HC.out.trans (if_pos (by omega)))
        have g1 : decide (X.length < Y.length) = false := decide_eq_false (by omega)
        have g2 : decide (Y.length < X.length) = false := decide_eq_false (by omega)
        go_wp2
        go_ret
        exact ⟨by rw [HC.out]; rfl, HB.out⟩
end Go.Proofs.YtcdcpcdfcmokkaaGreatDoor
