/- modtxt.Check: which lists may be. -/
import Derived.Test.YtcdcpcdfcmokkaaGreatDoorO27
set_option linter.unusedVariables false
set_option linter.unusedSimpArgs false
namespace Go.Proofs.YtcdcpcdfcmokkaaGreatDoor
open Go Go.RowKit Go.Shelf Go.Proofs.YtcdcpcdfcmokkaaGreatDoorW.PrintWords
set_option linter.unusedVariables false
def SmallM (m : SM) : Prop := m.f0.f0.size ≤ 1099511627770 ∧ m.f0.f1.size ≤ 1099511627770 ∧ m.f2.size ≤ 1099511627770 ∧ m.f3.f0.size ≤ 1099511627770 ∧ m.f3.f1.size ≤ 1099511627770 ∧ m.f4.length ≤ 1099511627770 ∧ ∀ s ∈ m.f4, s.size ≤ 1099511627770
def SmallR (r : SR) : Prop := r.f0.f0.size ≤ 1099511627770 ∧ r.f0.f1.size ≤ 1099511627770 ∧ r.f1.f0.size ≤ 1099511627770 ∧ r.f1.f1.size ≤ 1099511627770
theorem getD_mem {α : Type} {l : List α} {z : α} {k : Nat} (h : k < l.length) : l.getD k z ∈ l := by
  rw [List.getD_eq_getElem?_getD, List.getElem?_eq_getElem h]; exact List.getElem_mem h
theorem rightM_any (m : SM) (A : Option Addr) (c : Nat) (w : World) (hr : Kd.string.C w A m.f4.length m.f4) (hc : m.f4.length ≤ c) (hs : SmallM m) :
    Calls Tryz.prog 28 #[.agg #[.string m.f0.f0, .string m.f0.f1, .bool m.f1, .string m.f2, .string m.f3.f0, .string m.f3.f1, .slice A m.f4.length c]] w fun e w' => e = .returned (.bool (rightM m)) ∧ Below w.heap.size w w' :=
  right_any _ _ _ _ _ _ A c _ w hr hc hs.1 hs.2.1 hs.2.2.1 hs.2.2.2.1 hs.2.2.2.2.1 hs.2.2.2.2.2.2 hs.2.2.2.2.2.1
theorem mod_at {w : World} {A : Option Addr} {ms : List SM} (h : Kd.C P.k41 w A ms.length ms) {k : Nat} (hk : k < ms.length) {m : SM} (hm : ms.getD k zM = m) :
    ∃ ad A6 c6, A = some ad ∧ w.cell? (ad.add (k * 7)) = some (.string m.f0.f0) ∧ w.cell? ⟨(ad.add (k * 7)).block, (ad.add (k * 7)).off + 1, none⟩ = some (.string m.f0.f1) ∧ w.cell? ⟨(ad.add (k * 7)).block, (ad.add (k * 7)).off + 2, none⟩ = some (.bool m.f1) ∧ w.cell? ⟨(ad.add (k * 7)).block, (ad.add (k * 7)).off + 3, none⟩ = some (.string m.f2) ∧ w.cell? ⟨(ad.add (k * 7)).block, (ad.add (k * 7)).off + 4, none⟩ = some (.string m.f3.f0) ∧ w.cell? ⟨(ad.add (k * 7)).block, (ad.add (k * 7)).off + 5, none⟩ = some (.string m.f3.f1) ∧ w.cell? ⟨(ad.add (k * 7)).block, (ad.add (k * 7)).off + 6, none⟩ = some (.slice A6 m.f4.length c6) ∧ m.f4.length ≤ c6 ∧ Kd.string.C w A6 m.f4.length m.f4 := by
  subst hm; exact P.at_T41 h (k : Int) (by omega) (by omega)
theorem rep_at {w : World} {A : Option Addr} {rs : List SR} (h : Kd.C P.k59 w A rs.length rs) {k : Nat} (hk : k < rs.length) {r : SR} (hr : rs.getD k zR = r) :
    ∃ ad, A = some ad ∧ w.cell? (ad.add (k * 4)) = some (.string r.f0.f0) ∧ w.cell? ⟨(ad.add (k * 4)).block, (ad.add (k * 4)).off + 1, none⟩ = some (.string r.f0.f1) ∧ w.cell? ⟨(ad.add (k * 4)).block, (ad.add (k * 4)).off + 2, none⟩ = some (.string r.f1.f0) ∧ w.cell? ⟨(ad.add (k * 4)).block, (ad.add (k * 4)).off + 3, none⟩ = some (.string r.f1.f1) := by
  subst hr; exact P.at_T59 h (k : Int) (by omega) (by omega)
def lastR (rs : List SR) (k : Nat) : SMod := if k = 0 then ⟨emp, emp⟩ else (rs.getD (k - 1) zR).f0
theorem repOk_last {rs : List SR} {k : Nat} {r : SR} (hm : rs.getD k zR = r) (hr : moduleB r.f0.f0 = true) :
    repOk rs k = ((r.f0.f1.toList.isEmpty || isKnown r.f0.f0 r.f0.f1) && (isKnown r.f1.f0 r.f1.f1 && decide (ordM (lastR rs k) r.f0 < 0))) := by
  unfold repOk lastR
  rw [hm, hr]
  by_cases h : k = 0
  · obtain ⟨h1, h2⟩ := order_first (v := r.f0.f1) hr
    rw [if_pos h, decide_eq_true h]
    unfold ordM
    rw [decide_eq_true h1]
    rfl
  · rw [if_neg h, decide_eq_false h]; rfl
theorem zeroBool (w : World) : (zeroValue 4).run Tryz.prog w = .ok (.bool false) w := by kernel_rfl
theorem take_getD {α : Type} {l : List α} {z s : α} {n : Nat} (h : n < l.length) (hs : l.getD n z = s) : l.take (n + 1) = l.take n ++ [s] := by
  rw [List.take_succ_eq_append_getElem h, ← hs, List.getD_eq_getElem?_getD, List.getElem?_eq_getElem h]; rfl
theorem metB_le (ms : List SM) {k : Nat} (h : k ≤ ms.length) : (metB ms k).length ≤ (metB ms ms.length).length := by
  unfold metB
  rw [List.take_length]
  conv => rhs; rw [← List.take_append_drop k ms, List.flatMap_append, List.length_append]
  omega
def lastM (ms : List SM) (k : Nat) : SMod := if k = 0 then ⟨emp, emp⟩ else (ms.getD (k - 1) zM).f0
theorem modOk_last {ms : List SM} {k : Nat} {m : SM} (hm : ms.getD k zM = m) (hr : rightM m = true) :
    modOk ms k = ((decide (ordM (lastM ms k) m.f0 < 0) && !((lastM ms k).f0.toList == m.f0.f0.toList)) && upto (newP ms k) m.f4.length) := by
  unfold modOk lastM
  rw [hm, hr]
  by_cases h : k = 0
  · obtain ⟨h1, h2⟩ := order_first (v := m.f0.f1) (right_module hr)
    rw [if_pos h, decide_eq_true h]
    unfold ordM
    rw [decide_eq_true h1, show ((⟨emp, emp⟩ : SMod).f0.toList == m.f0.f0.toList) = false from by
      rw [beq_eq_false_iff_ne]; exact fun e => h2 (by rw [← e]; simp [ByteArray.toList_eq, emp])]
    rfl
  · rw [if_neg h, decide_eq_false h]; rfl
set_option maxHeartbeats 8000000 in
set_option maxRecDepth 100000 in
theorem check_any (A0 A1 : Option Addr) (c0 c1 : Nat) (ms : List SM) (rs : List SR) (w : World) (h0 : Kd.C P.k41 w A0 ms.length ms) (hc0 : ms.length ≤ c0) (h1 : Kd.C P.k59 w A1 rs.length rs) (hc1 : rs.length ≤ c1)
    (sm : ∀ m ∈ ms, SmallM m) (sr : ∀ r ∈ rs, SmallR r) (lm : ms.length ≤ 1048576) (lr : rs.length ≤ 1099511627770) (lp : (metB ms ms.length).length ≤ 1099511627770) :
    Calls Tryz.prog 16 #[.agg #[.slice A0 ms.length c0, .slice A1 rs.length c1]] w fun e w' => e = .returned (.int .i64 (listErr ms rs)) ∧ Below w.heap.size w w' := by
  have hmm := @run_makeMap Tryz.prog
  have b0 := blk_new w (.cells #[.slice A0 ms.length c0, .slice A1 rs.length c1] 25)
  have b1 := blk_new (w.alloc (.cells #[.slice A0 ms.length c0, .slice A1 rs.length c1] 25)) (.cells #[.string emp, .string emp] 38)
  have B0 := Lib.hid b0; clear b0
  have B1 := Lib.hid b1; clear b1
  go_enter Tryz.func16, Tryz.ntmps16
  go_wp2
  go_loopw [15] (fun i wr => ∃ k : Nat, k ≤ ms.length ∧ i = .int .i64 k ∧ Hid (upto (modOk ms) k = true) ∧ Below w.heap.size w wr ∧ Hid (wr.heap[w.heap.size]? = some (.cells #[.slice A0 ms.length c0, .slice A1 rs.length c1] 25 (0, 0))) ∧ Hid (wr.heap[w.heap.size + 1]? = some (.cells #[.string (lastM ms k).f0, .string (lastM ms k).f1] 38 (0, 0))) ∧ Hid (OwnsSet wr Tryz.prog 9 4 (w.heap.size + 1 + 1) (metB ms k))) (fun i wr => ms.length - (intOf i).toNat)
  case atStart =>
    refine ⟨0, Nat.zero_le _, rfl, rfl, (((Below.refl _ w).alloc (Nat.le_refl _) _).alloc (by simp) _).alloc (by simp <;> omega) _, ?_, ?_, ?_⟩
    · show _ = _
      rw [Below.heap_alloc _ _ _ (by simp <;> omega), Below.heap_alloc _ _ _ (by simp)]; exact B0.out
    · show _ = _
      rw [Below.heap_alloc _ _ _ (by simp)]
      have := B1.out
      rw [World.size_alloc] at this
      exact this
    · have := OwnsSet.made ((w.alloc (.cells #[.slice A0 ms.length c0, .slice A1 rs.length c1] 25)).alloc (.cells #[.string emp, .string emp] 38)) Tryz.prog 9 4
      rw [World.size_alloc, World.size_alloc] at this
      exact this
  case round =>
    clear B0 B1
    obtain ⟨k, hk, rfl, hu, hb, hp, hl, hset⟩ := hrel
    by_cases hlt : k < ms.length
    · obtain ⟨m, Hm⟩ : ∃ m, Hid (ms.getD k zM = m) := ⟨_, rfl⟩
      obtain ⟨ad, A6, c6, hA, e0, e1, e2, e3, e4, e5, e6, l6, g6⟩ := mod_at h0 hlt Hm.out
      subst hA
      replace e0 := pw_cell_below hb e0; replace e1 := pw_cell_below hb e1; replace e2 := pw_cell_below hb e2; replace e3 := pw_cell_below hb e3
      replace e4 := pw_cell_below hb e4; replace e5 := pw_cell_below hb e5; replace e6 := pw_cell_below hb e6
      have smm : SmallM m := Hm.out ▸ sm _ (getD_mem hlt)
      have z1 : m.f0.f0.size ≤ 1099511627770 := smm.1
      have z2 : m.f0.f1.size ≤ 1099511627770 := smm.2.1
      have hn := blk_new wr (.cells #[.string m.f0.f0, .string m.f0.f1, .bool m.f1, .string m.f2, .string m.f3.f0, .string m.f3.f1, .slice A6 m.f4.length c6] 41)
      have Hn := Lib.hid hn; clear hn
      cases r1 : rightM m with
      | false =>
        go_wp2_with (go_at_call 28; (with_reducible refine (rightM_any m A6 c6 _ ?hr l6 smm).mono ?_); (case hr => exact Kd.C_below g6 (below_alloc hb _)); rintro e w2 ⟨rfl, hb2⟩)
        go_ret
        exact ⟨by rw [listErr_mod hlt (by unfold modOk; rw [Hm.out, r1]; rfl)]; rfl, (below_alloc hb _).trans (hb2.mono (by have := hb.size; simp; omega))⟩
      | true =>
        obtain ⟨a, Ha⟩ : ∃ a, Hid ((lastM ms k).f0 = a) := ⟨_, rfl⟩
        obtain ⟨b, Hb⟩ : ∃ b, Hid ((lastM ms k).f1 = b) := ⟨_, rfl⟩
        obtain ⟨x, Hx⟩ : ∃ x, Hid (orderM a b m.f0.f0 m.f0.f1 = x) := ⟨_, rfl⟩
        have sab : a.size ≤ 1099511627770 ∧ b.size ≤ 1099511627770 := by
          rw [← Ha.out, ← Hb.out]; unfold lastM
          split
          · exact ⟨Nat.zero_le _, Nat.zero_le _⟩
          · have := sm _ (getD_mem (z := zM) (show k - 1 < ms.length by omega)); exact ⟨this.1, this.2.1⟩
        obtain ⟨za, zb⟩ := sab
        have hmo : modOk ms k = ((decide (x < 0) && !(a.toList == m.f0.f0.toList)) && upto (newP ms k) m.f4.length) := by
          rw [modOk_last Hm.out r1, ← Hx.out, ← Ha.out, ← Hb.out]; rfl
        have Hmo := Lib.hid hmo; clear hmo
        have hl2 : wr.heap[w.heap.size + 1]? = some (.cells #[.string a, .string b] 38 (0, 0)) := by rw [← Ha.out, ← Hb.out]; exact hl.out
        have Hl := Lib.hid hl2; clear hl2 hl
        by_cases hx : 0 ≤ x
        · go_wp2_with (first | (go_at_call 28; (with_reducible refine (rightM_any m A6 c6 _ ?hr l6 smm).mono ?_); (case hr => exact Kd.C_below g6 (below_alloc hb _)); rintro e w2 ⟨rfl, hb2⟩; obtain ⟨f0, f1, f2, f3, f4, f5, f6⟩ := blk7 (blk_at Hn.out hb2); obtain ⟨q0, q1⟩ := blk2 (blk_at (blk_at Hl.out (below_alloc (Below.refl _ _) _)) hb2)) | (go_at_call 29; (with_reducible refine (orderM_any a b m.f0.f0 m.f0.f1 _ za zb z1 z2).mono ?_); rintro e w3 ⟨he, hb3⟩; rw [Hx.out] at he; subst he))
          go_ret
          exact ⟨by rw [listErr_mod hlt (by rw [Hmo.out, decide_eq_false (show ¬ x < 0 by omega)]; rfl)]; rfl, ((below_alloc hb _).trans (hb2.mono (by have := hb.size; simp; omega))).trans (hb3.mono (by have := hb.size; have := hb2.size; simp at this; omega))⟩
        · have hx' : x < 0 := by omega
          cases s1 : (a.toList == m.f0.f0.toList) with
          | true =>
            go_wp2_with (first | (go_at_call 28; (with_reducible refine (rightM_any m A6 c6 _ ?hr l6 smm).mono ?_); (case hr => exact Kd.C_below g6 (below_alloc hb _)); rintro e w2 ⟨rfl, hb2⟩; obtain ⟨f0, f1, f2, f3, f4, f5, f6⟩ := blk7 (blk_at Hn.out hb2); obtain ⟨q0, q1⟩ := blk2 (blk_at (blk_at Hl.out (below_alloc (Below.refl _ _) _)) hb2)) | (go_at_call 29; (with_reducible refine (orderM_any a b m.f0.f0 m.f0.f1 _ za zb z1 z2).mono ?_); rintro e w3 ⟨he, hb3⟩; rw [Hx.out] at he; subst he; obtain ⟨i0, i1, i2, i3, i4, i5, i6⟩ := blk7 (blk_at (blk_at Hn.out hb2) hb3); obtain ⟨r0, r1⟩ := blk2 (blk_at (blk_at (blk_at Hl.out (below_alloc (Below.refl _ _) _)) hb2) hb3)))
            go_ret
            exact ⟨by rw [listErr_mod hlt (by rw [Hmo.out, s1]; simp)]; rfl, ((below_alloc hb _).trans (hb2.mono (by have := hb.size; simp; omega))).trans (hb3.mono (by have := hb.size; have := hb2.size; simp at this; omega))⟩
          | false =>
            go_wp2_with (first | (go_at_call 28; (with_reducible refine (rightM_any m A6 c6 _ ?hr l6 smm).mono ?_); (case hr => exact Kd.C_below g6 (below_alloc hb _)); rintro e w2 ⟨rfl, hb2⟩; obtain ⟨f0, f1, f2, f3, f4, f5, f6⟩ := blk7 (blk_at Hn.out hb2); obtain ⟨q0, q1⟩ := blk2 (blk_at (blk_at Hl.out (below_alloc (Below.refl _ _) _)) hb2)) | (go_at_call 29; (with_reducible refine (orderM_any a b m.f0.f0 m.f0.f1 _ za zb z1 z2).mono ?_); rintro e w3 ⟨he, hb3⟩; rw [Hx.out] at he; subst he; obtain ⟨i0, i1, i2, i3, i4, i5, i6⟩ := blk7 (blk_at (blk_at Hn.out hb2) hb3); obtain ⟨r0, r1⟩ := blk2 (blk_at (blk_at (blk_at Hl.out (below_alloc (Below.refl _ _) _)) hb2) hb3)))
            have hb23 : Below wr.heap.size wr w3 := (below_alloc (Below.refl _ wr) _).trans ((hb2.mono (by simp)).trans (hb3.mono (by have := hb2.size; simp at this; omega)))
            have HN := Lib.hid (blk_at (blk_at Hn.out hb2) hb3)
            have hn3 : wr.heap.size < w3.heap.size := blk_lt HN.out
            clear hb2 hb3 f0 f1 f2 f3 f4 f5 f6 q0 q1 i0 i1 i2 i3 i4 i5 i6 r0 r1 e0 e1 e2 e3 e4 e5 e6
            obtain ⟨wo, rfl⟩ : ∃ wo : World, wo = wr := ⟨_, rfl⟩
            have hb3 : Below w.heap.size w w3 := hb.trans (hb23.mono hb.size)
            have HS := Lib.hid (hset.out.below hb23)
            have hmb : w.heap.size + 1 + 1 < wo.heap.size := hset.out.lt
            clear hset hb
            go_loopw [40] (fun j wx => ∃ n : Nat, n ≤ m.f4.length ∧ j = .int .i64 n ∧ Hid (upto (newP ms k) n = true) ∧ Hid (w3.grownBy wx (some (w.heap.size + 1 + 1))) ∧ Hid (OwnsSet wx Tryz.prog 9 4 (w.heap.size + 1 + 1) (metB ms k ++ m.f4.take n))) (fun j wx => m.f4.length - (intOf j).toNat)
            case atStart => exact ⟨0, Nat.zero_le _, rfl, rfl, World.grownBy.refl _ _, (show OwnsSet _ _ _ _ _ _ from by rw [List.take_zero, List.append_nil]; exact HS.out)⟩
            case round =>
              obtain ⟨n, hn, rfl, hun, hg, hsx⟩ := hrel
              have hbx : Below w.heap.size w wr := hb3.grown hg.out hb3.size (fun q hq => by cases hq; omega)
              by_cases hnl : n < m.f4.length
              · obtain ⟨s, Hs⟩ : ∃ s, Hid (m.f4.getD n emp = s) := ⟨_, rfl⟩
                obtain ⟨ad6, hA6, hcs⟩ := strC_cell (Kd.C_below g6 hbx) hnl
                subst hA6
                rw [Hs.out] at hcs
                have hss : s.size ≤ 9223372036854775807 := by rw [← Hs.out]; exact Nat.le_trans (getD_le smm.2.2.2.2.2.2 n) (by omega)
                have hnp : newP ms k n = !inB s (metB ms k ++ m.f4.take n) := by unfold newP; rw [Hm.out, Hs.out]
                obtain ⟨t, Ht⟩ : ∃ t, Hid (inB s (metB ms k ++ m.f4.take n) = t) := ⟨_, rfl⟩
                rw [Ht.out] at hnp
                have Hnp := Lib.hid hnp; clear hnp
                have hl4 : m.f4.length ≤ 1099511627770 := smm.2.2.2.2.2.1
                cases t with
                | true =>
                  go_wp2_with (at_lookup; refine wpList_lookup_set rfl _ _ 75 rfl 9 4 Tryz.underlying9 Tryz.underlying75 Tryz.underlying4 zeroBool (w.heap.size + 1 + 1) _ rfl hsx.out s rfl hss ?_; rw [Ht.out])
                  go_ret
                  exact ⟨by rw [listErr_mod hlt (by rw [Hmo.out, upto_no (k := n) (by rw [Hnp.out]; rfl) _ hnl, Bool.and_false])]; rfl, hbx⟩
                | false =>
                  have hll : (metB ms k ++ m.f4.take n).length < 9223372036854775807 := by
                    rw [List.length_append, List.length_take]
                    have := metB_le ms (Nat.le_of_lt hlt)
                    have := smm.2.2.2.2.2.1
                    omega
                  go_wp2_with (first | (at_lookup; refine wpList_lookup_set rfl _ _ 75 rfl 9 4 Tryz.underlying9 Tryz.underlying75 Tryz.underlying4 zeroBool (w.heap.size + 1 + 1) _ rfl hsx.out s rfl hss ?_; rw [Ht.out]) | (at_mapUpdate; refine wpList_update_set rfl _ _ _ 75 rfl 9 4 Tryz.underlying9 Tryz.underlying75 Tryz.underlying4 (w.heap.size + 1 + 1) _ rfl hsx.out hll s rfl hss rfl ?_; intro wy hsy hgy))
                  go_roundw
                  case rel => exact ⟨n + 1, by omega, by go_num, (show upto (newP ms k) (n + 1) = true from by simp only [upto, hun.out, Hnp.out]; rfl), hg.out.trans hgy, (show OwnsSet _ _ _ _ _ _ from by rw [take_getD hnl Hs.out, ← List.append_assoc]; exact hsy)⟩
                  case measure => simp [intOf]; omega
              · obtain rfl : n = m.f4.length := by omega
                have hm7 := blk_grown HN.out hg.out (fun e => by have := Option.some.inj e; omega)
                have hl3 := blk_grown (blk_at Hl.out hb23) hg.out (fun e => by have := Option.some.inj e; omega)
                have hp3 := blk_grown (blk_at hp.out hb23) hg.out (fun e => by have := Option.some.inj e; omega)
                have HM := Lib.hid hm7
                have HL := Lib.hid hl3
                have HP := Lib.hid hp3
                have hf0 := blk_frozen hl3 0
                have hf1 := blk_frozen hl3 1
                obtain ⟨f0, f1, f2, f3, f4, f5, f6⟩ := blk7 hm7
                obtain ⟨q0, q1⟩ := blk2 hl3
                clear hm7 hl3 hp3
                go_wp2
                go_roundw
                case rel =>
                  refine ⟨k + 1, by omega, by go_num, (show upto (modOk ms) (k + 1) = true from by simp only [upto, hu.out, Hmo.out, decide_eq_true hx', hun.out, s1]; rfl), (hbx.setCell (p := ⟨w.heap.size + 1, 0, none⟩) (by simp) _).setCell (p := ⟨w.heap.size + 1, 1, none⟩) (by simp) _, blk_far (blk_far HP.out (by simp) _) (by simp) _, ?_, ?_⟩
                  · have := blk_set (blk_set HL.out 0 (.string m.f0.f0)) 1 (.string m.f0.f1)
                    have e : lastM ms (k + 1) = m.f0 := by unfold lastM; rw [if_neg (by omega), Nat.add_sub_cancel, Hm.out]
                    exact (show _ = _ from by rw [e]; exact this)
                  · have := hsx.out
                    rw [List.take_length, ← (show metB ms (k + 1) = metB ms k ++ m.f4 from by rw [metB_succ ms k hlt, Hm.out])] at this
                    exact (this.setCell (a := ⟨w.heap.size + 1, 0, none⟩) (by simp) _).setCell (a := ⟨w.heap.size + 1, 1, none⟩) (by simp) _
                case measure => simp [intOf]; omega
    · obtain rfl : k = ms.length := by omega
      have hf0 := blk_frozen hl.out 0
      have hf1 := blk_frozen hl.out 1
      obtain ⟨q0, q1⟩ := blk2 hl.out
      obtain ⟨p0, p1⟩ := blk2 hp.out
      clear hset
      go_wp2
      obtain ⟨wo, rfl⟩ : ∃ wo : World, wo = wr := ⟨_, rfl⟩
      go_loopw [57] (fun i wr => ∃ n : Nat, n ≤ rs.length ∧ i = .int .i64 n ∧ Hid (upto (repOk rs) n = true) ∧ Below w.heap.size w wr ∧ Hid (wr.heap[w.heap.size + 1]? = some (.cells #[.string (lastR rs n).f0, .string (lastR rs n).f1] 38 (0, 0)))) (fun i wr => rs.length - (intOf i).toNat)
      case atStart => exact ⟨0, Nat.zero_le _, rfl, rfl, (hb.setCell (p := ⟨w.heap.size + 1, 0, none⟩) (by simp) _).setCell (p := ⟨w.heap.size + 1, 1, none⟩) (by simp) _, blk_set (blk_set hl.out 0 (.string emp)) 1 (.string emp)⟩
      case round =>
        have hU : upto (modOk ms) ms.length = true := hu.out
        have HU := Lib.hid hU
        clear hU hu hl hp hb q0 q1 p0 p1 hf0 hf1
        obtain ⟨n, hn, rfl, hun, hb, hl⟩ := hrel
        by_cases hnl : n < rs.length
        · obtain ⟨r, Hr⟩ : ∃ r, Hid (rs.getD n zR = r) := ⟨_, rfl⟩
          obtain ⟨ad, hA, e0, e1, e2, e3⟩ := rep_at h1 hnl Hr.out
          subst hA
          replace e0 := pw_cell_below hb e0; replace e1 := pw_cell_below hb e1; replace e2 := pw_cell_below hb e2; replace e3 := pw_cell_below hb e3
          have smr : SmallR r := Hr.out ▸ sr _ (getD_mem hnl)
          obtain ⟨z1, z2, z3, z4⟩ := smr
          have z0 : r.f0.f0.size ≤ 9223372036854775807 := by omega
          obtain ⟨a, Ha⟩ : ∃ a, Hid ((lastR rs n).f0 = a) := ⟨_, rfl⟩
          obtain ⟨b, Hb⟩ : ∃ b, Hid ((lastR rs n).f1 = b) := ⟨_, rfl⟩
          obtain ⟨x, Hx⟩ : ∃ x, Hid (orderM a b r.f0.f0 r.f0.f1 = x) := ⟨_, rfl⟩
          have sab : a.size ≤ 1099511627770 ∧ b.size ≤ 1099511627770 := by
            rw [← Ha.out, ← Hb.out]; unfold lastR
            split
            · exact ⟨Nat.zero_le _, Nat.zero_le _⟩
            · have := sr _ (getD_mem (z := zR) (show n - 1 < rs.length by omega)); exact ⟨this.1, this.2.1⟩
          obtain ⟨za, zb⟩ := sab
          have HN := Lib.hid (blk_new wr (.cells #[.string r.f0.f0, .string r.f0.f1, .string r.f1.f0, .string r.f1.f1] 59))
          have HL : Hid ((wr.alloc (.cells #[.string r.f0.f0, .string r.f0.f1, .string r.f1.f0, .string r.f1.f1] 59)).heap[w.heap.size + 1]? = some (.cells #[.string a, .string b] 38 (0, 0))) := by
            show _ = _
            rw [← Ha.out, ← Hb.out]; exact blk_at hl.out (below_alloc (Below.refl _ _) _)
          have HB := Lib.hid (below_alloc hb (.cells #[.string r.f0.f0, .string r.f0.f1, .string r.f1.f0, .string r.f1.f1] 59))
          have Hbad : Hid (repOk rs n = false → listErr ms rs = 190) := fun h => listErr_rep hnl h
          have hro : moduleB r.f0.f0 = true → repOk rs n = ((r.f0.f1.toList.isEmpty || isKnown r.f0.f0 r.f0.f1) && (isKnown r.f1.f0 r.f1.f1 && decide (x < 0))) := fun h => by
            rw [repOk_last Hr.out h, ← Hx.out, ← Ha.out, ← Hb.out]; rfl
          have Hro := Lib.hid hro; clear hro
          clear hl hb
          cases m1 : moduleB r.f0.f0 with
          | false =>
            have m2 : (pathErr (moduleB r.f0.f0) != 0) = true := by rw [m1]; rfl
            go_wp2_with (first | (go_at_call 30; (with_reducible refine (module_any _ _ z0).mono ?_); rintro e w2 ⟨rfl, hb2⟩; have HN1 := Lib.hid (blk_at HN.out hb2); have HL1 := Lib.hid (blk_at HL.out hb2); have HB1 := Lib.hid (HB.out.trans (hb2.mono HB.out.size)); clear HN HL HB; have HN := HN1; have HL := HL1; have HB := HB1; clear HN1 HL1 HB1 hb2; obtain ⟨f0, f1, f2, f3⟩ := blk4 HN.out; obtain ⟨q0, q1⟩ := blk2 HL.out) | (go_at_call 31; (with_reducible refine (mknown_any _ _ _ z1 z2).mono ?_); rintro e w2 ⟨rfl, hb2⟩; have HN1 := Lib.hid (blk_at HN.out hb2); have HL1 := Lib.hid (blk_at HL.out hb2); have HB1 := Lib.hid (HB.out.trans (hb2.mono HB.out.size)); clear HN HL HB; have HN := HN1; have HL := HL1; have HB := HB1; clear HN1 HL1 HB1 hb2; obtain ⟨f0, f1, f2, f3⟩ := blk4 HN.out; obtain ⟨q0, q1⟩ := blk2 HL.out) | (go_at_call 31; (with_reducible refine (mknown_any _ _ _ z3 z4).mono ?_); rintro e w2 ⟨rfl, hb2⟩; have HN1 := Lib.hid (blk_at HN.out hb2); have HL1 := Lib.hid (blk_at HL.out hb2); have HB1 := Lib.hid (HB.out.trans (hb2.mono HB.out.size)); clear HN HL HB; have HN := HN1; have HL := HL1; have HB := HB1; clear HN1 HL1 HB1 hb2; obtain ⟨f0, f1, f2, f3⟩ := blk4 HN.out; obtain ⟨q0, q1⟩ := blk2 HL.out) | (go_at_call 29; (with_reducible refine (orderM_any a b r.f0.f0 r.f0.f1 _ za zb z1 z2).mono ?_); rintro e w2 ⟨he, hb2⟩; rw [Hx.out] at he; subst he; have HN1 := Lib.hid (blk_at HN.out hb2); have HL1 := Lib.hid (blk_at HL.out hb2); have HB1 := Lib.hid (HB.out.trans (hb2.mono HB.out.size)); clear HN HL HB; have HN := HN1; have HL := HL1; have HB := HB1; clear HN1 HL1 HB1 hb2; obtain ⟨f0, f1, f2, f3⟩ := blk4 HN.out; obtain ⟨q0, q1⟩ := blk2 HL.out))
            go_ret
            exact ⟨by rw [Hbad.out (by unfold repOk; rw [Hr.out, m1]; rfl)]; rfl, HB.out⟩
          | true =>
            have m2 : (pathErr (moduleB r.f0.f0) != 0) = false := by rw [m1]; rfl
            have hro := Hro.out m1
            clear Hro
            have Hro := Lib.hid hro; clear hro
            cases v1 : r.f0.f1.toList.isEmpty with
            | true =>
              cases k2 : isKnown r.f1.f0 r.f1.f1 with
              | false =>
                go_wp2_with (first | (go_at_call 30; (with_reducible refine (module_any _ _ z0).mono ?_); rintro e w2 ⟨rfl, hb2⟩; have HN1 := Lib.hid (blk_at HN.out hb2); have HL1 := Lib.hid (blk_at HL.out hb2); have HB1 := Lib.hid (HB.out.trans (hb2.mono HB.out.size)); clear HN HL HB; have HN := HN1; have HL := HL1; have HB := HB1; clear HN1 HL1 HB1 hb2; obtain ⟨f0, f1, f2, f3⟩ := blk4 HN.out; obtain ⟨q0, q1⟩ := blk2 HL.out) | (go_at_call 31; (with_reducible refine (mknown_any _ _ _ z1 z2).mono ?_); rintro e w2 ⟨rfl, hb2⟩; have HN1 := Lib.hid (blk_at HN.out hb2); have HL1 := Lib.hid (blk_at HL.out hb2); have HB1 := Lib.hid (HB.out.trans (hb2.mono HB.out.size)); clear HN HL HB; have HN := HN1; have HL := HL1; have HB := HB1; clear HN1 HL1 HB1 hb2; obtain ⟨f0, f1, f2, f3⟩ := blk4 HN.out; obtain ⟨q0, q1⟩ := blk2 HL.out) | (go_at_call 31; (with_reducible refine (mknown_any _ _ _ z3 z4).mono ?_); rintro e w2 ⟨rfl, hb2⟩; have HN1 := Lib.hid (blk_at HN.out hb2); have HL1 := Lib.hid (blk_at HL.out hb2); have HB1 := Lib.hid (HB.out.trans (hb2.mono HB.out.size)); clear HN HL HB; have HN := HN1; have HL := HL1; have HB := HB1; clear HN1 HL1 HB1 hb2; obtain ⟨f0, f1, f2, f3⟩ := blk4 HN.out; obtain ⟨q0, q1⟩ := blk2 HL.out) | (go_at_call 29; (with_reducible refine (orderM_any a b r.f0.f0 r.f0.f1 _ za zb z1 z2).mono ?_); rintro e w2 ⟨he, hb2⟩; rw [Hx.out] at he; subst he; have HN1 := Lib.hid (blk_at HN.out hb2); have HL1 := Lib.hid (blk_at HL.out hb2); have HB1 := Lib.hid (HB.out.trans (hb2.mono HB.out.size)); clear HN HL HB; have HN := HN1; have HL := HL1; have HB := HB1; clear HN1 HL1 HB1 hb2; obtain ⟨f0, f1, f2, f3⟩ := blk4 HN.out; obtain ⟨q0, q1⟩ := blk2 HL.out))
                go_ret
                exact ⟨by rw [Hbad.out (by rw [Hro.out, v1, k2]; rfl)]; rfl, HB.out⟩
              | true =>
                by_cases hx : 0 ≤ x
                · go_wp2_with (first | (go_at_call 30; (with_reducible refine (module_any _ _ z0).mono ?_); rintro e w2 ⟨rfl, hb2⟩; have HN1 := Lib.hid (blk_at HN.out hb2); have HL1 := Lib.hid (blk_at HL.out hb2); have HB1 := Lib.hid (HB.out.trans (hb2.mono HB.out.size)); clear HN HL HB; have HN := HN1; have HL := HL1; have HB := HB1; clear HN1 HL1 HB1 hb2; obtain ⟨f0, f1, f2, f3⟩ := blk4 HN.out; obtain ⟨q0, q1⟩ := blk2 HL.out) | (go_at_call 31; (with_reducible refine (mknown_any _ _ _ z1 z2).mono ?_); rintro e w2 ⟨rfl, hb2⟩; have HN1 := Lib.hid (blk_at HN.out hb2); have HL1 := Lib.hid (blk_at HL.out hb2); have HB1 := Lib.hid (HB.out.trans (hb2.mono HB.out.size)); clear HN HL HB; have HN := HN1; have HL := HL1; have HB := HB1; clear HN1 HL1 HB1 hb2; obtain ⟨f0, f1, f2, f3⟩ := blk4 HN.out; obtain ⟨q0, q1⟩ := blk2 HL.out) | (go_at_call 31; (with_reducible refine (mknown_any _ _ _ z3 z4).mono ?_); rintro e w2 ⟨rfl, hb2⟩; have HN1 := Lib.hid (blk_at HN.out hb2); have HL1 := Lib.hid (blk_at HL.out hb2); have HB1 := Lib.hid (HB.out.trans (hb2.mono HB.out.size)); clear HN HL HB; have HN := HN1; have HL := HL1; have HB := HB1; clear HN1 HL1 HB1 hb2; obtain ⟨f0, f1, f2, f3⟩ := blk4 HN.out; obtain ⟨q0, q1⟩ := blk2 HL.out) | (go_at_call 29; (with_reducible refine (orderM_any a b r.f0.f0 r.f0.f1 _ za zb z1 z2).mono ?_); rintro e w2 ⟨he, hb2⟩; rw [Hx.out] at he; subst he; have HN1 := Lib.hid (blk_at HN.out hb2); have HL1 := Lib.hid (blk_at HL.out hb2); have HB1 := Lib.hid (HB.out.trans (hb2.mono HB.out.size)); clear HN HL HB; have HN := HN1; have HL := HL1; have HB := HB1; clear HN1 HL1 HB1 hb2; obtain ⟨f0, f1, f2, f3⟩ := blk4 HN.out; obtain ⟨q0, q1⟩ := blk2 HL.out))
                  go_ret
                  exact ⟨by rw [Hbad.out (by rw [Hro.out, v1, k2, decide_eq_false (show ¬ x < 0 by omega)]; rfl)]; rfl, HB.out⟩
                · have hx' : x < 0 := by omega
                  have hf0 := blk_frozen HL.out 0
                  have Hok : Hid (repOk rs n = true) := (show _ = _ from by rw [Hro.out, v1, k2, decide_eq_true hx']; rfl)
                  clear hf0
                  go_wp2_with (first | (go_at_call 30; (with_reducible refine (module_any _ _ z0).mono ?_); rintro e w2 ⟨rfl, hb2⟩; have HN1 := Lib.hid (blk_at HN.out hb2); have HL1 := Lib.hid (blk_at HL.out hb2); have HB1 := Lib.hid (HB.out.trans (hb2.mono HB.out.size)); clear HN HL HB; have HN := HN1; have HL := HL1; have HB := HB1; clear HN1 HL1 HB1 hb2; obtain ⟨f0, f1, f2, f3⟩ := blk4 HN.out; obtain ⟨q0, q1⟩ := blk2 HL.out; have hf0 := blk_frozen HL.out 0; have hf1 := blk_frozen HL.out 1) | (go_at_call 31; (with_reducible refine (mknown_any _ _ _ z1 z2).mono ?_); rintro e w2 ⟨rfl, hb2⟩; have HN1 := Lib.hid (blk_at HN.out hb2); have HL1 := Lib.hid (blk_at HL.out hb2); have HB1 := Lib.hid (HB.out.trans (hb2.mono HB.out.size)); clear HN HL HB; have HN := HN1; have HL := HL1; have HB := HB1; clear HN1 HL1 HB1 hb2; obtain ⟨f0, f1, f2, f3⟩ := blk4 HN.out; obtain ⟨q0, q1⟩ := blk2 HL.out; have hf0 := blk_frozen HL.out 0; have hf1 := blk_frozen HL.out 1) | (go_at_call 31; (with_reducible refine (mknown_any _ _ _ z3 z4).mono ?_); rintro e w2 ⟨rfl, hb2⟩; have HN1 := Lib.hid (blk_at HN.out hb2); have HL1 := Lib.hid (blk_at HL.out hb2); have HB1 := Lib.hid (HB.out.trans (hb2.mono HB.out.size)); clear HN HL HB; have HN := HN1; have HL := HL1; have HB := HB1; clear HN1 HL1 HB1 hb2; obtain ⟨f0, f1, f2, f3⟩ := blk4 HN.out; obtain ⟨q0, q1⟩ := blk2 HL.out; have hf0 := blk_frozen HL.out 0; have hf1 := blk_frozen HL.out 1) | (go_at_call 29; (with_reducible refine (orderM_any a b r.f0.f0 r.f0.f1 _ za zb z1 z2).mono ?_); rintro e w2 ⟨he, hb2⟩; rw [Hx.out] at he; subst he; have HN1 := Lib.hid (blk_at HN.out hb2); have HL1 := Lib.hid (blk_at HL.out hb2); have HB1 := Lib.hid (HB.out.trans (hb2.mono HB.out.size)); clear HN HL HB; have HN := HN1; have HL := HL1; have HB := HB1; clear HN1 HL1 HB1 hb2; obtain ⟨f0, f1, f2, f3⟩ := blk4 HN.out; obtain ⟨q0, q1⟩ := blk2 HL.out; have hf0 := blk_frozen HL.out 0; have hf1 := blk_frozen HL.out 1))
                  go_roundw
                  case rel =>
                    refine ⟨n + 1, by omega, by go_num, (show upto (repOk rs) (n + 1) = true from by simp only [upto, hun.out, Hok.out]; rfl), (HB.out.setCell (p := ⟨w.heap.size + 1, 0, none⟩) (by simp) _).setCell (p := ⟨w.heap.size + 1, 1, none⟩) (by simp) _, ?_⟩
                    have := blk_set (blk_set HL.out 0 (.string r.f0.f0)) 1 (.string r.f0.f1)
                    have e : lastR rs (n + 1) = r.f0 := by unfold lastR; rw [if_neg (by omega), Nat.add_sub_cancel, Hr.out]
                    exact (show _ = _ from by rw [e]; exact this)
                  case measure => simp [intOf]; omega
            | false =>
              cases k1 : isKnown r.f0.f0 r.f0.f1 with
              | false =>
                go_wp2_with (first | (go_at_call 30; (with_reducible refine (module_any _ _ z0).mono ?_); rintro e w2 ⟨rfl, hb2⟩; have HN1 := Lib.hid (blk_at HN.out hb2); have HL1 := Lib.hid (blk_at HL.out hb2); have HB1 := Lib.hid (HB.out.trans (hb2.mono HB.out.size)); clear HN HL HB; have HN := HN1; have HL := HL1; have HB := HB1; clear HN1 HL1 HB1 hb2; obtain ⟨f0, f1, f2, f3⟩ := blk4 HN.out; obtain ⟨q0, q1⟩ := blk2 HL.out) | (go_at_call 31; (with_reducible refine (mknown_any _ _ _ z1 z2).mono ?_); rintro e w2 ⟨rfl, hb2⟩; have HN1 := Lib.hid (blk_at HN.out hb2); have HL1 := Lib.hid (blk_at HL.out hb2); have HB1 := Lib.hid (HB.out.trans (hb2.mono HB.out.size)); clear HN HL HB; have HN := HN1; have HL := HL1; have HB := HB1; clear HN1 HL1 HB1 hb2; obtain ⟨f0, f1, f2, f3⟩ := blk4 HN.out; obtain ⟨q0, q1⟩ := blk2 HL.out) | (go_at_call 31; (with_reducible refine (mknown_any _ _ _ z3 z4).mono ?_); rintro e w2 ⟨rfl, hb2⟩; have HN1 := Lib.hid (blk_at HN.out hb2); have HL1 := Lib.hid (blk_at HL.out hb2); have HB1 := Lib.hid (HB.out.trans (hb2.mono HB.out.size)); clear HN HL HB; have HN := HN1; have HL := HL1; have HB := HB1; clear HN1 HL1 HB1 hb2; obtain ⟨f0, f1, f2, f3⟩ := blk4 HN.out; obtain ⟨q0, q1⟩ := blk2 HL.out) | (go_at_call 29; (with_reducible refine (orderM_any a b r.f0.f0 r.f0.f1 _ za zb z1 z2).mono ?_); rintro e w2 ⟨he, hb2⟩; rw [Hx.out] at he; subst he; have HN1 := Lib.hid (blk_at HN.out hb2); have HL1 := Lib.hid (blk_at HL.out hb2); have HB1 := Lib.hid (HB.out.trans (hb2.mono HB.out.size)); clear HN HL HB; have HN := HN1; have HL := HL1; have HB := HB1; clear HN1 HL1 HB1 hb2; obtain ⟨f0, f1, f2, f3⟩ := blk4 HN.out; obtain ⟨q0, q1⟩ := blk2 HL.out))
                go_ret
                exact ⟨by rw [Hbad.out (by rw [Hro.out, v1, k1]; rfl)]; rfl, HB.out⟩
              | true =>
                cases k2 : isKnown r.f1.f0 r.f1.f1 with
                | false =>
                  go_wp2_with (first | (go_at_call 30; (with_reducible refine (module_any _ _ z0).mono ?_); rintro e w2 ⟨rfl, hb2⟩; have HN1 := Lib.hid (blk_at HN.out hb2); have HL1 := Lib.hid (blk_at HL.out hb2); have HB1 := Lib.hid (HB.out.trans (hb2.mono HB.out.size)); clear HN HL HB; have HN := HN1; have HL := HL1; have HB := HB1; clear HN1 HL1 HB1 hb2; obtain ⟨f0, f1, f2, f3⟩ := blk4 HN.out; obtain ⟨q0, q1⟩ := blk2 HL.out) | (go_at_call 31; (with_reducible refine (mknown_any _ _ _ z1 z2).mono ?_); rintro e w2 ⟨rfl, hb2⟩; have HN1 := Lib.hid (blk_at HN.out hb2); have HL1 := Lib.hid (blk_at HL.out hb2); have HB1 := Lib.hid (HB.out.trans (hb2.mono HB.out.size)); clear HN HL HB; have HN := HN1; have HL := HL1; have HB := HB1; clear HN1 HL1 HB1 hb2; obtain ⟨f0, f1, f2, f3⟩ := blk4 HN.out; obtain ⟨q0, q1⟩ := blk2 HL.out) | (go_at_call 31; (with_reducible refine (mknown_any _ _ _ z3 z4).mono ?_); rintro e w2 ⟨rfl, hb2⟩; have HN1 := Lib.hid (blk_at HN.out hb2); have HL1 := Lib.hid (blk_at HL.out hb2); have HB1 := Lib.hid (HB.out.trans (hb2.mono HB.out.size)); clear HN HL HB; have HN := HN1; have HL := HL1; have HB := HB1; clear HN1 HL1 HB1 hb2; obtain ⟨f0, f1, f2, f3⟩ := blk4 HN.out; obtain ⟨q0, q1⟩ := blk2 HL.out) | (go_at_call 29; (with_reducible refine (orderM_any a b r.f0.f0 r.f0.f1 _ za zb z1 z2).mono ?_); rintro e w2 ⟨he, hb2⟩; rw [Hx.out] at he; subst he; have HN1 := Lib.hid (blk_at HN.out hb2); have HL1 := Lib.hid (blk_at HL.out hb2); have HB1 := Lib.hid (HB.out.trans (hb2.mono HB.out.size)); clear HN HL HB; have HN := HN1; have HL := HL1; have HB := HB1; clear HN1 HL1 HB1 hb2; obtain ⟨f0, f1, f2, f3⟩ := blk4 HN.out; obtain ⟨q0, q1⟩ := blk2 HL.out))
                  go_ret
                  exact ⟨by rw [Hbad.out (by rw [Hro.out, v1, k1, k2]; rfl)]; rfl, HB.out⟩
                | true =>
                  by_cases hx : 0 ≤ x
                  · go_wp2_with (first | (go_at_call 30; (with_reducible refine (module_any _ _ z0).mono ?_); rintro e w2 ⟨rfl, hb2⟩; have HN1 := Lib.hid (blk_at HN.out hb2); have HL1 := Lib.hid (blk_at HL.out hb2); have HB1 := Lib.hid (HB.out.trans (hb2.mono HB.out.size)); clear HN HL HB; have HN := HN1; have HL := HL1; have HB := HB1; clear HN1 HL1 HB1 hb2; obtain ⟨f0, f1, f2, f3⟩ := blk4 HN.out; obtain ⟨q0, q1⟩ := blk2 HL.out) | (go_at_call 31; (with_reducible refine (mknown_any _ _ _ z1 z2).mono ?_); rintro e w2 ⟨rfl, hb2⟩; have HN1 := Lib.hid (blk_at HN.out hb2); have HL1 := Lib.hid (blk_at HL.out hb2); have HB1 := Lib.hid (HB.out.trans (hb2.mono HB.out.size)); clear HN HL HB; have HN := HN1; have HL := HL1; have HB := HB1; clear HN1 HL1 HB1 hb2; obtain ⟨f0, f1, f2, f3⟩ := blk4 HN.out; obtain ⟨q0, q1⟩ := blk2 HL.out) | (go_at_call 31; (with_reducible refine (mknown_any _ _ _ z3 z4).mono ?_); rintro e w2 ⟨rfl, hb2⟩; have HN1 := Lib.hid (blk_at HN.out hb2); have HL1 := Lib.hid (blk_at HL.out hb2); have HB1 := Lib.hid (HB.out.trans (hb2.mono HB.out.size)); clear HN HL HB; have HN := HN1; have HL := HL1; have HB := HB1; clear HN1 HL1 HB1 hb2; obtain ⟨f0, f1, f2, f3⟩ := blk4 HN.out; obtain ⟨q0, q1⟩ := blk2 HL.out) | (go_at_call 29; (with_reducible refine (orderM_any a b r.f0.f0 r.f0.f1 _ za zb z1 z2).mono ?_); rintro e w2 ⟨he, hb2⟩; rw [Hx.out] at he; subst he; have HN1 := Lib.hid (blk_at HN.out hb2); have HL1 := Lib.hid (blk_at HL.out hb2); have HB1 := Lib.hid (HB.out.trans (hb2.mono HB.out.size)); clear HN HL HB; have HN := HN1; have HL := HL1; have HB := HB1; clear HN1 HL1 HB1 hb2; obtain ⟨f0, f1, f2, f3⟩ := blk4 HN.out; obtain ⟨q0, q1⟩ := blk2 HL.out))
                    go_ret
                    exact ⟨by rw [Hbad.out (by rw [Hro.out, v1, k1, k2, decide_eq_false (show ¬ x < 0 by omega)]; rfl)]; rfl, HB.out⟩
                  · have hx' : x < 0 := by omega
                    have hf0 := blk_frozen HL.out 0
                    have Hok : Hid (repOk rs n = true) := (show _ = _ from by rw [Hro.out, v1, k1, k2, decide_eq_true hx']; rfl)
                    clear hf0
                    go_wp2_with (first | (go_at_call 30; (with_reducible refine (module_any _ _ z0).mono ?_); rintro e w2 ⟨rfl, hb2⟩; have HN1 := Lib.hid (blk_at HN.out hb2); have HL1 := Lib.hid (blk_at HL.out hb2); have HB1 := Lib.hid (HB.out.trans (hb2.mono HB.out.size)); clear HN HL HB; have HN := HN1; have HL := HL1; have HB := HB1; clear HN1 HL1 HB1 hb2; obtain ⟨f0, f1, f2, f3⟩ := blk4 HN.out; obtain ⟨q0, q1⟩ := blk2 HL.out; have hf0 := blk_frozen HL.out 0; have hf1 := blk_frozen HL.out 1) | (go_at_call 31; (with_reducible refine (mknown_any _ _ _ z1 z2).mono ?_); rintro e w2 ⟨rfl, hb2⟩; have HN1 := Lib.hid (blk_at HN.out hb2); have HL1 := Lib.hid (blk_at HL.out hb2); have HB1 := Lib.hid (HB.out.trans (hb2.mono HB.out.size)); clear HN HL HB; have HN := HN1; have HL := HL1; have HB := HB1; clear HN1 HL1 HB1 hb2; obtain ⟨f0, f1, f2, f3⟩ := blk4 HN.out; obtain ⟨q0, q1⟩ := blk2 HL.out; have hf0 := blk_frozen HL.out 0; have hf1 := blk_frozen HL.out 1) | (go_at_call 31; (with_reducible refine (mknown_any _ _ _ z3 z4).mono ?_); rintro e w2 ⟨rfl, hb2⟩; have HN1 := Lib.hid (blk_at HN.out hb2); have HL1 := Lib.hid (blk_at HL.out hb2); have HB1 := Lib.hid (HB.out.trans (hb2.mono HB.out.size)); clear HN HL HB; have HN := HN1; have HL := HL1; have HB := HB1; clear HN1 HL1 HB1 hb2; obtain ⟨f0, f1, f2, f3⟩ := blk4 HN.out; obtain ⟨q0, q1⟩ := blk2 HL.out; have hf0 := blk_frozen HL.out 0; have hf1 := blk_frozen HL.out 1) | (go_at_call 29; (with_reducible refine (orderM_any a b r.f0.f0 r.f0.f1 _ za zb z1 z2).mono ?_); rintro e w2 ⟨he, hb2⟩; rw [Hx.out] at he; subst he; have HN1 := Lib.hid (blk_at HN.out hb2); have HL1 := Lib.hid (blk_at HL.out hb2); have HB1 := Lib.hid (HB.out.trans (hb2.mono HB.out.size)); clear HN HL HB; have HN := HN1; have HL := HL1; have HB := HB1; clear HN1 HL1 HB1 hb2; obtain ⟨f0, f1, f2, f3⟩ := blk4 HN.out; obtain ⟨q0, q1⟩ := blk2 HL.out; have hf0 := blk_frozen HL.out 0; have hf1 := blk_frozen HL.out 1))
                    go_roundw
                    case rel =>
                      refine ⟨n + 1, by omega, by go_num, (show upto (repOk rs) (n + 1) = true from by simp only [upto, hun.out, Hok.out]; rfl), (HB.out.setCell (p := ⟨w.heap.size + 1, 0, none⟩) (by simp) _).setCell (p := ⟨w.heap.size + 1, 1, none⟩) (by simp) _, ?_⟩
                      have := blk_set (blk_set HL.out 0 (.string r.f0.f0)) 1 (.string r.f0.f1)
                      have e : lastR rs (n + 1) = r.f0 := by unfold lastR; rw [if_neg (by omega), Nat.add_sub_cancel, Hr.out]
                      exact (show _ = _ from by rw [e]; exact this)
                    case measure => simp [intOf]; omega
        · obtain rfl : n = rs.length := by omega
          go_wp2
          go_ret
          exact ⟨by rw [show listErr ms rs = 0 from if_pos (by unfold listB; rw [HU.out, hun.out]; rfl)]; rfl, hb⟩
end Go.Proofs.YtcdcpcdfcmokkaaGreatDoor
