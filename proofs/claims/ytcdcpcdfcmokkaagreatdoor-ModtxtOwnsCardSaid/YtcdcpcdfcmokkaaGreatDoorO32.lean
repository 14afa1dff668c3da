/- The document's Check of layer 19: which lists may be. -/
import Derived.Test.YtcdcpcdfcmokkaaGreatDoorO31
import Derived.Test.YtcdcpcdfcmokkaaGreatDoorO15
import Derived.Deep.DeepCutAuto
import Derived.IntWalk
set_option linter.unusedVariables false
set_option linter.unusedSimpArgs false
namespace Go.Proofs.YtcdcpcdfcmokkaaGreatDoor
open Go Go.RowKit Go.Shelf Go.Proofs.YtcdcpcdfcmokkaaGreatDoorW.PrintWords
attribute [local go_sem] str_leq
attribute [local go_sem high] P.eqA38
set_option linter.unusedVariables false
set_option linter.unusedSimpArgs false
theorem blk_d {w W0 W : World} {g : Nat} {o : Obj} (hb : Below W0.heap.size W0 W) (e : W0.heap = w.heap) (h : w.heap[g]? = some o) : W.heap[g]? = some o := blk_at (by rw [e]; exact h) hb
theorem upto_and (f g : Nat → Bool) : ∀ k, upto (fun n => f n && g n) k = (upto f k && upto g k)
  | 0 => rfl
  | k + 1 => by simp only [upto, upto_and f g k]; cases upto f k <;> cases upto g k <;> cases f k <;> cases g k <;> rfl
theorem inB_take {s : ByteArray} {L : List ByteArray} {n : Nat} (h : inB s (L.take n) = true) : inB s L = true := inB_iff.2 (List.mem_of_mem_take (inB_iff.1 h))
theorem bel_d {w v W0 W : World} (h : Below w.heap.size w v) (e : W0 = v ∨ W0 = v.drew) (hb : Below W0.heap.size W0 W) : Below w.heap.size w W := by
  rcases e with rfl | rfl
  · exact h.trans (hb.mono h.size)
  · exact h.drew.trans (hb.mono h.size)
def ordOk (ms : List SM) (i : Nat) : Bool := decide (i = 0) || (decide (ordM (ms.getD (i - 1) zM).f0 (ms.getD i zM).f0 < 0) && !((ms.getD (i - 1) zM).f0.f0.toList == (ms.getD i zM).f0.f0.toList))
def restOk (m : SM) : Bool := (m.f1 || !m.f4.isEmpty) && ((m.f2.toList.isEmpty || releaseB m.f2) && ((m.f3.f0.toList.isEmpty && m.f3.f1.toList.isEmpty) || isKnown m.f3.f0 m.f3.f1))
theorem modOk_doc {ms : List SM} {i : Nat} {m : SM} (hm : ms.getD i zM = m) : modOk ms i =
    (((isKnown m.f0.f0 m.f0.f1 && !m.f0.f1.toList.isEmpty) && ordOk ms i) && (restOk m && upto (fun n => pkgOk m.f0.f0 m.f4 n && newP ms i n) m.f4.length)) := by
  rw [upto_and]
  unfold modOk rightM rightB ordOk restOk
  rw [hm]
  simp only [Bool.and_assoc, Bool.and_comm, Bool.and_left_comm]
set_option maxHeartbeats 16000000 in
set_option maxRecDepth 100000 in
theorem rcheck_any (A0 A1 : Option Addr) (c0 c1 : Nat) (ms : List DM) (rs : List DR) (w : World) (h0 : Kd.C P.k45 w A0 ms.length ms) (hc0 : ms.length ≤ c0) (h1 : Kd.C P.k72 w A1 rs.length rs) (hc1 : rs.length ≤ c1)
    (sm : ∀ m ∈ ms, SmallM (toM m)) (sr : ∀ r ∈ rs, SmallR (toR r)) (lm : ms.length ≤ 1048576) (lr : rs.length ≤ 1099511627770) (lp : (metB (ms.map toM) (ms.map toM).length).length ≤ 1099511627770) :
    Calls Tryz.prog 17 #[.agg #[.slice A0 ms.length c0, .slice A1 rs.length c1]] w fun e w' => e = .returned (.int .i64 (listErr (ms.map toM) (rs.map toR))) ∧ Below w.heap.size w w' := by
  have B0 := Lib.hid (blk_new w (.cells #[.slice A0 ms.length c0, .slice A1 rs.length c1] 35))
  have hba : Below w.heap.size w (w.alloc (.cells #[.slice A0 ms.length c0, .slice A1 rs.length c1] 35)) := (Below.refl _ w).alloc (Nat.le_refl _) _
  have HBa := Lib.hid hba; clear hba
  go_enter Tryz.func17, Tryz.ntmps17
  go_wp2_with ((with_reducible refine gate_dst (N := 13) rfl ?_); refine Kd.R_lit Kd.string _ 9 ?hg (N := 13) ?hd (xs := ([] : List ByteArray)) (inner := []) (ok := fun _ => True) (okp := fun _ => True) ?hr ?hp (fun _ hk => hk) trivial (Below.refl _ _) (Nat.le_refl _) (by simp) ?_; (case hd => rfl); (case hg => rfl); (case hr => first | (go_simp; done) | (go_simp; rfl)); (case hp => exact (Reps.none _ _)); intro v1 w1 ho hb1 hg_ hnew_)
  have HP := Lib.hid (blk_at B0.out hb1)
  have HB := Lib.hid (HBa.out.trans (hb1.mono (by simp)))
  have HO := Lib.hid (Kd.R_lower ho (show w.heap.size ≤ _ by simp))
  have hpc := blk2 HP.out
  obtain ⟨p0, p1⟩ := hpc
  clear hg_ hnew_ ho hb1 B0 HBa
  go_loopw [3, 4] (fun v i wr => ∃ k : Nat, k ≤ ms.length ∧ i = .int .i64 k ∧ Hid (upto (modOk (ms.map toM)) k = true) ∧ Hid (Below w.heap.size w wr) ∧ Hid (wr.heap[w.heap.size]? = some (.cells #[.slice A0 ms.length c0, .slice A1 rs.length c1] 35 (0, 0))) ∧ Hid (Kd.R Kd.string 9 wr w.heap.size (fun _ => True) v (metB (ms.map toM) k))) (fun v i wr => ms.length - (intOf i).toNat)
  case atStart => exact ⟨0, Nat.zero_le _, rfl, rfl, HB, HP, HO⟩
  case round =>
    clear HB HP HO p0 p1
    obtain ⟨k, hk, rfl, hu, HB, HP, HO⟩ := hrel
    obtain ⟨p0, p1⟩ := blk2 HP.out
    by_cases hlt : k < ms.length
    · obtain ⟨d, Hd⟩ : ∃ d, Hid (ms.getD k zDM = d) := ⟨_, rfl⟩
      obtain ⟨ad, A6, c6, hA, e0, e1, e2, e3, e4, e5, e6, l6, g6⟩ := rmod_at h0 hlt Hd.out
      have hprev : 0 < k → wr.cell? (ad.add ((k - 1) * 7)) = some (.string (ms.getD (k - 1) zDM).f0.f0) ∧ wr.cell? ⟨(ad.add ((k - 1) * 7)).block, (ad.add ((k - 1) * 7)).off + 1, none⟩ = some (.string (ms.getD (k - 1) zDM).f0.f1) := fun hk0 => by
        obtain ⟨ad', _, _, hA', q0, q1, _⟩ := rmod_at h0 (show k - 1 < ms.length by omega) rfl
        rw [hA] at hA'; cases hA'
        exact ⟨pw_cell_below HB.out q0, pw_cell_below HB.out q1⟩
      have HPrev := Lib.hid hprev; clear hprev
      subst hA
      replace e0 := pw_cell_below HB.out e0; replace e1 := pw_cell_below HB.out e1; replace e2 := pw_cell_below HB.out e2; replace e3 := pw_cell_below HB.out e3
      replace e4 := pw_cell_below HB.out e4; replace e5 := pw_cell_below HB.out e5; replace e6 := pw_cell_below HB.out e6
      have hlen : (ms.map toM).length = ms.length := List.length_map _
      have Hlen := Lib.hid hlen; clear hlen
      have hm : (ms.map toM).getD k zM = toM d := by rw [show zM = toM zDM from rfl, getD_map, Hd.out]
      have Hm := Lib.hid hm; clear hm
      have smm : SmallM (toM d) := Hd.out ▸ sm _ (getD_mem hlt)
      have z1 : d.f0.f0.size ≤ 1099511627770 := smm.1
      have z2 : d.f0.f1.size ≤ 1099511627770 := smm.2.1
      have z3 : d.f2.size ≤ 1099511627770 := smm.2.2.1
      have z4 : d.f3.f0.size ≤ 1099511627770 := smm.2.2.2.1
      have z5 : d.f3.f1.size ≤ 1099511627770 := smm.2.2.2.2.1
      have HN := Lib.hid (blk_new wr (.cells #[.string d.f0.f0, .string d.f0.f1, .bool d.f1, .string d.f2, .string d.f3.f0, .string d.f3.f1, .slice A6 d.f4.length c6] 45))
      have HPn := Lib.hid (blk_at HP.out (below_alloc (Below.refl _ wr) (.cells #[.string d.f0.f0, .string d.f0.f1, .bool d.f1, .string d.f2, .string d.f3.f0, .string d.f3.f1, .slice A6 d.f4.length c6] 45)))
      have HBn := Lib.hid (below_alloc HB.out (.cells #[.string d.f0.f0, .string d.f0.f1, .bool d.f1, .string d.f2, .string d.f3.f0, .string d.f3.f1, .slice A6 d.f4.length c6] 45))
      have HOn := Lib.hid (Kd.R_alloc HO.out (.cells #[.string d.f0.f0, .string d.f0.f1, .bool d.f1, .string d.f2, .string d.f3.f0, .string d.f3.f1, .slice A6 d.f4.length c6] 45))
      obtain ⟨c, Hc⟩ : ∃ c, Hid (c = !((isKnown d.f0.f0 d.f0.f1 && !d.f0.f1.toList.isEmpty) && ordOk (ms.map toM) k)) := ⟨_, rfl⟩
      obtain ⟨n0, n1, n2, n3, n4, n5, n6⟩ := blk7 HN.out
      obtain ⟨pn0, pn1⟩ := blk2 HPn.out
      have hBr : w.heap.size ≤ wr.heap.size := HB.out.size
      go_wp2_with fail
      go_cut [66] (fun v wc => v = .bool c ∧ Hid (Below w.heap.size w wc) ∧ Hid (wc.heap[w.heap.size]? = some (.cells #[.slice (some ad) ms.length c0, .slice A1 rs.length c1] 35 (0, 0))) ∧ Hid (wc.heap[wr.heap.size]? = some (.cells #[.string d.f0.f0, .string d.f0.f1, .bool d.f1, .string d.f2, .string d.f3.f0, .string d.f3.f1, .slice A6 d.f4.length c6] 45 (0, 0))) ∧ Hid (Kd.R Kd.string 9 wc w.heap.size (fun _ => True) u3 (metB (ms.map toM) k)))
      case first =>
        cases k1 : isKnown d.f0.f0 d.f0.f1 with
        | false =>
          as_aux_lemma =>
            refine pl_start 41 ((0, 0) :: (1, 1) :: (2, 2) :: (3, 0) :: (4, 0) :: (5, 3) :: (6, 3) :: (7, 4) :: (8, 3) :: (9, 0) :: (10, 0) :: (11, 3) :: (12, 3) :: (13, 3) :: (14, 3) :: (16, 3) :: (17, 3) :: (21, 3) :: (15, 4) :: (18, 3) :: (19, 3) :: (20, 4) :: (22, 4) :: (23, 5) :: (24, 3) :: (25, 3) :: (26, 3) :: (28, 3) :: (29, 3) :: (34, 3) :: (35, 3) :: (27, 4) :: (30, 3) :: (31, 3) :: (32, 3) :: (33, 4) :: (36, 4) :: (37, 3) :: (38, 3) :: (39, 3) :: (40, 0) :: []) (fun w' => w'.cell? ⟨wr.heap.size, 0, none⟩ = some (.string d.f0.f0) ∧ w'.cell? ⟨wr.heap.size, 1, none⟩ = some (.string d.f0.f1) ∧ w'.cell? ⟨w.heap.size, 0, none⟩ = some (.slice (some ad) ms.length c0)) [] ⟨n0, n1, pn0⟩ (fun hs => ?_)
            repeat (first | refine pl_pure ?_ | refine pl_skip hs ?_ | refine pl_load hs ?_)
            refine pl_call #[.agg #[.string d.f0.f0, .string d.f0.f1]] Tryz.func32 ?_
            (with_reducible refine (rknown_any _ _ _ z1 z2).mono ?_)
            rintro e w2 ⟨rfl, hb2⟩
            have HN2 := Lib.hid (blk_d hb2 rfl HN.out)
            have HP2 := Lib.hid (blk_d hb2 rfl HPn.out)
            have HB2 := Lib.hid (HBn.out.drew.trans (hb2.mono HBn.out.size))
            have HO2 := Lib.hid (Kd.R_below (Kd.R_drew HOn.out) hb2)
            obtain ⟨f0, f1, f2, f3, f4, f5, f6⟩ := blk7 HN2.out
            obtain ⟨r0, r1⟩ := blk2 HP2.out
            refine ⟨_, rfl, ⟨f0, f1, r0⟩, fun hs => ?_⟩
            rw [k1]
            refine pl_norm ?_
            repeat (first | refine pl_pure ?_ | refine pl_skip hs ?_ | refine pl_load hs ?_)
            refine plan_done ?_
            go_wp2_with fail
            go_meet
            exact ⟨by rw [Hc.out, k1]; rfl, HB2, HP2, HN2, HO2⟩
        | true =>
          cases v1 : d.f0.f1.toList.isEmpty with
          | true =>
            as_aux_lemma =>
              refine pl_start 41 ((0, 0) :: (1, 1) :: (2, 2) :: (3, 0) :: (4, 0) :: (5, 0) :: (6, 0) :: (7, 1) :: (8, 0) :: (9, 0) :: (10, 0) :: (11, 3) :: (12, 3) :: (13, 3) :: (14, 3) :: (16, 3) :: (17, 3) :: (21, 3) :: (15, 4) :: (18, 3) :: (19, 3) :: (20, 4) :: (22, 4) :: (23, 5) :: (24, 3) :: (25, 3) :: (26, 3) :: (28, 3) :: (29, 3) :: (34, 3) :: (35, 3) :: (27, 4) :: (30, 3) :: (31, 3) :: (32, 3) :: (33, 4) :: (36, 4) :: (37, 3) :: (38, 3) :: (39, 3) :: (40, 0) :: []) (fun w' => w'.cell? ⟨wr.heap.size, 0, none⟩ = some (.string d.f0.f0) ∧ w'.cell? ⟨wr.heap.size, 1, none⟩ = some (.string d.f0.f1) ∧ w'.cell? ⟨w.heap.size, 0, none⟩ = some (.slice (some ad) ms.length c0)) [] ⟨n0, n1, pn0⟩ (fun hs => ?_)
              repeat (first | refine pl_pure ?_ | refine pl_skip hs ?_ | refine pl_load hs ?_)
              refine pl_call #[.agg #[.string d.f0.f0, .string d.f0.f1]] Tryz.func32 ?_
              (with_reducible refine (rknown_any _ _ _ z1 z2).mono ?_)
              rintro e w2 ⟨rfl, hb2⟩
              have HN2 := Lib.hid (blk_d hb2 rfl HN.out)
              have HP2 := Lib.hid (blk_d hb2 rfl HPn.out)
              have HB2 := Lib.hid (HBn.out.drew.trans (hb2.mono HBn.out.size))
              have HO2 := Lib.hid (Kd.R_below (Kd.R_drew HOn.out) hb2)
              obtain ⟨f0, f1, f2, f3, f4, f5, f6⟩ := blk7 HN2.out
              obtain ⟨r0, r1⟩ := blk2 HP2.out
              refine ⟨_, rfl, ⟨f0, f1, r0⟩, fun hs => ?_⟩
              rw [k1]
              refine pl_norm ?_
              repeat (first | refine pl_pure ?_ | refine pl_skip hs ?_ | refine pl_load hs ?_)
              refine plan_done ?_
              go_wp2_with fail
              go_meet
              exact ⟨by rw [Hc.out, k1, v1]; rfl, HB2, HP2, HN2, HO2⟩
          | false =>
            by_cases hk0 : k = 0
            · subst hk0
              as_aux_lemma =>
                have hd0 : decide ((0 : Int) < ((0 : Nat) : Int)) = false := by decide
                refine pl_start 41 ((0, 0) :: (1, 1) :: (2, 2) :: (3, 0) :: (4, 0) :: (5, 0) :: (6, 0) :: (7, 1) :: (8, 0) :: (9, 0) :: (10, 0) :: (11, 0) :: (12, 0) :: (13, 0) :: (14, 3) :: (16, 3) :: (17, 3) :: (21, 3) :: (15, 4) :: (18, 3) :: (19, 3) :: (20, 4) :: (22, 4) :: (23, 5) :: (24, 3) :: (25, 3) :: (26, 3) :: (28, 3) :: (29, 3) :: (34, 3) :: (35, 3) :: (27, 4) :: (30, 3) :: (31, 3) :: (32, 3) :: (33, 4) :: (36, 4) :: (37, 3) :: (38, 3) :: (39, 0) :: (40, 0) :: []) (fun w' => w'.cell? ⟨wr.heap.size, 0, none⟩ = some (.string d.f0.f0) ∧ w'.cell? ⟨wr.heap.size, 1, none⟩ = some (.string d.f0.f1) ∧ w'.cell? ⟨w.heap.size, 0, none⟩ = some (.slice (some ad) ms.length c0)) [] ⟨n0, n1, pn0⟩ (fun hs => ?_)
                repeat (first | refine pl_pure ?_ | refine pl_skip hs ?_ | refine pl_load hs ?_)
                refine pl_call #[.agg #[.string d.f0.f0, .string d.f0.f1]] Tryz.func32 ?_
                (with_reducible refine (rknown_any _ _ _ z1 z2).mono ?_)
                rintro e w2 ⟨rfl, hb2⟩
                have HN2 := Lib.hid (blk_d hb2 rfl HN.out)
                have HP2 := Lib.hid (blk_d hb2 rfl HPn.out)
                have HB2 := Lib.hid (HBn.out.drew.trans (hb2.mono HBn.out.size))
                have HO2 := Lib.hid (Kd.R_below (Kd.R_drew HOn.out) hb2)
                obtain ⟨f0, f1, f2, f3, f4, f5, f6⟩ := blk7 HN2.out
                obtain ⟨r0, r1⟩ := blk2 HP2.out
                refine ⟨_, rfl, ⟨f0, f1, r0⟩, fun hs => ?_⟩
                rw [k1]
                refine pl_norm ?_
                repeat (first | refine pl_pure ?_ | refine pl_skip hs ?_ | refine pl_load hs ?_)
                refine plan_done ?_
                go_wp2_with fail
                go_meet
                exact ⟨by rw [Hc.out, k1, v1, show ordOk (ms.map toM) 0 = true from rfl]; rfl, HB2, HP2, HN2, HO2⟩
            · have hd0 : decide ((0 : Int) < (k : Int)) = true := decide_eq_true (by omega)
              have hk1 : (1 : Int) ≤ (k : Int) := by omega
              have hkp : 0 < k := by omega
              have hw1 : IntKind.i64.wrap ((k : Int) - 1) = (k : Int) - 1 := IntWalk.i64_in _ (by omega)
              have hw3 : ((k : Int) - 1).toNat = k - 1 := by omega
              have hw4 : (k : Int) - 1 < (ms.length : Int) := by omega
              obtain ⟨q0, q1⟩ := HPrev.out (by omega)
              obtain ⟨a, Ha⟩ : ∃ a, Hid ((ms.getD (k - 1) zDM).f0.f0 = a) := ⟨_, rfl⟩
              obtain ⟨b, Hb⟩ : ∃ b, Hid ((ms.getD (k - 1) zDM).f0.f1 = b) := ⟨_, rfl⟩
              obtain ⟨x, Hx⟩ : ∃ x, Hid (orderM a b d.f0.f0 d.f0.f1 = x) := ⟨_, rfl⟩
              rw [Ha.out] at q0
              rw [Hb.out] at q1
              have sp := sm _ (getD_mem (z := zDM) (show k - 1 < ms.length by omega))
              have za : a.size ≤ 1099511627770 := by rw [← Ha.out]; exact sp.1
              have zb : b.size ≤ 1099511627770 := by rw [← Hb.out]; exact sp.2.1
              have ho : ordOk (ms.map toM) k = (decide (x < 0) && !(a.toList == d.f0.f0.toList)) := by
                unfold ordOk
                rw [decide_eq_false hk0, Hm.out, show (ms.map toM).getD (k - 1) zM = toM (ms.getD (k - 1) zDM) from by rw [show zM = toM zDM from rfl, getD_map]]
                show (false || (decide (orderM (ms.getD (k - 1) zDM).f0.f0 (ms.getD (k - 1) zDM).f0.f1 d.f0.f0 d.f0.f1 < 0) && !((ms.getD (k - 1) zDM).f0.f0.toList == d.f0.f0.toList))) = _
                rw [Ha.out, Hb.out, Hx.out]; rfl
              have Ho := Lib.hid ho; clear ho sp
              have q0n := pw_cell_below (below_alloc (Below.refl _ wr) (.cells #[.string d.f0.f0, .string d.f0.f1, .bool d.f1, .string d.f2, .string d.f3.f0, .string d.f3.f1, .slice A6 d.f4.length c6] 45)) q0
              have q1n := pw_cell_below (below_alloc (Below.refl _ wr) (.cells #[.string d.f0.f0, .string d.f0.f1, .bool d.f1, .string d.f2, .string d.f3.f0, .string d.f3.f1, .slice A6 d.f4.length c6] 45)) q1
              by_cases hx : 0 ≤ x
              · have hx1 : decide (0 ≤ x) = true := decide_eq_true hx
                as_aux_lemma =>
                  refine pl_start 41 ((0, 0) :: (1, 1) :: (2, 2) :: (3, 0) :: (4, 0) :: (5, 0) :: (6, 0) :: (7, 1) :: (8, 0) :: (9, 0) :: (10, 0) :: (11, 0) :: (12, 0) :: (13, 0) :: (14, 0) :: (16, 0) :: (17, 0) :: (21, 0) :: (15, 1) :: (18, 0) :: (19, 0) :: (20, 1) :: (22, 1) :: (23, 2) :: (24, 0) :: (25, 0) :: (26, 3) :: (28, 3) :: (29, 3) :: (34, 3) :: (35, 3) :: (27, 4) :: (30, 3) :: (31, 3) :: (32, 3) :: (33, 4) :: (36, 4) :: (37, 3) :: (38, 0) :: (39, 0) :: (40, 0) :: []) (fun w' => w'.cell? ⟨wr.heap.size, 0, none⟩ = some (.string d.f0.f0) ∧ w'.cell? ⟨wr.heap.size, 1, none⟩ = some (.string d.f0.f1) ∧ w'.cell? ⟨w.heap.size, 0, none⟩ = some (.slice (some ad) ms.length c0) ∧ w'.cell? (ad.add ((k - 1) * 7)) = some (.string a) ∧ w'.cell? ⟨(ad.add ((k - 1) * 7)).block, (ad.add ((k - 1) * 7)).off + 1, none⟩ = some (.string b)) [] ⟨n0, n1, pn0, q0n, q1n⟩ (fun hs => ?_)
                  repeat (first | refine pl_pure ?_ | refine pl_skip hs ?_ | refine pl_load hs ?_)
                  refine pl_call #[.agg #[.string d.f0.f0, .string d.f0.f1]] Tryz.func32 ?_
                  (with_reducible refine (rknown_any _ _ _ z1 z2).mono ?_)
                  rintro e w2 ⟨rfl, hb2⟩
                  have HN2 := Lib.hid (blk_d hb2 rfl HN.out)
                  have HP2 := Lib.hid (blk_d hb2 rfl HPn.out)
                  have HB2 := Lib.hid (HBn.out.drew.trans (hb2.mono HBn.out.size))
                  have HO2 := Lib.hid (Kd.R_below (Kd.R_drew HOn.out) hb2)
                  obtain ⟨f0, f1, f2, f3, f4, f5, f6⟩ := blk7 HN2.out
                  obtain ⟨r0, r1⟩ := blk2 HP2.out
                  refine ⟨_, rfl, ⟨f0, f1, r0, pw_cell_below hb2 q0n, pw_cell_below hb2 q1n⟩, fun hs => ?_⟩
                  rw [k1]
                  refine pl_norm ?_
                  repeat (first | refine pl_pure ?_ | refine pl_skip hs ?_ | refine pl_load hs ?_)
                  refine pl_call #[.agg #[.string a, .string b], .agg #[.string d.f0.f0, .string d.f0.f1]] Tryz.func33 ?_
                  (with_reducible refine (rorderM_any _ _ _ _ _ za zb z1 z2).mono ?_)
                  rintro e w3 ⟨he, hb3⟩
                  rw [Hx.out] at he
                  subst he
                  have HN3 := Lib.hid (blk_at HN2.out hb3)
                  have HP3 := Lib.hid (blk_at HP2.out hb3)
                  have HB3 := Lib.hid (HB2.out.trans (hb3.mono HB2.out.size))
                  have HO3 := Lib.hid (Kd.R_below HO2.out hb3)
                  clear f0 f1 f2 f3 f4 f5 f6 r0 r1
                  obtain ⟨f0, f1, f2, f3, f4, f5, f6⟩ := blk7 HN3.out
                  obtain ⟨r0, r1⟩ := blk2 HP3.out
                  refine ⟨_, rfl, ⟨f0, f1, r0, pw_cell_below hb3 (pw_cell_below hb2 q0n), pw_cell_below hb3 (pw_cell_below hb2 q1n)⟩, fun hs => ?_⟩
                  refine pl_norm ?_
                  repeat (first | refine pl_pure ?_ | refine pl_skip hs ?_ | refine pl_load hs ?_)
                  refine plan_done ?_
                  go_wp2_with fail
                  go_meet
                  exact ⟨by rw [Hc.out, k1, v1, Ho.out, decide_eq_false (show ¬ x < 0 by omega)]; rfl, HB3, HP3, HN3, HO3⟩
              · have hx1 : decide (0 ≤ x) = false := decide_eq_false hx
                cases s1 : (a.toList == d.f0.f0.toList) with
                | true =>
                  as_aux_lemma =>
                    refine pl_start 41 ((0, 0) :: (1, 1) :: (2, 2) :: (3, 0) :: (4, 0) :: (5, 0) :: (6, 0) :: (7, 1) :: (8, 0) :: (9, 0) :: (10, 0) :: (11, 0) :: (12, 0) :: (13, 0) :: (14, 0) :: (16, 0) :: (17, 0) :: (21, 0) :: (15, 1) :: (18, 0) :: (19, 0) :: (20, 1) :: (22, 1) :: (23, 2) :: (24, 0) :: (25, 0) :: (26, 0) :: (28, 0) :: (29, 0) :: (34, 0) :: (35, 0) :: (27, 1) :: (30, 0) :: (31, 0) :: (32, 0) :: (33, 1) :: (36, 1) :: (37, 0) :: (38, 0) :: (39, 0) :: (40, 0) :: []) (fun w' => w'.cell? ⟨wr.heap.size, 0, none⟩ = some (.string d.f0.f0) ∧ w'.cell? ⟨wr.heap.size, 1, none⟩ = some (.string d.f0.f1) ∧ w'.cell? ⟨w.heap.size, 0, none⟩ = some (.slice (some ad) ms.length c0) ∧ w'.cell? (ad.add ((k - 1) * 7)) = some (.string a) ∧ w'.cell? ⟨(ad.add ((k - 1) * 7)).block, (ad.add ((k - 1) * 7)).off + 1, none⟩ = some (.string b)) [] ⟨n0, n1, pn0, q0n, q1n⟩ (fun hs => ?_)
                    repeat (first | refine pl_pure ?_ | refine pl_skip hs ?_ | refine pl_load hs ?_)
                    refine pl_call #[.agg #[.string d.f0.f0, .string d.f0.f1]] Tryz.func32 ?_
                    (with_reducible refine (rknown_any _ _ _ z1 z2).mono ?_)
                    rintro e w2 ⟨rfl, hb2⟩
                    have HN2 := Lib.hid (blk_d hb2 rfl HN.out)
                    have HP2 := Lib.hid (blk_d hb2 rfl HPn.out)
                    have HB2 := Lib.hid (HBn.out.drew.trans (hb2.mono HBn.out.size))
                    have HO2 := Lib.hid (Kd.R_below (Kd.R_drew HOn.out) hb2)
                    obtain ⟨f0, f1, f2, f3, f4, f5, f6⟩ := blk7 HN2.out
                    obtain ⟨r0, r1⟩ := blk2 HP2.out
                    refine ⟨_, rfl, ⟨f0, f1, r0, pw_cell_below hb2 q0n, pw_cell_below hb2 q1n⟩, fun hs => ?_⟩
                    rw [k1]
                    refine pl_norm ?_
                    repeat (first | refine pl_pure ?_ | refine pl_skip hs ?_ | refine pl_load hs ?_)
                    refine pl_call #[.agg #[.string a, .string b], .agg #[.string d.f0.f0, .string d.f0.f1]] Tryz.func33 ?_
                    (with_reducible refine (rorderM_any _ _ _ _ _ za zb z1 z2).mono ?_)
                    rintro e w3 ⟨he, hb3⟩
                    rw [Hx.out] at he
                    subst he
                    have HN3 := Lib.hid (blk_at HN2.out hb3)
                    have HP3 := Lib.hid (blk_at HP2.out hb3)
                    have HB3 := Lib.hid (HB2.out.trans (hb3.mono HB2.out.size))
                    have HO3 := Lib.hid (Kd.R_below HO2.out hb3)
                    clear f0 f1 f2 f3 f4 f5 f6 r0 r1
                    obtain ⟨f0, f1, f2, f3, f4, f5, f6⟩ := blk7 HN3.out
                    obtain ⟨r0, r1⟩ := blk2 HP3.out
                    refine ⟨_, rfl, ⟨f0, f1, r0, pw_cell_below hb3 (pw_cell_below hb2 q0n), pw_cell_below hb3 (pw_cell_below hb2 q1n)⟩, fun hs => ?_⟩
                    refine pl_norm ?_
                    repeat (first | refine pl_pure ?_ | refine pl_skip hs ?_ | refine pl_load hs ?_)
                    refine plan_done ?_
                    go_wp2_with fail
                    go_meet
                    exact ⟨by rw [Hc.out, k1, v1, Ho.out, s1, Bool.not_true, Bool.and_false]; rfl, HB3, HP3, HN3, HO3⟩
                | false =>
                  as_aux_lemma =>
                    refine pl_start 41 ((0, 0) :: (1, 1) :: (2, 2) :: (3, 0) :: (4, 0) :: (5, 0) :: (6, 0) :: (7, 1) :: (8, 0) :: (9, 0) :: (10, 0) :: (11, 0) :: (12, 0) :: (13, 0) :: (14, 0) :: (16, 0) :: (17, 0) :: (21, 0) :: (15, 1) :: (18, 0) :: (19, 0) :: (20, 1) :: (22, 1) :: (23, 2) :: (24, 0) :: (25, 0) :: (26, 0) :: (28, 0) :: (29, 0) :: (34, 0) :: (35, 0) :: (27, 1) :: (30, 0) :: (31, 0) :: (32, 0) :: (33, 1) :: (36, 1) :: (37, 0) :: (38, 0) :: (39, 0) :: (40, 0) :: []) (fun w' => w'.cell? ⟨wr.heap.size, 0, none⟩ = some (.string d.f0.f0) ∧ w'.cell? ⟨wr.heap.size, 1, none⟩ = some (.string d.f0.f1) ∧ w'.cell? ⟨w.heap.size, 0, none⟩ = some (.slice (some ad) ms.length c0) ∧ w'.cell? (ad.add ((k - 1) * 7)) = some (.string a) ∧ w'.cell? ⟨(ad.add ((k - 1) * 7)).block, (ad.add ((k - 1) * 7)).off + 1, none⟩ = some (.string b)) [] ⟨n0, n1, pn0, q0n, q1n⟩ (fun hs => ?_)
                    repeat (first | refine pl_pure ?_ | refine pl_skip hs ?_ | refine pl_load hs ?_)
                    refine pl_call #[.agg #[.string d.f0.f0, .string d.f0.f1]] Tryz.func32 ?_
                    (with_reducible refine (rknown_any _ _ _ z1 z2).mono ?_)
                    rintro e w2 ⟨rfl, hb2⟩
                    have HN2 := Lib.hid (blk_d hb2 rfl HN.out)
                    have HP2 := Lib.hid (blk_d hb2 rfl HPn.out)
                    have HB2 := Lib.hid (HBn.out.drew.trans (hb2.mono HBn.out.size))
                    have HO2 := Lib.hid (Kd.R_below (Kd.R_drew HOn.out) hb2)
                    obtain ⟨f0, f1, f2, f3, f4, f5, f6⟩ := blk7 HN2.out
                    obtain ⟨r0, r1⟩ := blk2 HP2.out
                    refine ⟨_, rfl, ⟨f0, f1, r0, pw_cell_below hb2 q0n, pw_cell_below hb2 q1n⟩, fun hs => ?_⟩
                    rw [k1]
                    refine pl_norm ?_
                    repeat (first | refine pl_pure ?_ | refine pl_skip hs ?_ | refine pl_load hs ?_)
                    refine pl_call #[.agg #[.string a, .string b], .agg #[.string d.f0.f0, .string d.f0.f1]] Tryz.func33 ?_
                    (with_reducible refine (rorderM_any _ _ _ _ _ za zb z1 z2).mono ?_)
                    rintro e w3 ⟨he, hb3⟩
                    rw [Hx.out] at he
                    subst he
                    have HN3 := Lib.hid (blk_at HN2.out hb3)
                    have HP3 := Lib.hid (blk_at HP2.out hb3)
                    have HB3 := Lib.hid (HB2.out.trans (hb3.mono HB2.out.size))
                    have HO3 := Lib.hid (Kd.R_below HO2.out hb3)
                    clear f0 f1 f2 f3 f4 f5 f6 r0 r1
                    obtain ⟨f0, f1, f2, f3, f4, f5, f6⟩ := blk7 HN3.out
                    obtain ⟨r0, r1⟩ := blk2 HP3.out
                    refine ⟨_, rfl, ⟨f0, f1, r0, pw_cell_below hb3 (pw_cell_below hb2 q0n), pw_cell_below hb3 (pw_cell_below hb2 q1n)⟩, fun hs => ?_⟩
                    refine pl_norm ?_
                    repeat (first | refine pl_pure ?_ | refine pl_skip hs ?_ | refine pl_load hs ?_)
                    refine plan_done ?_
                    go_wp2_with fail
                    go_meet
                    exact ⟨by rw [Hc.out, k1, v1, Ho.out, s1, decide_eq_true (show x < 0 by omega)]; rfl, HB3, HP3, HN3, HO3⟩
      case rest =>
        clear HB HP HO HN HPn HBn HOn n0 n1 n2 n3 n4 n5 n6 pn0 pn1 p0 p1 HPrev e0 e1 e2 e3 e4 e5 e6
        obtain ⟨rfl, HB, HP, HN, HO⟩ := hcut
        have hmo : modOk (ms.map toM) k = (!c && (restOk (toM d) && upto (fun n => pkgOk d.f0.f0 d.f4 n && newP (ms.map toM) k n) d.f4.length)) := by
          rw [modOk_doc Hm.out]
          show (((isKnown d.f0.f0 d.f0.f1 && !d.f0.f1.toList.isEmpty) && ordOk (ms.map toM) k) && _) = _
          rw [show ((isKnown d.f0.f0 d.f0.f1 && !d.f0.f1.toList.isEmpty) && ordOk (ms.map toM) k) = !c from by rw [Hc.out, Bool.not_not]]
          rfl
        have Hmo := Lib.hid hmo; clear hmo
        have Hbad : Hid (modOk (ms.map toM) k = false → listErr (ms.map toM) (rs.map toR) = 190) := fun h => listErr_mod (by rw [Hlen.out]; exact hlt) h
        cases c with
        | true =>
          go_wp2
          go_ret
          exact ⟨by rw [Hbad.out (by rw [Hmo.out]; rfl)]; rfl, HB.out⟩
        | false =>
          obtain ⟨c2, Hc2⟩ : ∃ c, Hid (c = !restOk (toM d)) := ⟨_, rfl⟩
          go_upto_region 8 with fail
          go_cut [98] (fun v wc => v = .bool c2 ∧ Hid (Below w.heap.size w wc) ∧ Hid (wc.heap[w.heap.size]? = some (.cells #[.slice (some ad) ms.length c0, .slice A1 rs.length c1] 35 (0, 0))) ∧ Hid (wc.heap[wr.heap.size]? = some (.cells #[.string d.f0.f0, .string d.f0.f1, .bool d.f1, .string d.f2, .string d.f3.f0, .string d.f3.f1, .slice A6 d.f4.length c6] 45 (0, 0))) ∧ Hid (Kd.R Kd.string 9 wc w.heap.size (fun _ => True) u3 (metB (ms.map toM) k)))
          case first =>
            have hgn : (d.f2.toList != []) = !d.f2.toList.isEmpty := bne_empty _
            obtain ⟨f0, f1, f2, f3, f4, f5, f6⟩ := blk7 HN.out
            cases x1 : d.f1 with
            | true =>
              have p1 : (d.f1 || !d.f4.isEmpty) = true := by rw [x1]; rfl
              have P1 := Lib.hid p1; clear p1
              cases g1 : d.f2.toList.isEmpty with
              | true =>
                cases e1 : (d.f3.f0.toList.isEmpty && d.f3.f1.toList.isEmpty) with
                | true =>
                  as_aux_lemma =>
                    go_wp2_with (first | (go_at_call 34; (with_reducible refine (rrelease_any _ _ z3).mono ?_); rintro e w2 ⟨rfl, hb2⟩; have HN1 := Lib.hid (blk_at HN.out hb2); have HP1 := Lib.hid (blk_at HP.out hb2); have HB1 := Lib.hid (HB.out.trans (hb2.mono HB.out.size)); have HO1 := Lib.hid (Kd.R_below HO.out hb2); clear HN HP HB HO; have HN := HN1; have HP := HP1; have HB := HB1; have HO := HO1; clear HN1 HP1 HB1 HO1 hb2; obtain ⟨f0, f1, f2, f3, f4, f5, f6⟩ := blk7 HN.out) | (go_at_call 32; (with_reducible refine (rknown_any _ _ _ z4 z5).mono ?_); rintro e w2 ⟨rfl, hb2⟩; have HN1 := Lib.hid (blk_at HN.out hb2); have HP1 := Lib.hid (blk_at HP.out hb2); have HB1 := Lib.hid (HB.out.trans (hb2.mono HB.out.size)); have HO1 := Lib.hid (Kd.R_below HO.out hb2); clear HN HP HB HO; have HN := HN1; have HP := HP1; have HB := HB1; have HO := HO1; clear HN1 HP1 HB1 HO1 hb2; obtain ⟨f0, f1, f2, f3, f4, f5, f6⟩ := blk7 HN.out))
                    go_meet
                    exact ⟨by rw [Hc2.out, show restOk (toM d) = true from by unfold restOk toM; simp only [P1.out, g1, e1]; rfl]; rfl, HB, HP, HN, HO⟩
                | false =>
                  cases k2 : isKnown d.f3.f0 d.f3.f1 with
                  | true =>
                    as_aux_lemma =>
                      go_wp2_with (first | (go_at_call 34; (with_reducible refine (rrelease_any _ _ z3).mono ?_); rintro e w2 ⟨rfl, hb2⟩; have HN1 := Lib.hid (blk_at HN.out hb2); have HP1 := Lib.hid (blk_at HP.out hb2); have HB1 := Lib.hid (HB.out.trans (hb2.mono HB.out.size)); have HO1 := Lib.hid (Kd.R_below HO.out hb2); clear HN HP HB HO; have HN := HN1; have HP := HP1; have HB := HB1; have HO := HO1; clear HN1 HP1 HB1 HO1 hb2; obtain ⟨f0, f1, f2, f3, f4, f5, f6⟩ := blk7 HN.out) | (go_at_call 32; (with_reducible refine (rknown_any _ _ _ z4 z5).mono ?_); rintro e w2 ⟨rfl, hb2⟩; have HN1 := Lib.hid (blk_at HN.out hb2); have HP1 := Lib.hid (blk_at HP.out hb2); have HB1 := Lib.hid (HB.out.trans (hb2.mono HB.out.size)); have HO1 := Lib.hid (Kd.R_below HO.out hb2); clear HN HP HB HO; have HN := HN1; have HP := HP1; have HB := HB1; have HO := HO1; clear HN1 HP1 HB1 HO1 hb2; obtain ⟨f0, f1, f2, f3, f4, f5, f6⟩ := blk7 HN.out))
                      go_meet
                      exact ⟨by rw [Hc2.out, show restOk (toM d) = true from by unfold restOk toM; simp only [P1.out, g1, e1, k2]; rfl]; rfl, HB, HP, HN, HO⟩
                  | false =>
                    as_aux_lemma =>
                      go_wp2_with (first | (go_at_call 34; (with_reducible refine (rrelease_any _ _ z3).mono ?_); rintro e w2 ⟨rfl, hb2⟩; have HN1 := Lib.hid (blk_at HN.out hb2); have HP1 := Lib.hid (blk_at HP.out hb2); have HB1 := Lib.hid (HB.out.trans (hb2.mono HB.out.size)); have HO1 := Lib.hid (Kd.R_below HO.out hb2); clear HN HP HB HO; have HN := HN1; have HP := HP1; have HB := HB1; have HO := HO1; clear HN1 HP1 HB1 HO1 hb2; obtain ⟨f0, f1, f2, f3, f4, f5, f6⟩ := blk7 HN.out) | (go_at_call 32; (with_reducible refine (rknown_any _ _ _ z4 z5).mono ?_); rintro e w2 ⟨rfl, hb2⟩; have HN1 := Lib.hid (blk_at HN.out hb2); have HP1 := Lib.hid (blk_at HP.out hb2); have HB1 := Lib.hid (HB.out.trans (hb2.mono HB.out.size)); have HO1 := Lib.hid (Kd.R_below HO.out hb2); clear HN HP HB HO; have HN := HN1; have HP := HP1; have HB := HB1; have HO := HO1; clear HN1 HP1 HB1 HO1 hb2; obtain ⟨f0, f1, f2, f3, f4, f5, f6⟩ := blk7 HN.out))
                      go_meet
                      exact ⟨by rw [Hc2.out, show restOk (toM d) = false from by unfold restOk toM; simp only [P1.out, g1, e1, k2]; rfl]; rfl, HB, HP, HN, HO⟩
              | false =>
                cases r1 : releaseB d.f2 with
                | false =>
                  as_aux_lemma =>
                    go_wp2_with (first | (go_at_call 34; (with_reducible refine (rrelease_any _ _ z3).mono ?_); rintro e w2 ⟨rfl, hb2⟩; have HN1 := Lib.hid (blk_at HN.out hb2); have HP1 := Lib.hid (blk_at HP.out hb2); have HB1 := Lib.hid (HB.out.trans (hb2.mono HB.out.size)); have HO1 := Lib.hid (Kd.R_below HO.out hb2); clear HN HP HB HO; have HN := HN1; have HP := HP1; have HB := HB1; have HO := HO1; clear HN1 HP1 HB1 HO1 hb2; obtain ⟨f0, f1, f2, f3, f4, f5, f6⟩ := blk7 HN.out) | (go_at_call 32; (with_reducible refine (rknown_any _ _ _ z4 z5).mono ?_); rintro e w2 ⟨rfl, hb2⟩; have HN1 := Lib.hid (blk_at HN.out hb2); have HP1 := Lib.hid (blk_at HP.out hb2); have HB1 := Lib.hid (HB.out.trans (hb2.mono HB.out.size)); have HO1 := Lib.hid (Kd.R_below HO.out hb2); clear HN HP HB HO; have HN := HN1; have HP := HP1; have HB := HB1; have HO := HO1; clear HN1 HP1 HB1 HO1 hb2; obtain ⟨f0, f1, f2, f3, f4, f5, f6⟩ := blk7 HN.out))
                    go_meet
                    exact ⟨by rw [Hc2.out, show restOk (toM d) = false from by unfold restOk toM; simp only [P1.out, g1, r1]; rfl]; rfl, HB, HP, HN, HO⟩
                | true =>
                  cases e1 : (d.f3.f0.toList.isEmpty && d.f3.f1.toList.isEmpty) with
                  | true =>
                    as_aux_lemma =>
                      go_wp2_with (first | (go_at_call 34; (with_reducible refine (rrelease_any _ _ z3).mono ?_); rintro e w2 ⟨rfl, hb2⟩; have HN1 := Lib.hid (blk_at HN.out hb2); have HP1 := Lib.hid (blk_at HP.out hb2); have HB1 := Lib.hid (HB.out.trans (hb2.mono HB.out.size)); have HO1 := Lib.hid (Kd.R_below HO.out hb2); clear HN HP HB HO; have HN := HN1; have HP := HP1; have HB := HB1; have HO := HO1; clear HN1 HP1 HB1 HO1 hb2; obtain ⟨f0, f1, f2, f3, f4, f5, f6⟩ := blk7 HN.out) | (go_at_call 32; (with_reducible refine (rknown_any _ _ _ z4 z5).mono ?_); rintro e w2 ⟨rfl, hb2⟩; have HN1 := Lib.hid (blk_at HN.out hb2); have HP1 := Lib.hid (blk_at HP.out hb2); have HB1 := Lib.hid (HB.out.trans (hb2.mono HB.out.size)); have HO1 := Lib.hid (Kd.R_below HO.out hb2); clear HN HP HB HO; have HN := HN1; have HP := HP1; have HB := HB1; have HO := HO1; clear HN1 HP1 HB1 HO1 hb2; obtain ⟨f0, f1, f2, f3, f4, f5, f6⟩ := blk7 HN.out))
                      go_meet
                      exact ⟨by rw [Hc2.out, show restOk (toM d) = true from by unfold restOk toM; simp only [P1.out, g1, r1, e1]; rfl]; rfl, HB, HP, HN, HO⟩
                  | false =>
                    cases k2 : isKnown d.f3.f0 d.f3.f1 with
                    | true =>
                      as_aux_lemma =>
                        go_wp2_with (first | (go_at_call 34; (with_reducible refine (rrelease_any _ _ z3).mono ?_); rintro e w2 ⟨rfl, hb2⟩; have HN1 := Lib.hid (blk_at HN.out hb2); have HP1 := Lib.hid (blk_at HP.out hb2); have HB1 := Lib.hid (HB.out.trans (hb2.mono HB.out.size)); have HO1 := Lib.hid (Kd.R_below HO.out hb2); clear HN HP HB HO; have HN := HN1; have HP := HP1; have HB := HB1; have HO := HO1; clear HN1 HP1 HB1 HO1 hb2; obtain ⟨f0, f1, f2, f3, f4, f5, f6⟩ := blk7 HN.out) | (go_at_call 32; (with_reducible refine (rknown_any _ _ _ z4 z5).mono ?_); rintro e w2 ⟨rfl, hb2⟩; have HN1 := Lib.hid (blk_at HN.out hb2); have HP1 := Lib.hid (blk_at HP.out hb2); have HB1 := Lib.hid (HB.out.trans (hb2.mono HB.out.size)); have HO1 := Lib.hid (Kd.R_below HO.out hb2); clear HN HP HB HO; have HN := HN1; have HP := HP1; have HB := HB1; have HO := HO1; clear HN1 HP1 HB1 HO1 hb2; obtain ⟨f0, f1, f2, f3, f4, f5, f6⟩ := blk7 HN.out))
                        go_meet
                        exact ⟨by rw [Hc2.out, show restOk (toM d) = true from by unfold restOk toM; simp only [P1.out, g1, r1, e1, k2]; rfl]; rfl, HB, HP, HN, HO⟩
                    | false =>
                      as_aux_lemma =>
                        go_wp2_with (first | (go_at_call 34; (with_reducible refine (rrelease_any _ _ z3).mono ?_); rintro e w2 ⟨rfl, hb2⟩; have HN1 := Lib.hid (blk_at HN.out hb2); have HP1 := Lib.hid (blk_at HP.out hb2); have HB1 := Lib.hid (HB.out.trans (hb2.mono HB.out.size)); have HO1 := Lib.hid (Kd.R_below HO.out hb2); clear HN HP HB HO; have HN := HN1; have HP := HP1; have HB := HB1; have HO := HO1; clear HN1 HP1 HB1 HO1 hb2; obtain ⟨f0, f1, f2, f3, f4, f5, f6⟩ := blk7 HN.out) | (go_at_call 32; (with_reducible refine (rknown_any _ _ _ z4 z5).mono ?_); rintro e w2 ⟨rfl, hb2⟩; have HN1 := Lib.hid (blk_at HN.out hb2); have HP1 := Lib.hid (blk_at HP.out hb2); have HB1 := Lib.hid (HB.out.trans (hb2.mono HB.out.size)); have HO1 := Lib.hid (Kd.R_below HO.out hb2); clear HN HP HB HO; have HN := HN1; have HP := HP1; have HB := HB1; have HO := HO1; clear HN1 HP1 HB1 HO1 hb2; obtain ⟨f0, f1, f2, f3, f4, f5, f6⟩ := blk7 HN.out))
                        go_meet
                        exact ⟨by rw [Hc2.out, show restOk (toM d) = false from by unfold restOk toM; simp only [P1.out, g1, r1, e1, k2]; rfl]; rfl, HB, HP, HN, HO⟩
            | false =>
              by_cases l0 : d.f4 = []
              · have l1 : ((d.f4.length : Int) == 0) = true := by rw [l0]; rfl
                have p1 : (d.f1 || !d.f4.isEmpty) = false := by rw [x1, l0]; rfl
                have P1 := Lib.hid p1; clear p1 l0
                as_aux_lemma =>
                  go_wp2_with (first | (go_at_call 34; (with_reducible refine (rrelease_any _ _ z3).mono ?_); rintro e w2 ⟨rfl, hb2⟩; have HN1 := Lib.hid (blk_at HN.out hb2); have HP1 := Lib.hid (blk_at HP.out hb2); have HB1 := Lib.hid (HB.out.trans (hb2.mono HB.out.size)); have HO1 := Lib.hid (Kd.R_below HO.out hb2); clear HN HP HB HO; have HN := HN1; have HP := HP1; have HB := HB1; have HO := HO1; clear HN1 HP1 HB1 HO1 hb2; obtain ⟨f0, f1, f2, f3, f4, f5, f6⟩ := blk7 HN.out) | (go_at_call 32; (with_reducible refine (rknown_any _ _ _ z4 z5).mono ?_); rintro e w2 ⟨rfl, hb2⟩; have HN1 := Lib.hid (blk_at HN.out hb2); have HP1 := Lib.hid (blk_at HP.out hb2); have HB1 := Lib.hid (HB.out.trans (hb2.mono HB.out.size)); have HO1 := Lib.hid (Kd.R_below HO.out hb2); clear HN HP HB HO; have HN := HN1; have HP := HP1; have HB := HB1; have HO := HO1; clear HN1 HP1 HB1 HO1 hb2; obtain ⟨f0, f1, f2, f3, f4, f5, f6⟩ := blk7 HN.out))
                  go_meet
                  exact ⟨by rw [Hc2.out, show restOk (toM d) = false from by unfold restOk toM; simp only [P1.out]; rfl]; rfl, HB, HP, HN, HO⟩
              · have l1 : ((d.f4.length : Int) == 0) = false := by rw [beq_eq_false_iff_ne]; intro e; exact l0 (List.eq_nil_of_length_eq_zero (by omega))
                have p1 : (d.f1 || !d.f4.isEmpty) = true := by rw [x1]; cases h : d.f4 with
                  | nil => exact absurd h l0
                  | cons _ _ => rfl
                have P1 := Lib.hid p1; clear p1 l0
                cases g1 : d.f2.toList.isEmpty with
                | true =>
                  cases e1 : (d.f3.f0.toList.isEmpty && d.f3.f1.toList.isEmpty) with
                  | true =>
                    as_aux_lemma =>
                      go_wp2_with (first | (go_at_call 34; (with_reducible refine (rrelease_any _ _ z3).mono ?_); rintro e w2 ⟨rfl, hb2⟩; have HN1 := Lib.hid (blk_at HN.out hb2); have HP1 := Lib.hid (blk_at HP.out hb2); have HB1 := Lib.hid (HB.out.trans (hb2.mono HB.out.size)); have HO1 := Lib.hid (Kd.R_below HO.out hb2); clear HN HP HB HO; have HN := HN1; have HP := HP1; have HB := HB1; have HO := HO1; clear HN1 HP1 HB1 HO1 hb2; obtain ⟨f0, f1, f2, f3, f4, f5, f6⟩ := blk7 HN.out) | (go_at_call 32; (with_reducible refine (rknown_any _ _ _ z4 z5).mono ?_); rintro e w2 ⟨rfl, hb2⟩; have HN1 := Lib.hid (blk_at HN.out hb2); have HP1 := Lib.hid (blk_at HP.out hb2); have HB1 := Lib.hid (HB.out.trans (hb2.mono HB.out.size)); have HO1 := Lib.hid (Kd.R_below HO.out hb2); clear HN HP HB HO; have HN := HN1; have HP := HP1; have HB := HB1; have HO := HO1; clear HN1 HP1 HB1 HO1 hb2; obtain ⟨f0, f1, f2, f3, f4, f5, f6⟩ := blk7 HN.out))
                      go_meet
                      exact ⟨by rw [Hc2.out, show restOk (toM d) = true from by unfold restOk toM; simp only [P1.out, g1, e1]; rfl]; rfl, HB, HP, HN, HO⟩
                  | false =>
                    cases k2 : isKnown d.f3.f0 d.f3.f1 with
                    | true =>
                      as_aux_lemma =>
                        go_wp2_with (first | (go_at_call 34; (with_reducible refine (rrelease_any _ _ z3).mono ?_); rintro e w2 ⟨rfl, hb2⟩; have HN1 := Lib.hid (blk_at HN.out hb2); have HP1 := Lib.hid (blk_at HP.out hb2); have HB1 := Lib.hid (HB.out.trans (hb2.mono HB.out.size)); have HO1 := Lib.hid (Kd.R_below HO.out hb2); clear HN HP HB HO; have HN := HN1; have HP := HP1; have HB := HB1; have HO := HO1; clear HN1 HP1 HB1 HO1 hb2; obtain ⟨f0, f1, f2, f3, f4, f5, f6⟩ := blk7 HN.out) | (go_at_call 32; (with_reducible refine (rknown_any _ _ _ z4 z5).mono ?_); rintro e w2 ⟨rfl, hb2⟩; have HN1 := Lib.hid (blk_at HN.out hb2); have HP1 := Lib.hid (blk_at HP.out hb2); have HB1 := Lib.hid (HB.out.trans (hb2.mono HB.out.size)); have HO1 := Lib.hid (Kd.R_below HO.out hb2); clear HN HP HB HO; have HN := HN1; have HP := HP1; have HB := HB1; have HO := HO1; clear HN1 HP1 HB1 HO1 hb2; obtain ⟨f0, f1, f2, f3, f4, f5, f6⟩ := blk7 HN.out))
                        go_meet
                        exact ⟨by rw [Hc2.out, show restOk (toM d) = true from by unfold restOk toM; simp only [P1.out, g1, e1, k2]; rfl]; rfl, HB, HP, HN, HO⟩
                    | false =>
                      as_aux_lemma =>
                        go_wp2_with (first | (go_at_call 34; (with_reducible refine (rrelease_any _ _ z3).mono ?_); rintro e w2 ⟨rfl, hb2⟩; have HN1 := Lib.hid (blk_at HN.out hb2); have HP1 := Lib.hid (blk_at HP.out hb2); have HB1 := Lib.hid (HB.out.trans (hb2.mono HB.out.size)); have HO1 := Lib.hid (Kd.R_below HO.out hb2); clear HN HP HB HO; have HN := HN1; have HP := HP1; have HB := HB1; have HO := HO1; clear HN1 HP1 HB1 HO1 hb2; obtain ⟨f0, f1, f2, f3, f4, f5, f6⟩ := blk7 HN.out) | (go_at_call 32; (with_reducible refine (rknown_any _ _ _ z4 z5).mono ?_); rintro e w2 ⟨rfl, hb2⟩; have HN1 := Lib.hid (blk_at HN.out hb2); have HP1 := Lib.hid (blk_at HP.out hb2); have HB1 := Lib.hid (HB.out.trans (hb2.mono HB.out.size)); have HO1 := Lib.hid (Kd.R_below HO.out hb2); clear HN HP HB HO; have HN := HN1; have HP := HP1; have HB := HB1; have HO := HO1; clear HN1 HP1 HB1 HO1 hb2; obtain ⟨f0, f1, f2, f3, f4, f5, f6⟩ := blk7 HN.out))
                        go_meet
                        exact ⟨by rw [Hc2.out, show restOk (toM d) = false from by unfold restOk toM; simp only [P1.out, g1, e1, k2]; rfl]; rfl, HB, HP, HN, HO⟩
                | false =>
                  cases r1 : releaseB d.f2 with
                  | false =>
                    as_aux_lemma =>
                      go_wp2_with (first | (go_at_call 34; (with_reducible refine (rrelease_any _ _ z3).mono ?_); rintro e w2 ⟨rfl, hb2⟩; have HN1 := Lib.hid (blk_at HN.out hb2); have HP1 := Lib.hid (blk_at HP.out hb2); have HB1 := Lib.hid (HB.out.trans (hb2.mono HB.out.size)); have HO1 := Lib.hid (Kd.R_below HO.out hb2); clear HN HP HB HO; have HN := HN1; have HP := HP1; have HB := HB1; have HO := HO1; clear HN1 HP1 HB1 HO1 hb2; obtain ⟨f0, f1, f2, f3, f4, f5, f6⟩ := blk7 HN.out) | (go_at_call 32; (with_reducible refine (rknown_any _ _ _ z4 z5).mono ?_); rintro e w2 ⟨rfl, hb2⟩; have HN1 := Lib.hid (blk_at HN.out hb2); have HP1 := Lib.hid (blk_at HP.out hb2); have HB1 := Lib.hid (HB.out.trans (hb2.mono HB.out.size)); have HO1 := Lib.hid (Kd.R_below HO.out hb2); clear HN HP HB HO; have HN := HN1; have HP := HP1; have HB := HB1; have HO := HO1; clear HN1 HP1 HB1 HO1 hb2; obtain ⟨f0, f1, f2, f3, f4, f5, f6⟩ := blk7 HN.out))
                      go_meet
                      exact ⟨by rw [Hc2.out, show restOk (toM d) = false from by unfold restOk toM; simp only [P1.out, g1, r1]; rfl]; rfl, HB, HP, HN, HO⟩
                  | true =>
                    cases e1 : (d.f3.f0.toList.isEmpty && d.f3.f1.toList.isEmpty) with
                    | true =>
                      as_aux_lemma =>
                        go_wp2_with (first | (go_at_call 34; (with_reducible refine (rrelease_any _ _ z3).mono ?_); rintro e w2 ⟨rfl, hb2⟩; have HN1 := Lib.hid (blk_at HN.out hb2); have HP1 := Lib.hid (blk_at HP.out hb2); have HB1 := Lib.hid (HB.out.trans (hb2.mono HB.out.size)); have HO1 := Lib.hid (Kd.R_below HO.out hb2); clear HN HP HB HO; have HN := HN1; have HP := HP1; have HB := HB1; have HO := HO1; clear HN1 HP1 HB1 HO1 hb2; obtain ⟨f0, f1, f2, f3, f4, f5, f6⟩ := blk7 HN.out) | (go_at_call 32; (with_reducible refine (rknown_any _ _ _ z4 z5).mono ?_); rintro e w2 ⟨rfl, hb2⟩; have HN1 := Lib.hid (blk_at HN.out hb2); have HP1 := Lib.hid (blk_at HP.out hb2); have HB1 := Lib.hid (HB.out.trans (hb2.mono HB.out.size)); have HO1 := Lib.hid (Kd.R_below HO.out hb2); clear HN HP HB HO; have HN := HN1; have HP := HP1; have HB := HB1; have HO := HO1; clear HN1 HP1 HB1 HO1 hb2; obtain ⟨f0, f1, f2, f3, f4, f5, f6⟩ := blk7 HN.out))
                        go_meet
                        exact ⟨by rw [Hc2.out, show restOk (toM d) = true from by unfold restOk toM; simp only [P1.out, g1, r1, e1]; rfl]; rfl, HB, HP, HN, HO⟩
                    | false =>
                      cases k2 : isKnown d.f3.f0 d.f3.f1 with
                      | true =>
                        as_aux_lemma =>
                          go_wp2_with (first | (go_at_call 34; (with_reducible refine (rrelease_any _ _ z3).mono ?_); rintro e w2 ⟨rfl, hb2⟩; have HN1 := Lib.hid (blk_at HN.out hb2); have HP1 := Lib.hid (blk_at HP.out hb2); have HB1 := Lib.hid (HB.out.trans (hb2.mono HB.out.size)); have HO1 := Lib.hid (Kd.R_below HO.out hb2); clear HN HP HB HO; have HN := HN1; have HP := HP1; have HB := HB1; have HO := HO1; clear HN1 HP1 HB1 HO1 hb2; obtain ⟨f0, f1, f2, f3, f4, f5, f6⟩ := blk7 HN.out) | (go_at_call 32; (with_reducible refine (rknown_any _ _ _ z4 z5).mono ?_); rintro e w2 ⟨rfl, hb2⟩; have HN1 := Lib.hid (blk_at HN.out hb2); have HP1 := Lib.hid (blk_at HP.out hb2); have HB1 := Lib.hid (HB.out.trans (hb2.mono HB.out.size)); have HO1 := Lib.hid (Kd.R_below HO.out hb2); clear HN HP HB HO; have HN := HN1; have HP := HP1; have HB := HB1; have HO := HO1; clear HN1 HP1 HB1 HO1 hb2; obtain ⟨f0, f1, f2, f3, f4, f5, f6⟩ := blk7 HN.out))
                          go_meet
                          exact ⟨by rw [Hc2.out, show restOk (toM d) = true from by unfold restOk toM; simp only [P1.out, g1, r1, e1, k2]; rfl]; rfl, HB, HP, HN, HO⟩
                      | false =>
                        as_aux_lemma =>
                          go_wp2_with (first | (go_at_call 34; (with_reducible refine (rrelease_any _ _ z3).mono ?_); rintro e w2 ⟨rfl, hb2⟩; have HN1 := Lib.hid (blk_at HN.out hb2); have HP1 := Lib.hid (blk_at HP.out hb2); have HB1 := Lib.hid (HB.out.trans (hb2.mono HB.out.size)); have HO1 := Lib.hid (Kd.R_below HO.out hb2); clear HN HP HB HO; have HN := HN1; have HP := HP1; have HB := HB1; have HO := HO1; clear HN1 HP1 HB1 HO1 hb2; obtain ⟨f0, f1, f2, f3, f4, f5, f6⟩ := blk7 HN.out) | (go_at_call 32; (with_reducible refine (rknown_any _ _ _ z4 z5).mono ?_); rintro e w2 ⟨rfl, hb2⟩; have HN1 := Lib.hid (blk_at HN.out hb2); have HP1 := Lib.hid (blk_at HP.out hb2); have HB1 := Lib.hid (HB.out.trans (hb2.mono HB.out.size)); have HO1 := Lib.hid (Kd.R_below HO.out hb2); clear HN HP HB HO; have HN := HN1; have HP := HP1; have HB := HB1; have HO := HO1; clear HN1 HP1 HB1 HO1 hb2; obtain ⟨f0, f1, f2, f3, f4, f5, f6⟩ := blk7 HN.out))
                          go_meet
                          exact ⟨by rw [Hc2.out, show restOk (toM d) = false from by unfold restOk toM; simp only [P1.out, g1, r1, e1, k2]; rfl]; rfl, HB, HP, HN, HO⟩
          case rest =>
            clear HB HP HO HN
            obtain ⟨rfl, HB, HP, HN, HO⟩ := hcut
            cases c2 with
            | true =>
              go_wp2
              go_ret
              exact ⟨by rw [Hbad.out (by rw [Hmo.out, show restOk (toM d) = false from by have h2 := Hc2.out.symm; rwa [Bool.not_eq_true'] at h2]; rfl)]; rfl, HB.out⟩
            | false =>
              have hr8 : restOk (toM d) = true := by have h2 := Hc2.out.symm; rwa [Bool.not_eq_false'] at h2
              have hmo : modOk (ms.map toM) k = upto (fun n => pkgOk d.f0.f0 d.f4 n && newP (ms.map toM) k n) d.f4.length := by rw [Hmo.out, hr8]; rfl
              clear Hmo hr8
              have Hmo := Lib.hid hmo; clear hmo
              obtain ⟨f0, f1, f2, f3, f4, f5, f6⟩ := blk7 HN.out
              go_wp2
              have hB : w.heap.size ≤ wr.heap.size := hBr
              obtain ⟨wo, rfl⟩ : ∃ wo : World, wo = wr := ⟨_, rfl⟩
              go_loopw [3, 6] (fun v j wr => ∃ n : Nat, n ≤ d.f4.length ∧ j = .int .i64 n ∧ Hid (upto (fun n => pkgOk d.f0.f0 d.f4 n && newP (ms.map toM) k n) n = true) ∧ Hid (Below w.heap.size w wr) ∧ Hid (wr.heap[w.heap.size]? = some (.cells #[.slice (some ad) ms.length c0, .slice A1 rs.length c1] 35 (0, 0))) ∧ Hid (wr.heap[wo.heap.size]? = some (.cells #[.string d.f0.f0, .string d.f0.f1, .bool d.f1, .string d.f2, .string d.f3.f0, .string d.f3.f1, .slice A6 d.f4.length c6] 45 (0, 0))) ∧ Hid (Kd.R Kd.string 9 wr w.heap.size (fun _ => True) v (metB (ms.map toM) k ++ d.f4.take n))) (fun v j wr => d.f4.length - (intOf j).toNat)
              case atStart => exact ⟨0, Nat.zero_le _, rfl, rfl, HB, HP, HN, (show Kd.R _ _ _ _ _ _ _ from by rw [List.take_zero, List.append_nil]; exact HO.out)⟩
              case round =>
                clear HB HP HN HO
                obtain ⟨n, hn, rfl, hun, HB, HP, HN, HO⟩ := hrel
                obtain ⟨f0, f1, f2, f3, f4, f5, f6⟩ := blk7 HN.out
                have hl4 : d.f4.length ≤ 1099511627770 := smm.2.2.2.2.2.1
                by_cases hnl : n < d.f4.length
                · obtain ⟨s, Hs⟩ : ∃ s, Hid (d.f4.getD n emp = s) := ⟨_, rfl⟩
                  obtain ⟨q, Hq⟩ : ∃ s, Hid (d.f4.getD (n - 1) emp = s) := ⟨_, rfl⟩
                  obtain ⟨L, HL⟩ : ∃ L, Hid (metB (ms.map toM) k ++ d.f4.take n = L) := ⟨_, rfl⟩
                  obtain ⟨ad6, hA6, hcs⟩ := strC_cell (Kd.C_below g6 HB.out) hnl
                  have hprev : 0 < n → wr.cell? (ad6.add (n - 1)) = some (.string q) := fun h0 => by
                    obtain ⟨ad', hA', hc'⟩ := strC_cell (Kd.C_below g6 HB.out) (show n - 1 < d.f4.length by omega)
                    rw [hA6] at hA'; cases hA'; rw [Hq.out] at hc'; exact hc'
                  have HPv := Lib.hid hprev; clear hprev
                  subst hA6
                  rw [Hs.out] at hcs
                  rw [HL.out] at HO
                  have ss : s.size ≤ 1099511627770 := by rw [← Hs.out]; exact getD_le smm.2.2.2.2.2.2 n
                  have hpk : pkgOk d.f0.f0 d.f4 n = ((withinB s d.f0.f0).2 && (importB s && (decide (n = 0) || Op.bytesLess q.toList s.toList))) := by unfold pkgOk; rw [Hs.out, Hq.out]
                  have Hpk := Lib.hid hpk; clear hpk
                  have hnp : newP (ms.map toM) k n = !inB s L := by unfold newP; rw [Hm.out, ← HL.out]; show (!inB (d.f4.getD n emp) _) = _; rw [Hs.out]; rfl
                  have Hnp := Lib.hid hnp; clear hnp
                  have hb0 : (pkgOk d.f0.f0 d.f4 n && newP (ms.map toM) k n) = false → listErr (ms.map toM) (rs.map toR) = 190 := fun h => Hbad.out (by rw [Hmo.out]; exact upto_no (f := fun n => pkgOk d.f0.f0 d.f4 n && newP (ms.map toM) k n) h _ hnl)
                  have Hb0 := Lib.hid hb0; clear hb0
                  have lL : L.length ≤ 2199023255540 := by
                    rw [← HL.out, List.length_append, List.length_take]
                    have := metB_le (ms.map toM) (k := k) (by rw [Hlen.out]; omega)
                    omega
                  have hlen : (L.length + 1) * 16 ≤ 140737488355328 := by omega
                  by_cases hn0 : n = 0
                  · as_aux_lemma =>
                      subst hn0
                      have hcs0 : wr.cell? ad6 = some (.string s) := hcs
                      clear hcs
                      have hd1 : decide ((0 : Int) < ((0 : Nat) : Int)) = false := by decide
                      have hcp := f0
                      cases w1 : (withinB s d.f0.f0).2 with
                      | false =>
                        cases i1 : importB s with
                        | false =>
                          have i2 : (pathErr (importB s) != 0) = true := by rw [i1]; rfl
                          go_wp2_with (first | (go_at_call 35; (with_reducible refine (rwithin_any _ _ _ ss z1).mono ?_); rintro e w2 ⟨rfl, hb2⟩; have HN1 := Lib.hid (blk_at HN.out hb2); have HP1 := Lib.hid (blk_at HP.out hb2); have HB1 := Lib.hid (HB.out.trans (hb2.mono HB.out.size)); have HO1 := Lib.hid (Kd.R_below HO.out hb2); clear HN HP HB HO; have HN := HN1; have HP := HP1; have HB := HB1; have HO := HO1; clear HN1 HP1 HB1 HO1; obtain ⟨f0, f1, f2, f3, f4, f5, f6⟩ := blk7 HN.out; have hcq := pw_cell_below hb2 hcp; clear hcp; have hcp := hcq; clear hcq hb2) | (go_at_call 36; (with_reducible refine (rimport_any _ _ ss).mono ?_); rintro e w2 ⟨rfl, hb2⟩; have HN1 := Lib.hid (blk_at HN.out hb2); have HP1 := Lib.hid (blk_at HP.out hb2); have HB1 := Lib.hid (HB.out.trans (hb2.mono HB.out.size)); have HO1 := Lib.hid (Kd.R_below HO.out hb2); clear HN HP HB HO; have HN := HN1; have HP := HP1; have HB := HB1; have HO := HO1; clear HN1 HP1 HB1 HO1; obtain ⟨f0, f1, f2, f3, f4, f5, f6⟩ := blk7 HN.out; have hcq := pw_cell_below hb2 hcp; clear hcp; have hcp := hcq; clear hcq hb2))
                          go_ret
                          exact ⟨by rw [Hb0.out (by rw [Hpk.out, w1]; simp)]; rfl, HB.out⟩
                        | true =>
                          have i2 : (pathErr (importB s) != 0) = false := by rw [i1]; rfl
                          go_wp2_with (first | (go_at_call 35; (with_reducible refine (rwithin_any _ _ _ ss z1).mono ?_); rintro e w2 ⟨rfl, hb2⟩; have HN1 := Lib.hid (blk_at HN.out hb2); have HP1 := Lib.hid (blk_at HP.out hb2); have HB1 := Lib.hid (HB.out.trans (hb2.mono HB.out.size)); have HO1 := Lib.hid (Kd.R_below HO.out hb2); clear HN HP HB HO; have HN := HN1; have HP := HP1; have HB := HB1; have HO := HO1; clear HN1 HP1 HB1 HO1; obtain ⟨f0, f1, f2, f3, f4, f5, f6⟩ := blk7 HN.out; have hcq := pw_cell_below hb2 hcp; clear hcp; have hcp := hcq; clear hcq hb2) | (go_at_call 36; (with_reducible refine (rimport_any _ _ ss).mono ?_); rintro e w2 ⟨rfl, hb2⟩; have HN1 := Lib.hid (blk_at HN.out hb2); have HP1 := Lib.hid (blk_at HP.out hb2); have HB1 := Lib.hid (HB.out.trans (hb2.mono HB.out.size)); have HO1 := Lib.hid (Kd.R_below HO.out hb2); clear HN HP HB HO; have HN := HN1; have HP := HP1; have HB := HB1; have HO := HO1; clear HN1 HP1 HB1 HO1; obtain ⟨f0, f1, f2, f3, f4, f5, f6⟩ := blk7 HN.out; have hcq := pw_cell_below hb2 hcp; clear hcp; have hcp := hcq; clear hcq hb2))
                          go_ret
                          exact ⟨by rw [Hb0.out (by rw [Hpk.out, w1]; simp)]; rfl, HB.out⟩
                      | true =>
                        cases i1 : importB s with
                        | false =>
                          have i2 : (pathErr (importB s) != 0) = true := by rw [i1]; rfl
                          go_wp2_with (first | (go_at_call 35; (with_reducible refine (rwithin_any _ _ _ ss z1).mono ?_); rintro e w2 ⟨rfl, hb2⟩; have HN1 := Lib.hid (blk_at HN.out hb2); have HP1 := Lib.hid (blk_at HP.out hb2); have HB1 := Lib.hid (HB.out.trans (hb2.mono HB.out.size)); have HO1 := Lib.hid (Kd.R_below HO.out hb2); clear HN HP HB HO; have HN := HN1; have HP := HP1; have HB := HB1; have HO := HO1; clear HN1 HP1 HB1 HO1; obtain ⟨f0, f1, f2, f3, f4, f5, f6⟩ := blk7 HN.out; have hcq := pw_cell_below hb2 hcp; clear hcp; have hcp := hcq; clear hcq hb2) | (go_at_call 36; (with_reducible refine (rimport_any _ _ ss).mono ?_); rintro e w2 ⟨rfl, hb2⟩; have HN1 := Lib.hid (blk_at HN.out hb2); have HP1 := Lib.hid (blk_at HP.out hb2); have HB1 := Lib.hid (HB.out.trans (hb2.mono HB.out.size)); have HO1 := Lib.hid (Kd.R_below HO.out hb2); clear HN HP HB HO; have HN := HN1; have HP := HP1; have HB := HB1; have HO := HO1; clear HN1 HP1 HB1 HO1; obtain ⟨f0, f1, f2, f3, f4, f5, f6⟩ := blk7 HN.out; have hcq := pw_cell_below hb2 hcp; clear hcp; have hcp := hcq; clear hcq hb2))
                          go_ret
                          exact ⟨by rw [Hb0.out (by rw [Hpk.out, i1]; simp)]; rfl, HB.out⟩
                        | true =>
                          have i2 : (pathErr (importB s) != 0) = false := by rw [i1]; rfl
                          go_wp2_with (first | (go_at_call 35; (with_reducible refine (rwithin_any _ _ _ ss z1).mono ?_); rintro e w2 ⟨rfl, hb2⟩; have HN1 := Lib.hid (blk_at HN.out hb2); have HP1 := Lib.hid (blk_at HP.out hb2); have HB1 := Lib.hid (HB.out.trans (hb2.mono HB.out.size)); have HO1 := Lib.hid (Kd.R_below HO.out hb2); clear HN HP HB HO; have HN := HN1; have HP := HP1; have HB := HB1; have HO := HO1; clear HN1 HP1 HB1 HO1; obtain ⟨f0, f1, f2, f3, f4, f5, f6⟩ := blk7 HN.out; have hcq := pw_cell_below hb2 hcp; clear hcp; have hcp := hcq; clear hcq hb2) | (go_at_call 36; (with_reducible refine (rimport_any _ _ ss).mono ?_); rintro e w2 ⟨rfl, hb2⟩; have HN1 := Lib.hid (blk_at HN.out hb2); have HP1 := Lib.hid (blk_at HP.out hb2); have HB1 := Lib.hid (HB.out.trans (hb2.mono HB.out.size)); have HO1 := Lib.hid (Kd.R_below HO.out hb2); clear HN HP HB HO; have HN := HN1; have HP := HP1; have HB := HB1; have HO := HO1; clear HN1 HP1 HB1 HO1; obtain ⟨f0, f1, f2, f3, f4, f5, f6⟩ := blk7 HN.out; have hcq := pw_cell_below hb2 hcp; clear hcp; have hcp := hcq; clear hcq hb2))
                          have Hpk1 : Hid (pkgOk d.f0.f0 d.f4 0 = true) := (show _ = _ from by rw [Hpk.out, w1, i1]; simp)
                          obtain ⟨Al, cl, hv, hlc, hC⟩ := Kd.R_reads HO.out
                          subst hv
                          go_loop [10] (fun i => ∃ q : Nat, q ≤ L.length ∧ i = .int .i64 q ∧ Hid (inB s (L.take q) = false)) (fun i => L.length - (intOf i).toNat)
                          case atStart => exact ⟨0, Nat.zero_le _, rfl, rfl⟩
                          case round =>
                            obtain ⟨y, hy, rfl, hin⟩ := hrel
                            by_cases hyl : y < L.length
                            · obtain ⟨al, hAl, hcl⟩ := strC_cell hC hyl
                              subst hAl
                              obtain ⟨u, Hu⟩ : ∃ u, Hid (L.getD y emp = u) := ⟨_, rfl⟩
                              rw [Hu.out] at hcl
                              have hin2 : inB s (L.take (y + 1)) = (u.toList == s.toList) := by rw [take_getD hyl Hu.out]; unfold inB; rw [List.any_append]; have h0 := hin.out; unfold inB at h0; rw [h0]; simp
                              have Hin2 := Lib.hid hin2; clear hin2
                              by_cases hy0 : y = 0
                              · subst hy0
                                rw [show al.add 0 = al from rfl] at hcl
                                cases s2 : (u.toList == s.toList) with
                                | true =>
                                  go_wp2
                                  go_ret
                                  exact ⟨by rw [Hb0.out (by rw [Hnp.out, inB_take (Hin2.out.trans s2)]; simp)]; rfl, HB.out⟩
                                | false =>
                                  go_wp2
                                  go_round
                                  case rel => exact ⟨1, by omega, by go_num, Hin2.out.trans s2⟩
                                  case measure => simp [intOf]; omega
                              · cases s2 : (u.toList == s.toList) with
                                | true =>
                                  go_wp2
                                  go_ret
                                  exact ⟨by rw [Hb0.out (by rw [Hnp.out, inB_take (Hin2.out.trans s2)]; simp)]; rfl, HB.out⟩
                                | false =>
                                  go_wp2
                                  go_round
                                  case rel => exact ⟨y + 1, by omega, by go_num, Hin2.out.trans s2⟩
                                  case measure => simp [intOf]; omega
                            · obtain rfl : y = L.length := by omega
                              have hnew : inB s L = false := by have := hin.out; rwa [List.take_length] at this
                              have Hnew := Lib.hid hnew; clear hnew
                              go_wp2_with ((with_reducible refine gate_builtin (b := .append) (xs := #[.tmp 152, .tmp 154]) rfl ?_); at_builtin; refine Kd.R_append Kd.string (w0 := w) w.heap.size rfl (.tmp 152) (.tmp 154) 39 9 (.string ⟨#[]⟩) 16 rfl Tryz.underlying39 infoStr rfl (by decide) (by omega) (.slice Al L.length cl) L s [.string s] (fun _ => True) (fun _ => False) rfl rfl ?aP (fun _ hk => hk.elim) (fun _ _ => trivial) HO.out HB.out HB.out.size hlen ?_; (case aP => exact (show _ = _ from rfl)); intro v2 w3 ho hb3 hg3 hat3)
                              go_roundw
                              case rel => exact ⟨1, by omega, by go_num, (show upto (fun n => pkgOk d.f0.f0 d.f4 n && newP (ms.map toM) k n) 1 = true from by simp only [upto, hun.out, Hpk1.out, Hnp.out, Hnew.out]; rfl), hb3, blk_grown HP.out hg3 (Kd.R_ne HO.out HP.out (by decide)), blk_grown HN.out hg3 (Kd.R_ne HO.out HN.out (by decide)), (show Kd.R _ _ _ _ _ _ _ from by rw [take_getD hnl Hs.out, ← List.append_assoc, HL.out]; exact ho)⟩
                              case measure => simp [intOf]; omega
                  · as_aux_lemma =>
                      have hd1 : decide ((0 : Int) < (n : Int)) = true := decide_eq_true (by omega)
                      have hn1 : (1 : Int) ≤ (n : Int) := by omega
                      have hcp := HPv.out (by omega)
                      cases w1 : (withinB s d.f0.f0).2 with
                      | false =>
                        cases i1 : importB s with
                        | false =>
                          have i2 : (pathErr (importB s) != 0) = true := by rw [i1]; rfl
                          go_wp2_with (first | (go_at_call 35; (with_reducible refine (rwithin_any _ _ _ ss z1).mono ?_); rintro e w2 ⟨rfl, hb2⟩; have HN1 := Lib.hid (blk_at HN.out hb2); have HP1 := Lib.hid (blk_at HP.out hb2); have HB1 := Lib.hid (HB.out.trans (hb2.mono HB.out.size)); have HO1 := Lib.hid (Kd.R_below HO.out hb2); clear HN HP HB HO; have HN := HN1; have HP := HP1; have HB := HB1; have HO := HO1; clear HN1 HP1 HB1 HO1; obtain ⟨f0, f1, f2, f3, f4, f5, f6⟩ := blk7 HN.out; have hcq := pw_cell_below hb2 hcp; clear hcp; have hcp := hcq; clear hcq hb2) | (go_at_call 36; (with_reducible refine (rimport_any _ _ ss).mono ?_); rintro e w2 ⟨rfl, hb2⟩; have HN1 := Lib.hid (blk_at HN.out hb2); have HP1 := Lib.hid (blk_at HP.out hb2); have HB1 := Lib.hid (HB.out.trans (hb2.mono HB.out.size)); have HO1 := Lib.hid (Kd.R_below HO.out hb2); clear HN HP HB HO; have HN := HN1; have HP := HP1; have HB := HB1; have HO := HO1; clear HN1 HP1 HB1 HO1; obtain ⟨f0, f1, f2, f3, f4, f5, f6⟩ := blk7 HN.out; have hcq := pw_cell_below hb2 hcp; clear hcp; have hcp := hcq; clear hcq hb2))
                          go_ret
                          exact ⟨by rw [Hb0.out (by rw [Hpk.out, w1]; simp)]; rfl, HB.out⟩
                        | true =>
                          have i2 : (pathErr (importB s) != 0) = false := by rw [i1]; rfl
                          go_wp2_with (first | (go_at_call 35; (with_reducible refine (rwithin_any _ _ _ ss z1).mono ?_); rintro e w2 ⟨rfl, hb2⟩; have HN1 := Lib.hid (blk_at HN.out hb2); have HP1 := Lib.hid (blk_at HP.out hb2); have HB1 := Lib.hid (HB.out.trans (hb2.mono HB.out.size)); have HO1 := Lib.hid (Kd.R_below HO.out hb2); clear HN HP HB HO; have HN := HN1; have HP := HP1; have HB := HB1; have HO := HO1; clear HN1 HP1 HB1 HO1; obtain ⟨f0, f1, f2, f3, f4, f5, f6⟩ := blk7 HN.out; have hcq := pw_cell_below hb2 hcp; clear hcp; have hcp := hcq; clear hcq hb2) | (go_at_call 36; (with_reducible refine (rimport_any _ _ ss).mono ?_); rintro e w2 ⟨rfl, hb2⟩; have HN1 := Lib.hid (blk_at HN.out hb2); have HP1 := Lib.hid (blk_at HP.out hb2); have HB1 := Lib.hid (HB.out.trans (hb2.mono HB.out.size)); have HO1 := Lib.hid (Kd.R_below HO.out hb2); clear HN HP HB HO; have HN := HN1; have HP := HP1; have HB := HB1; have HO := HO1; clear HN1 HP1 HB1 HO1; obtain ⟨f0, f1, f2, f3, f4, f5, f6⟩ := blk7 HN.out; have hcq := pw_cell_below hb2 hcp; clear hcp; have hcp := hcq; clear hcq hb2))
                          go_ret
                          exact ⟨by rw [Hb0.out (by rw [Hpk.out, w1]; simp)]; rfl, HB.out⟩
                      | true =>
                        cases i1 : importB s with
                        | false =>
                          have i2 : (pathErr (importB s) != 0) = true := by rw [i1]; rfl
                          go_wp2_with (first | (go_at_call 35; (with_reducible refine (rwithin_any _ _ _ ss z1).mono ?_); rintro e w2 ⟨rfl, hb2⟩; have HN1 := Lib.hid (blk_at HN.out hb2); have HP1 := Lib.hid (blk_at HP.out hb2); have HB1 := Lib.hid (HB.out.trans (hb2.mono HB.out.size)); have HO1 := Lib.hid (Kd.R_below HO.out hb2); clear HN HP HB HO; have HN := HN1; have HP := HP1; have HB := HB1; have HO := HO1; clear HN1 HP1 HB1 HO1; obtain ⟨f0, f1, f2, f3, f4, f5, f6⟩ := blk7 HN.out; have hcq := pw_cell_below hb2 hcp; clear hcp; have hcp := hcq; clear hcq hb2) | (go_at_call 36; (with_reducible refine (rimport_any _ _ ss).mono ?_); rintro e w2 ⟨rfl, hb2⟩; have HN1 := Lib.hid (blk_at HN.out hb2); have HP1 := Lib.hid (blk_at HP.out hb2); have HB1 := Lib.hid (HB.out.trans (hb2.mono HB.out.size)); have HO1 := Lib.hid (Kd.R_below HO.out hb2); clear HN HP HB HO; have HN := HN1; have HP := HP1; have HB := HB1; have HO := HO1; clear HN1 HP1 HB1 HO1; obtain ⟨f0, f1, f2, f3, f4, f5, f6⟩ := blk7 HN.out; have hcq := pw_cell_below hb2 hcp; clear hcp; have hcp := hcq; clear hcq hb2))
                          go_ret
                          exact ⟨by rw [Hb0.out (by rw [Hpk.out, i1]; simp)]; rfl, HB.out⟩
                        | true =>
                          have i2 : (pathErr (importB s) != 0) = false := by rw [i1]; rfl
                          cases s3 : Op.bytesLess q.toList s.toList with
                          | false =>
                            go_wp2_with (first | (go_at_call 35; (with_reducible refine (rwithin_any _ _ _ ss z1).mono ?_); rintro e w2 ⟨rfl, hb2⟩; have HN1 := Lib.hid (blk_at HN.out hb2); have HP1 := Lib.hid (blk_at HP.out hb2); have HB1 := Lib.hid (HB.out.trans (hb2.mono HB.out.size)); have HO1 := Lib.hid (Kd.R_below HO.out hb2); clear HN HP HB HO; have HN := HN1; have HP := HP1; have HB := HB1; have HO := HO1; clear HN1 HP1 HB1 HO1; obtain ⟨f0, f1, f2, f3, f4, f5, f6⟩ := blk7 HN.out; have hcq := pw_cell_below hb2 hcp; clear hcp; have hcp := hcq; clear hcq hb2) | (go_at_call 36; (with_reducible refine (rimport_any _ _ ss).mono ?_); rintro e w2 ⟨rfl, hb2⟩; have HN1 := Lib.hid (blk_at HN.out hb2); have HP1 := Lib.hid (blk_at HP.out hb2); have HB1 := Lib.hid (HB.out.trans (hb2.mono HB.out.size)); have HO1 := Lib.hid (Kd.R_below HO.out hb2); clear HN HP HB HO; have HN := HN1; have HP := HP1; have HB := HB1; have HO := HO1; clear HN1 HP1 HB1 HO1; obtain ⟨f0, f1, f2, f3, f4, f5, f6⟩ := blk7 HN.out; have hcq := pw_cell_below hb2 hcp; clear hcp; have hcp := hcq; clear hcq hb2))
                            go_ret
                            exact ⟨by rw [Hb0.out (by rw [Hpk.out, w1, i1, s3, decide_eq_false hn0]; simp)]; rfl, HB.out⟩
                          | true =>
                            go_wp2_with (first | (go_at_call 35; (with_reducible refine (rwithin_any _ _ _ ss z1).mono ?_); rintro e w2 ⟨rfl, hb2⟩; have HN1 := Lib.hid (blk_at HN.out hb2); have HP1 := Lib.hid (blk_at HP.out hb2); have HB1 := Lib.hid (HB.out.trans (hb2.mono HB.out.size)); have HO1 := Lib.hid (Kd.R_below HO.out hb2); clear HN HP HB HO; have HN := HN1; have HP := HP1; have HB := HB1; have HO := HO1; clear HN1 HP1 HB1 HO1; obtain ⟨f0, f1, f2, f3, f4, f5, f6⟩ := blk7 HN.out; have hcq := pw_cell_below hb2 hcp; clear hcp; have hcp := hcq; clear hcq hb2) | (go_at_call 36; (with_reducible refine (rimport_any _ _ ss).mono ?_); rintro e w2 ⟨rfl, hb2⟩; have HN1 := Lib.hid (blk_at HN.out hb2); have HP1 := Lib.hid (blk_at HP.out hb2); have HB1 := Lib.hid (HB.out.trans (hb2.mono HB.out.size)); have HO1 := Lib.hid (Kd.R_below HO.out hb2); clear HN HP HB HO; have HN := HN1; have HP := HP1; have HB := HB1; have HO := HO1; clear HN1 HP1 HB1 HO1; obtain ⟨f0, f1, f2, f3, f4, f5, f6⟩ := blk7 HN.out; have hcq := pw_cell_below hb2 hcp; clear hcp; have hcp := hcq; clear hcq hb2))
                            have Hpk1 : Hid (pkgOk d.f0.f0 d.f4 n = true) := (show _ = _ from by rw [Hpk.out, w1, i1, s3]; simp)
                            obtain ⟨Al, cl, hv, hlc, hC⟩ := Kd.R_reads HO.out
                            subst hv
                            go_loop [10] (fun i => ∃ q : Nat, q ≤ L.length ∧ i = .int .i64 q ∧ Hid (inB s (L.take q) = false)) (fun i => L.length - (intOf i).toNat)
                            case atStart => exact ⟨0, Nat.zero_le _, rfl, rfl⟩
                            case round =>
                              obtain ⟨y, hy, rfl, hin⟩ := hrel
                              by_cases hyl : y < L.length
                              · obtain ⟨al, hAl, hcl⟩ := strC_cell hC hyl
                                subst hAl
                                obtain ⟨u, Hu⟩ : ∃ u, Hid (L.getD y emp = u) := ⟨_, rfl⟩
                                rw [Hu.out] at hcl
                                have hin2 : inB s (L.take (y + 1)) = (u.toList == s.toList) := by rw [take_getD hyl Hu.out]; unfold inB; rw [List.any_append]; have h0 := hin.out; unfold inB at h0; rw [h0]; simp
                                have Hin2 := Lib.hid hin2; clear hin2
                                by_cases hy0 : y = 0
                                · subst hy0
                                  rw [show al.add 0 = al from rfl] at hcl
                                  cases s2 : (u.toList == s.toList) with
                                  | true =>
                                    go_wp2
                                    go_ret
                                    exact ⟨by rw [Hb0.out (by rw [Hnp.out, inB_take (Hin2.out.trans s2)]; simp)]; rfl, HB.out⟩
                                  | false =>
                                    go_wp2
                                    go_round
                                    case rel => exact ⟨1, by omega, by go_num, Hin2.out.trans s2⟩
                                    case measure => simp [intOf]; omega
                                · cases s2 : (u.toList == s.toList) with
                                  | true =>
                                    go_wp2
                                    go_ret
                                    exact ⟨by rw [Hb0.out (by rw [Hnp.out, inB_take (Hin2.out.trans s2)]; simp)]; rfl, HB.out⟩
                                  | false =>
                                    go_wp2
                                    go_round
                                    case rel => exact ⟨y + 1, by omega, by go_num, Hin2.out.trans s2⟩
                                    case measure => simp [intOf]; omega
                              · obtain rfl : y = L.length := by omega
                                have hnew : inB s L = false := by have := hin.out; rwa [List.take_length] at this
                                have Hnew := Lib.hid hnew; clear hnew
                                go_wp2_with ((with_reducible refine gate_builtin (b := .append) (xs := #[.tmp 152, .tmp 154]) rfl ?_); at_builtin; refine Kd.R_append Kd.string (w0 := w) w.heap.size rfl (.tmp 152) (.tmp 154) 39 9 (.string ⟨#[]⟩) 16 rfl Tryz.underlying39 infoStr rfl (by decide) (by omega) (.slice Al L.length cl) L s [.string s] (fun _ => True) (fun _ => False) rfl rfl ?aP (fun _ hk => hk.elim) (fun _ _ => trivial) HO.out HB.out HB.out.size hlen ?_; (case aP => exact (show _ = _ from rfl)); intro v2 w3 ho hb3 hg3 hat3)
                                go_roundw
                                case rel => exact ⟨n + 1, by omega, by go_num, (show upto (fun n => pkgOk d.f0.f0 d.f4 n && newP (ms.map toM) k n) (n + 1) = true from by simp only [upto, hun.out, Hpk1.out, Hnp.out, Hnew.out]; rfl), hb3, blk_grown HP.out hg3 (Kd.R_ne HO.out HP.out (by decide)), blk_grown HN.out hg3 (Kd.R_ne HO.out HN.out (by decide)), (show Kd.R _ _ _ _ _ _ _ from by rw [take_getD hnl Hs.out, ← List.append_assoc, HL.out]; exact ho)⟩
                                case measure => simp [intOf]; omega
                · obtain rfl : n = d.f4.length := by omega
                  go_wp2
                  go_roundw
                  case rel =>
                    refine ⟨k + 1, by omega, by go_num, (show upto (modOk (ms.map toM)) (k + 1) = true from by simp only [upto, hu.out, Hmo.out, hun.out]; rfl), HB, HP, (show Kd.R _ _ _ _ _ _ _ from ?_)⟩
                    rw [metB_succ _ _ (by rw [Hlen.out]; exact hlt), Hm.out]
                    have := HO.out
                    rw [List.take_length] at this
                    exact this
                  case measure => simp [intOf]; omega
    · obtain rfl : k = ms.length := by omega
      have HU : Hid (upto (modOk (ms.map toM)) (ms.map toM).length = true) := (show _ = _ from by rw [List.length_map]; exact hu.out)
      go_wp2
      clear p0 p1
      obtain ⟨wo, rfl⟩ : ∃ wo : World, wo = wr := ⟨_, rfl⟩
      go_loopw [11] (fun i wr => ∃ n : Nat, n ≤ rs.length ∧ i = .int .i64 n ∧ Hid (upto (repOk (rs.map toR)) n = true) ∧ Hid (Below w.heap.size w wr) ∧ Hid (wr.heap[w.heap.size]? = some (.cells #[.slice A0 ms.length c0, .slice A1 rs.length c1] 35 (0, 0)))) (fun i wr => rs.length - (intOf i).toNat)
      case atStart => exact ⟨0, Nat.zero_le _, rfl, rfl, HB, HP⟩
      case round =>
        clear HB HP HO hu
        obtain ⟨n, hn, rfl, hun, HB, HP⟩ := hrel
        obtain ⟨p0, p1⟩ := blk2 HP.out
        have hlen : (rs.map toR).length = rs.length := List.length_map _
        have Hlen := Lib.hid hlen; clear hlen
        by_cases hnl : n < rs.length
        · obtain ⟨r, Hr⟩ : ∃ r, Hid (rs.getD n zDR = r) := ⟨_, rfl⟩
          obtain ⟨ad, hA, e0, e1, e2, e3⟩ := rrep_at h1 hnl Hr.out
          have hprev : 0 < n → wr.cell? (ad.add ((n - 1) * 4)) = some (.string (rs.getD (n - 1) zDR).f0.f0) ∧ wr.cell? ⟨(ad.add ((n - 1) * 4)).block, (ad.add ((n - 1) * 4)).off + 1, none⟩ = some (.string (rs.getD (n - 1) zDR).f0.f1) := fun hk0 => by
            obtain ⟨ad', hA', q0, q1, _⟩ := rrep_at h1 (show n - 1 < rs.length by omega) rfl
            rw [hA] at hA'; cases hA'
            exact ⟨pw_cell_below HB.out q0, pw_cell_below HB.out q1⟩
          have HPrev := Lib.hid hprev; clear hprev
          subst hA
          replace e0 := pw_cell_below HB.out e0; replace e1 := pw_cell_below HB.out e1; replace e2 := pw_cell_below HB.out e2; replace e3 := pw_cell_below HB.out e3
          have smr : SmallR (toR r) := Hr.out ▸ sr _ (getD_mem hnl)
          have z1 : r.f0.f0.size ≤ 1099511627770 := smr.1
          have z2 : r.f0.f1.size ≤ 1099511627770 := smr.2.1
          have z3 : r.f1.f0.size ≤ 1099511627770 := smr.2.2.1
          have z4 : r.f1.f1.size ≤ 1099511627770 := smr.2.2.2
          have hrm : (rs.map toR).getD n zR = toR r := by rw [show zR = toR zDR from rfl, getD_map, Hr.out]
          have Hrm := Lib.hid hrm; clear hrm
          have HN := Lib.hid (blk_new wr (.cells #[.string r.f0.f0, .string r.f0.f1, .string r.f1.f0, .string r.f1.f1] 72))
          have HPn := Lib.hid (blk_at HP.out (below_alloc (Below.refl _ wr) (.cells #[.string r.f0.f0, .string r.f0.f1, .string r.f1.f0, .string r.f1.f1] 72)))
          have HBn := Lib.hid (below_alloc HB.out (.cells #[.string r.f0.f0, .string r.f0.f1, .string r.f1.f0, .string r.f1.f1] 72))
          obtain ⟨c, Hc⟩ : ∃ c, Hid (c = !repOk (rs.map toR) n) := ⟨_, rfl⟩
          obtain ⟨n0, n1, n2, n3⟩ := blk4 HN.out
          obtain ⟨pn0, pn1⟩ := blk2 HPn.out
          go_wp2_with fail
          go_cut [207] (fun v wc => v = .bool c ∧ Hid (Below w.heap.size w wc) ∧ Hid (wc.heap[w.heap.size]? = some (.cells #[.slice A0 ms.length c0, .slice (some ad) rs.length c1] 35 (0, 0))))
          case first =>
            cases m1 : moduleB r.f0.f0 with
            | false =>
              have m2 : (pathErr false != 0) = true := by decide
              as_aux_lemma =>
                refine pl_start 40 ((0, 0) :: (1, 0) :: (2, 1) :: (3, 2) :: (4, 0) :: (5, 0) :: (6, 3) :: (7, 3) :: (8, 4) :: (9, 3) :: (10, 3) :: (11, 3) :: (12, 4) :: (13, 5) :: (14, 3) :: (15, 3) :: (16, 0) :: (17, 0) :: (18, 3) :: (19, 4) :: (20, 5) :: (21, 3) :: (22, 0) :: (23, 0) :: (24, 3) :: (25, 3) :: (26, 3) :: (27, 3) :: (29, 3) :: (30, 3) :: (34, 3) :: (28, 4) :: (31, 3) :: (32, 3) :: (33, 4) :: (35, 4) :: (36, 5) :: (37, 3) :: (38, 3) :: (39, 0) :: []) (fun w' => w'.cell? ⟨wr.heap.size, 0, none⟩ = some (.string r.f0.f0) ∧ w'.cell? ⟨wr.heap.size, 1, none⟩ = some (.string r.f0.f1) ∧ w'.cell? ⟨wr.heap.size, 2, none⟩ = some (.string r.f1.f0) ∧ w'.cell? ⟨wr.heap.size, 3, none⟩ = some (.string r.f1.f1)) [] ⟨n0, n1, n2, n3⟩ (fun hs => ?_)
                repeat (first | refine pl_pure ?_ | refine pl_skip hs ?_ | refine pl_load hs ?_)
                refine pl_call #[.string r.f0.f0] Tryz.func37 ?_
                (with_reducible refine (rmodule_any _ _ z1).mono ?_)
                rintro e w2 ⟨rfl, hb2⟩
                have HN1 := Lib.hid (blk_d hb2 rfl HN.out); have HP1 := Lib.hid (blk_d hb2 rfl HPn.out); have HB1 := Lib.hid (bel_d HBn.out (.inr rfl) hb2); clear HN HPn HBn; have HN := HN1; have HPn := HP1; have HBn := HB1; clear HN1 HP1 HB1
                clear hb2
                obtain ⟨f0, f1, f2, f3⟩ := blk4 HN.out
                obtain ⟨r0, r1⟩ := blk2 HPn.out
                refine ⟨_, rfl, ⟨f0, f1, f2, f3⟩, fun hs => ?_⟩
                rw [m1]
                refine pl_norm ?_
                repeat (first | refine pl_pure ?_ | refine pl_skip hs ?_ | refine pl_load hs ?_)
                refine plan_done ?_
                go_wp2_with fail
                go_meet
                exact ⟨by rw [Hc.out, show repOk (rs.map toR) n = false from by unfold repOk; rw [Hrm.out]; simp only [show (toR r).f0 = r.f0 from rfl, show (toR r).f1 = r.f1 from rfl, m1]; rfl]; rfl, HBn, HPn⟩
            | true =>
              have m2 : (pathErr true != 0) = false := by decide
              cases v1 : r.f0.f1.toList.isEmpty with
              | true =>
                have v2 : (r.f0.f1.toList != []) = false := by rw [bne_empty, v1]; rfl
                cases k2 : isKnown r.f1.f0 r.f1.f1 with
                | false =>
                  as_aux_lemma =>
                    refine pl_start 40 ((0, 0) :: (1, 0) :: (2, 1) :: (3, 2) :: (4, 0) :: (5, 0) :: (6, 0) :: (7, 0) :: (8, 1) :: (9, 0) :: (10, 0) :: (11, 3) :: (12, 4) :: (13, 5) :: (14, 3) :: (15, 0) :: (16, 0) :: (17, 0) :: (18, 0) :: (19, 1) :: (20, 2) :: (21, 0) :: (22, 0) :: (23, 0) :: (24, 3) :: (25, 3) :: (26, 3) :: (27, 3) :: (29, 3) :: (30, 3) :: (34, 3) :: (28, 4) :: (31, 3) :: (32, 3) :: (33, 4) :: (35, 4) :: (36, 5) :: (37, 3) :: (38, 3) :: (39, 0) :: []) (fun w' => w'.cell? ⟨wr.heap.size, 0, none⟩ = some (.string r.f0.f0) ∧ w'.cell? ⟨wr.heap.size, 1, none⟩ = some (.string r.f0.f1) ∧ w'.cell? ⟨wr.heap.size, 2, none⟩ = some (.string r.f1.f0) ∧ w'.cell? ⟨wr.heap.size, 3, none⟩ = some (.string r.f1.f1)) [] ⟨n0, n1, n2, n3⟩ (fun hs => ?_)
                    repeat (first | refine pl_pure ?_ | refine pl_skip hs ?_ | refine pl_load hs ?_)
                    refine pl_call #[.string r.f0.f0] Tryz.func37 ?_
                    (with_reducible refine (rmodule_any _ _ z1).mono ?_)
                    rintro e w2 ⟨rfl, hb2⟩
                    have HN1 := Lib.hid (blk_d hb2 rfl HN.out); have HP1 := Lib.hid (blk_d hb2 rfl HPn.out); have HB1 := Lib.hid (bel_d HBn.out (.inr rfl) hb2); clear HN HPn HBn; have HN := HN1; have HPn := HP1; have HBn := HB1; clear HN1 HP1 HB1
                    clear hb2
                    obtain ⟨f0, f1, f2, f3⟩ := blk4 HN.out
                    obtain ⟨r0, r1⟩ := blk2 HPn.out
                    refine ⟨_, rfl, ⟨f0, f1, f2, f3⟩, fun hs => ?_⟩
                    rw [m1]
                    refine pl_norm ?_
                    repeat (first | refine pl_pure ?_ | refine pl_skip hs ?_ | refine pl_load hs ?_)
                    refine pl_call #[.agg #[.string r.f1.f0, .string r.f1.f1]] Tryz.func32 ?_
                    (with_reducible refine (rknown_any _ _ _ z3 z4).mono ?_)
                    rintro e w2 ⟨rfl, hb2⟩
                    have HN1 := Lib.hid (blk_d hb2 rfl HN.out); have HP1 := Lib.hid (blk_d hb2 rfl HPn.out); have HB1 := Lib.hid (bel_d HBn.out (.inl rfl) hb2); clear HN HPn HBn; have HN := HN1; have HPn := HP1; have HBn := HB1; clear HN1 HP1 HB1
                    clear hb2
                    obtain ⟨f0, f1, f2, f3⟩ := blk4 HN.out
                    obtain ⟨r0, r1⟩ := blk2 HPn.out
                    refine ⟨_, rfl, ⟨f0, f1, f2, f3⟩, fun hs => ?_⟩
                    rw [k2]
                    refine pl_norm ?_
                    repeat (first | refine pl_pure ?_ | refine pl_skip hs ?_ | refine pl_load hs ?_)
                    refine plan_done ?_
                    go_wp2_with fail
                    go_meet
                    exact ⟨by rw [Hc.out, show repOk (rs.map toR) n = false from by unfold repOk; rw [Hrm.out]; simp only [show (toR r).f0 = r.f0 from rfl, show (toR r).f1 = r.f1 from rfl, m1, v1, k2]; simp]; rfl, HBn, HPn⟩
                | true =>
                  by_cases hn0 : n = 0
                  · subst hn0
                    have hd0 : decide ((0 : Int) < ((0 : Nat) : Int)) = false := by decide
                    as_aux_lemma =>
                      refine pl_start 40 ((0, 0) :: (1, 0) :: (2, 1) :: (3, 2) :: (4, 0) :: (5, 0) :: (6, 0) :: (7, 0) :: (8, 1) :: (9, 0) :: (10, 0) :: (11, 3) :: (12, 4) :: (13, 5) :: (14, 3) :: (15, 0) :: (16, 0) :: (17, 0) :: (18, 0) :: (19, 1) :: (20, 2) :: (21, 0) :: (22, 0) :: (23, 0) :: (24, 0) :: (25, 0) :: (26, 0) :: (27, 3) :: (29, 3) :: (30, 3) :: (34, 3) :: (28, 4) :: (31, 3) :: (32, 3) :: (33, 4) :: (35, 4) :: (36, 5) :: (37, 3) :: (38, 0) :: (39, 0) :: []) (fun w' => w'.cell? ⟨wr.heap.size, 0, none⟩ = some (.string r.f0.f0) ∧ w'.cell? ⟨wr.heap.size, 1, none⟩ = some (.string r.f0.f1) ∧ w'.cell? ⟨wr.heap.size, 2, none⟩ = some (.string r.f1.f0) ∧ w'.cell? ⟨wr.heap.size, 3, none⟩ = some (.string r.f1.f1)) [] ⟨n0, n1, n2, n3⟩ (fun hs => ?_)
                      repeat (first | refine pl_pure ?_ | refine pl_skip hs ?_ | refine pl_load hs ?_)
                      refine pl_call #[.string r.f0.f0] Tryz.func37 ?_
                      (with_reducible refine (rmodule_any _ _ z1).mono ?_)
                      rintro e w2 ⟨rfl, hb2⟩
                      have HN1 := Lib.hid (blk_d hb2 rfl HN.out); have HP1 := Lib.hid (blk_d hb2 rfl HPn.out); have HB1 := Lib.hid (bel_d HBn.out (.inr rfl) hb2); clear HN HPn HBn; have HN := HN1; have HPn := HP1; have HBn := HB1; clear HN1 HP1 HB1
                      clear hb2
                      obtain ⟨f0, f1, f2, f3⟩ := blk4 HN.out
                      obtain ⟨r0, r1⟩ := blk2 HPn.out
                      refine ⟨_, rfl, ⟨f0, f1, f2, f3⟩, fun hs => ?_⟩
                      rw [m1]
                      refine pl_norm ?_
                      repeat (first | refine pl_pure ?_ | refine pl_skip hs ?_ | refine pl_load hs ?_)
                      refine pl_call #[.agg #[.string r.f1.f0, .string r.f1.f1]] Tryz.func32 ?_
                      (with_reducible refine (rknown_any _ _ _ z3 z4).mono ?_)
                      rintro e w2 ⟨rfl, hb2⟩
                      have HN1 := Lib.hid (blk_d hb2 rfl HN.out); have HP1 := Lib.hid (blk_d hb2 rfl HPn.out); have HB1 := Lib.hid (bel_d HBn.out (.inl rfl) hb2); clear HN HPn HBn; have HN := HN1; have HPn := HP1; have HBn := HB1; clear HN1 HP1 HB1
                      clear hb2
                      obtain ⟨f0, f1, f2, f3⟩ := blk4 HN.out
                      obtain ⟨r0, r1⟩ := blk2 HPn.out
                      refine ⟨_, rfl, ⟨f0, f1, f2, f3⟩, fun hs => ?_⟩
                      rw [k2]
                      refine pl_norm ?_
                      repeat (first | refine pl_pure ?_ | refine pl_skip hs ?_ | refine pl_load hs ?_)
                      refine plan_done ?_
                      go_wp2_with fail
                      go_meet
                      exact ⟨by rw [Hc.out, show repOk (rs.map toR) 0 = true from by unfold repOk; rw [Hrm.out]; simp only [show (toR r).f0 = r.f0 from rfl, show (toR r).f1 = r.f1 from rfl, m1, v1, k2]; rfl]; rfl, HBn, HPn⟩
                  · have hd0 : decide ((0 : Int) < (n : Int)) = true := decide_eq_true (by omega)
                    have hk1 : (1 : Int) ≤ (n : Int) := by omega
                    have hkp : 0 < n := by omega
                    have hw1 : IntKind.i64.wrap ((n : Int) - 1) = (n : Int) - 1 := IntWalk.i64_in _ (by omega)
                    have hw3 : ((n : Int) - 1).toNat = n - 1 := by omega
                    have hw4 : (n : Int) - 1 < (rs.length : Int) := by omega
                    obtain ⟨q0, q1⟩ := HPrev.out (by omega)
                    obtain ⟨a, Ha⟩ : ∃ a, Hid ((rs.getD (n - 1) zDR).f0.f0 = a) := ⟨_, rfl⟩
                    obtain ⟨b, Hb⟩ : ∃ b, Hid ((rs.getD (n - 1) zDR).f0.f1 = b) := ⟨_, rfl⟩
                    obtain ⟨x, Hx⟩ : ∃ x, Hid (orderM a b r.f0.f0 r.f0.f1 = x) := ⟨_, rfl⟩
                    rw [Ha.out] at q0
                    rw [Hb.out] at q1
                    have sp := sr _ (getD_mem (z := zDR) (show n - 1 < rs.length by omega))
                    have za : a.size ≤ 1099511627770 := by rw [← Ha.out]; exact sp.1
                    have zb : b.size ≤ 1099511627770 := by rw [← Hb.out]; exact sp.2.1
                    have ho : ordM ((rs.map toR).getD (n - 1) zR).f0 r.f0 = x := by
                      rw [show (rs.map toR).getD (n - 1) zR = toR (rs.getD (n - 1) zDR) from by rw [show zR = toR zDR from rfl, getD_map]]
                      show orderM (rs.getD (n - 1) zDR).f0.f0 (rs.getD (n - 1) zDR).f0.f1 r.f0.f0 r.f0.f1 = x
                      rw [Ha.out, Hb.out, Hx.out]
                    have Ho := Lib.hid ho; clear ho sp
                    have q0n := pw_cell_below (below_alloc (Below.refl _ wr) (.cells #[.string r.f0.f0, .string r.f0.f1, .string r.f1.f0, .string r.f1.f1] 72)) q0
                    have q1n := pw_cell_below (below_alloc (Below.refl _ wr) (.cells #[.string r.f0.f0, .string r.f0.f1, .string r.f1.f0, .string r.f1.f1] 72)) q1
                    clear q0 q1
                    by_cases hx : 0 ≤ x
                    · have hx1 : decide (0 ≤ x) = true := decide_eq_true hx
                      as_aux_lemma =>
                        refine pl_start 40 ((0, 0) :: (1, 0) :: (2, 1) :: (3, 2) :: (4, 0) :: (5, 0) :: (6, 0) :: (7, 0) :: (8, 1) :: (9, 0) :: (10, 0) :: (11, 3) :: (12, 4) :: (13, 5) :: (14, 3) :: (15, 0) :: (16, 0) :: (17, 0) :: (18, 0) :: (19, 1) :: (20, 2) :: (21, 0) :: (22, 0) :: (23, 0) :: (24, 0) :: (25, 0) :: (26, 0) :: (27, 0) :: (29, 0) :: (30, 0) :: (34, 0) :: (28, 1) :: (31, 0) :: (32, 0) :: (33, 1) :: (35, 1) :: (36, 2) :: (37, 0) :: (38, 0) :: (39, 0) :: []) (fun w' => w'.cell? ⟨wr.heap.size, 0, none⟩ = some (.string r.f0.f0) ∧ w'.cell? ⟨wr.heap.size, 1, none⟩ = some (.string r.f0.f1) ∧ w'.cell? ⟨wr.heap.size, 2, none⟩ = some (.string r.f1.f0) ∧ w'.cell? ⟨wr.heap.size, 3, none⟩ = some (.string r.f1.f1) ∧ w'.cell? ⟨w.heap.size, 1, none⟩ = some (.slice (some ad) rs.length c1) ∧ w'.cell? (ad.add ((n - 1) * 4)) = some (.string a) ∧ w'.cell? ⟨(ad.add ((n - 1) * 4)).block, (ad.add ((n - 1) * 4)).off + 1, none⟩ = some (.string b)) [] ⟨n0, n1, n2, n3, pn1, q0n, q1n⟩ (fun hs => ?_)
                        repeat (first | refine pl_pure ?_ | refine pl_skip hs ?_ | refine pl_load hs ?_)
                        refine pl_call #[.string r.f0.f0] Tryz.func37 ?_
                        (with_reducible refine (rmodule_any _ _ z1).mono ?_)
                        rintro e w2 ⟨rfl, hb2⟩
                        have HN1 := Lib.hid (blk_d hb2 rfl HN.out); have HP1 := Lib.hid (blk_d hb2 rfl HPn.out); have HB1 := Lib.hid (bel_d HBn.out (.inr rfl) hb2); clear HN HPn HBn; have HN := HN1; have HPn := HP1; have HBn := HB1; clear HN1 HP1 HB1
                        have q0x := pw_cell_below hb2 q0n; have q1x := pw_cell_below hb2 q1n; clear q0n q1n; have q0n := q0x; have q1n := q1x; clear q0x q1x
                        clear hb2
                        obtain ⟨f0, f1, f2, f3⟩ := blk4 HN.out
                        obtain ⟨r0, r1⟩ := blk2 HPn.out
                        refine ⟨_, rfl, ⟨f0, f1, f2, f3, r1, q0n, q1n⟩, fun hs => ?_⟩
                        rw [m1]
                        refine pl_norm ?_
                        repeat (first | refine pl_pure ?_ | refine pl_skip hs ?_ | refine pl_load hs ?_)
                        refine pl_call #[.agg #[.string r.f1.f0, .string r.f1.f1]] Tryz.func32 ?_
                        (with_reducible refine (rknown_any _ _ _ z3 z4).mono ?_)
                        rintro e w2 ⟨rfl, hb2⟩
                        have HN1 := Lib.hid (blk_d hb2 rfl HN.out); have HP1 := Lib.hid (blk_d hb2 rfl HPn.out); have HB1 := Lib.hid (bel_d HBn.out (.inl rfl) hb2); clear HN HPn HBn; have HN := HN1; have HPn := HP1; have HBn := HB1; clear HN1 HP1 HB1
                        have q0x := pw_cell_below hb2 q0n; have q1x := pw_cell_below hb2 q1n; clear q0n q1n; have q0n := q0x; have q1n := q1x; clear q0x q1x
                        clear hb2
                        obtain ⟨f0, f1, f2, f3⟩ := blk4 HN.out
                        obtain ⟨r0, r1⟩ := blk2 HPn.out
                        refine ⟨_, rfl, ⟨f0, f1, f2, f3, r1, q0n, q1n⟩, fun hs => ?_⟩
                        rw [k2]
                        refine pl_norm ?_
                        repeat (first | refine pl_pure ?_ | refine pl_skip hs ?_ | refine pl_load hs ?_)
                        refine pl_call #[.agg #[.string a, .string b], .agg #[.string r.f0.f0, .string r.f0.f1]] Tryz.func33 ?_
                        (with_reducible refine (rorderM_any _ _ _ _ _ za zb z1 z2).mono ?_)
                        rintro e w2 ⟨he, hb2⟩
                        rw [Hx.out] at he
                        subst he
                        have HN1 := Lib.hid (blk_d hb2 rfl HN.out); have HP1 := Lib.hid (blk_d hb2 rfl HPn.out); have HB1 := Lib.hid (bel_d HBn.out (.inl rfl) hb2); clear HN HPn HBn; have HN := HN1; have HPn := HP1; have HBn := HB1; clear HN1 HP1 HB1
                        have q0x := pw_cell_below hb2 q0n; have q1x := pw_cell_below hb2 q1n; clear q0n q1n; have q0n := q0x; have q1n := q1x; clear q0x q1x
                        clear hb2
                        obtain ⟨f0, f1, f2, f3⟩ := blk4 HN.out
                        obtain ⟨r0, r1⟩ := blk2 HPn.out
                        refine ⟨_, rfl, ⟨f0, f1, f2, f3, r1, q0n, q1n⟩, fun hs => ?_⟩
                        refine pl_norm ?_
                        repeat (first | refine pl_pure ?_ | refine pl_skip hs ?_ | refine pl_load hs ?_)
                        refine plan_done ?_
                        go_wp2_with fail
                        go_meet
                        exact ⟨by rw [Hc.out, show repOk (rs.map toR) n = false from by unfold repOk; rw [Hrm.out]; simp only [show (toR r).f0 = r.f0 from rfl, show (toR r).f1 = r.f1 from rfl, m1, v1, k2, decide_eq_false hn0, Ho.out, decide_eq_false (show ¬ x < 0 by omega)]; rfl]; rfl, HBn, HPn⟩
                    · have hx1 : decide (0 ≤ x) = false := decide_eq_false hx
                      as_aux_lemma =>
                        refine pl_start 40 ((0, 0) :: (1, 0) :: (2, 1) :: (3, 2) :: (4, 0) :: (5, 0) :: (6, 0) :: (7, 0) :: (8, 1) :: (9, 0) :: (10, 0) :: (11, 3) :: (12, 4) :: (13, 5) :: (14, 3) :: (15, 0) :: (16, 0) :: (17, 0) :: (18, 0) :: (19, 1) :: (20, 2) :: (21, 0) :: (22, 0) :: (23, 0) :: (24, 0) :: (25, 0) :: (26, 0) :: (27, 0) :: (29, 0) :: (30, 0) :: (34, 0) :: (28, 1) :: (31, 0) :: (32, 0) :: (33, 1) :: (35, 1) :: (36, 2) :: (37, 0) :: (38, 0) :: (39, 0) :: []) (fun w' => w'.cell? ⟨wr.heap.size, 0, none⟩ = some (.string r.f0.f0) ∧ w'.cell? ⟨wr.heap.size, 1, none⟩ = some (.string r.f0.f1) ∧ w'.cell? ⟨wr.heap.size, 2, none⟩ = some (.string r.f1.f0) ∧ w'.cell? ⟨wr.heap.size, 3, none⟩ = some (.string r.f1.f1) ∧ w'.cell? ⟨w.heap.size, 1, none⟩ = some (.slice (some ad) rs.length c1) ∧ w'.cell? (ad.add ((n - 1) * 4)) = some (.string a) ∧ w'.cell? ⟨(ad.add ((n - 1) * 4)).block, (ad.add ((n - 1) * 4)).off + 1, none⟩ = some (.string b)) [] ⟨n0, n1, n2, n3, pn1, q0n, q1n⟩ (fun hs => ?_)
                        repeat (first | refine pl_pure ?_ | refine pl_skip hs ?_ | refine pl_load hs ?_)
                        refine pl_call #[.string r.f0.f0] Tryz.func37 ?_
                        (with_reducible refine (rmodule_any _ _ z1).mono ?_)
                        rintro e w2 ⟨rfl, hb2⟩
                        have HN1 := Lib.hid (blk_d hb2 rfl HN.out); have HP1 := Lib.hid (blk_d hb2 rfl HPn.out); have HB1 := Lib.hid (bel_d HBn.out (.inr rfl) hb2); clear HN HPn HBn; have HN := HN1; have HPn := HP1; have HBn := HB1; clear HN1 HP1 HB1
                        have q0x := pw_cell_below hb2 q0n; have q1x := pw_cell_below hb2 q1n; clear q0n q1n; have q0n := q0x; have q1n := q1x; clear q0x q1x
                        clear hb2
                        obtain ⟨f0, f1, f2, f3⟩ := blk4 HN.out
                        obtain ⟨r0, r1⟩ := blk2 HPn.out
                        refine ⟨_, rfl, ⟨f0, f1, f2, f3, r1, q0n, q1n⟩, fun hs => ?_⟩
                        rw [m1]
                        refine pl_norm ?_
                        repeat (first | refine pl_pure ?_ | refine pl_skip hs ?_ | refine pl_load hs ?_)
                        refine pl_call #[.agg #[.string r.f1.f0, .string r.f1.f1]] Tryz.func32 ?_
                        (with_reducible refine (rknown_any _ _ _ z3 z4).mono ?_)
                        rintro e w2 ⟨rfl, hb2⟩
                        have HN1 := Lib.hid (blk_d hb2 rfl HN.out); have HP1 := Lib.hid (blk_d hb2 rfl HPn.out); have HB1 := Lib.hid (bel_d HBn.out (.inl rfl) hb2); clear HN HPn HBn; have HN := HN1; have HPn := HP1; have HBn := HB1; clear HN1 HP1 HB1
                        have q0x := pw_cell_below hb2 q0n; have q1x := pw_cell_below hb2 q1n; clear q0n q1n; have q0n := q0x; have q1n := q1x; clear q0x q1x
                        clear hb2
                        obtain ⟨f0, f1, f2, f3⟩ := blk4 HN.out
                        obtain ⟨r0, r1⟩ := blk2 HPn.out
                        refine ⟨_, rfl, ⟨f0, f1, f2, f3, r1, q0n, q1n⟩, fun hs => ?_⟩
                        rw [k2]
                        refine pl_norm ?_
                        repeat (first | refine pl_pure ?_ | refine pl_skip hs ?_ | refine pl_load hs ?_)
                        refine pl_call #[.agg #[.string a, .string b], .agg #[.string r.f0.f0, .string r.f0.f1]] Tryz.func33 ?_
                        (with_reducible refine (rorderM_any _ _ _ _ _ za zb z1 z2).mono ?_)
                        rintro e w2 ⟨he, hb2⟩
                        rw [Hx.out] at he
                        subst he
                        have HN1 := Lib.hid (blk_d hb2 rfl HN.out); have HP1 := Lib.hid (blk_d hb2 rfl HPn.out); have HB1 := Lib.hid (bel_d HBn.out (.inl rfl) hb2); clear HN HPn HBn; have HN := HN1; have HPn := HP1; have HBn := HB1; clear HN1 HP1 HB1
                        have q0x := pw_cell_below hb2 q0n; have q1x := pw_cell_below hb2 q1n; clear q0n q1n; have q0n := q0x; have q1n := q1x; clear q0x q1x
                        clear hb2
                        obtain ⟨f0, f1, f2, f3⟩ := blk4 HN.out
                        obtain ⟨r0, r1⟩ := blk2 HPn.out
                        refine ⟨_, rfl, ⟨f0, f1, f2, f3, r1, q0n, q1n⟩, fun hs => ?_⟩
                        refine pl_norm ?_
                        repeat (first | refine pl_pure ?_ | refine pl_skip hs ?_ | refine pl_load hs ?_)
                        refine plan_done ?_
                        go_wp2_with fail
                        go_meet
                        exact ⟨by rw [Hc.out, show repOk (rs.map toR) n = true from by unfold repOk; rw [Hrm.out]; simp only [show (toR r).f0 = r.f0 from rfl, show (toR r).f1 = r.f1 from rfl, m1, v1, k2, decide_eq_false hn0, Ho.out, decide_eq_true (show x < 0 by omega)]; rfl]; rfl, HBn, HPn⟩
              | false =>
                have v2 : (r.f0.f1.toList != []) = true := by rw [bne_empty, v1]; rfl
                cases k1 : isKnown r.f0.f0 r.f0.f1 with
                | false =>
                  as_aux_lemma =>
                    refine pl_start 40 ((0, 0) :: (1, 0) :: (2, 1) :: (3, 2) :: (4, 0) :: (5, 0) :: (6, 0) :: (7, 0) :: (8, 1) :: (9, 0) :: (10, 0) :: (11, 0) :: (12, 1) :: (13, 2) :: (14, 0) :: (15, 0) :: (16, 0) :: (17, 0) :: (18, 3) :: (19, 4) :: (20, 5) :: (21, 3) :: (22, 0) :: (23, 0) :: (24, 3) :: (25, 3) :: (26, 3) :: (27, 3) :: (29, 3) :: (30, 3) :: (34, 3) :: (28, 4) :: (31, 3) :: (32, 3) :: (33, 4) :: (35, 4) :: (36, 5) :: (37, 3) :: (38, 3) :: (39, 0) :: []) (fun w' => w'.cell? ⟨wr.heap.size, 0, none⟩ = some (.string r.f0.f0) ∧ w'.cell? ⟨wr.heap.size, 1, none⟩ = some (.string r.f0.f1) ∧ w'.cell? ⟨wr.heap.size, 2, none⟩ = some (.string r.f1.f0) ∧ w'.cell? ⟨wr.heap.size, 3, none⟩ = some (.string r.f1.f1)) [] ⟨n0, n1, n2, n3⟩ (fun hs => ?_)
                    repeat (first | refine pl_pure ?_ | refine pl_skip hs ?_ | refine pl_load hs ?_)
                    refine pl_call #[.string r.f0.f0] Tryz.func37 ?_
                    (with_reducible refine (rmodule_any _ _ z1).mono ?_)
                    rintro e w2 ⟨rfl, hb2⟩
                    have HN1 := Lib.hid (blk_d hb2 rfl HN.out); have HP1 := Lib.hid (blk_d hb2 rfl HPn.out); have HB1 := Lib.hid (bel_d HBn.out (.inr rfl) hb2); clear HN HPn HBn; have HN := HN1; have HPn := HP1; have HBn := HB1; clear HN1 HP1 HB1
                    clear hb2
                    obtain ⟨f0, f1, f2, f3⟩ := blk4 HN.out
                    obtain ⟨r0, r1⟩ := blk2 HPn.out
                    refine ⟨_, rfl, ⟨f0, f1, f2, f3⟩, fun hs => ?_⟩
                    rw [m1]
                    refine pl_norm ?_
                    repeat (first | refine pl_pure ?_ | refine pl_skip hs ?_ | refine pl_load hs ?_)
                    refine pl_call #[.agg #[.string r.f0.f0, .string r.f0.f1]] Tryz.func32 ?_
                    (with_reducible refine (rknown_any _ _ _ z1 z2).mono ?_)
                    rintro e w2 ⟨rfl, hb2⟩
                    have HN1 := Lib.hid (blk_d hb2 rfl HN.out); have HP1 := Lib.hid (blk_d hb2 rfl HPn.out); have HB1 := Lib.hid (bel_d HBn.out (.inl rfl) hb2); clear HN HPn HBn; have HN := HN1; have HPn := HP1; have HBn := HB1; clear HN1 HP1 HB1
                    clear hb2
                    obtain ⟨f0, f1, f2, f3⟩ := blk4 HN.out
                    obtain ⟨r0, r1⟩ := blk2 HPn.out
                    refine ⟨_, rfl, ⟨f0, f1, f2, f3⟩, fun hs => ?_⟩
                    rw [k1]
                    refine pl_norm ?_
                    repeat (first | refine pl_pure ?_ | refine pl_skip hs ?_ | refine pl_load hs ?_)
                    refine plan_done ?_
                    go_wp2_with fail
                    go_meet
                    exact ⟨by rw [Hc.out, show repOk (rs.map toR) n = false from by unfold repOk; rw [Hrm.out]; simp only [show (toR r).f0 = r.f0 from rfl, show (toR r).f1 = r.f1 from rfl, m1, v1, k1]; rfl]; rfl, HBn, HPn⟩
                | true =>
                  cases k2 : isKnown r.f1.f0 r.f1.f1 with
                  | false =>
                    as_aux_lemma =>
                      refine pl_start 40 ((0, 0) :: (1, 0) :: (2, 1) :: (3, 2) :: (4, 0) :: (5, 0) :: (6, 0) :: (7, 0) :: (8, 1) :: (9, 0) :: (10, 0) :: (11, 0) :: (12, 1) :: (13, 2) :: (14, 0) :: (15, 0) :: (16, 0) :: (17, 0) :: (18, 0) :: (19, 1) :: (20, 2) :: (21, 0) :: (22, 0) :: (23, 0) :: (24, 3) :: (25, 3) :: (26, 3) :: (27, 3) :: (29, 3) :: (30, 3) :: (34, 3) :: (28, 4) :: (31, 3) :: (32, 3) :: (33, 4) :: (35, 4) :: (36, 5) :: (37, 3) :: (38, 3) :: (39, 0) :: []) (fun w' => w'.cell? ⟨wr.heap.size, 0, none⟩ = some (.string r.f0.f0) ∧ w'.cell? ⟨wr.heap.size, 1, none⟩ = some (.string r.f0.f1) ∧ w'.cell? ⟨wr.heap.size, 2, none⟩ = some (.string r.f1.f0) ∧ w'.cell? ⟨wr.heap.size, 3, none⟩ = some (.string r.f1.f1)) [] ⟨n0, n1, n2, n3⟩ (fun hs => ?_)
                      repeat (first | refine pl_pure ?_ | refine pl_skip hs ?_ | refine pl_load hs ?_)
                      refine pl_call #[.string r.f0.f0] Tryz.func37 ?_
                      (with_reducible refine (rmodule_any _ _ z1).mono ?_)
                      rintro e w2 ⟨rfl, hb2⟩
                      have HN1 := Lib.hid (blk_d hb2 rfl HN.out); have HP1 := Lib.hid (blk_d hb2 rfl HPn.out); have HB1 := Lib.hid (bel_d HBn.out (.inr rfl) hb2); clear HN HPn HBn; have HN := HN1; have HPn := HP1; have HBn := HB1; clear HN1 HP1 HB1
                      clear hb2
                      obtain ⟨f0, f1, f2, f3⟩ := blk4 HN.out
                      obtain ⟨r0, r1⟩ := blk2 HPn.out
                      refine ⟨_, rfl, ⟨f0, f1, f2, f3⟩, fun hs => ?_⟩
                      rw [m1]
                      refine pl_norm ?_
                      repeat (first | refine pl_pure ?_ | refine pl_skip hs ?_ | refine pl_load hs ?_)
                      refine pl_call #[.agg #[.string r.f0.f0, .string r.f0.f1]] Tryz.func32 ?_
                      (with_reducible refine (rknown_any _ _ _ z1 z2).mono ?_)
                      rintro e w2 ⟨rfl, hb2⟩
                      have HN1 := Lib.hid (blk_d hb2 rfl HN.out); have HP1 := Lib.hid (blk_d hb2 rfl HPn.out); have HB1 := Lib.hid (bel_d HBn.out (.inl rfl) hb2); clear HN HPn HBn; have HN := HN1; have HPn := HP1; have HBn := HB1; clear HN1 HP1 HB1
                      clear hb2
                      obtain ⟨f0, f1, f2, f3⟩ := blk4 HN.out
                      obtain ⟨r0, r1⟩ := blk2 HPn.out
                      refine ⟨_, rfl, ⟨f0, f1, f2, f3⟩, fun hs => ?_⟩
                      rw [k1]
                      refine pl_norm ?_
                      repeat (first | refine pl_pure ?_ | refine pl_skip hs ?_ | refine pl_load hs ?_)
                      refine pl_call #[.agg #[.string r.f1.f0, .string r.f1.f1]] Tryz.func32 ?_
                      (with_reducible refine (rknown_any _ _ _ z3 z4).mono ?_)
                      rintro e w2 ⟨rfl, hb2⟩
                      have HN1 := Lib.hid (blk_d hb2 rfl HN.out); have HP1 := Lib.hid (blk_d hb2 rfl HPn.out); have HB1 := Lib.hid (bel_d HBn.out (.inl rfl) hb2); clear HN HPn HBn; have HN := HN1; have HPn := HP1; have HBn := HB1; clear HN1 HP1 HB1
                      clear hb2
                      obtain ⟨f0, f1, f2, f3⟩ := blk4 HN.out
                      obtain ⟨r0, r1⟩ := blk2 HPn.out
                      refine ⟨_, rfl, ⟨f0, f1, f2, f3⟩, fun hs => ?_⟩
                      rw [k2]
                      refine pl_norm ?_
                      repeat (first | refine pl_pure ?_ | refine pl_skip hs ?_ | refine pl_load hs ?_)
                      refine plan_done ?_
                      go_wp2_with fail
                      go_meet
                      exact ⟨by rw [Hc.out, show repOk (rs.map toR) n = false from by unfold repOk; rw [Hrm.out]; simp only [show (toR r).f0 = r.f0 from rfl, show (toR r).f1 = r.f1 from rfl, m1, v1, k1, k2]; simp]; rfl, HBn, HPn⟩
                  | true =>
                    by_cases hn0 : n = 0
                    · subst hn0
                      have hd0 : decide ((0 : Int) < ((0 : Nat) : Int)) = false := by decide
                      as_aux_lemma =>
                        refine pl_start 40 ((0, 0) :: (1, 0) :: (2, 1) :: (3, 2) :: (4, 0) :: (5, 0) :: (6, 0) :: (7, 0) :: (8, 1) :: (9, 0) :: (10, 0) :: (11, 0) :: (12, 1) :: (13, 2) :: (14, 0) :: (15, 0) :: (16, 0) :: (17, 0) :: (18, 0) :: (19, 1) :: (20, 2) :: (21, 0) :: (22, 0) :: (23, 0) :: (24, 0) :: (25, 0) :: (26, 0) :: (27, 3) :: (29, 3) :: (30, 3) :: (34, 3) :: (28, 4) :: (31, 3) :: (32, 3) :: (33, 4) :: (35, 4) :: (36, 5) :: (37, 3) :: (38, 0) :: (39, 0) :: []) (fun w' => w'.cell? ⟨wr.heap.size, 0, none⟩ = some (.string r.f0.f0) ∧ w'.cell? ⟨wr.heap.size, 1, none⟩ = some (.string r.f0.f1) ∧ w'.cell? ⟨wr.heap.size, 2, none⟩ = some (.string r.f1.f0) ∧ w'.cell? ⟨wr.heap.size, 3, none⟩ = some (.string r.f1.f1)) [] ⟨n0, n1, n2, n3⟩ (fun hs => ?_)
                        repeat (first | refine pl_pure ?_ | refine pl_skip hs ?_ | refine pl_load hs ?_)
                        refine pl_call #[.string r.f0.f0] Tryz.func37 ?_
                        (with_reducible refine (rmodule_any _ _ z1).mono ?_)
                        rintro e w2 ⟨rfl, hb2⟩
                        have HN1 := Lib.hid (blk_d hb2 rfl HN.out); have HP1 := Lib.hid (blk_d hb2 rfl HPn.out); have HB1 := Lib.hid (bel_d HBn.out (.inr rfl) hb2); clear HN HPn HBn; have HN := HN1; have HPn := HP1; have HBn := HB1; clear HN1 HP1 HB1
                        clear hb2
                        obtain ⟨f0, f1, f2, f3⟩ := blk4 HN.out
                        obtain ⟨r0, r1⟩ := blk2 HPn.out
                        refine ⟨_, rfl, ⟨f0, f1, f2, f3⟩, fun hs => ?_⟩
                        rw [m1]
                        refine pl_norm ?_
                        repeat (first | refine pl_pure ?_ | refine pl_skip hs ?_ | refine pl_load hs ?_)
                        refine pl_call #[.agg #[.string r.f0.f0, .string r.f0.f1]] Tryz.func32 ?_
                        (with_reducible refine (rknown_any _ _ _ z1 z2).mono ?_)
                        rintro e w2 ⟨rfl, hb2⟩
                        have HN1 := Lib.hid (blk_d hb2 rfl HN.out); have HP1 := Lib.hid (blk_d hb2 rfl HPn.out); have HB1 := Lib.hid (bel_d HBn.out (.inl rfl) hb2); clear HN HPn HBn; have HN := HN1; have HPn := HP1; have HBn := HB1; clear HN1 HP1 HB1
                        clear hb2
                        obtain ⟨f0, f1, f2, f3⟩ := blk4 HN.out
                        obtain ⟨r0, r1⟩ := blk2 HPn.out
                        refine ⟨_, rfl, ⟨f0, f1, f2, f3⟩, fun hs => ?_⟩
                        rw [k1]
                        refine pl_norm ?_
                        repeat (first | refine pl_pure ?_ | refine pl_skip hs ?_ | refine pl_load hs ?_)
                        refine pl_call #[.agg #[.string r.f1.f0, .string r.f1.f1]] Tryz.func32 ?_
                        (with_reducible refine (rknown_any _ _ _ z3 z4).mono ?_)
                        rintro e w2 ⟨rfl, hb2⟩
                        have HN1 := Lib.hid (blk_d hb2 rfl HN.out); have HP1 := Lib.hid (blk_d hb2 rfl HPn.out); have HB1 := Lib.hid (bel_d HBn.out (.inl rfl) hb2); clear HN HPn HBn; have HN := HN1; have HPn := HP1; have HBn := HB1; clear HN1 HP1 HB1
                        clear hb2
                        obtain ⟨f0, f1, f2, f3⟩ := blk4 HN.out
                        obtain ⟨r0, r1⟩ := blk2 HPn.out
                        refine ⟨_, rfl, ⟨f0, f1, f2, f3⟩, fun hs => ?_⟩
                        rw [k2]
                        refine pl_norm ?_
                        repeat (first | refine pl_pure ?_ | refine pl_skip hs ?_ | refine pl_load hs ?_)
                        refine plan_done ?_
                        go_wp2_with fail
                        go_meet
                        exact ⟨by rw [Hc.out, show repOk (rs.map toR) 0 = true from by unfold repOk; rw [Hrm.out]; simp only [show (toR r).f0 = r.f0 from rfl, show (toR r).f1 = r.f1 from rfl, m1, v1, k1, k2]; rfl]; rfl, HBn, HPn⟩
                    · have hd0 : decide ((0 : Int) < (n : Int)) = true := decide_eq_true (by omega)
                      have hk1 : (1 : Int) ≤ (n : Int) := by omega
                      have hkp : 0 < n := by omega
                      have hw1 : IntKind.i64.wrap ((n : Int) - 1) = (n : Int) - 1 := IntWalk.i64_in _ (by omega)
                      have hw3 : ((n : Int) - 1).toNat = n - 1 := by omega
                      have hw4 : (n : Int) - 1 < (rs.length : Int) := by omega
                      obtain ⟨q0, q1⟩ := HPrev.out (by omega)
                      obtain ⟨a, Ha⟩ : ∃ a, Hid ((rs.getD (n - 1) zDR).f0.f0 = a) := ⟨_, rfl⟩
                      obtain ⟨b, Hb⟩ : ∃ b, Hid ((rs.getD (n - 1) zDR).f0.f1 = b) := ⟨_, rfl⟩
                      obtain ⟨x, Hx⟩ : ∃ x, Hid (orderM a b r.f0.f0 r.f0.f1 = x) := ⟨_, rfl⟩
                      rw [Ha.out] at q0
                      rw [Hb.out] at q1
                      have sp := sr _ (getD_mem (z := zDR) (show n - 1 < rs.length by omega))
                      have za : a.size ≤ 1099511627770 := by rw [← Ha.out]; exact sp.1
                      have zb : b.size ≤ 1099511627770 := by rw [← Hb.out]; exact sp.2.1
                      have ho : ordM ((rs.map toR).getD (n - 1) zR).f0 r.f0 = x := by
                        rw [show (rs.map toR).getD (n - 1) zR = toR (rs.getD (n - 1) zDR) from by rw [show zR = toR zDR from rfl, getD_map]]
                        show orderM (rs.getD (n - 1) zDR).f0.f0 (rs.getD (n - 1) zDR).f0.f1 r.f0.f0 r.f0.f1 = x
                        rw [Ha.out, Hb.out, Hx.out]
                      have Ho := Lib.hid ho; clear ho sp
                      have q0n := pw_cell_below (below_alloc (Below.refl _ wr) (.cells #[.string r.f0.f0, .string r.f0.f1, .string r.f1.f0, .string r.f1.f1] 72)) q0
                      have q1n := pw_cell_below (below_alloc (Below.refl _ wr) (.cells #[.string r.f0.f0, .string r.f0.f1, .string r.f1.f0, .string r.f1.f1] 72)) q1
                      clear q0 q1
                      by_cases hx : 0 ≤ x
                      · have hx1 : decide (0 ≤ x) = true := decide_eq_true hx
                        as_aux_lemma =>
                          refine pl_start 40 ((0, 0) :: (1, 0) :: (2, 1) :: (3, 2) :: (4, 0) :: (5, 0) :: (6, 0) :: (7, 0) :: (8, 1) :: (9, 0) :: (10, 0) :: (11, 0) :: (12, 1) :: (13, 2) :: (14, 0) :: (15, 0) :: (16, 0) :: (17, 0) :: (18, 0) :: (19, 1) :: (20, 2) :: (21, 0) :: (22, 0) :: (23, 0) :: (24, 0) :: (25, 0) :: (26, 0) :: (27, 0) :: (29, 0) :: (30, 0) :: (34, 0) :: (28, 1) :: (31, 0) :: (32, 0) :: (33, 1) :: (35, 1) :: (36, 2) :: (37, 0) :: (38, 0) :: (39, 0) :: []) (fun w' => w'.cell? ⟨wr.heap.size, 0, none⟩ = some (.string r.f0.f0) ∧ w'.cell? ⟨wr.heap.size, 1, none⟩ = some (.string r.f0.f1) ∧ w'.cell? ⟨wr.heap.size, 2, none⟩ = some (.string r.f1.f0) ∧ w'.cell? ⟨wr.heap.size, 3, none⟩ = some (.string r.f1.f1) ∧ w'.cell? ⟨w.heap.size, 1, none⟩ = some (.slice (some ad) rs.length c1) ∧ w'.cell? (ad.add ((n - 1) * 4)) = some (.string a) ∧ w'.cell? ⟨(ad.add ((n - 1) * 4)).block, (ad.add ((n - 1) * 4)).off + 1, none⟩ = some (.string b)) [] ⟨n0, n1, n2, n3, pn1, q0n, q1n⟩ (fun hs => ?_)
                          repeat (first | refine pl_pure ?_ | refine pl_skip hs ?_ | refine pl_load hs ?_)
                          refine pl_call #[.string r.f0.f0] Tryz.func37 ?_
                          (with_reducible refine (rmodule_any _ _ z1).mono ?_)
                          rintro e w2 ⟨rfl, hb2⟩
                          have HN1 := Lib.hid (blk_d hb2 rfl HN.out); have HP1 := Lib.hid (blk_d hb2 rfl HPn.out); have HB1 := Lib.hid (bel_d HBn.out (.inr rfl) hb2); clear HN HPn HBn; have HN := HN1; have HPn := HP1; have HBn := HB1; clear HN1 HP1 HB1
                          have q0x := pw_cell_below hb2 q0n; have q1x := pw_cell_below hb2 q1n; clear q0n q1n; have q0n := q0x; have q1n := q1x; clear q0x q1x
                          clear hb2
                          obtain ⟨f0, f1, f2, f3⟩ := blk4 HN.out
                          obtain ⟨r0, r1⟩ := blk2 HPn.out
                          refine ⟨_, rfl, ⟨f0, f1, f2, f3, r1, q0n, q1n⟩, fun hs => ?_⟩
                          rw [m1]
                          refine pl_norm ?_
                          repeat (first | refine pl_pure ?_ | refine pl_skip hs ?_ | refine pl_load hs ?_)
                          refine pl_call #[.agg #[.string r.f0.f0, .string r.f0.f1]] Tryz.func32 ?_
                          (with_reducible refine (rknown_any _ _ _ z1 z2).mono ?_)
                          rintro e w2 ⟨rfl, hb2⟩
                          have HN1 := Lib.hid (blk_d hb2 rfl HN.out); have HP1 := Lib.hid (blk_d hb2 rfl HPn.out); have HB1 := Lib.hid (bel_d HBn.out (.inl rfl) hb2); clear HN HPn HBn; have HN := HN1; have HPn := HP1; have HBn := HB1; clear HN1 HP1 HB1
                          have q0x := pw_cell_below hb2 q0n; have q1x := pw_cell_below hb2 q1n; clear q0n q1n; have q0n := q0x; have q1n := q1x; clear q0x q1x
                          clear hb2
                          obtain ⟨f0, f1, f2, f3⟩ := blk4 HN.out
                          obtain ⟨r0, r1⟩ := blk2 HPn.out
                          refine ⟨_, rfl, ⟨f0, f1, f2, f3, r1, q0n, q1n⟩, fun hs => ?_⟩
                          rw [k1]
                          refine pl_norm ?_
                          repeat (first | refine pl_pure ?_ | refine pl_skip hs ?_ | refine pl_load hs ?_)
                          refine pl_call #[.agg #[.string r.f1.f0, .string r.f1.f1]] Tryz.func32 ?_
                          (with_reducible refine (rknown_any _ _ _ z3 z4).mono ?_)
                          rintro e w2 ⟨rfl, hb2⟩
                          have HN1 := Lib.hid (blk_d hb2 rfl HN.out); have HP1 := Lib.hid (blk_d hb2 rfl HPn.out); have HB1 := Lib.hid (bel_d HBn.out (.inl rfl) hb2); clear HN HPn HBn; have HN := HN1; have HPn := HP1; have HBn := HB1; clear HN1 HP1 HB1
                          have q0x := pw_cell_below hb2 q0n; have q1x := pw_cell_below hb2 q1n; clear q0n q1n; have q0n := q0x; have q1n := q1x; clear q0x q1x
                          clear hb2
                          obtain ⟨f0, f1, f2, f3⟩ := blk4 HN.out
                          obtain ⟨r0, r1⟩ := blk2 HPn.out
                          refine ⟨_, rfl, ⟨f0, f1, f2, f3, r1, q0n, q1n⟩, fun hs => ?_⟩
                          rw [k2]
                          refine pl_norm ?_
                          repeat (first | refine pl_pure ?_ | refine pl_skip hs ?_ | refine pl_load hs ?_)
                          refine pl_call #[.agg #[.string a, .string b], .agg #[.string r.f0.f0, .string r.f0.f1]] Tryz.func33 ?_
                          (with_reducible refine (rorderM_any _ _ _ _ _ za zb z1 z2).mono ?_)
                          rintro e w2 ⟨he, hb2⟩
                          rw [Hx.out] at he
                          subst he
                          have HN1 := Lib.hid (blk_d hb2 rfl HN.out); have HP1 := Lib.hid (blk_d hb2 rfl HPn.out); have HB1 := Lib.hid (bel_d HBn.out (.inl rfl) hb2); clear HN HPn HBn; have HN := HN1; have HPn := HP1; have HBn := HB1; clear HN1 HP1 HB1
                          have q0x := pw_cell_below hb2 q0n; have q1x := pw_cell_below hb2 q1n; clear q0n q1n; have q0n := q0x; have q1n := q1x; clear q0x q1x
                          clear hb2
                          obtain ⟨f0, f1, f2, f3⟩ := blk4 HN.out
                          obtain ⟨r0, r1⟩ := blk2 HPn.out
                          refine ⟨_, rfl, ⟨f0, f1, f2, f3, r1, q0n, q1n⟩, fun hs => ?_⟩
                          refine pl_norm ?_
                          repeat (first | refine pl_pure ?_ | refine pl_skip hs ?_ | refine pl_load hs ?_)
                          refine plan_done ?_
                          go_wp2_with fail
                          go_meet
                          exact ⟨by rw [Hc.out, show repOk (rs.map toR) n = false from by unfold repOk; rw [Hrm.out]; simp only [show (toR r).f0 = r.f0 from rfl, show (toR r).f1 = r.f1 from rfl, m1, v1, k1, k2, decide_eq_false hn0, Ho.out, decide_eq_false (show ¬ x < 0 by omega)]; rfl]; rfl, HBn, HPn⟩
                      · have hx1 : decide (0 ≤ x) = false := decide_eq_false hx
                        as_aux_lemma =>
                          refine pl_start 40 ((0, 0) :: (1, 0) :: (2, 1) :: (3, 2) :: (4, 0) :: (5, 0) :: (6, 0) :: (7, 0) :: (8, 1) :: (9, 0) :: (10, 0) :: (11, 0) :: (12, 1) :: (13, 2) :: (14, 0) :: (15, 0) :: (16, 0) :: (17, 0) :: (18, 0) :: (19, 1) :: (20, 2) :: (21, 0) :: (22, 0) :: (23, 0) :: (24, 0) :: (25, 0) :: (26, 0) :: (27, 0) :: (29, 0) :: (30, 0) :: (34, 0) :: (28, 1) :: (31, 0) :: (32, 0) :: (33, 1) :: (35, 1) :: (36, 2) :: (37, 0) :: (38, 0) :: (39, 0) :: []) (fun w' => w'.cell? ⟨wr.heap.size, 0, none⟩ = some (.string r.f0.f0) ∧ w'.cell? ⟨wr.heap.size, 1, none⟩ = some (.string r.f0.f1) ∧ w'.cell? ⟨wr.heap.size, 2, none⟩ = some (.string r.f1.f0) ∧ w'.cell? ⟨wr.heap.size, 3, none⟩ = some (.string r.f1.f1) ∧ w'.cell? ⟨w.heap.size, 1, none⟩ = some (.slice (some ad) rs.length c1) ∧ w'.cell? (ad.add ((n - 1) * 4)) = some (.string a) ∧ w'.cell? ⟨(ad.add ((n - 1) * 4)).block, (ad.add ((n - 1) * 4)).off + 1, none⟩ = some (.string b)) [] ⟨n0, n1, n2, n3, pn1, q0n, q1n⟩ (fun hs => ?_)
                          repeat (first | refine pl_pure ?_ | refine pl_skip hs ?_ | refine pl_load hs ?_)
                          refine pl_call #[.string r.f0.f0] Tryz.func37 ?_
                          (with_reducible refine (rmodule_any _ _ z1).mono ?_)
                          rintro e w2 ⟨rfl, hb2⟩
                          have HN1 := Lib.hid (blk_d hb2 rfl HN.out); have HP1 := Lib.hid (blk_d hb2 rfl HPn.out); have HB1 := Lib.hid (bel_d HBn.out (.inr rfl) hb2); clear HN HPn HBn; have HN := HN1; have HPn := HP1; have HBn := HB1; clear HN1 HP1 HB1
                          have q0x := pw_cell_below hb2 q0n; have q1x := pw_cell_below hb2 q1n; clear q0n q1n; have q0n := q0x; have q1n := q1x; clear q0x q1x
                          clear hb2
                          obtain ⟨f0, f1, f2, f3⟩ := blk4 HN.out
                          obtain ⟨r0, r1⟩ := blk2 HPn.out
                          refine ⟨_, rfl, ⟨f0, f1, f2, f3, r1, q0n, q1n⟩, fun hs => ?_⟩
                          rw [m1]
                          refine pl_norm ?_
                          repeat (first | refine pl_pure ?_ | refine pl_skip hs ?_ | refine pl_load hs ?_)
                          refine pl_call #[.agg #[.string r.f0.f0, .string r.f0.f1]] Tryz.func32 ?_
                          (with_reducible refine (rknown_any _ _ _ z1 z2).mono ?_)
                          rintro e w2 ⟨rfl, hb2⟩
                          have HN1 := Lib.hid (blk_d hb2 rfl HN.out); have HP1 := Lib.hid (blk_d hb2 rfl HPn.out); have HB1 := Lib.hid (bel_d HBn.out (.inl rfl) hb2); clear HN HPn HBn; have HN := HN1; have HPn := HP1; have HBn := HB1; clear HN1 HP1 HB1
                          have q0x := pw_cell_below hb2 q0n; have q1x := pw_cell_below hb2 q1n; clear q0n q1n; have q0n := q0x; have q1n := q1x; clear q0x q1x
                          clear hb2
                          obtain ⟨f0, f1, f2, f3⟩ := blk4 HN.out
                          obtain ⟨r0, r1⟩ := blk2 HPn.out
                          refine ⟨_, rfl, ⟨f0, f1, f2, f3, r1, q0n, q1n⟩, fun hs => ?_⟩
                          rw [k1]
                          refine pl_norm ?_
                          repeat (first | refine pl_pure ?_ | refine pl_skip hs ?_ | refine pl_load hs ?_)
                          refine pl_call #[.agg #[.string r.f1.f0, .string r.f1.f1]] Tryz.func32 ?_
                          (with_reducible refine (rknown_any _ _ _ z3 z4).mono ?_)
                          rintro e w2 ⟨rfl, hb2⟩
                          have HN1 := Lib.hid (blk_d hb2 rfl HN.out); have HP1 := Lib.hid (blk_d hb2 rfl HPn.out); have HB1 := Lib.hid (bel_d HBn.out (.inl rfl) hb2); clear HN HPn HBn; have HN := HN1; have HPn := HP1; have HBn := HB1; clear HN1 HP1 HB1
                          have q0x := pw_cell_below hb2 q0n; have q1x := pw_cell_below hb2 q1n; clear q0n q1n; have q0n := q0x; have q1n := q1x; clear q0x q1x
                          clear hb2
                          obtain ⟨f0, f1, f2, f3⟩ := blk4 HN.out
                          obtain ⟨r0, r1⟩ := blk2 HPn.out
                          refine ⟨_, rfl, ⟨f0, f1, f2, f3, r1, q0n, q1n⟩, fun hs => ?_⟩
                          rw [k2]
                          refine pl_norm ?_
                          repeat (first | refine pl_pure ?_ | refine pl_skip hs ?_ | refine pl_load hs ?_)
                          refine pl_call #[.agg #[.string a, .string b], .agg #[.string r.f0.f0, .string r.f0.f1]] Tryz.func33 ?_
                          (with_reducible refine (rorderM_any _ _ _ _ _ za zb z1 z2).mono ?_)
                          rintro e w2 ⟨he, hb2⟩
                          rw [Hx.out] at he
                          subst he
                          have HN1 := Lib.hid (blk_d hb2 rfl HN.out); have HP1 := Lib.hid (blk_d hb2 rfl HPn.out); have HB1 := Lib.hid (bel_d HBn.out (.inl rfl) hb2); clear HN HPn HBn; have HN := HN1; have HPn := HP1; have HBn := HB1; clear HN1 HP1 HB1
                          have q0x := pw_cell_below hb2 q0n; have q1x := pw_cell_below hb2 q1n; clear q0n q1n; have q0n := q0x; have q1n := q1x; clear q0x q1x
                          clear hb2
                          obtain ⟨f0, f1, f2, f3⟩ := blk4 HN.out
                          obtain ⟨r0, r1⟩ := blk2 HPn.out
                          refine ⟨_, rfl, ⟨f0, f1, f2, f3, r1, q0n, q1n⟩, fun hs => ?_⟩
                          refine pl_norm ?_
                          repeat (first | refine pl_pure ?_ | refine pl_skip hs ?_ | refine pl_load hs ?_)
                          refine plan_done ?_
                          go_wp2_with fail
                          go_meet
                          exact ⟨by rw [Hc.out, show repOk (rs.map toR) n = true from by unfold repOk; rw [Hrm.out]; simp only [show (toR r).f0 = r.f0 from rfl, show (toR r).f1 = r.f1 from rfl, m1, v1, k1, k2, decide_eq_false hn0, Ho.out, decide_eq_true (show x < 0 by omega)]; rfl]; rfl, HBn, HPn⟩
          case rest =>
            clear HB HP HN HPn HBn n0 n1 n2 n3 pn0 pn1 p0 p1 HPrev e0 e1 e2 e3
            obtain ⟨rfl, HB, HP⟩ := hcut
            cases c with
            | true =>
              go_wp2
              go_ret
              exact ⟨by rw [listErr_rep (i := n) (by rw [Hlen.out]; exact hnl) (by have h2 := Hc.out.symm; rwa [Bool.not_eq_true'] at h2)]; rfl, HB.out⟩
            | false =>
              go_wp2
              go_roundw
              case rel => exact ⟨n + 1, by omega, by go_num, (show upto (repOk (rs.map toR)) (n + 1) = true from by simp only [upto, hun.out]; have h2 := Hc.out.symm; rwa [Bool.not_eq_false'] at h2), HB, HP⟩
              case measure => simp [intOf]; omega
        · obtain rfl : n = rs.length := by omega
          go_wp2
          go_ret
          exact ⟨by rw [show listErr (ms.map toM) (rs.map toR) = 0 from if_pos (by unfold listB; rw [HU.out, Hlen.out, hun.out]; rfl)]; rfl, HB.out⟩
end Go.Proofs.YtcdcpcdfcmokkaaGreatDoor
