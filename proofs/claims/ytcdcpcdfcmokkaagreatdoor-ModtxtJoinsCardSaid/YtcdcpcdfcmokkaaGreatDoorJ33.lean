/- The document's Print: a list as it is printed. -/
import Derived.Test.YtcdcpcdfcmokkaaGreatDoorJ29
import Derived.Test.YtcdcpcdfcmokkaaGreatDoorJ32
import Derived.Deep.DeepCutAuto
import Derived.Test.YtcdcpcdfcmokkaaGreatDoorJ27
import Derived.WalkSpells
set_option linter.unusedVariables false
set_option linter.unusedSimpArgs false
namespace Go.Proofs.YtcdcpcdfcmokkaaGreatDoor
open Go Go.RowKit Go.Shelf Go.Proofs.YtcdcpcdfcmokkaaGreatDoorW.PrintWords
set_option linter.unusedVariables false
set_option linter.unusedSimpArgs false
def dmodP (p v : ByteArray) : ByteArray := if v.toList.isEmpty = true then p else p ++ (⟨#[32]⟩ : ByteArray) ++ v
theorem dmodP_size (p v : ByteArray) : (dmodP p v).size ≤ p.size + 1 + v.size := by
  unfold dmodP; split
  · omega
  · rw [ByteArray.size_append, ByteArray.size_append]; show _ + 1 + _ ≤ _; omega
def dnewL (p v : ByteArray) : List UInt8 := if (p.toList.isEmpty && v.toList.isEmpty) = true then [] else [32, 61, 62, 32] ++ (dmodP p v).data.toList
def dheadL (m : DM) : List UInt8 := [35, 32] ++ (dmodP m.f0.f0 m.f0.f1).data.toList ++ dnewL m.f3.f0 m.f3.f1 ++ [10]
def dmodL (m : DM) : List UInt8 := dheadL m ++ markL (toM m) ++ pkgL m.f4
def drepL (r : DR) : List UInt8 := [35, 32] ++ (dmodP r.f0.f0 r.f0.f1).data.toList ++ [32, 61, 62, 32] ++ (dmodP r.f1.f0 r.f1.f1).data.toList ++ [10]
def dtextL (ms : List DM) (rs : List DR) : List UInt8 := ms.flatMap dmodL ++ rs.flatMap drepL
def dprintP (ms : List DM) (rs : List DR) : ByteArray := if listB (ms.map toM) (rs.map toR) = true then toB (dtextL ms rs) else emp
set_option maxHeartbeats 1000000 in
set_option maxRecDepth 100000 in
theorem rmod_any (p v : ByteArray) (w : World) (hp : p.size ≤ 1099511627770) (hv : v.size ≤ 1099511627770) :
    Calls Tryz.prog 25 #[.agg #[.string p, .string v]] w fun e w' => e = .returned (.string (dmodP p v)) ∧ Below w.heap.size w w' := by
  cases n1 : v.toList.isEmpty with
  | true =>
    have Hr := Lib.hid (show dmodP p v = p from if_pos n1)
    go_enter Tryz.func25, Tryz.ntmps25
    go_wp2
    go_ret
    exact ⟨by rw [Hr.out]; rfl, below_alloc (Below.refl _ _) _⟩
  | false =>
    have Hr := Lib.hid (show dmodP p v = p ++ (⟨#[32]⟩ : ByteArray) ++ v from if_neg (by rw [n1]; decide))
    go_enter Tryz.func25, Tryz.ntmps25
    go_wp2
    go_ret
    exact ⟨by rw [Hr.out]; rfl, below_alloc (Below.refl _ _) _⟩
theorem mark_tt (m : SM) (h1 : m.f1 = true) (h2 : m.f2.toList.isEmpty = false) : markL m = [35, 35, 32] ++ explicitB.data.toList ++ [59, 32] ++ [103, 111, 32] ++ m.f2.data.toList ++ [10] := by
  have h : marksL m = [explicitB, goB ++ m.f2] := by unfold marksL marks1; rw [h1, h2]; rfl
  unfold markL; rw [h]
  simp [Lib.join, List.intercalate, goB, ByteArray.data_append]
theorem mark_tf (m : SM) (h1 : m.f1 = true) (h2 : m.f2.toList.isEmpty = true) : markL m = [35, 35, 32] ++ explicitB.data.toList ++ [10] := by
  have h : marksL m = [explicitB] := by unfold marksL marks1; rw [h1, h2]; rfl
  unfold markL; rw [h]
  simp [Lib.join, List.intercalate]
theorem mark_ft (m : SM) (h1 : m.f1 = false) (h2 : m.f2.toList.isEmpty = false) : markL m = [35, 35, 32] ++ [103, 111, 32] ++ m.f2.data.toList ++ [10] := by
  have h : marksL m = [goB ++ m.f2] := by unfold marksL marks1; rw [h1, h2]; rfl
  unfold markL; rw [h]
  simp [Lib.join, List.intercalate, goB, ByteArray.data_append]
theorem mark_ff (m : SM) (h1 : m.f1 = false) (h2 : m.f2.toList.isEmpty = true) : markL m = [] := by
  have h : marksL m = [] := by unfold marksL marks1; rw [h1, h2]; rfl
  unfold markL; rw [h]; rfl
set_option maxHeartbeats 16000000 in
set_option maxRecDepth 100000 in
theorem rprint_any (A0 A1 : Option Addr) (c0 c1 : Nat) (ms : List DM) (rs : List DR) (w : World) (h0 : Kd.C P.k45 w A0 ms.length ms) (hc0 : ms.length ≤ c0) (h1 : Kd.C P.k72 w A1 rs.length rs) (hc1 : rs.length ≤ c1)
    (sm : ∀ m ∈ ms, SmallM (toM m)) (sr : ∀ r ∈ rs, SmallR (toR r)) (lm : ms.length ≤ 1048576) (lr : rs.length ≤ 1099511627770) (lp : (metB (ms.map toM) (ms.map toM).length).length ≤ 1099511627770) (lt : (dtextL ms rs).length ≤ 140737488355328) :
    Calls Tryz.prog 11 #[.agg #[.slice A0 ms.length c0, .slice A1 rs.length c1]] w fun e w' => e = .returned (.tuple #[.string (dprintP ms rs), .int .i64 (listErr (ms.map toM) (rs.map toR))]) ∧ Below w.heap.size w w' := by
  have B0 := Lib.hid (blk_new w (.cells #[.slice A0 ms.length c0, .slice A1 rs.length c1] 35))
  have HBa := Lib.hid (below_alloc (Below.refl w.heap.size w) (.cells #[.slice A0 ms.length c0, .slice A1 rs.length c1] 35))
  have h0n := Kd.C_below h0 HBa.out
  have h1n := Kd.C_below h1 HBa.out
  cases hl : listB (ms.map toM) (rs.map toR) with
  | false =>
    have he : listErr (ms.map toM) (rs.map toR) = 190 := listErr_bad hl
    have hp : dprintP ms rs = emp := by unfold dprintP; rw [hl]; rfl
    have He := Lib.hid he; have Hp := Lib.hid hp
    have he2 : (listErr (ms.map toM) (rs.map toR) != 0) = true := by rw [he]; rfl
    clear he hp hl
    go_enter Tryz.func11, Tryz.ntmps11
    go_wp2_with (go_at_call 17; (with_reducible refine (rcheck_any A0 A1 c0 c1 ms rs _ h0n hc0 h1n hc1 sm sr lm lr lp).mono ?_); rintro e w1 ⟨rfl, hb1⟩)
    go_ret2
    exact ⟨by rw [Hp.out, He.out]; rfl, HBa.out.trans (hb1.mono HBa.out.size)⟩
  | true =>
    have he : listErr (ms.map toM) (rs.map toR) = 0 := if_pos hl
    have hp : dprintP ms rs = toB (dtextL ms rs) := by unfold dprintP; rw [hl]; rfl
    have He := Lib.hid he; have Hp := Lib.hid hp
    have he2 : (listErr (ms.map toM) (rs.map toR) != 0) = false := by rw [he]; rfl
    clear he hp hl
    go_enter Tryz.func11, Tryz.ntmps11
    go_wp2_with (go_at_call 17; (with_reducible refine (rcheck_any A0 A1 c0 c1 ms rs _ h0n hc0 h1n hc1 sm sr lm lr lp).mono ?_); rintro e w1 ⟨rfl, hb1⟩)
    have HB := Lib.hid (HBa.out.trans (hb1.mono HBa.out.size))
    have HP := Lib.hid (blk_at B0.out hb1)
    clear B0 HBa h0n h1n hb1
    go_loopw [4, 5] (fun s i wr => ∃ (k : Nat) (t : ByteArray), k ≤ ms.length ∧ i = .int .i64 k ∧ s = .string t ∧ Hid (t.data.toList = (ms.take k).flatMap dmodL) ∧ Hid (Below w.heap.size w wr) ∧ Hid (wr.heap[w.heap.size]? = some (.cells #[.slice A0 ms.length c0, .slice A1 rs.length c1] 35 (0, 0)))) (fun s i wr => ms.length - (intOf i).toNat)
    case atStart => exact ⟨0, ⟨#[]⟩, Nat.zero_le _, rfl, rfl, (show _ = _ from rfl), HB, HP⟩
    case round =>
      clear HB HP
      obtain ⟨k, t, hk, rfl, rfl, HT, HB, HP⟩ := hrel
      obtain ⟨p0, p1⟩ := blk2 HP.out
      by_cases hlt : k < ms.length
      · obtain ⟨m, Hm⟩ : ∃ m, Hid (ms.getD k zDM = m) := ⟨_, rfl⟩
        obtain ⟨ad, A6, c6, hA, e0, e1, e2, e3, e4, e5, e6, l6, g6⟩ := rmod_at h0 hlt Hm.out
        subst hA
        replace e0 := pw_cell_below HB.out e0; replace e1 := pw_cell_below HB.out e1; replace e2 := pw_cell_below HB.out e2; replace e3 := pw_cell_below HB.out e3
        replace e4 := pw_cell_below HB.out e4; replace e5 := pw_cell_below HB.out e5; replace e6 := pw_cell_below HB.out e6
        have smm : SmallM (toM m) := Hm.out ▸ sm _ (getD_mem hlt)
        have z1 : m.f0.f0.size ≤ 1099511627770 := smm.1
        have z2 : m.f0.f1.size ≤ 1099511627770 := smm.2.1
        have z3 : m.f2.size ≤ 1099511627770 := smm.2.2.1
        have z4 : m.f3.f0.size ≤ 1099511627770 := smm.2.2.2.1
        have z5 : m.f3.f1.size ≤ 1099511627770 := smm.2.2.2.2.1
        have zt : t.size ≤ 140737488355328 := by
          rw [Lib.size_eq, HT.out]
          have h2 := flat_take dmodL ms k
          have h3 : (ms.flatMap dmodL).length ≤ (dtextL ms rs).length := by unfold dtextL; rw [List.length_append]; omega
          omega
        obtain ⟨q, Hq⟩ : ∃ q, Hid (dmodP m.f0.f0 m.f0.f1 = q) := ⟨_, rfl⟩
        obtain ⟨q2, Hq2⟩ : ∃ q2, Hid (dmodP m.f3.f0 m.f3.f1 = q2) := ⟨_, rfl⟩
        have zq : q.size ≤ 8796093022200 := by rw [← Hq.out]; have := dmodP_size m.f0.f0 m.f0.f1; omega
        have zq2 : q2.size ≤ 8796093022200 := by rw [← Hq2.out]; have := dmodP_size m.f3.f0 m.f3.f1; omega
        have HN := Lib.hid (blk_new wr (.cells #[.string m.f0.f0, .string m.f0.f1, .bool m.f1, .string m.f2, .string m.f3.f0, .string m.f3.f1, .slice A6 m.f4.length c6] 45))
        have hba := below_alloc (Below.refl _ wr) (.cells #[.string m.f0.f0, .string m.f0.f1, .bool m.f1, .string m.f2, .string m.f3.f0, .string m.f3.f1, .slice A6 m.f4.length c6] 45)
        have HP1 := Lib.hid (blk_at HP.out hba); have HB1 := Lib.hid (below_alloc HB.out (.cells #[.string m.f0.f0, .string m.f0.f1, .bool m.f1, .string m.f2, .string m.f3.f0, .string m.f3.f1, .slice A6 m.f4.length c6] 45))
        clear HP HB hba; have HP := HP1; have HB := HB1; clear HP1 HB1
        obtain ⟨x0, hx0⟩ : ∃ x0, (m.f3.f0.toList.isEmpty && m.f3.f1.toList.isEmpty) = x0 := ⟨_, rfl⟩
        go_upto_region 9 with (go_at_call 25; (with_reducible refine (rmod_any m.f0.f0 m.f0.f1 _ z1 z2).mono ?_); rintro e w2 ⟨he, hb2⟩; rw [Hq.out] at he; subst he; have HN1 := Lib.hid (blk_at HN.out hb2); have HP1 := Lib.hid (blk_at HP.out hb2); have HB1 := Lib.hid (HB.out.trans (hb2.mono HB.out.size)); clear HN HP HB; have HN := HN1; have HP := HP1; have HB := HB1; clear HN1 HP1 HB1 hb2; obtain ⟨f0, f1, f2, f3, f4, f5, f6⟩ := blk7 HN.out)
        go_cut [33] (fun b wc => b = .bool (!x0) ∧ Hid (Below w.heap.size w wc) ∧ Hid (wc.heap[w.heap.size]? = some (.cells #[.slice (some ad) ms.length c0, .slice A1 rs.length c1] 35 (0, 0))) ∧ Hid (wc.heap[wr.heap.size]? = some (.cells #[.string m.f0.f0, .string m.f0.f1, .bool m.f1, .string m.f2, .string m.f3.f0, .string m.f3.f1, .slice A6 m.f4.length c6] 45 (0, 0))))
        case first =>
          by_cases h1 : m.f3.f0.toList = []
          · by_cases h2 : m.f3.f1.toList = []
            · rw [h1, h2] at hx0
              subst hx0
              go_wp2
              go_meet
              exact ⟨rfl, HB, HP, HN⟩
            · rw [show m.f3.f1.toList.isEmpty = false from by simpa using h2, Bool.and_false] at hx0
              subst hx0
              go_wp2
              go_meet
              exact ⟨rfl, HB, HP, HN⟩
          · rw [show m.f3.f0.toList.isEmpty = false from by simpa using h1, Bool.false_and] at hx0
            subst hx0
            go_wp2
            go_meet
            exact ⟨rfl, HB, HP, HN⟩
        case rest =>
        clear HB HP HN f0 f1 f2 f3 f4 f5 f6 e0 e1 e2 e3 e4 e5 e6 p0 p1
        obtain ⟨hu, HB, HP, HN⟩ := hcut
        subst hu
        obtain ⟨f0, f1, f2, f3, f4, f5, f6⟩ := blk7 HN.out
        go_upto_if 33 with (fail)
        go_cut [4] (fun s wc => ∃ t2 : ByteArray, s = .string t2 ∧ Hid (t2.data.toList = t.data.toList ++ ([35, 32] : List UInt8) ++ q.data.toList ++ dnewL m.f3.f0 m.f3.f1) ∧ Hid (Below w.heap.size w wc) ∧ Hid (wc.heap[w.heap.size]? = some (.cells #[.slice (some ad) ms.length c0, .slice A1 rs.length c1] 35 (0, 0))) ∧ Hid (wc.heap[wr.heap.size]? = some (.cells #[.string m.f0.f0, .string m.f0.f1, .bool m.f1, .string m.f2, .string m.f3.f0, .string m.f3.f1, .slice A6 m.f4.length c6] 45 (0, 0))))
        case first =>
          cases x0 with
          | true =>
            go_wp2
            go_meet
            exact ⟨_, rfl, (show _ = _ from by unfold dnewL; rw [if_pos hx0]; simp [ByteArray.data_append]), HB, HP, HN⟩
          | false =>
            go_wp2_with (go_at_call 25; (with_reducible refine (rmod_any m.f3.f0 m.f3.f1 _ z4 z5).mono ?_); rintro e w2 ⟨he, hb2⟩; rw [Hq2.out] at he; subst he; have HN1 := Lib.hid (blk_at HN.out hb2); have HP1 := Lib.hid (blk_at HP.out hb2); have HB1 := Lib.hid (HB.out.trans (hb2.mono HB.out.size)); clear HN HP HB; have HN := HN1; have HP := HP1; have HB := HB1; clear HN1 HP1 HB1 hb2)
            go_meet
            exact ⟨_, rfl, (show _ = _ from by unfold dnewL; rw [if_neg (by rw [hx0]; decide), Hq2.out]; simp [ByteArray.data_append]), HB, HP, HN⟩
        case rest =>
          clear hx0
          clear HB HP HN f0 f1 f2 f3 f4 f5 f6
          obtain ⟨t2, hu, HT2, HB, HP, HN⟩ := hcut
          subst hu
          obtain ⟨f0, f1, f2, f3, f4, f5, f6⟩ := blk7 HN.out
          have zt2 : t2.size ≤ 160000000000000 := by
            rw [Lib.size_eq, HT2.out]
            rw [Lib.size_eq] at zt zq zq2
            have : (dnewL m.f3.f0 m.f3.f1).length ≤ 4 + q2.data.toList.length := by
              unfold dnewL; rw [Hq2.out]; split <;> simp
              all_goals omega
            simp only [List.length_append, List.length_cons, List.length_nil]; omega
          go_upto_region 12 with (fail)
          go_cut [48] (fun b wc => b = .bool (m.f1 || !m.f2.toList.isEmpty) ∧ Hid (Below w.heap.size w wc) ∧ Hid (wc.heap[w.heap.size]? = some (.cells #[.slice (some ad) ms.length c0, .slice A1 rs.length c1] 35 (0, 0))) ∧ Hid (wc.heap[wr.heap.size]? = some (.cells #[.string m.f0.f0, .string m.f0.f1, .bool m.f1, .string m.f2, .string m.f3.f0, .string m.f3.f1, .slice A6 m.f4.length c6] 45 (0, 0))))
          case first =>
            cases x1 : m.f1 with
            | true =>
              go_wp2
              go_meet
              exact ⟨by rw [x1]; rfl, HB, HP, HN⟩
            | false =>
              go_wp2
              go_meet
              exact ⟨by rw [x1]; rfl, HB, HP, HN⟩
          case rest =>
          clear HB HP HN f0 f1 f2 f3 f4 f5 f6
          obtain ⟨hu, HB, HP, HN⟩ := hcut
          subst hu
          obtain ⟨f0, f1, f2, f3, f4, f5, f6⟩ := blk7 HN.out
          go_upto_if 48 with (fail)
          go_cut [4] (fun s wc => ∃ t3 : ByteArray, s = .string t3 ∧ Hid (t3.data.toList = t2.data.toList ++ ([10] : List UInt8) ++ markL (toM m)) ∧ Hid (Below w.heap.size w wc) ∧ Hid (wc.heap[w.heap.size]? = some (.cells #[.slice (some ad) ms.length c0, .slice A1 rs.length c1] 35 (0, 0))) ∧ Hid (wc.heap[wr.heap.size]? = some (.cells #[.string m.f0.f0, .string m.f0.f1, .bool m.f1, .string m.f2, .string m.f3.f0, .string m.f3.f1, .slice A6 m.f4.length c6] 45 (0, 0))))
          case first =>
            cases x1 : m.f1 with
            | true =>
              cases x2 : m.f2.toList.isEmpty with
              | true =>
                go_wp2
                go_meet
                exact ⟨_, rfl, (show _ = _ from by rw [mark_tf (toM m) x1 x2]; simp [ByteArray.data_append, explicitB, toM]), HB, HP, x1 ▸ HN⟩
              | false =>
                go_wp2
                go_meet
                exact ⟨_, rfl, (show _ = _ from by rw [mark_tt (toM m) x1 x2]; simp [ByteArray.data_append, explicitB, toM]), HB, HP, x1 ▸ HN⟩
            | false =>
              cases x2 : m.f2.toList.isEmpty with
              | true =>
                go_wp2
                go_meet
                exact ⟨_, rfl, (show _ = _ from by rw [mark_ff (toM m) x1 x2]; simp [ByteArray.data_append, explicitB, toM]), HB, HP, x1 ▸ HN⟩
              | false =>
                go_wp2
                go_meet
                exact ⟨_, rfl, (show _ = _ from by rw [mark_ft (toM m) x1 x2]; simp [ByteArray.data_append, explicitB, toM]), HB, HP, x1 ▸ HN⟩
          case rest =>
            clear HB HP HN f0 f1 f2 f3 f4 f5 f6
            obtain ⟨t3, hu, HT3, HB, HP, HN⟩ := hcut
            subst hu
            obtain ⟨wo, rfl⟩ : ∃ wo : World, wo = wr := ⟨_, rfl⟩
            have hmf : m.f4.length ≤ 1099511627770 := smm.2.2.2.2.2.1
            have HT3h : Hid (t3.data.toList = (ms.take k).flatMap dmodL ++ dheadL m ++ markL (toM m)) := by
              have h2 := HT2.out
              rw [HT.out, ← Hq.out] at h2
              exact (show _ = _ from by rw [HT3.out, h2]; unfold dheadL; simp only [List.append_assoc])
            have hsum : (t3.data.toList ++ pkgL m.f4).length ≤ 140737488355328 := by
              have h2 := flat_take dmodL ms (k + 1)
              rw [flat_succ dmodL hlt Hm.out] at h2
              have h3 : (ms.flatMap dmodL).length ≤ (dtextL ms rs).length := by unfold dtextL; rw [List.length_append]; omega
              rw [HT3h.out]
              rw [show dmodL m = dheadL m ++ markL (toM m) ++ pkgL m.f4 from rfl] at h2
              simp only [List.length_append] at h2 ⊢; omega
            have Hsum := Lib.hid hsum; clear hsum
            go_wp2
            go_loopw [4, 7] (fun s i wr => ∃ (n : Nat) (u : ByteArray), n ≤ m.f4.length ∧ i = .int .i64 n ∧ s = .string u ∧ Hid (u.data.toList = t3.data.toList ++ pkgL (m.f4.take n)) ∧ wr = wc) (fun s i wr => m.f4.length - (intOf i).toNat)
            case atStart => exact ⟨0, t3, Nat.zero_le _, rfl, rfl, (show _ = _ from (List.append_nil _).symm), rfl⟩
            case round =>
              obtain ⟨n, u, hn, rfl, rfl, HU, rfl⟩ := hrel
              obtain ⟨f0, f1, f2, f3, f4, f5, f6⟩ := blk7 HN.out
              by_cases hnl : n < m.f4.length
              · obtain ⟨s, Hs⟩ : ∃ s, Hid (m.f4.getD n emp = s) := ⟨_, rfl⟩
                obtain ⟨a6, ha6, hc6⟩ := strC_cell g6 hnl
                subst ha6
                rw [Hs.out] at hc6
                replace hc6 := pw_cell_below HB.out hc6
                have hs4 : s.size ≤ 1099511627770 := smm.2.2.2.2.2.2 s (Hs.out ▸ getD_mem hnl)
                have hu4 : u.size ≤ 140737488355328 := by
                  have h2 := Hsum.out
                  have h3 := flat_take (fun p : ByteArray => p.data.toList ++ [10]) m.f4 n
                  rw [Lib.size_eq, HU.out]
                  unfold pkgL at h2 ⊢
                  simp only [List.length_append] at h2 ⊢; omega
                go_wp2
                go_roundw
                case rel =>
                  refine ⟨n + 1, _, by omega, by go_num, rfl, (show _ = _ from ?_), by first | trivial | rfl⟩
                  have hfs := flat_succ (fun p : ByteArray => p.data.toList ++ [10]) hnl Hs.out
                  unfold pkgL
                  rw [hfs, ByteArray.data_append, ByteArray.data_append, Array.toList_append, Array.toList_append, HU.out]
                  unfold pkgL
                  simp only [List.append_assoc]
                case measure => simp [intOf]; omega
              · obtain rfl : n = m.f4.length := by omega
                go_wp2
                refine ⟨⟨k + 1, u, by omega, by go_num, rfl, (show _ = _ from ?_), HB, HP⟩, by simp [intOf]; omega⟩
                rw [HU.out, List.take_length, HT3h.out, flat_succ dmodL hlt Hm.out, show dmodL m = dheadL m ++ markL (toM m) ++ pkgL m.f4 from rfl]
                simp only [List.append_assoc]
      · obtain rfl : k = ms.length := by omega
        rw [List.take_length] at HT
        go_wp2
        clear p0 p1
        go_loopw [4, 8] (fun s i wr => ∃ (n : Nat) (u : ByteArray), n ≤ rs.length ∧ i = .int .i64 n ∧ s = .string u ∧ Hid (u.data.toList = ms.flatMap dmodL ++ (rs.take n).flatMap drepL) ∧ Hid (Below w.heap.size w wr) ∧ Hid (wr.heap[w.heap.size]? = some (.cells #[.slice A0 ms.length c0, .slice A1 rs.length c1] 35 (0, 0)))) (fun s i wr => rs.length - (intOf i).toNat)
        case atStart => exact ⟨0, t, Nat.zero_le _, rfl, rfl, (show _ = _ from by rw [HT.out]; exact (List.append_nil _).symm), HB, HP⟩
        case round =>
          clear HB HP HT
          obtain ⟨n, u, hn, rfl, rfl, HU, HB, HP⟩ := hrel
          obtain ⟨p0, p1⟩ := blk2 HP.out
          by_cases hnl : n < rs.length
          · obtain ⟨r, Hr⟩ : ∃ r, Hid (rs.getD n zDR = r) := ⟨_, rfl⟩
            obtain ⟨ad, hA, e0, e1, e2, e3⟩ := rrep_at h1 hnl Hr.out
            subst hA
            replace e0 := pw_cell_below HB.out e0; replace e1 := pw_cell_below HB.out e1; replace e2 := pw_cell_below HB.out e2; replace e3 := pw_cell_below HB.out e3
            have smr : SmallR (toR r) := Hr.out ▸ sr _ (getD_mem hnl)
            have z1 : r.f0.f0.size ≤ 1099511627770 := smr.1
            have z2 : r.f0.f1.size ≤ 1099511627770 := smr.2.1
            have z4 : r.f1.f0.size ≤ 1099511627770 := smr.2.2.1
            have z5 : r.f1.f1.size ≤ 1099511627770 := smr.2.2.2
            have zu : u.size ≤ 140737488355328 := by
              rw [Lib.size_eq, HU.out]
              have h2 := flat_take drepL rs n
              unfold dtextL at lt
              rw [List.length_append] at lt ⊢
              omega
            obtain ⟨q, Hq⟩ : ∃ q, Hid (dmodP r.f0.f0 r.f0.f1 = q) := ⟨_, rfl⟩
            obtain ⟨q2, Hq2⟩ : ∃ q2, Hid (dmodP r.f1.f0 r.f1.f1 = q2) := ⟨_, rfl⟩
            have zq : q.size ≤ 8796093022200 := by rw [← Hq.out]; have := dmodP_size r.f0.f0 r.f0.f1; omega
            have zq2 : q2.size ≤ 8796093022200 := by rw [← Hq2.out]; have := dmodP_size r.f1.f0 r.f1.f1; omega
            go_wp2_with fail
            refine pl_start 21 ((0, 0) :: (1, 0) :: (2, 0) :: (4, 0) :: (11, 0) :: (13, 0) :: (3, 1) :: (5, 0) :: (6, 0) :: (7, 1) :: (12, 1) :: (14, 0) :: (15, 0) :: (16, 1) :: (8, 2) :: (9, 0) :: (10, 0) :: (17, 2) :: (18, 0) :: (19, 0) :: (20, 0) :: []) (fun w' => w'.cell? ⟨w.heap.size, 1, none⟩ = some (.slice (some ad) rs.length c1) ∧ w'.cell? (ad.add (n * 4)) = some (.string r.f0.f0) ∧ w'.cell? ⟨(ad.add (n * 4)).block, (ad.add (n * 4)).off + 1, none⟩ = some (.string r.f0.f1) ∧ w'.cell? ⟨(ad.add (n * 4)).block, (ad.add (n * 4)).off + 2, none⟩ = some (.string r.f1.f0) ∧ w'.cell? ⟨(ad.add (n * 4)).block, (ad.add (n * 4)).off + 3, none⟩ = some (.string r.f1.f1)) [] ⟨p1, e0, e1, e2, e3⟩ (fun hs => ?_)
            have s1 : (⟨#[35, 32]⟩ : ByteArray).size = 2 := rfl
            have s2 : (⟨#[32, 61, 62, 32]⟩ : ByteArray).size = 4 := rfl
            have s3 : (⟨#[10]⟩ : ByteArray).size = 1 := rfl
            repeat (first | refine pl_pure ?_ | refine pl_pure ?_ (hy := by intro w'; go_simp; rw [if_neg (by (try simp only [ByteArray.size_append, s1, s2, s3]); omega)]) | refine pl_load hs ?_)
            refine pl_call #[.agg #[.string r.f0.f0, .string r.f0.f1]] Tryz.func25 ?_
            (with_reducible refine (rmod_any _ _ _ z1 z2).mono ?_)
            rintro e w2 ⟨he, hb2⟩
            rw [Hq.out] at he
            subst he
            have HP2 := Lib.hid (blk_d hb2 rfl HP.out)
            have HB2 := Lib.hid (HB.out.drew.trans (hb2.mono HB.out.size))
            obtain ⟨r0, r1⟩ := blk2 HP2.out
            refine ⟨_, rfl, ⟨r1, pw_cell_below hb2 e0, pw_cell_below hb2 e1, pw_cell_below hb2 e2, pw_cell_below hb2 e3⟩, fun hs => ?_⟩
            refine pl_norm ?_
            repeat (first | refine pl_pure ?_ | refine pl_pure ?_ (hy := by intro w'; go_simp; rw [if_neg (by (try simp only [ByteArray.size_append, s1, s2, s3]); omega)]) | refine pl_load hs ?_)
            refine pl_call #[.agg #[.string r.f1.f0, .string r.f1.f1]] Tryz.func25 ?_
            (with_reducible refine (rmod_any _ _ _ z4 z5).mono ?_)
            rintro e w3 ⟨he, hb3⟩
            rw [Hq2.out] at he
            subst he
            have HP3 := Lib.hid (blk_at HP2.out hb3)
            have HB3 := Lib.hid (HB2.out.trans (hb3.mono HB2.out.size))
            clear r0 r1
            obtain ⟨r0, r1⟩ := blk2 HP3.out
            refine ⟨_, rfl, ⟨r1, pw_cell_below hb3 (pw_cell_below hb2 e0), pw_cell_below hb3 (pw_cell_below hb2 e1), pw_cell_below hb3 (pw_cell_below hb2 e2), pw_cell_below hb3 (pw_cell_below hb2 e3)⟩, fun hs => ?_⟩
            refine pl_norm ?_
            repeat (first | refine pl_pure ?_ | refine pl_pure ?_ (hy := by intro w'; go_simp; rw [if_neg (by (try simp only [ByteArray.size_append, s1, s2, s3]); omega)]) | refine pl_load hs ?_)
            refine plan_done ?_
            go_wp2_with fail
            go_roundw
            case rel =>
              refine ⟨n + 1, _, by omega, by go_num, rfl, (show _ = _ from ?_), HB3, HP3⟩
              rw [flat_succ drepL hnl Hr.out, show drepL r = [35, 32] ++ (dmodP r.f0.f0 r.f0.f1).data.toList ++ [32, 61, 62, 32] ++ (dmodP r.f1.f0 r.f1.f1).data.toList ++ [10] from rfl, Hq.out, Hq2.out]
              simp only [ByteArray.data_append, Array.toList_append, HU.out, List.append_assoc]
            case measure => simp [intOf]; omega
          · obtain rfl : n = rs.length := by omega
            rw [List.take_length] at HU
            have htx : dtextL ms rs = u.data.toList := HU.out.symm
            go_wp2
            go_ret2
            exact ⟨by rw [Hp.out, He.out, htx]; rfl, HB.out⟩
end Go.Proofs.YtcdcpcdfcmokkaaGreatDoor
