/- modtxt.Print: a list as it is printed. · Contracts of the document's printed functions in plain words. · A region that draws its order, walked by a plan: each operation by its place and its kind (0: it yields in every world; 1: a load, under S; 2: it comes up alone, S is shown behind it). -/
import Derived.Test.YtcdcpcdfcmokkaaGreatDoorO29
import Derived.Test.YtcdcpcdfcmokkaaGreatDoorO28
import Derived.Test.YtcdcpcdfcmokkaaGreatDoorO24
import Derived.Test.YtcdcpcdfcmokkaaGreatDoorO14
import Derived.Test.YtcdcpcdfcmokkaaGreatDoorO03
import Derived.Test.YtcdcpcdfcmokkaaGreatDoorO04
import Derived.WalkKit
import Derived.KernelRfl
set_option linter.unusedVariables false
set_option linter.unusedSimpArgs false
section
namespace Go.Proofs.YtcdcpcdfcmokkaaGreatDoor
open Go Go.RowKit Go.Shelf Go.Proofs.YtcdcpcdfcmokkaaGreatDoorW.PrintWords
set_option linter.unusedVariables false
set_option linter.unusedSimpArgs false
attribute [local go_sem] neq_nil_strs
set_option maxHeartbeats 16000000 in
set_option maxRecDepth 100000 in
theorem print_any (A0 A1 : Option Addr) (c0 c1 : Nat) (ms : List SM) (rs : List SR) (w : World) (h0 : Kd.C P.k41 w A0 ms.length ms) (hc0 : ms.length ≤ c0) (h1 : Kd.C P.k59 w A1 rs.length rs) (hc1 : rs.length ≤ c1)
    (sm : ∀ m ∈ ms, SmallM m) (sr : ∀ r ∈ rs, SmallR r) (lm : ms.length ≤ 1048576) (lr : rs.length ≤ 1099511627770) (lp : (metB ms ms.length).length ≤ 1099511627770) (lt : (textL ms rs).length ≤ 140737488355328) :
    Calls Tryz.prog 10 #[.agg #[.slice A0 ms.length c0, .slice A1 rs.length c1]] w fun e w' => e = .returned (.tuple #[.string (printP ms rs), .int .i64 (listErr ms rs)]) ∧ Below w.heap.size w w' := by
  have B0 := Lib.hid (blk_new w (.cells #[.slice A0 ms.length c0, .slice A1 rs.length c1] 25))
  have HBa := Lib.hid (below_alloc (Below.refl w.heap.size w) (.cells #[.slice A0 ms.length c0, .slice A1 rs.length c1] 25))
  have h0n := Kd.C_below h0 HBa.out
  have h1n := Kd.C_below h1 HBa.out
  cases hl : listB ms rs with
  | false =>
    have he : listErr ms rs = 190 := listErr_bad hl
    have hp : printP ms rs = emp := by unfold printP; rw [hl]; rfl
    have He := Lib.hid he; have Hp := Lib.hid hp
    have he2 : (listErr ms rs != 0) = true := by rw [he]; rfl
    clear he hp hl
    go_enter Tryz.func10, Tryz.ntmps10
    go_wp2_with (go_at_call 16; (with_reducible refine (check_any A0 A1 c0 c1 ms rs _ h0n hc0 h1n hc1 sm sr lm lr lp).mono ?_); rintro e w1 ⟨rfl, hb1⟩)
    go_ret2
    exact ⟨by rw [Hp.out, He.out]; rfl, HBa.out.trans (hb1.mono HBa.out.size)⟩
  | true =>
    have he : listErr ms rs = 0 := if_pos hl
    have hp : printP ms rs = toB (textL ms rs) := by unfold printP; rw [hl]; rfl
    have He := Lib.hid he; have Hp := Lib.hid hp
    have he2 : (listErr ms rs != 0) = false := by rw [he]; rfl
    clear he hp hl
    go_enter Tryz.func10, Tryz.ntmps10
    go_wp2_with (go_at_call 16; (with_reducible refine (check_any A0 A1 c0 c1 ms rs _ h0n hc0 h1n hc1 sm sr lm lr lp).mono ?_); rintro e w1 ⟨rfl, hb1⟩; obtain ⟨p0, p1⟩ := blk2 (blk_at (blk_at B0.out hb1) (below_alloc (Below.refl _ w1) (.cells #[.pointer none, .slice none 0 0] 63))))
    have HB := Lib.hid (below_alloc (HBa.out.trans (hb1.mono HBa.out.size)) (.cells #[.pointer none, .slice none 0 0] 63))
    have HP := Lib.hid (blk_at (blk_at B0.out hb1) (below_alloc (Below.refl _ w1) (.cells #[.pointer none, .slice none 0 0] 63)))
    have HI : Hid (Lib.IsBuilder 63 5 w1.heap.size w1.heap.size (Lib.byteCells []) (w1.alloc (.cells #[.pointer none, .slice none 0 0] 63))) := Lib.hid (.inl ⟨Nat.le_refl _, .slice none 0 0, blk_new _ _, own_nil _ _ _ _, by simp [Value.ownBlock]⟩)
    have hw1 : w.heap.size < w1.heap.size := blk_lt (blk_at B0.out hb1)
    clear B0 HBa h0n h1n hb1 p0 p1
    go_loopw [18] (fun i wr => ∃ k : Nat, k ≤ ms.length ∧ i = .int .i64 k ∧ Hid (Below w.heap.size w wr) ∧ Hid (wr.heap[w.heap.size]? = some (.cells #[.slice A0 ms.length c0, .slice A1 rs.length c1] 25 (0, 0))) ∧ Hid (Lib.IsBuilder 63 5 w1.heap.size w1.heap.size (Lib.byteCells ((ms.take k).flatMap modL)) wr)) (fun i wr => ms.length - (intOf i).toNat)
    case atStart => exact ⟨0, Nat.zero_le _, rfl, HB, HP, HI⟩
    case round =>
      clear HB HP HI
      obtain ⟨k, hk, rfl, HB, HP, HI⟩ := hrel
      by_cases hlt : k < ms.length
      · obtain ⟨m, Hm⟩ : ∃ m, Hid (ms.getD k zM = m) := ⟨_, rfl⟩
        obtain ⟨ad, A6, c6, hA, e0, e1, e2, e3, e4, e5, e6, l6, g6⟩ := mod_at h0 hlt Hm.out
        subst hA
        replace e0 := pw_cell_below HB.out e0; replace e1 := pw_cell_below HB.out e1; replace e2 := pw_cell_below HB.out e2; replace e3 := pw_cell_below HB.out e3
        replace e4 := pw_cell_below HB.out e4; replace e5 := pw_cell_below HB.out e5; replace e6 := pw_cell_below HB.out e6
        have smm : SmallM m := Hm.out ▸ sm _ (getD_mem hlt)
        have z1 : m.f0.f0.size ≤ 1099511627770 := smm.1
        have z2 : m.f0.f1.size ≤ 1099511627770 := smm.2.1
        have z3 : m.f2.size ≤ 1099511627770 := smm.2.2.1
        have z4 : m.f3.f0.size ≤ 1099511627770 := smm.2.2.2.1
        have z5 : m.f3.f1.size ≤ 1099511627770 := smm.2.2.2.2.1
        have hbm : wr.heap.size ≠ w1.heap.size := by have := bld_lt HI.out; omega
        obtain ⟨q, Hq⟩ : ∃ q, Hid (modW m.f0.f0 m.f0.f1 m.f3.f0 m.f3.f1 = q) := ⟨_, rfl⟩
        obtain ⟨T, HT⟩ : ∃ T, Hid ((ms.take k).flatMap modL = T) := ⟨_, rfl⟩
        have hline : ((⟨#[35, 32]⟩ : ByteArray) ++ q ++ (⟨#[10]⟩ : ByteArray)).data.toList = lineL m.f0.f0 m.f0.f1 m.f3.f0 m.f3.f1 := by unfold lineL; rw [Hq.out]; simp [ByteArray.data_append]
        have hTL : T.length + ((lineL m.f0.f0 m.f0.f1 m.f3.f0 m.f3.f1).length + (markL m).length + (pkgL m.f4).length) ≤ 140737488355328 := by
          have h2 := flat_take modL ms (k + 1)
          rw [flat_succ modL hlt Hm.out, HT.out, List.length_append] at h2
          have h3 : (ms.flatMap modL).length ≤ (textL ms rs).length := by unfold textL; rw [List.length_append]; omega
          have h4 : (modL m).length = (lineL m.f0.f0 m.f0.f1 m.f3.f0 m.f3.f1).length + (markL m).length + (pkgL m.f4).length := by unfold modL; rw [List.length_append, List.length_append]
          omega
        have hs1 : T.length + ((⟨#[35, 32]⟩ : ByteArray) ++ q ++ (⟨#[10]⟩ : ByteArray)).size ≤ 140737488355328 := by rw [Lib.size_eq, hline]; omega
        have hqs : q.size ≤ 8796093022200 := by
          rw [← Hq.out]; unfold modW
          have s1 := modP_size m.f0.f0 m.f0.f1
          have s2 := modP_size m.f3.f0 m.f3.f1
          split
          · omega
          · rw [ByteArray.size_append, ByteArray.size_append]; show _ + (4 + _) ≤ _; omega
        rw [HT.out] at HI
        have Hline := Lib.hid hline; clear hline
        have HTL := Lib.hid hTL; clear hTL
        have HN := Lib.hid (blk_new wr (.cells #[.string m.f0.f0, .string m.f0.f1, .bool m.f1, .string m.f2, .string m.f3.f0, .string m.f3.f1, .slice A6 m.f4.length c6] 41))
        have hba := below_alloc (Below.refl _ wr) (.cells #[.string m.f0.f0, .string m.f0.f1, .bool m.f1, .string m.f2, .string m.f3.f0, .string m.f3.f1, .slice A6 m.f4.length c6] 41)
        have HP1 := Lib.hid (blk_at HP.out hba); have HB1 := Lib.hid (below_alloc HB.out (.cells #[.string m.f0.f0, .string m.f0.f1, .bool m.f1, .string m.f2, .string m.f3.f0, .string m.f3.f1, .slice A6 m.f4.length c6] 41)); have HI1 := Lib.hid (bld_below HI.out hba)
        clear HP HB HI hba; have HP := HP1; have HB := HB1; have HI := HI1; clear HP1 HB1 HI1
        go_upto_if 31 with (first | (go_at_call 22; (with_reducible refine (mod_any m.f0.f0 m.f0.f1 m.f3.f0 m.f3.f1 _ z1 z2 z4 z5).mono ?_); rintro e w2 ⟨he, hb2⟩; rw [Hq.out] at he; subst he; have HN1 := Lib.hid (blk_at HN.out hb2); have HP1 := Lib.hid (blk_at HP.out hb2); have HB1 := Lib.hid (HB.out.trans (hb2.mono HB.out.size)); have HI1 := Lib.hid (bld_below HI.out hb2); clear HN HP HB HI; have HN := HN1; have HP := HP1; have HB := HB1; have HI := HI1; clear HN1 HP1 HB1 HI1 hb2; obtain ⟨f0, f1, f2, f3, f4, f5, f6⟩ := blk7 HN.out) | (go_at_call 21; (with_reducible refine (write_any w1.heap.size w1.heap.size T _ _ HI.out hs1 (Nat.le_of_lt (bld_lt HI.out))).mono ?_); rintro e w2 ⟨rfl, hi2, hb2, ho2⟩; have HN1 := Lib.hid (kept_blk ho2 HN.out hbm (by decide)); have HP1 := Lib.hid ((hb2.block _ hw1).trans HP.out); have HB1 := Lib.hid (HB.out.trans (hb2.mono (Nat.le_of_lt hw1))); clear HN HP HB HI; have HN := HN1; have HP := HP1; have HB := HB1; have HI := Lib.hid hi2; clear HN1 HP1 HB1 hb2 ho2 hi2; obtain ⟨f0, f1, f2, f3, f4, f5, f6⟩ := blk7 HN.out))
        go_cut [7] (fun v wc => Hid (Below w.heap.size w wc) ∧ Hid (wc.heap[w.heap.size]? = some (.cells #[.slice (some ad) ms.length c0, .slice A1 rs.length c1] 25 (0, 0))) ∧ Hid (wc.heap[wr.heap.size]? = some (.cells #[.string m.f0.f0, .string m.f0.f1, .bool m.f1, .string m.f2, .string m.f3.f0, .string m.f3.f1, .slice A6 m.f4.length c6] 41 (0, 0))) ∧ Hid (Lib.IsBuilder 63 5 w1.heap.size w1.heap.size (Lib.byteCells (T ++ lineL m.f0.f0 m.f0.f1 m.f3.f0 m.f3.f1)) wc) ∧ Hid (Kd.R Kd.string 9 wc w.heap.size (fun _ => True) v (marks1 m)) ∧ Hid (marks1 m = [] → v = .slice none 0 0))
        case first =>
          have hi := HI.out
          rw [Hline.out] at hi
          clear HI
          have HI := Lib.hid hi; clear hi
          cases x1 : m.f1 with
          | true =>
            go_wp2_with ((with_reducible refine gate_builtin (b := .append) (xs := #[.tmp 32, .tmp 33]) rfl ?_); at_builtin; refine Kd.R_append Kd.string (w0 := w) w.heap.size rfl (.tmp 32) (.tmp 33) 39 9 (.string ⟨#[]⟩) 16 rfl Tryz.underlying39 infoStr rfl (by decide) (by omega) (.slice none 0 0) [] explicitB [.string explicitB] (fun _ => True) (fun _ => False) rfl rfl ?aP (fun _ hk => hk.elim) (fun _ _ => trivial) (Kd.R_nil _ _ _ _ _) HB.out HB.out.size (by decide) ?_; (case aP => exact (show _ = _ from rfl)); intro v2 w3 ho hb3 hg3 hat3)
            go_meet
            exact ⟨hb3, blk_grown HP.out hg3 (by simp [Value.ownBlock]), blk_grown HN.out hg3 (by simp [Value.ownBlock]), bld_grown (t := 9) HI.out hg3 (fun g e => by simp [Value.ownBlock] at e) (by decide) (by decide), (show Kd.R _ _ _ _ _ _ _ from by unfold marks1; rw [if_pos x1]; exact ho), fun h => by unfold marks1 at h; rw [if_pos x1] at h; cases h⟩
          | false =>
            go_wp2
            go_meet
            exact ⟨HB, HP, HN, HI, (show Kd.R _ _ _ _ _ _ _ from by unfold marks1; rw [if_neg (by rw [x1]; decide)]; exact Kd.R_nil _ _ _ _ _), fun _ => rfl⟩
        case rest =>
          clear HB HP HN HI f0 f1 f2 f3 f4 f5 f6 e0 e1 e2 e3 e4 e5 e6
          obtain ⟨HB, HP, HN, HI, HR, Hnil⟩ := hcut
          obtain ⟨f0, f1, f2, f3, f4, f5, f6⟩ := blk7 HN.out
          go_upto_if 37 with (fail)
          go_cut [7] (fun v wc => Hid (Below w.heap.size w wc) ∧ Hid (wc.heap[w.heap.size]? = some (.cells #[.slice (some ad) ms.length c0, .slice A1 rs.length c1] 25 (0, 0))) ∧ Hid (wc.heap[wr.heap.size]? = some (.cells #[.string m.f0.f0, .string m.f0.f1, .bool m.f1, .string m.f2, .string m.f3.f0, .string m.f3.f1, .slice A6 m.f4.length c6] 41 (0, 0))) ∧ Hid (Lib.IsBuilder 63 5 w1.heap.size w1.heap.size (Lib.byteCells (T ++ lineL m.f0.f0 m.f0.f1 m.f3.f0 m.f3.f1)) wc) ∧ Hid (Kd.R Kd.string 9 wc w.heap.size (fun _ => True) v (marksL m)) ∧ Hid (marksL m = [] → v = .slice none 0 0))
          case first =>
            cases x2 : m.f2.toList.isEmpty with
            | false =>
              go_wp2_with ((with_reducible refine gate_builtin (b := .append) (xs := #[.tmp 38, .tmp 42]) rfl ?_); at_builtin; refine Kd.R_append Kd.string (w0 := w) w.heap.size rfl (.tmp 38) (.tmp 42) 39 9 (.string ⟨#[]⟩) 16 rfl Tryz.underlying39 infoStr rfl (by decide) (by omega) _ (marks1 m) (goB ++ m.f2) [.string (goB ++ m.f2)] (fun _ => True) (fun _ => False) rfl rfl ?aP (fun _ hk => hk.elim) (fun _ _ => trivial) HR.out HB.out HB.out.size (marks1_len m) ?_; (case aP => exact (show _ = _ from rfl)); intro v2 w3 ho hb3 hg3 hat3)
              go_meet
              obtain ⟨inner, how, _⟩ := HR.out.2
              have hL : marksL m = marks1 m ++ [goB ++ m.f2] := by unfold marksL; rw [if_neg (by rw [x2]; decide)]
              rw [hL]
              exact ⟨hb3, blk_grown HP.out hg3 (HR.out.2.ne_block HP.out (by decide)), blk_grown HN.out hg3 (HR.out.2.ne_block HN.out (by decide)), bld_grown (t := 9) HI.out hg3 (fun g e => own_typed how g e) (by decide) (by decide), ho, fun h => by simp at h⟩
            | true =>
              go_wp2
              go_meet
              have hL : marksL m = marks1 m := by unfold marksL; rw [if_pos x2, List.append_nil]
              rw [hL]
              exact ⟨HB, HP, HN, HI, HR, Hnil⟩
          case rest =>
            clear HB HP HN HI HR Hnil f0 f1 f2 f3 f4 f5 f6
            obtain ⟨HB, HP, HN, HI, HR, Hnil⟩ := hcut
            obtain ⟨f0, f1, f2, f3, f4, f5, f6⟩ := blk7 HN.out
            obtain ⟨A7, c7, hv7, _⟩ := HR.out.2.slice_
            subst hv7
            obtain ⟨n7, Hn7⟩ : ∃ n7, Hid ((marksL m).length = n7) := ⟨_, rfl⟩
            rw [Hn7.out] at HR Hnil ⊢
            go_upto_if 45 with (fail)
            go_cut [7] (fun v wc => Hid (Below w.heap.size w wc) ∧ Hid (wc.heap[w.heap.size]? = some (.cells #[.slice (some ad) ms.length c0, .slice A1 rs.length c1] 25 (0, 0))) ∧ Hid (wc.heap[wr.heap.size]? = some (.cells #[.string m.f0.f0, .string m.f0.f1, .bool m.f1, .string m.f2, .string m.f3.f0, .string m.f3.f1, .slice A6 m.f4.length c6] 41 (0, 0))) ∧ Hid (Lib.IsBuilder 63 5 w1.heap.size w1.heap.size (Lib.byteCells (T ++ lineL m.f0.f0 m.f0.f1 m.f3.f0 m.f3.f1 ++ markL m)) wc))
            case first =>
              by_cases hL : marksL m = []
              · have hv := Hnil.out hL
                injection hv with hv _ _
                subst hv
                have hM : markL m = [] := by unfold markL; rw [hL]; rfl
                go_wp2
                go_meet
                rw [hM, List.append_nil]
                exact ⟨HB, HP, HN, HI⟩
              · obtain ⟨g, cv, hv, hgl, hcv, hcells⟩ := strs_of_R HR.out hL
                injection hv with hv hv2 hv3
                subst hv; subst hv3; clear hv2
                obtain ⟨J, HJ⟩ : ∃ J, Hid (Lib.join ((marksL m).map (·.data.toList)) [59, 32] = J) := ⟨_, rfl⟩
                have hM : markL m = [35, 35, 32] ++ J ++ [10] := by unfold markL; rw [if_neg (by simpa using hL), HJ.out]
                have htx : ((⟨#[35, 35, 32]⟩ : ByteArray) ++ ⟨J.toArray⟩ ++ (⟨#[10]⟩ : ByteArray)).data.toList = markL m := by rw [hM]; simp [ByteArray.data_append]
                have hJl : J.length ≤ 140737488355328 := by
                  have h2 := HTL.out
                  have h3 : (markL m).length = 3 + J.length + 1 := by rw [hM]; simp; omega
                  omega
                have hs2 : (T ++ lineL m.f0.f0 m.f0.f1 m.f3.f0 m.f3.f1).length + ((⟨#[35, 35, 32]⟩ : ByteArray) ++ ⟨J.toArray⟩ ++ (⟨#[10]⟩ : ByteArray)).size ≤ 140737488355328 := by
                  have h2 := HTL.out
                  rw [Lib.size_eq, htx, List.length_append]; omega
                have hjoin := Go.Proofs.Tryz.strings_Join g 0 c7 (marksL m) ⟨#[59, 32]⟩ wc hcells hgl (marksL_len m) (by omega) (by rw [show (⟨#[59, 32]⟩ : ByteArray).data.toList = [59, 32] from rfl, HJ.out]; exact hJl)
                rw [Hn7.out, show (⟨#[59, 32]⟩ : ByteArray).data.toList = [59, 32] from rfl, HJ.out] at hjoin
                have hjb : (⟨J.toArray⟩ : ByteArray).size ≤ 140737488355328 := by rw [Lib.size_eq]; simpa using hJl
                go_wp2_with (first | (go_at_call 23; (with_reducible refine hjoin.mono ?_); rintro e w2 ⟨rfl, hb2⟩; have HN1 := Lib.hid (blk_at HN.out hb2); have HP1 := Lib.hid (blk_at HP.out hb2); have HB1 := Lib.hid (HB.out.trans (hb2.mono HB.out.size)); have HI1 := Lib.hid (bld_below HI.out hb2); clear HN HP HB HI; have HN := HN1; have HP := HP1; have HB := HB1; have HI := HI1; clear HN1 HP1 HB1 HI1 hb2) | (go_at_call 21; (with_reducible refine (write_any w1.heap.size w1.heap.size (T ++ lineL m.f0.f0 m.f0.f1 m.f3.f0 m.f3.f1) _ _ HI.out hs2 (Nat.le_of_lt (bld_lt HI.out))).mono ?_); rintro e w2 ⟨rfl, hi2, hb2, ho2⟩; have HN1 := Lib.hid (kept_blk ho2 HN.out hbm (by decide)); have HP1 := Lib.hid ((hb2.block _ hw1).trans HP.out); have HB1 := Lib.hid (HB.out.trans (hb2.mono (Nat.le_of_lt hw1))); clear HN HP HB HI; have HN := HN1; have HP := HP1; have HB := HB1; have HI := Lib.hid hi2; clear HN1 HP1 HB1 hb2 ho2 hi2))
                go_meet
                refine ⟨HB, HP, HN, ?_⟩
                have hi := HI.out
                rw [htx] at hi
                exact hi
            case rest =>
              clear HB HP HN HI HR Hnil f0 f1 f2 f3 f4 f5 f6
              obtain ⟨HB, HP, HN, HI⟩ := hcut
              obtain ⟨f0, f1, f2, f3, f4, f5, f6⟩ := blk7 HN.out
              obtain ⟨wo, rfl⟩ : ∃ wo : World, wo = wr := ⟨_, rfl⟩
              obtain ⟨T2, HT2⟩ : ∃ T2, Hid (T ++ lineL m.f0.f0 m.f0.f1 m.f3.f0 m.f3.f1 ++ markL m = T2) := ⟨_, rfl⟩
              have hTL2 : T2.length + (pkgL m.f4).length ≤ 140737488355328 := by
                have h2 := HTL.out
                rw [← HT2.out, List.length_append, List.length_append]; omega
              have hI := HI.out
              rw [HT2.out] at hI
              have HI := Lib.hid hI
              have HTL2 := Lib.hid hTL2
              clear hTL2 hI
              go_wp2
              go_loopw [54] (fun i wr => ∃ n : Nat, n ≤ m.f4.length ∧ i = .int .i64 n ∧ Hid (Below w.heap.size w wr) ∧ Hid (wr.heap[w.heap.size]? = some (.cells #[.slice (some ad) ms.length c0, .slice A1 rs.length c1] 25 (0, 0))) ∧ Hid (Lib.IsBuilder 63 5 w1.heap.size w1.heap.size (Lib.byteCells (T2 ++ pkgL (m.f4.take n))) wr)) (fun i wr => m.f4.length - (intOf i).toNat)
              case atStart => exact ⟨0, Nat.zero_le _, rfl, HB, HP, (show Lib.IsBuilder _ _ _ _ _ _ from by rw [show T2 ++ pkgL (m.f4.take 0) = T2 from List.append_nil _]; exact HI.out)⟩
              case round =>
                clear HB HP HN HI f0 f1 f2 f3 f4 f5 f6
                obtain ⟨n, hn, rfl, HB, HP, HI⟩ := hrel
                by_cases hnl : n < m.f4.length
                · have hmf : m.f4.length ≤ 1099511627770 := smm.2.2.2.2.2.1
                  obtain ⟨s, Hs⟩ : ∃ s, Hid (m.f4.getD n emp = s) := ⟨_, rfl⟩
                  obtain ⟨a6, ha6, hc6⟩ := strC_cell g6 hnl
                  subst ha6
                  rw [Hs.out] at hc6
                  replace hc6 := pw_cell_below HB.out hc6
                  have hsl : (s ++ (⟨#[10]⟩ : ByteArray)).data.toList = s.data.toList ++ [10] := by simp [ByteArray.data_append]
                  have hfs := flat_succ (fun p : ByteArray => p.data.toList ++ [10]) hnl Hs.out
                  have hs3 : (T2 ++ pkgL (m.f4.take n)).length + (s ++ (⟨#[10]⟩ : ByteArray)).size ≤ 140737488355328 := by
                    have h2 := HTL2.out
                    have h3 := flat_take (fun p : ByteArray => p.data.toList ++ [10]) m.f4 (n + 1)
                    rw [hfs, List.length_append] at h3
                    unfold pkgL at h2 ⊢
                    rw [Lib.size_eq, hsl, List.length_append]; omega
                  have hs4 : s.size ≤ 140737488355327 := by rw [Lib.size_eq, hsl, List.length_append, List.length_append, ← Lib.size_eq] at hs3; simp at hs3; omega
                  have Hfs := Lib.hid hfs; have Hsl := Lib.hid hsl
                  clear hfs hsl
                  go_wp2_with (first | (go_at_call 21; (with_reducible refine (write_any w1.heap.size w1.heap.size (T2 ++ pkgL (m.f4.take n)) _ _ HI.out hs3 (Nat.le_of_lt (bld_lt HI.out))).mono ?_); rintro e w2 ⟨rfl, hi2, hb2, ho2⟩; have HP1 := Lib.hid ((hb2.block _ hw1).trans HP.out); have HB1 := Lib.hid (HB.out.trans (hb2.mono (Nat.le_of_lt hw1))); clear HP HB HI; have HP := HP1; have HB := HB1; have HI := Lib.hid hi2; clear HP1 HB1 hb2 ho2 hi2))
                  go_roundw
                  case rel =>
                    refine ⟨n + 1, by omega, by go_num, HB, HP, ?_⟩
                    have hi := HI.out
                    rw [Hsl.out, List.append_assoc, show pkgL (m.f4.take n) ++ (s.data.toList ++ [10]) = pkgL (m.f4.take (n + 1)) from Hfs.out.symm] at hi
                    exact hi
                  case measure => simp [intOf]; omega
                · obtain rfl : n = m.f4.length := by omega
                  go_wp2
                  refine ⟨⟨k + 1, by omega, by go_num, HB, HP, ?_⟩, by simp [intOf]; omega⟩
                  have hi := HI.out
                  rw [List.take_length, ← HT2.out, ← HT.out] at hi
                  rw [flat_succ modL hlt Hm.out, show modL m = lineL m.f0.f0 m.f0.f1 m.f3.f0 m.f3.f1 ++ markL m ++ pkgL m.f4 from rfl, ← List.append_assoc, ← List.append_assoc]
                  exact hi
      · obtain rfl : k = ms.length := by omega
        have hT0 : (ms.take ms.length).flatMap modL = ms.flatMap modL := by rw [List.take_length]
        rw [hT0] at HI
        clear hT0
        obtain ⟨T, HT⟩ : ∃ T, Hid (ms.flatMap modL = T) := ⟨_, rfl⟩
        rw [HT.out] at HI
        obtain ⟨p0, p1⟩ := blk2 HP.out
        go_wp2
        clear p0 p1
        go_loopw [66] (fun i wr => ∃ n : Nat, n ≤ rs.length ∧ i = .int .i64 n ∧ Hid (Below w.heap.size w wr) ∧ Hid (Lib.IsBuilder 63 5 w1.heap.size w1.heap.size (Lib.byteCells (T ++ (rs.take n).flatMap repL)) wr)) (fun i wr => rs.length - (intOf i).toNat)
        case atStart => exact ⟨0, Nat.zero_le _, rfl, HB, (show Lib.IsBuilder _ _ _ _ _ _ from by rw [show T ++ (rs.take 0).flatMap repL = T from List.append_nil _]; exact HI.out)⟩
        case round =>
          clear HB HP HI
          obtain ⟨n, hn, rfl, HB, HI⟩ := hrel
          by_cases hnl : n < rs.length
          · obtain ⟨r, Hr⟩ : ∃ r, Hid (rs.getD n zR = r) := ⟨_, rfl⟩
            obtain ⟨ad, hA, e0, e1, e2, e3⟩ := rep_at h1 hnl Hr.out
            subst hA
            replace e0 := pw_cell_below HB.out e0; replace e1 := pw_cell_below HB.out e1; replace e2 := pw_cell_below HB.out e2; replace e3 := pw_cell_below HB.out e3
            have smr : SmallR r := Hr.out ▸ sr _ (getD_mem hnl)
            have z1 : r.f0.f0.size ≤ 1099511627770 := smr.1
            have z2 : r.f0.f1.size ≤ 1099511627770 := smr.2.1
            have z4 : r.f1.f0.size ≤ 1099511627770 := smr.2.2.1
            have z5 : r.f1.f1.size ≤ 1099511627770 := smr.2.2.2
            have hbm : wr.heap.size ≠ w1.heap.size := by have := bld_lt HI.out; omega
            obtain ⟨q, Hq⟩ : ∃ q, Hid (modW r.f0.f0 r.f0.f1 r.f1.f0 r.f1.f1 = q) := ⟨_, rfl⟩
            have hline : ((⟨#[35, 32]⟩ : ByteArray) ++ q ++ (⟨#[10]⟩ : ByteArray)).data.toList = repL r := by unfold repL lineL; rw [Hq.out]; simp [ByteArray.data_append]
            have hfs := flat_succ repL hnl Hr.out
            have hs1 : (T ++ (rs.take n).flatMap repL).length + ((⟨#[35, 32]⟩ : ByteArray) ++ q ++ (⟨#[10]⟩ : ByteArray)).size ≤ 140737488355328 := by
              have h2 := flat_take repL rs (n + 1)
              rw [hfs, List.length_append] at h2
              have h3 : (textL ms rs).length = T.length + (rs.flatMap repL).length := by unfold textL; rw [HT.out, List.length_append]
              rw [Lib.size_eq, hline, List.length_append]; omega
            have hqs : q.size ≤ 8796093022200 := by
              rw [← Hq.out]; unfold modW
              have s1 := modP_size r.f0.f0 r.f0.f1
              have s2 := modP_size r.f1.f0 r.f1.f1
              split
              · omega
              · rw [ByteArray.size_append, ByteArray.size_append]; show _ + (4 + _) ≤ _; omega
            have Hline := Lib.hid hline; clear hline
            have Hfs := Lib.hid hfs; clear hfs
            have HN := Lib.hid (blk_new wr (.cells #[.string r.f0.f0, .string r.f0.f1, .string r.f1.f0, .string r.f1.f1] 59))
            have hba := below_alloc (Below.refl _ wr) (.cells #[.string r.f0.f0, .string r.f0.f1, .string r.f1.f0, .string r.f1.f1] 59)
            have HB1 := Lib.hid (below_alloc HB.out (.cells #[.string r.f0.f0, .string r.f0.f1, .string r.f1.f0, .string r.f1.f1] 59)); have HI1 := Lib.hid (bld_below HI.out hba)
            clear HB HI hba; have HB := HB1; have HI := HI1; clear HB1 HI1
            go_wp2_with (first | (go_at_call 22; (with_reducible refine (mod_any r.f0.f0 r.f0.f1 r.f1.f0 r.f1.f1 _ z1 z2 z4 z5).mono ?_); rintro e w2 ⟨he, hb2⟩; rw [Hq.out] at he; subst he; have HN1 := Lib.hid (blk_at HN.out hb2); have HB1 := Lib.hid (HB.out.trans (hb2.mono HB.out.size)); have HI1 := Lib.hid (bld_below HI.out hb2); clear HN HB HI; have HN := HN1; have HB := HB1; have HI := HI1; clear HN1 HB1 HI1 hb2; obtain ⟨f0, f1, f2, f3⟩ := blk4 HN.out) | (go_at_call 21; (with_reducible refine (write_any w1.heap.size w1.heap.size (T ++ (rs.take n).flatMap repL) _ _ HI.out hs1 (Nat.le_of_lt (bld_lt HI.out))).mono ?_); rintro e w2 ⟨rfl, hi2, hb2, ho2⟩; have HB1 := Lib.hid (HB.out.trans (hb2.mono (Nat.le_of_lt hw1))); clear HN HB HI; have HB := HB1; have HI := Lib.hid hi2; clear HB1 hb2 ho2 hi2))
            go_roundw
            case rel =>
              refine ⟨n + 1, by omega, by go_num, HB, ?_⟩
              have hi := HI.out
              rw [Hline.out, List.append_assoc, ← Hfs.out] at hi
              exact hi
            case measure => simp [intOf]; omega
          · obtain rfl : n = rs.length := by omega
            rw [List.take_length] at HI
            have htx : textL ms rs = T ++ rs.flatMap repL := by unfold textL; rw [HT.out]
            go_wp2_with (go_at_call 24; (with_reducible refine (Go.Proofs.Tryz.Builder_String_any w1.heap.size w1.heap.size (T ++ rs.flatMap repL) _ HI.out (Nat.le_of_lt (bld_lt HI.out))).mono ?_); rintro e w2 ⟨rfl, hb2⟩)
            go_ret2
            exact ⟨by rw [Hp.out, He.out, htx]; rfl, HB.out.trans (hb2.mono (Nat.le_of_lt hw1))⟩
end Go.Proofs.YtcdcpcdfcmokkaaGreatDoor
end
section
namespace Go.Proofs.YtcdcpcdfcmokkaaGreatDoor
open Go Go.RowKit Go.Proofs.YtcdcpcdfcmokkaaGreatDoorW.PrintWords
set_option linter.unusedVariables false
theorem rwithin_any (s d : ByteArray) (w : World) (hs : s.size ≤ 1099511627770) (hd : d.size ≤ 1099511627770) :
    Calls Tryz.prog 35 #[.string s, .string d] w fun e w' => e = .returned (.tuple #[.string (withinB s d).1, .bool (withinB s d).2]) ∧ Below w.heap.size w w' := by
  obtain ⟨k, h⟩ := (rwithin_ev s d (by omega) (by omega)).rounds
  exact (P.graftbedref01_Within.calls k s d (withinB s d).1 (withinB s d).2 w h).mono fun e w' h => ⟨h.1, h.2.below⟩
theorem rrelease_any (s : ByteArray) (w : World) (hs : s.size ≤ 1099511627770) :
    Calls Tryz.prog 34 #[.string s] w fun e w' => e = .returned (.bool (releaseB s)) ∧ Below w.heap.size w w' := by
  obtain ⟨k, h⟩ := (rrelease_ev s hs).rounds
  exact (P.graftbedref05_Release.calls k s _ w h).mono fun e w' h => ⟨h.1, h.2.below⟩
abbrev DM := P.S45
abbrev DR := P.S72
abbrev zDM : DM := P.z45
abbrev zDR : DR := P.z72
def toM (m : DM) : SM := ⟨m.f0, m.f1, m.f2, m.f3, m.f4⟩
def toR (r : DR) : SR := ⟨r.f0, r.f1⟩
theorem getD_map {α β : Type} (f : α → β) (l : List α) (z : α) (k : Nat) : (l.map f).getD k (f z) = f (l.getD k z) := by
  simp only [List.getD_eq_getElem?_getD, List.getElem?_map]
  cases l[k]? <;> rfl
theorem rmod_at {w : World} {A : Option Addr} {ms : List DM} (h : Kd.C P.k45 w A ms.length ms) {k : Nat} (hk : k < ms.length) {m : DM} (hm : ms.getD k zDM = m) :
    ∃ ad A6 c6, A = some ad ∧ w.cell? (ad.add (k * 7)) = some (.string m.f0.f0) ∧ w.cell? ⟨(ad.add (k * 7)).block, (ad.add (k * 7)).off + 1, none⟩ = some (.string m.f0.f1) ∧ w.cell? ⟨(ad.add (k * 7)).block, (ad.add (k * 7)).off + 2, none⟩ = some (.bool m.f1) ∧ w.cell? ⟨(ad.add (k * 7)).block, (ad.add (k * 7)).off + 3, none⟩ = some (.string m.f2) ∧ w.cell? ⟨(ad.add (k * 7)).block, (ad.add (k * 7)).off + 4, none⟩ = some (.string m.f3.f0) ∧ w.cell? ⟨(ad.add (k * 7)).block, (ad.add (k * 7)).off + 5, none⟩ = some (.string m.f3.f1) ∧ w.cell? ⟨(ad.add (k * 7)).block, (ad.add (k * 7)).off + 6, none⟩ = some (.slice A6 m.f4.length c6) ∧ m.f4.length ≤ c6 ∧ Kd.string.C w A6 m.f4.length m.f4 := by
  subst hm; exact P.at_T45 h (k : Int) (by omega) (by omega)
theorem rrep_at {w : World} {A : Option Addr} {rs : List DR} (h : Kd.C P.k72 w A rs.length rs) {k : Nat} (hk : k < rs.length) {r : DR} (hr : rs.getD k zDR = r) :
    ∃ ad, A = some ad ∧ w.cell? (ad.add (k * 4)) = some (.string r.f0.f0) ∧ w.cell? ⟨(ad.add (k * 4)).block, (ad.add (k * 4)).off + 1, none⟩ = some (.string r.f0.f1) ∧ w.cell? ⟨(ad.add (k * 4)).block, (ad.add (k * 4)).off + 2, none⟩ = some (.string r.f1.f0) ∧ w.cell? ⟨(ad.add (k * 4)).block, (ad.add (k * 4)).off + 3, none⟩ = some (.string r.f1.f1) := by
  subst hr; exact P.at_T72 h (k : Int) (by omega) (by omega)
end Go.Proofs.YtcdcpcdfcmokkaaGreatDoor
end
section
namespace Go.Proofs.YtcdcpcdfcmokkaaGreatDoor
open Go Go.RowKit Go.Proofs.YtcdcpcdfcmokkaaGreatDoorW.PrintWords Go.Proofs.YtcdcpcdfcmokkaaGreatDoorW.PrintLast Go.Proofs.YtcdcpcdfcmokkaaGreatDoorW.PrintMore
set_option linter.unusedVariables false
set_option linter.unusedSimpArgs false
def planOk (T : Bool × List (List Nat × List Nat)) (ds : List Nat) : List (Nat × Nat) → List Bool → Bool
 | [], l => readyT T.2 l == []
 | (i, 0) :: r, l => anyT T l (l.set i true) i && planOk T ds r (l.set i true)
 | (i, 1) :: r, l => takeT T ds l (l.set i true) i && planOk T ds r (l.set i true)
 | (i, 2) :: r, l => (readyT T.2 l == [i] && !ds.contains i) && planOk T ds r (l.set i true)
 | (i, 3) :: r, l => anyT T l (l.set i true) i && planOk T ds r (l.set i true)
 | (i, 4) :: r, l => takeT T ds l (l.set i true) i && planOk T ds r (l.set i true)
 | (i, 5) :: r, l => (readyT T.2 l == [i] && !ds.contains i) && planOk T ds r (l.set i true)
 | (i, _) :: r, l => (readyT T.2 l == [i] && ds.contains i) && planOk T ds r (l.set i true)
def Plan (P : Program) (ops : Array Oper) (Q : Exit → Act → World → Prop) (S : World → Prop) (ds : List Nat) (plan : List (Nat × Nat)) (l : List Bool) (a : Act) (w : World) : Prop :=
 planOk (rtab .any ops) ds plan l = true → wpAnyLast P .any ops Q S ds plan.length l.toArray a w
section
variable {P : Program} {ops : Array Oper} {Q : Exit → Act → World → Prop} {S : World → Prop} {ds : List Nat} {r : List (Nat × Nat)} {l : List Bool} {a a' : Act} {w : World} {i : Nat} {oi : Oper} {v : Value}
theorem plan_start {id : Nat} (plan : List (Nat × Nat)) (S : World → Prop) (ds : List Nat) (hm : P.follows .mixedOrders = true) (n : Nat) (hn : ops.size = n) (hl : plan.length = n) (hc : planOk (rtab .any ops) ds plan (List.replicate n false) = true) (hS : S w.drew)
  (h : S w.drew → Plan P ops Q S ds plan (List.replicate n false) a w.drew) : (Code.region id ops true).wp P Q a w :=
 start_ (n := n) (S := S) (ds := ds) (List.replicate n false).toArray hm hn (by simp) hS (fun hs => hl ▸ h hs hc)
theorem plan_done (hr : Q .normal a w) : Plan P ops Q S ds [] l a w := fun hc => by
 refine done_ (done_of rfl ?_) hr
 simpa [planOk] using hc
theorem plan_pure (hi : ops[i]? = some oi) (hw : Region.wanted oi (yielded ops a.tmps) = true) (hy : ∀ w, (execOp a.eval oi).run P w = .ok (.value v) w) (ha : a.put oi.dst v = a')
  (hQ : ∀ c a w, Q (.panic c) (a.put oi.dst v) w → Q (.panic c) a w) (h : Plan P ops Q S ds r (l.set i true) a' w) : Plan P ops Q S ds ((i, 0) :: r) l a w := fun hc => by
 simp only [planOk, Bool.and_eq_true] at hc
 exact pure_ (l.set i true).toArray hi rfl (any_of rfl (by simpa using hc.1)) hQ (.inl ⟨hw, hy⟩) ha (h hc.2)
theorem plan_load (hi : ops[i]? = some oi) (hw : Region.wanted oi (yielded ops a.tmps) = true) (hs : S w) (hy : ∀ w, S w → (execOp a.eval oi).run P w = .ok (.value v) w) (ha : a.put oi.dst v = a')
  (hQ : ∀ c a w, Q (.panic c) (a.put oi.dst v) w → Q (.panic c) a w) (h : Plan P ops Q S ds r (l.set i true) a' w) : Plan P ops Q S ds ((i, 1) :: r) l a w := fun hc => by
 simp only [planOk, Bool.and_eq_true] at hc
 exact take_ (l.set i true).toArray hi rfl (take_of rfl (by simpa using hc.1)) hQ (.inl ⟨hw, hy⟩) hs ha (h hc.2)
theorem plan_one (hi : ops[i]? = some oi)
  (h : ∀ K : Act → World → Prop, Shut (∀ a' w', S w' → (S w' → Plan P ops Q S ds r (l.set i true) a' w') → K a' w') → if Region.wanted oi (yielded ops a.tmps) = true then Oper.wp P oi a w K Q else K (a.put oi.dst undef) w) : Plan P ops Q S ds ((i, 2) :: r) l a w := fun hc => by
 simp only [planOk, Bool.and_eq_true, Bool.not_eq_true', List.contains_eq_mem, decide_eq_false_iff_not] at hc
 refine one_ (l.set i true).toArray hi rfl (one_of rfl (by simpa using hc.1.1)) hc.1.2 (fun K hK => h K ?_)
 exact (show _ from fun a' w' hs hp => (show ∀ a' w', _ from hK) a' w' hs (fun hs => hp hs hc.2))
theorem plan_skip {k : Nat} (hk : (k == 3 || (k == 4 || k == 5)) = true) (hi : ops[i]? = some oi) (hw : Region.wanted oi (yielded ops a.tmps) = false) (hs : S w) (ha : a.put oi.dst undef = a')
  (hQ : ∀ c a w, Q (.panic c) (a.put oi.dst undef) w → Q (.panic c) a w) (h : Plan P ops Q S ds r (l.set i true) a' w) : Plan P ops Q S ds ((i, k) :: r) l a w := fun hc => by
 simp only [Bool.or_eq_true, beq_iff_eq] at hk
 rcases hk with rfl | rfl | rfl
 ·simp only [planOk, Bool.and_eq_true] at hc
  exact pure_ (l.set i true).toArray hi rfl (any_of rfl (by simpa using hc.1)) hQ (.inr ⟨hw, rfl⟩) ha (h hc.2)
 ·simp only [planOk, Bool.and_eq_true] at hc
  exact take_ (l.set i true).toArray hi rfl (take_of rfl (by simpa using hc.1)) hQ (.inr ⟨hw, rfl⟩) hs ha (h hc.2)
 ·have hc' := hc
  simp only [planOk, Bool.and_eq_true, Bool.not_eq_true', List.contains_eq_mem, decide_eq_false_iff_not] at hc
  refine one_ (l.set i true).toArray hi rfl (one_of rfl (by simpa using hc.1.1)) hc.1.2 (fun K hK => ?_)
  rw [hw, if_neg (by decide), ha]
  exact (show ∀ a' w', _ from hK) _ _ hs (fun _ => h hc.2)
theorem plan_call {f : FuncId} {fn : Func} {ars : Array Operand} {ts : Array TypeId} {args : Array Value} (hi : ops[i]? = some oi) (hf : P.funcs[f]? = some fn) (hname : (fn.name == "runtime.NumGoroutine") = false) (hb : fn.body.isSome = true)
  (hw : Region.wanted oi (yielded ops a.tmps) = true) (hop : oi.op = .call { callee := .value (.func f), args := ars, argTypes := ts }) (hargs : ars.map a.eval = args)
  (h : Calls P f args w fun e w' => ∃ v, e = .returned v ∧ S w' ∧ (S w' → Plan P ops Q S ds r (l.set i true) (a.put oi.dst v) w')) : Plan P ops Q S ds ((i, 2) :: r) l a w :=
 plan_one hi fun K hK => goes_ hf hname hb args hw rfl hop hargs (h.mono fun e w' ⟨v, he, hs, hp⟩ => ⟨v, he, (show ∀ a' w', _ from hK) _ _ hs hp⟩)
theorem pl_pure (h : Plan P ops Q S ds r (l.set i true) a' w) (hi : ops[i]? = some oi := by simp only [List.getElem?_toArray, List.getElem?_cons_zero, List.getElem?_cons_succ]; rfl) (hw : Region.wanted oi (yielded ops a.tmps) = true := by first | rfl | (go_simp; done)) (hy : ∀ w, (execOp a.eval oi).run P w = .ok (.value v) w := by intro w'; go_simp; with_reducible rfl)
  (ha : a.put oi.dst v = a' := by simp only [Act.put, List.setIfInBounds_toArray, List.set_cons_zero, List.set_cons_succ]; rfl) (hQ : ∀ c a w, Q (.panic c) (a.put oi.dst v) w → Q (.panic c) a w := by exact fun _ _ _ h => h) : Plan P ops Q S ds ((i, 0) :: r) l a w :=
 plan_pure hi hw hy ha hQ h
theorem pl_skip {k : Nat} (hs : S w) (h : Plan P ops Q S ds r (l.set i true) a' w) (hk : (k == 3 || (k == 4 || k == 5)) = true := by decide) (hi : ops[i]? = some oi := by simp only [List.getElem?_toArray, List.getElem?_cons_zero, List.getElem?_cons_succ]; rfl) (hw : Region.wanted oi (yielded ops a.tmps) = false := by first | rfl | (go_simp; done))
  (ha : a.put oi.dst undef = a' := by simp only [Act.put, List.setIfInBounds_toArray, List.set_cons_zero, List.set_cons_succ]; rfl) (hQ : ∀ c a w, Q (.panic c) (a.put oi.dst undef) w → Q (.panic c) a w := by exact fun _ _ _ h => h) : Plan P ops Q S ds ((i, k) :: r) l a w :=
 plan_skip hk hi hw hs ha hQ h
theorem pl_load (hs : S w) (h : Plan P ops Q S ds r (l.set i true) a' w) (hi : ops[i]? = some oi := by simp only [List.getElem?_toArray, List.getElem?_cons_zero, List.getElem?_cons_succ]; rfl) (hw : Region.wanted oi (yielded ops a.tmps) = true := by first | rfl | (go_simp; done)) (hy : ∀ w, S w → (execOp a.eval oi).run P w = .ok (.value v) w := by intro w' hs'; go_simp; with_reducible rfl)
  (ha : a.put oi.dst v = a' := by simp only [Act.put, List.setIfInBounds_toArray, List.set_cons_zero, List.set_cons_succ]; rfl) (hQ : ∀ c a w, Q (.panic c) (a.put oi.dst v) w → Q (.panic c) a w := by exact fun _ _ _ h => h) : Plan P ops Q S ds ((i, 1) :: r) l a w :=
 plan_load hi hw hs hy ha hQ h
theorem pl_call {f : FuncId} {fn : Func} {ars : Array Operand} {ts : Array TypeId} (args : Array Value) (hf : P.funcs[f]? = some fn)
  (h : Calls P f args w fun e w' => ∃ v, e = .returned v ∧ S w' ∧ (S w' → Plan P ops Q S ds r (l.set i true) (a.put oi.dst v) w')) (hi : ops[i]? = some oi := by simp only [List.getElem?_toArray, List.getElem?_cons_zero, List.getElem?_cons_succ]; rfl) (hname : (fn.name == "runtime.NumGoroutine") = false := by kernel_rfl) (hb : fn.body.isSome = true := by rfl)
  (hw : Region.wanted oi (yielded ops a.tmps) = true := by first | rfl | (go_simp; done)) (hop : oi.op = .call { callee := .value (.func f), args := ars, argTypes := ts } := by rfl) (hargs : ars.map a.eval = args := by first | rfl | (simp only [List.map_toArray, List.map_cons, List.map_nil]; rfl)) : Plan P ops Q S ds ((i, 2) :: r) l a w :=
 plan_call hi hf hname hb hw hop hargs h
theorem pl_norm {plan : List (Nat × Nat)} (h : Plan P ops Q S ds plan l a' w) (ha : a = a' := by simp only [Act.put, List.setIfInBounds_toArray, List.set_cons_zero, List.set_cons_succ]; rfl) : Plan P ops Q S ds plan l a w := by subst ha; exact h
theorem pl_start {id : Nat} (n : Nat) (plan : List (Nat × Nat)) (S : World → Prop) (ds : List Nat) (hS : S w.drew) (h : S w.drew → Plan P ops Q S ds plan (List.replicate n false) a w.drew)
  (hm : P.follows .mixedOrders = true := by kernel_rfl) (hn : ops.size = n := by rfl) (hl : plan.length = n := by rfl) (hc : planOk (rtab .any ops) ds plan (List.replicate n false) = true := by kernel_rfl) : (Code.region id ops true).wp P Q a w :=
 plan_start plan S ds hm n hn hl hc hS h
end
attribute [irreducible] Plan
end Go.Proofs.YtcdcpcdfcmokkaaGreatDoor
end
