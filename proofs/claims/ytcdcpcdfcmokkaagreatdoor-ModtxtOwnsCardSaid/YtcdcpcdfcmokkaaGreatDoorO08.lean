/- paths.made, paths.Module, paths.Import: what they compute. · Plain helps: bytes and rounds. · semver.digit, sign, every, nought, number: what they compute. · semver.nought, semver.number, semver.order: what they compute. -/
import Derived.Test.YtcdcpcdfcmokkaaGreatDoorO07
import Derived.Test.YtcdcpcdfcmokkaaGreatDoorO05
import Derived.IntWalk
import Derived.Lib.AtoiErrMem
set_option linter.unusedVariables false
set_option linter.unusedSimpArgs false
section
namespace Go.Proofs.YtcdcpcdfcmokkaaGreatDoor
open Go.RowKit Go.Shelf Go.Proofs.YtcdcpcdfcmokkaaGreatDoorW.PrintWords
attribute [local go_sem] Oper.semAt_some
set_option linter.unusedVariables false
def smallSigns : ByteArray := ⟨#[97, 98, 99, 100, 101, 102, 103, 104, 105, 106, 107, 108, 109, 110, 111, 112, 113, 114, 115, 116, 117, 118, 119, 120, 121, 122, 48, 49, 50, 51, 52, 53, 54, 55, 56, 57, 45, 46, 95, 126, 47]⟩
def goodB (more : ByteArray) (c : Int) : Bool := !(decide (Lib.indexByte (smallSigns ++ more).data.toList c.toNat.toUInt8 < 0))
def madeUpto (more s : ByteArray) : Nat → Bool
 | 0 => true
 | k + 1 => madeUpto more s k && goodB more (bt s k)
def madeB (s more : ByteArray) : Bool := madeUpto more s s.size
theorem madeUpto_no (more s : ByteArray) (k : Nat) (h : goodB more (bt s k) = false) : ∀ n, k < n → madeUpto more s n = false
 | 0, hk => by omega
 | n + 1, hk => by
  rcases Nat.lt_or_ge k n with h' | h'
  ·simp [madeUpto, madeUpto_no more s k h n h']
  ·obtain rfl : k = n := by omega
   simp [madeUpto, h]
theorem index_good (more : ByteArray) (c : Int) (w : World) :
  Calls Tryz.prog 58 #[.string (smallSigns ++ more), .int .u8 c] w fun e w' => ∃ n : Int, e = .returned (.int .i64 n) ∧ Hid (goodB more c = !(decide (n < 0))) ∧ w' = w :=
 (Tryz.strings_IndexByte _ _ _).mono fun e w' ⟨he, hw⟩ => ⟨_, he, rfl, hw⟩
set_option maxHeartbeats 2000000 in
set_option maxRecDepth 100000 in
theorem made_any (s more : ByteArray) (w : World) (hs : s.size ≤ 9223372036854775807) (hm : more.size ≤ 1000) :
  Calls Tryz.prog 57 #[.string s, .string more] w fun e w' => e = .returned (.bool (madeB s more)) ∧ w' = w := by
 have hsum : (41 : Nat) + more.size ≤ 9223372036854775807 := by omega
 go_enter Tryz.func57, Tryz.ntmps57
 go_wp2
 go_loop [8] (fun i => ∃ k : Nat, k ≤ s.size ∧ i = .int .i64 k ∧ Hid (madeUpto more s k = true)) (fun i => s.size - (intOf i).toNat)
 case atStart => exact ⟨0, Nat.zero_le _, rfl, rfl⟩
 case round =>
  obtain ⟨k, hk, rfl, hfa⟩ := hrel
  by_cases hlt : k < s.size
  ·have hbt : ((s[k]'hlt).toNat : Int) = bt s k := bt_at s (k : Int) hlt
   go_wp2_with (go_at_call 58; refine (index_good _ _ _).mono ?_; rintro e w' ⟨n, rfl, hg, rfl⟩)
   ·have hn : n < 0 := by assumption
    go_ret
    exact ⟨by rw [show madeB s more = false from madeUpto_no more s k (by rw [hg.out]; simp [hn]) _ hlt]; rfl, rfl⟩
   ·have hn : 0 ≤ n := by assumption
    go_round
    case rel => exact ⟨k + 1, by omega, by go_num, (show madeUpto more s (k + 1) = true from by simp only [madeUpto, hfa.out, hg.out]; simp; omega)⟩
    case measure => simp [intOf]; omega
  ·obtain rfl : k = s.size := by omega
   go_wp2
   go_ret
   exact ⟨by rw [show madeB s more = true from hfa.out]; rfl, rfl⟩
def modElem (e : ByteArray) : Bool := !(Lib.hasPrefix e.data.toList [46]) && !(Lib.hasSuffix e.data.toList [46])
def moduleB (s : ByteArray) : Bool := validB s && (madeB s ⟨#[]⟩ && (!(bt s 0 == 45) && (decide (0 ≤ Lib.indexByte (cutB 47 s).1.data.toList 46) && (elemsB s).all modElem)))
def pathErr (b : Bool) : Int := if b = true then 0 else 10
theorem valid_pos {s : ByteArray} (h : validB s = true) : 0 < s.size := by
 rcases Nat.eq_zero_or_pos s.size with h0 | h0
 ·have : s.toList = [] := by rw [Lib.toList_data]; exact List.eq_nil_of_length_eq_zero (by rw [← Lib.size_eq]; exact h0)
  simp [validB, this] at h
 ·exact h0
theorem prefix_mem {α : Type} {pre xs : List α} {x : α} (h : pre ++ [x] <+: xs) : x ∈ xs := by
 obtain ⟨r, rfl⟩ := h
 simp
theorem pieces_len (c : UInt8) : ∀ (l p : List UInt8), p ∈ pieces c l → p.length ≤ l.length
 | [], p, h => by simp [pieces] at h; simp [h]
 | b :: l, p, h => by
  unfold pieces at h
  split at h
  ·rcases List.mem_cons.1 h with rfl | h
   ·simp
   ·have := pieces_len c l p h; simp; omega
  ·have ih := pieces_len c l
   split at h
   ·rw [List.mem_singleton] at h; subst h; simp
   ·rename_i q ps hq
    rcases List.mem_cons.1 h with rfl | h
    ·have := ih q (by rw [hq]; simp); simp; omega
    ·have := ih p (by rw [hq]; simp [h]); simp; omega
theorem piece_size {c : UInt8} {s e : ByteArray} (h : e ∈ piecesB c s) : e.size ≤ s.size := by
 obtain ⟨p, hp, rfl⟩ := List.mem_map.1 h
 rw [toB_size, Lib.size_eq]
 exact pieces_len c _ p hp
theorem elem_size {s e : ByteArray} (hs : s.size ≤ 9223372036854775807) (h : e ∈ elemsB s) : e.size ≤ 9223372036854775807 := by
 unfold elemsB at h
 split at h
 ·cases h
 ·exact Nat.le_trans (piece_size h) hs
theorem res_below {w w' : World} {v : Value} {t : TypeId} (hb : Below (w.alloc (.cells #[v] t)).heap.size (w.alloc (.cells #[v] t)) w') : VarAt w' w.heap.size v := (VarAt.new w v t).below hb
theorem bel_below {w w' : World} {v : Value} {t : TypeId} (hb : Below (w.alloc (.cells #[v] t)).heap.size (w.alloc (.cells #[v] t)) w') : Below w.heap.size w w' :=
 ((Below.refl _ w).alloc (Nat.le_refl _) _).trans (hb.mono (by simp))
set_option maxHeartbeats 4000000 in
set_option maxRecDepth 100000 in
theorem module_any (s : ByteArray) (w : World) (hs : s.size ≤ 9223372036854775807) :
  Calls Tryz.prog 30 #[.string s] w fun e w' => e = .returned (.int .i64 (pathErr (moduleB s))) ∧ Below w.heap.size w w' := by
 by_cases hV : validB s = true
 ·have h0 := valid_pos hV
  have h0' : (0 : Int) < (s.size : Int) := by omega
  have hbt : ((s[0]'h0).toNat : Int) = bt s 0 := bt_at s 0 h0
  by_cases hM : madeB s ⟨#[]⟩ = true
  ·by_cases hd : bt s 0 = 45
   ·have hd' : (bt s 0 == 45) = true := by simpa using hd
    clear hd
    go_enter Tryz.func30, Tryz.ntmps30
    go_wp2_with (first | (go_at_call 56; refine (valid_any _ _ hs).mono ?_; rintro e w1 ⟨rfl, hb⟩; have hvc := (res_below hb).1; have hvf := (res_below hb).2) | (go_at_call 57; refine (made_any _ ⟨#[]⟩ _ hs (by decide)).mono ?_; rintro e w' ⟨rfl, rfl⟩))
    have hv2 := ((res_below hb).set (.int .i64 10)).1
    refine bodyPost_ret (v := .int .i64 10) (by simp [results, Tryz.results30, go_sem, hv2]) rfl ⟨by simp [moduleB, hd', pathErr], (bel_below hb).setCell (p := ⟨w.heap.size, 0, none⟩) (Nat.le_refl _) _⟩
   ·have hd' : (bt s 0 == 45) = false := by simpa using hd
    clear hd
    by_cases hi : Lib.indexByte (cutB 47 s).1.data.toList 46 < 0
    ·have hi' : decide (Lib.indexByte (cutB 47 s).1.data.toList 46 < 0) = true := decide_eq_true hi
     go_enter Tryz.func30, Tryz.ntmps30
     go_wp2_with (first | (go_at_call 56; refine (valid_any _ _ hs).mono ?_; rintro e w1 ⟨rfl, hb⟩; have hvc := (res_below hb).1; have hvf := (res_below hb).2) | (go_at_call 57; refine (made_any _ ⟨#[]⟩ _ hs (by decide)).mono ?_; rintro e w' ⟨rfl, rfl⟩) | (go_at_call 38; refine (cut_one 47 _ _ hs).mono ?_; rintro e w' ⟨rfl, m, rfl⟩) | (go_at_call 58; refine (Tryz.strings_IndexByte _ 46 _).mono ?_; rintro e w' ⟨rfl, rfl⟩))
     have hv2 := (((res_below hb).drewN m).set (.int .i64 10)).1
     refine bodyPost_ret (v := .int .i64 10) (by simp [results, Tryz.results30, go_sem, hv2]) rfl ⟨by simp [moduleB, pathErr]; omega, (pw_below_drewN (bel_below hb) m).setCell (p := ⟨w.heap.size, 0, none⟩) (Nat.le_refl _) _⟩
    ·have hi' : decide (Lib.indexByte (cutB 47 s).1.data.toList 46 < 0) = false := decide_eq_false hi
     refine (callsIn_wide (n := 5)).1 ?_
     refine callsIn_of_wp_marks Tryz.func30 rfl trivial ?_ rfl
     simp only [Tryz.ntmps30, List.size_toArray, List.length_cons, List.length_nil, Nat.reduceAdd, Nat.reduceSub, Array.replicate_succ, Array.replicate_zero, List.push_toArray, List.append_toArray, List.nil_append, List.cons_append]
     gi_wp2_with (refine ⟨trivial, ?_⟩; first | (gi_at_call 56; refine (callsIn_wide.2 (valid_any _ _ hs)).mono ?_; rintro e w1 ⟨rfl, hb⟩; have hvc := (res_below hb).1; have hvf := (res_below hb).2) | (gi_at_call 57; refine (callsIn_wide.2 (made_any _ ⟨#[]⟩ _ hs (by decide))).mono ?_; rintro e w' ⟨rfl, rfl⟩) | (gi_at_call 38; refine (callsIn_wide.2 (cut_one 47 _ _ hs)).mono ?_; rintro e w' ⟨rfl, m, rfl⟩) | (gi_at_call 58; refine (callsIn_wide.2 (Tryz.strings_IndexByte _ 46 _)).mono ?_; rintro e w' ⟨rfl, rfl⟩) | (gi_at_call 59; refine (callsIn_wide.2 (elems_any _ _)).mono ?_; rintro e w' ⟨rfl, rfl⟩))
     obtain ⟨w1, hw1⟩ : ∃ w1, w1 = w' := ⟨_, rfl⟩
     subst hw1
     have hw2 : w.heap.size + 1 ≤ w1.heap.size := by have := hb.size; simpa using this
     have hv0 : VarAt ((w1.drewN m).alloc (.cells #[.string s] 9)) w.heap.size (.int .i64 0) := ((res_below hb).drewN m).alloc _
     have hv1 : VarAt ((w1.drewN m).alloc (.cells #[.string s] 9)) w1.heap.size (.string s) := VarAt.new (w1.drewN m) (.string s) 9
     have hb0 : Below w.heap.size w ((w1.drewN m).alloc (.cells #[.string s] 9)) := (pw_below_drewN (bel_below hb) m).alloc (by show w.heap.size ≤ w1.heap.size; omega) _
     have hz : ((w1.drewN m).alloc (.cells #[.string s] 9)).heap.size = w1.heap.size + 1 := by rw [World.size_alloc]; rfl
     refine wpIn_rangeAt (B := w1.heap.size) rfl (by omega) (gf := 90) (lb := #[.pointer (some ⟨w1.heap.size, 0, none⟩)]) rfl trivial (enters_of Tryz.func90 (by kernel_rfl) rfl)
      (elems1_seq 4 w1.heap.size (by omega) s hs) (by omega) (fun W hW => hv1.below hW) (fun _ => rfl)
      (fun pre W => VarAt W w.heap.size (.int .i64 0) ∧ Below w.heap.size w W ∧ Hid (pre.all modElem = true))
      (fun c pre W => VarAt W w.heap.size (.int .i64 10) ∧ Below w.heap.size w W ∧ Hid (pre.all modElem = false ∧ c = .ret))
      (OwnAt.and (OwnAt.var _ (by omega)) (OwnAt.and (OwnAt.below (Nat.le_refl _) (by omega) (by omega)) OwnAt.pure))
      (fun c => OwnAt.and (OwnAt.var _ (by omega)) (OwnAt.and (OwnAt.below (Nat.le_refl _) (by omega) (by omega)) OwnAt.pure))
      ⟨hv0, hb0, rfl⟩
      (fun x => { tmps := #[.string s, undef, .pointer (some ⟨w.heap.size, 0, none⟩), .string (cutB 47 s).1, .string (cutB 47 s).2.1, .bool (cutB 47 s).2.2, .string x, .string s, .bool true, .bool false, .bool false, .string s, .bool true, .bool false, .bool false, .bool false, .string s, .int .u8 (bt s 0), .bool false, .bool false, .tuple #[.string (cutB 47 s).1, .string (cutB 47 s).2.1, .bool (cutB 47 s).2.2], .string s, .tuple #[.string (cutB 47 s).1, .string (cutB 47 s).2.1, .bool (cutB 47 s).2.2], .string (cutB 47 s).1, .string (cutB 47 s).2.1, .bool (cutB 47 s).2.2, .string (cutB 47 s).1, .int .i64 (Lib.indexByte (cutB 47 s).1.data.toList 46), .bool false, .string s, .func (.func 90) #[] #[.pointer (some ⟨w1.heap.size, 0, none⟩)], .string x, undef, undef, undef, undef, undef, undef], defers := [] }) ?assign ?body ?done ?stop
     case assign =>
      intro l x W K hK
      gi_wp2
      exact hK
     case body =>
      rintro l pre x W ⟨hv, hbw, hp⟩ hpx hsz
      have hvc3 := hv.1
      have hvf3 := hv.2
      have hxs : x.size ≤ 9223372036854775807 := elem_size hs (prefix_mem hpx)
      by_cases e1 : Lib.hasPrefix x.data.toList [46] = true
      ·gi_wp2_with (refine ⟨trivial, ?_⟩; gi_at_call 60; refine (CallsIn.inRound l (callsIn_wide.2 (Tryz.strings_HasPrefix _ ⟨#[46]⟩ _))).mono ?_; rintro e w' ⟨rfl, rfl⟩)
       refine ⟨trivial, ?_⟩
       gi_wp2
       exact ⟨(KeepsOthers.setCell _ _ _).from _, hv.set _, hbw.setCell (p := ⟨w.heap.size, 0, none⟩) (Nat.le_refl _) _, by show _ ∧ _; simp [modElem, e1]⟩
      have e1' : Lib.hasPrefix x.data.toList [46] = false := by simpa using e1
      by_cases e2 : Lib.hasSuffix x.data.toList [46] = true
      ·gi_wp2_with (refine ⟨trivial, ?_⟩; first | (gi_at_call 60; refine (CallsIn.inRound l (callsIn_wide.2 (Tryz.strings_HasPrefix _ ⟨#[46]⟩ _))).mono ?_; rintro e w' ⟨rfl, rfl⟩) | (gi_at_call 61; refine (CallsIn.inRound l (callsIn_wide.2 (Tryz.strings_HasSuffix _ ⟨#[46]⟩ _ hxs))).mono ?_; rintro e w' ⟨rfl, rfl⟩))
       exact ⟨(KeepsOthers.setCell _ _ _).from _, hv.set _, hbw.setCell (p := ⟨w.heap.size, 0, none⟩) (Nat.le_refl _) _, by show _ ∧ _; simp [modElem, e2]⟩
      have e2' : Lib.hasSuffix x.data.toList [46] = false := by simpa using e2
      gi_wp2_with (refine ⟨trivial, ?_⟩; first | (gi_at_call 60; refine (CallsIn.inRound l (callsIn_wide.2 (Tryz.strings_HasPrefix _ ⟨#[46]⟩ _))).mono ?_; rintro e w' ⟨rfl, rfl⟩) | (gi_at_call 61; refine (CallsIn.inRound l (callsIn_wide.2 (Tryz.strings_HasSuffix _ ⟨#[46]⟩ _ hxs))).mono ?_; rintro e w' ⟨rfl, rfl⟩))
      exact ⟨KeepsFrom.refl _ _, rfl, hv, hbw, (show _ = true from by rw [List.all_append, hp.out]; simp [modElem, e1', e2'])⟩
     case done =>
      rintro D W hD ⟨hv, hbw, hp⟩ hK
      have hvc3 := hv.1
      have hvf3 := hv.2
      gi_wp2
      refine ⟨by simp, .inl ⟨_, _, rfl, run_takeDeferred ((Below.heap_setCell _ _ _ _ (by show D ≠ w.heap.size; omega)).trans hK), ?_⟩⟩
      have hv2 := (hv.set (.int .i64 0)).put (D := D) (by omega) (.deferred none)
      have hvc2 := hv2.1
      exact ⟨.int .i64 0, by simp [results, Tryz.results30, go_sem, hvc2], by have := hp.out; simp [moduleB, hV, hM, hd', this, hi, pathErr], below_put (hbw.setCell (p := ⟨w.heap.size, 0, none⟩) (Nat.le_refl _) _) (by omega) (Nat.le_refl _) _⟩
     case stop =>
      rintro D c pre W hD hpre ⟨hv, hbw, hp⟩ hK
      obtain rfl := hp.out.2
      have hvc3 := hv.1
      have hvf3 := hv.2
      gi_wp2
      refine ⟨by simp, .inl ⟨_, _, rfl, run_takeDeferred hK, ?_⟩⟩
      have hv2 := hv.put (D := D) (by omega) (.deferred none)
      have hvc2 := hv2.1
      refine ⟨.int .i64 10, by simp [results, Tryz.results30, go_sem, hvc2], ?_, below_put hbw (by omega) (Nat.le_refl _) _⟩
      obtain ⟨r, hr⟩ := hpre
      have := hp.out.1
      simp [moduleB, ← hr, this, pathErr]
  ·have hM' : madeB s ⟨#[]⟩ = false := by simpa using hM
   go_enter Tryz.func30, Tryz.ntmps30
   go_wp2_with (first | (go_at_call 56; refine (valid_any _ _ hs).mono ?_; rintro e w1 ⟨rfl, hb⟩; have hvc := (res_below hb).1; have hvf := (res_below hb).2) | (go_at_call 57; refine (made_any _ ⟨#[]⟩ _ hs (by decide)).mono ?_; rintro e w' ⟨rfl, rfl⟩))
   have hv2 := ((res_below hb).set (.int .i64 10)).1
   refine bodyPost_ret (v := .int .i64 10) (by simp [results, Tryz.results30, go_sem, hv2]) rfl ⟨by simp [moduleB, hM', pathErr], (bel_below hb).setCell (p := ⟨w.heap.size, 0, none⟩) (Nat.le_refl _) _⟩
 ·have hV' : validB s = false := by simpa using hV
  go_enter Tryz.func30, Tryz.ntmps30
  go_wp2_with (go_at_call 56; refine (valid_any _ _ hs).mono ?_; rintro e w1 ⟨rfl, hb⟩; have hvc := (res_below hb).1; have hvf := (res_below hb).2)
  have hv2 := ((res_below hb).set (.int .i64 10)).1
  refine bodyPost_ret (v := .int .i64 10) (by simp [results, Tryz.results30, go_sem, hv2]) rfl ⟨by simp [moduleB, hV', pathErr], (bel_below hb).setCell (p := ⟨w.heap.size, 0, none⟩) (Nat.le_refl _) _⟩
def bigSigns : ByteArray := ⟨#[65, 66, 67, 68, 69, 70, 71, 72, 73, 74, 75, 76, 77, 78, 79, 80, 81, 82, 83, 84, 85, 86, 87, 88, 89, 90, 43]⟩
def impElem (e : ByteArray) : Bool := !(bt e 0 == 46) && (!(bt e 0 == 45) && !(Lib.hasSuffix e.data.toList [46]))
def importB (s : ByteArray) : Bool := validB s && (madeB s bigSigns && (elemsB s).all impElem)
theorem elem_pos {s x : ByteArray} (hV : validB s = true) (h : x ∈ elemsB s) : 0 < x.size := by
 have h1 : (elemsB s).all elemOk = true := by
  unfold validB at hV
  simp only [Bool.and_eq_true] at hV
  exact hV.2.2
 have h2 := List.all_eq_true.1 h1 x h
 rcases Nat.eq_zero_or_pos x.size with h0 | h0
 ·have : x.toList = [] := by rw [Lib.toList_data]; exact List.eq_nil_of_length_eq_zero (by rw [← Lib.size_eq]; exact h0)
  simp [elemOk, this] at h2
 ·exact h0
set_option maxHeartbeats 4000000 in
set_option maxRecDepth 100000 in
theorem import_any (s : ByteArray) (w : World) (hs : s.size ≤ 9223372036854775807) :
  Calls Tryz.prog 50 #[.string s] w fun e w' => e = .returned (.int .i64 (pathErr (importB s))) ∧ Below w.heap.size w w' := by
 by_cases hV : validB s = true
 ·by_cases hM : madeB s bigSigns = true
  ·refine (callsIn_wide (n := 5)).1 ?_
   refine callsIn_of_wp_marks Tryz.func50 rfl trivial ?_ rfl
   simp only [Tryz.ntmps50, List.size_toArray, List.length_cons, List.length_nil, Nat.reduceAdd, Nat.reduceSub, Array.replicate_succ, Array.replicate_zero, List.push_toArray, List.append_toArray, List.nil_append, List.cons_append]
   gi_wp2_with (refine ⟨trivial, ?_⟩; first | (gi_at_call 56; refine (callsIn_wide.2 (valid_any _ _ hs)).mono ?_; rintro e w1 ⟨rfl, hb⟩; have hvc := (res_below hb).1; have hvf := (res_below hb).2) | (gi_at_call 57; refine (callsIn_wide.2 (made_any _ bigSigns _ hs (by decide))).mono ?_; rintro e w' ⟨rfl, rfl⟩) | (gi_at_call 59; refine (callsIn_wide.2 (elems_any _ _)).mono ?_; rintro e w' ⟨rfl, rfl⟩))
   obtain ⟨w1, hw1⟩ : ∃ w1, w1 = w' := ⟨_, rfl⟩
   subst hw1
   have hw2 : w.heap.size + 1 ≤ w1.heap.size := by have := hb.size; simpa using this
   have hv0 : VarAt (w1.alloc (.cells #[.string s] 9)) w.heap.size (.int .i64 0) := (res_below hb).alloc _
   have hv1 : VarAt (w1.alloc (.cells #[.string s] 9)) w1.heap.size (.string s) := VarAt.new w1 (.string s) 9
   have hb0 : Below w.heap.size w (w1.alloc (.cells #[.string s] 9)) := (bel_below hb).alloc (by omega) _
   have hz : (w1.alloc (.cells #[.string s] 9)).heap.size = w1.heap.size + 1 := by rw [World.size_alloc]
   refine wpIn_rangeAt (B := w1.heap.size) rfl (by omega) (gf := 90) (lb := #[.pointer (some ⟨w1.heap.size, 0, none⟩)]) rfl trivial (enters_of Tryz.func90 (by kernel_rfl) rfl)
    (elems1_seq 4 w1.heap.size (by omega) s hs) (by omega) (fun W hW => hv1.below hW) (fun _ => rfl)
    (fun pre W => VarAt W w.heap.size (.int .i64 0) ∧ Below w.heap.size w W ∧ Hid (pre.all impElem = true))
    (fun c pre W => VarAt W w.heap.size (.int .i64 10) ∧ Below w.heap.size w W ∧ Hid (pre.all impElem = false ∧ c = .ret))
    (OwnAt.and (OwnAt.var _ (by omega)) (OwnAt.and (OwnAt.below (Nat.le_refl _) (by omega) (by omega)) OwnAt.pure))
    (fun c => OwnAt.and (OwnAt.var _ (by omega)) (OwnAt.and (OwnAt.below (Nat.le_refl _) (by omega) (by omega)) OwnAt.pure))
    ⟨hv0, hb0, rfl⟩
    (fun x => { tmps := #[.string s, undef, .pointer (some ⟨w.heap.size, 0, none⟩), .string x, .string s, .bool true, .bool false, .bool false, .string s, .bool true, .bool false, .bool false, .string s, .func (.func 90) #[] #[.pointer (some ⟨w1.heap.size, 0, none⟩)], .string x, undef, undef, undef, undef, undef, undef, undef, undef, undef, undef, undef, undef], defers := [] }) ?assign ?body ?done ?stop
   case assign =>
    intro l x W K hK
    gi_wp2
    exact hK
   case body =>
    rintro l pre x W ⟨hv, hbw, hp⟩ hpx hsz
    have hvc3 := hv.1
    have hvf3 := hv.2
    have hxs : x.size ≤ 9223372036854775807 := elem_size hs (prefix_mem hpx)
    have hx0 := elem_pos hV (prefix_mem hpx)
    have hx0' : (0 : Int) < (x.size : Int) := by omega
    have hbt : ((x[0]'hx0).toNat : Int) = bt x 0 := bt_at x 0 hx0
    by_cases e1 : bt x 0 = 46
    ·have e1' : (bt x 0 == 46) = true := by simpa using e1
     clear e1
     gi_wp2
     refine ⟨trivial, ?_⟩
     gi_wp2
     exact ⟨(KeepsOthers.setCell _ _ _).from _, hv.set _, hbw.setCell (p := ⟨w.heap.size, 0, none⟩) (Nat.le_refl _) _, by show _ ∧ _; simp [impElem, e1']⟩
    have e1' : (bt x 0 == 46) = false := by simpa using e1
    clear e1
    by_cases e3 : bt x 0 = 45
    ·have e3' : (bt x 0 == 45) = true := by simpa using e3
     clear e3
     gi_wp2
     refine ⟨trivial, ?_⟩
     gi_wp2
     exact ⟨(KeepsOthers.setCell _ _ _).from _, hv.set _, hbw.setCell (p := ⟨w.heap.size, 0, none⟩) (Nat.le_refl _) _, by show _ ∧ _; simp [impElem, e3']⟩
    have e3' : (bt x 0 == 45) = false := by simpa using e3
    clear e3
    by_cases e2 : Lib.hasSuffix x.data.toList [46] = true
    ·gi_wp2_with (refine ⟨trivial, ?_⟩; gi_at_call 61; refine (CallsIn.inRound l (callsIn_wide.2 (Tryz.strings_HasSuffix _ ⟨#[46]⟩ _ hxs))).mono ?_; rintro e w' ⟨rfl, rfl⟩)
     exact ⟨(KeepsOthers.setCell _ _ _).from _, hv.set _, hbw.setCell (p := ⟨w.heap.size, 0, none⟩) (Nat.le_refl _) _, by show _ ∧ _; simp [impElem, e2]⟩
    have e2' : Lib.hasSuffix x.data.toList [46] = false := by simpa using e2
    gi_wp2_with (refine ⟨trivial, ?_⟩; gi_at_call 61; refine (CallsIn.inRound l (callsIn_wide.2 (Tryz.strings_HasSuffix _ ⟨#[46]⟩ _ hxs))).mono ?_; rintro e w' ⟨rfl, rfl⟩)
    exact ⟨KeepsFrom.refl _ _, rfl, hv, hbw, (show _ = true from by rw [List.all_append, hp.out]; simp [impElem, e1', e2', e3'])⟩
   case done =>
    rintro D W hD ⟨hv, hbw, hp⟩ hK
    have hvc3 := hv.1
    have hvf3 := hv.2
    gi_wp2
    refine ⟨by simp, .inl ⟨_, _, rfl, run_takeDeferred ((Below.heap_setCell _ _ _ _ (by show D ≠ w.heap.size; omega)).trans hK), ?_⟩⟩
    have hv2 := (hv.set (.int .i64 0)).put (D := D) (by omega) (.deferred none)
    have hvc2 := hv2.1
    exact ⟨.int .i64 0, by simp [results, Tryz.results50, go_sem, hvc2], by have := hp.out; simp [importB, hV, hM, this, pathErr], below_put (hbw.setCell (p := ⟨w.heap.size, 0, none⟩) (Nat.le_refl _) _) (by omega) (Nat.le_refl _) _⟩
   case stop =>
    rintro D c pre W hD hpre ⟨hv, hbw, hp⟩ hK
    obtain rfl := hp.out.2
    have hvc3 := hv.1
    have hvf3 := hv.2
    gi_wp2
    refine ⟨by simp, .inl ⟨_, _, rfl, run_takeDeferred hK, ?_⟩⟩
    have hv2 := hv.put (D := D) (by omega) (.deferred none)
    have hvc2 := hv2.1
    refine ⟨.int .i64 10, by simp [results, Tryz.results50, go_sem, hvc2], ?_, below_put hbw (by omega) (Nat.le_refl _) _⟩
    obtain ⟨r, hr⟩ := hpre
    have := hp.out.1
    simp [importB, ← hr, this, pathErr]
  ·have hM' : madeB s bigSigns = false := by simpa using hM
   go_enter Tryz.func50, Tryz.ntmps50
   go_wp2_with (first | (go_at_call 56; refine (valid_any _ _ hs).mono ?_; rintro e w1 ⟨rfl, hb⟩; have hvc := (res_below hb).1; have hvf := (res_below hb).2) | (go_at_call 57; refine (made_any _ bigSigns _ hs (by decide)).mono ?_; rintro e w' ⟨rfl, rfl⟩))
   have hv2 := ((res_below hb).set (.int .i64 10)).1
   refine bodyPost_ret (v := .int .i64 10) (by simp [results, Tryz.results50, go_sem, hv2]) rfl ⟨by simp [importB, hM', pathErr], (bel_below hb).setCell (p := ⟨w.heap.size, 0, none⟩) (Nat.le_refl _) _⟩
 ·have hV' : validB s = false := by simpa using hV
  go_enter Tryz.func50, Tryz.ntmps50
  go_wp2_with (go_at_call 56; refine (valid_any _ _ hs).mono ?_; rintro e w1 ⟨rfl, hb⟩; have hvc := (res_below hb).1; have hvf := (res_below hb).2)
  have hv2 := ((res_below hb).set (.int .i64 10)).1
  refine bodyPost_ret (v := .int .i64 10) (by simp [results, Tryz.results50, go_sem, hv2]) rfl ⟨by simp [importB, hV', pathErr], (bel_below hb).setCell (p := ⟨w.heap.size, 0, none⟩) (Nat.le_refl _) _⟩
end Go.Proofs.YtcdcpcdfcmokkaaGreatDoor
end
section
namespace Go.Proofs.YtcdcpcdfcmokkaaGreatDoor
open Go Go.RowKit Go.Proofs.YtcdcpcdfcmokkaaGreatDoorW.PrintWords
theorem wrap_id {x : Int} (h0 : -9223372036854775808 ≤ x) (h1 : x ≤ 9223372036854775807) : wrap64 x = x := IntWalk.wrap64_in x ⟨h0, h1⟩
theorem bt_get (s : ByteArray) (i : Nat) (h : i < s.size) : bt s i = ((s.data.toList[i]'(by rw [← Lib.size_eq]; exact h)).toNat : Int) := by
  rw [← bt_at s (i : Int) h, ByteArray.getElem_eq_getElem_data]; simp
theorem extract_toB (s : ByteArray) (a b : Nat) : s.extract a b = toB ((s.data.toList.take b).drop a) := by
  rw [← Lib.mk_data (s.extract a b)]
  show toB _ = toB _
  congr 1
  simp [List.extract, List.drop_take]
end Go.Proofs.YtcdcpcdfcmokkaaGreatDoor
end
section
namespace Go.Proofs.YtcdcpcdfcmokkaaGreatDoor
open Go.RowKit Go.Shelf Go.Proofs.YtcdcpcdfcmokkaaGreatDoorW.PrintWords
set_option linter.unusedVariables false
def digitB (c : Int) : Bool := decide (48 ≤ c) && decide (c ≤ 57)
def signB (c : Int) : Bool := digitB c || ((decide (97 ≤ Go.bits .or .u8 c 32) && decide (Go.bits .or .u8 c 32 ≤ 122)) || c == 45)
set_option maxHeartbeats 1000000 in
theorem digit_any (c : Int) (w : World) :
    Calls Tryz.prog 135 #[.int .u8 c] w fun e w' => e = .returned (.bool (digitB c)) ∧ w = w' := by
  go_enter Tryz.func135, Tryz.ntmps135
  go_wp2
  · have h1 : 48 ≤ c := by assumption
    go_ret
    exact ⟨by simp [digitB, h1], rfl⟩
  · have h1 : c < 48 := by assumption
    go_ret
    exact ⟨by simp [digitB]; omega, rfl⟩
set_option maxHeartbeats 1000000 in
theorem sign_any (c : Int) (w : World) :
    Calls Tryz.prog 114 #[.int .u8 c] w fun e w' => e = .returned (.bool (signB c)) ∧ w = w' := by
  by_cases hd : digitB c = true
  · go_enter Tryz.func114, Tryz.ntmps114
    go_wp2_with (go_at_call 135; refine (digit_any _ _).mono ?_; rintro e w' ⟨rfl, rfl⟩)
    go_ret
    exact ⟨by simp [signB, hd], rfl⟩
  have hd' : digitB c = false := by simpa using hd
  clear hd
  by_cases h1 : 97 ≤ Go.bits .or .u8 c 32
  · by_cases h2 : Go.bits .or .u8 c 32 ≤ 122
    · have h1' : decide (97 ≤ Go.bits .or .u8 c 32) = true := decide_eq_true h1
      have h2' : decide (Go.bits .or .u8 c 32 ≤ 122) = true := decide_eq_true h2
      go_enter Tryz.func114, Tryz.ntmps114
      go_wp2_with (go_at_call 135; refine (digit_any _ _).mono ?_; rintro e w' ⟨rfl, rfl⟩)
      all_goals go_ret
      all_goals exact ⟨by simp [signB, h1, h2], rfl⟩
    · have h1' : decide (97 ≤ Go.bits .or .u8 c 32) = true := decide_eq_true h1
      have h2' : decide (Go.bits .or .u8 c 32 ≤ 122) = false := decide_eq_false h2
      go_enter Tryz.func114, Tryz.ntmps114
      go_wp2_with (go_at_call 135; refine (digit_any _ _).mono ?_; rintro e w' ⟨rfl, rfl⟩)
      all_goals go_ret
      all_goals exact ⟨by simp [signB, hd', h1', h2'], rfl⟩
  · have h1' : decide (97 ≤ Go.bits .or .u8 c 32) = false := decide_eq_false h1
    go_enter Tryz.func114, Tryz.ntmps114
    go_wp2_with (go_at_call 135; refine (digit_any _ _).mono ?_; rintro e w' ⟨rfl, rfl⟩)
    all_goals go_ret
    all_goals exact ⟨by simp [signB, hd', h1'], rfl⟩
def everyUpto (p : Int → Bool) (s : ByteArray) : Nat → Bool
  | 0 => true
  | k + 1 => everyUpto p s k && p (bt s k)
def everyB (p : Int → Bool) (s : ByteArray) : Bool := everyUpto p s s.size && !(s.toList == [])
theorem everyUpto_no (p : Int → Bool) (s : ByteArray) (k : Nat) (h : p (bt s k) = false) : ∀ n, k < n → everyUpto p s n = false
  | 0, hk => by omega
  | n + 1, hk => by
    rcases Nat.lt_or_ge k n with h' | h'
    · simp [everyUpto, everyUpto_no p s k h n h']
    · obtain rfl : k = n := by omega
      simp [everyUpto, h]
set_option maxHeartbeats 2000000 in
set_option maxRecDepth 100000 in
theorem every_digit (s : ByteArray) (w : World) (hs : s.size ≤ 9223372036854775807) :
    Calls Tryz.prog 113 #[.string s, .func (.func 135) #[] #[]] w fun e w' => e = .returned (.bool (everyB digitB s)) ∧ w = w' := by
  go_enter Tryz.func113, Tryz.ntmps113
  go_wp2
  go_loop [8] (fun i => ∃ k : Nat, k ≤ s.size ∧ i = .int .i64 k ∧ Hid (everyUpto digitB s k = true)) (fun i => s.size - (intOf i).toNat)
  case atStart => exact ⟨0, Nat.zero_le _, rfl, rfl⟩
  case round =>
    obtain ⟨k, hk, rfl, hfa⟩ := hrel
    by_cases hlt : k < s.size
    · have hbt : ((s[k]'hlt).toNat : Int) = bt s k := bt_at s (k : Int) hlt
      go_wp2_with (go_at_call 135; refine (digit_any _ _).mono ?_; rintro e w' ⟨rfl, rfl⟩)
      · have hf : (!digitB (bt s k)) = true := by assumption
        go_ret
        exact ⟨by rw [show everyB digitB s = false from by simp only [everyB, everyUpto_no digitB s k (by simpa using hf) _ hlt]; rfl]; rfl, rfl⟩
      · have hf : (!digitB (bt s k)) = false := by assumption
        go_round
        case rel => exact ⟨k + 1, by omega, by go_num, (show everyUpto digitB s (k + 1) = true from by simp only [everyUpto, hfa.out]; simpa using hf)⟩
        case measure => simp [intOf]; omega
    · obtain rfl : k = s.size := by omega
      have hE := hfa.out
      clear hfa
      have HE := Lib.hid hE
      clear hE
      go_wp2
      go_ret
      exact ⟨by simp only [everyB, HE.out]; cases h : s.toList <;> rfl, rfl⟩
set_option maxHeartbeats 2000000 in
set_option maxRecDepth 100000 in
theorem every_sign (s : ByteArray) (w : World) (hs : s.size ≤ 9223372036854775807) :
    Calls Tryz.prog 113 #[.string s, .func (.func 114) #[] #[]] w fun e w' => e = .returned (.bool (everyB signB s)) ∧ w = w' := by
  go_enter Tryz.func113, Tryz.ntmps113
  go_wp2
  go_loop [8] (fun i => ∃ k : Nat, k ≤ s.size ∧ i = .int .i64 k ∧ Hid (everyUpto signB s k = true)) (fun i => s.size - (intOf i).toNat)
  case atStart => exact ⟨0, Nat.zero_le _, rfl, rfl⟩
  case round =>
    obtain ⟨k, hk, rfl, hfa⟩ := hrel
    by_cases hlt : k < s.size
    · have hbt : ((s[k]'hlt).toNat : Int) = bt s k := bt_at s (k : Int) hlt
      go_wp2_with (go_at_call 114; refine (sign_any _ _).mono ?_; rintro e w' ⟨rfl, rfl⟩)
      · have hf : (!signB (bt s k)) = true := by assumption
        go_ret
        exact ⟨by rw [show everyB signB s = false from by simp only [everyB, everyUpto_no signB s k (by simpa using hf) _ hlt]; rfl]; rfl, rfl⟩
      · have hf : (!signB (bt s k)) = false := by assumption
        go_round
        case rel => exact ⟨k + 1, by omega, by go_num, (show everyUpto signB s (k + 1) = true from by simp only [everyUpto, hfa.out]; simpa using hf)⟩
        case measure => simp [intOf]; omega
    · obtain rfl : k = s.size := by omega
      have hE := hfa.out
      clear hfa
      have HE := Lib.hid hE
      clear hE
      go_wp2
      go_ret
      exact ⟨by simp only [everyB, HE.out]; cases h : s.toList <;> rfl, rfl⟩
end Go.Proofs.YtcdcpcdfcmokkaaGreatDoor
end
section
namespace Go.Proofs.YtcdcpcdfcmokkaaGreatDoor
open Go.RowKit Go.Shelf Go.Proofs.YtcdcpcdfcmokkaaGreatDoorW.PrintWords
set_option linter.unusedVariables false
def noughtB (s : ByteArray) : Bool := decide (1 < s.size) && ((bt s 0 == 48) && everyB digitB s)
set_option maxHeartbeats 1000000 in
theorem nought_any (s : ByteArray) (w : World) (hs : s.size ≤ 9223372036854775807) :
    Calls Tryz.prog 115 #[.string s] w fun e w' => e = .returned (.bool (noughtB s)) ∧ w = w' := by
  by_cases h1 : 1 < s.size
  · have h1' : decide ((1 : Int) < (s.size : Int)) = true := decide_eq_true (by omega)
    have h0 : 0 < s.size := by omega
    have hbt : ((s[0]'h0).toNat : Int) = bt s 0 := bt_at s 0 h0
    by_cases h2 : bt s 0 = 48
    · have h2' : (bt s 0 == 48) = true := by simpa using h2
      clear h2
      go_enter Tryz.func115, Tryz.ntmps115
      go_wp2_with (go_at_call 113; refine (every_digit _ _ hs).mono ?_; rintro e w' ⟨rfl, rfl⟩)
      go_ret
      exact ⟨by simp [noughtB, h1, h2'], rfl⟩
    · have h2' : (bt s 0 == 48) = false := by simpa using h2
      clear h2
      go_enter Tryz.func115, Tryz.ntmps115
      go_wp2
      go_ret
      exact ⟨by simp [noughtB, h2'], rfl⟩
  · have h1' : decide ((1 : Int) < (s.size : Int)) = false := decide_eq_false (by omega)
    go_enter Tryz.func115, Tryz.ntmps115
    go_wp2
    go_ret
    exact ⟨by simp [noughtB, h1], rfl⟩
def valB (s : ByteArray) : Int := ((Lib.decFrom 0 s.data.toList).getD 0 : Nat)
def numOk (s : ByteArray) : Bool := everyB digitB s && (decide (s.size ≤ 9) && !noughtB s)
def numV (s : ByteArray) : Int := if numOk s = true then valB s else 0
theorem every_all {p : Int → Bool} {s : ByteArray} : ∀ {n}, everyUpto p s n = true → ∀ k, k < n → p (bt s k) = true
  | 0, _, k, hk => by omega
  | n + 1, h, k, hk => by
    simp only [everyUpto, Bool.and_eq_true] at h
    rcases Nat.lt_or_ge k n with h' | h'
    · exact every_all h.1 k h'
    · obtain rfl : k = n := by omega
      exact h.2
theorem dec_all : ∀ (l : List UInt8) (acc : Nat), (∀ b ∈ l, 48 ≤ b.toNat ∧ b.toNat ≤ 57) → ∃ n, Lib.decFrom acc l = some n
  | [], acc, _ => ⟨acc, rfl⟩
  | b :: l, acc, h => by
    have hb := h b (by simp)
    simp only [Lib.decFrom, Lib.digitVal, if_pos hb]
    exact dec_all l _ (fun c hc => h c (by simp [hc]))
theorem mem_bt (s : ByteArray) (b : UInt8) (h : b ∈ s.data.toList) : ∃ k : Nat, k < s.size ∧ bt s k = b.toNat := by
  obtain ⟨k, hk, rfl⟩ := List.getElem_of_mem h
  have hk' : k < s.size := by rw [Lib.size_eq]; exact hk
  refine ⟨k, hk', ?_⟩
  rw [← bt_at s (k : Int) hk', ByteArray.getElem_eq_getElem_data]
  simp
theorem every_digits {s : ByteArray} (h : everyB digitB s = true) : (∀ b ∈ s.data.toList, 48 ≤ b.toNat ∧ b.toNat ≤ 57) ∧ s.data.toList ≠ [] := by
  simp only [everyB, Bool.and_eq_true] at h
  refine ⟨fun b hb => ?_, by have := h.2; rw [Lib.toList_data] at this; simpa using this⟩
  obtain ⟨k, hk, e⟩ := mem_bt s b hb
  have := every_all h.1 k hk
  rw [e] at this
  simp only [digitB, Bool.and_eq_true, decide_eq_true_eq] at this
  omega
theorem atoi_val {s : ByteArray} (h : everyB digitB s = true) : Lib.atoi s.data.toList = some (valB s) := by
  obtain ⟨h1, h2⟩ := every_digits h
  obtain ⟨n, hn⟩ := dec_all _ 0 h1
  unfold valB
  rw [hn]
  cases hl : s.data.toList with
  | nil => exact absurd hl h2
  | cons b r =>
    rw [hl] at h1 hn
    have hb := h1 b (by simp)
    have e1 : (b == 45) = false := by
      cases h : b == 45 with
      | false => rfl
      | true => rw [beq_iff_eq] at h; subst h; simp at hb
    have e2 : (b == 43) = false := by
      cases h : b == 43 with
      | false => rfl
      | true => rw [beq_iff_eq] at h; subst h; simp at hb
    have e3 : Lib.decNat (b :: r) = some n := by simp only [Lib.decNat]; exact hn
    simp [Lib.atoi, e1, e2, e3]
set_option maxHeartbeats 1000000 in
theorem number_any (s : ByteArray) (w : World) (hs : s.size ≤ 9223372036854775807) :
    Calls Tryz.prog 112 #[.string s] w fun e w' => e = .returned (.tuple #[.int .i64 (numV s), .bool (numOk s)]) ∧ Below w.heap.size w w' := by
  by_cases hd : everyB digitB s = true
  · by_cases h1 : s.size ≤ 9
    · have h1' : decide ((9 : Int) < (s.size : Int)) = false := decide_eq_false (by omega)
      by_cases hn : noughtB s = true
      · go_enter Tryz.func112, Tryz.ntmps112
        go_wp2_with (first | (go_at_call 113; refine (every_digit _ _ hs).mono ?_; rintro e w' ⟨rfl, rfl⟩) | (go_at_call 115; refine (nought_any _ _ hs).mono ?_; rintro e w' ⟨rfl, rfl⟩))
        go_ret2
        exact ⟨by simp [numOk, numV, hn], Below.refl _ _⟩
      · have hn' : noughtB s = false := by simpa using hn
        clear hn
        have hok : numOk s = true := by simp [numOk, hd, h1, hn']
        have hv : numV s = valB s := if_pos hok
        rw [hok, hv]
        have ha := atoi_val hd
        go_enter Tryz.func112, Tryz.ntmps112
        go_wp2_with (first | (go_at_call 113; refine (every_digit _ _ hs).mono ?_; rintro e w' ⟨rfl, rfl⟩) | (go_at_call 115; refine (nought_any _ _ hs).mono ?_; rintro e w' ⟨rfl, rfl⟩) | (go_at_call 136; refine (Tryz.strconv_Atoi s _ (by omega) ha _).mono ?_; rintro e w' ⟨rfl, t, rfl⟩))
        go_quiet (fail)
        go_wp2
        go_ret2
        exact ⟨rfl, pw_below_drewN (Lib.bytesWorld_below _ _ _) _⟩
    · have h1' : decide ((9 : Int) < (s.size : Int)) = true := decide_eq_true (by omega)
      go_enter Tryz.func112, Tryz.ntmps112
      go_wp2_with (first | (go_at_call 113; refine (every_digit _ _ hs).mono ?_; rintro e w' ⟨rfl, rfl⟩))
      go_ret2
      exact ⟨by simp [numOk, numV, h1], Below.refl _ _⟩
  · have hd' : everyB digitB s = false := by simpa using hd
    go_enter Tryz.func112, Tryz.ntmps112
    go_wp2_with (first | (go_at_call 113; refine (every_digit _ _ hs).mono ?_; rintro e w' ⟨rfl, rfl⟩))
    go_ret2
    exact ⟨by simp [numOk, numV, hd'], Below.refl _ _⟩
end Go.Proofs.YtcdcpcdfcmokkaaGreatDoor
end
section
namespace Go.Proofs.YtcdcpcdfcmokkaaGreatDoor.P
open Go.RowKit Go.Proofs.YtcdcpcdfcmokkaaGreatDoorW.PrintWords Go.Proofs.YtcdcpcdfcmokkaaGreatDoorW.PrintLast Go.Proofs.YtcdcpcdfcmokkaaGreatDoorW.PrintMore
open Go.Proofs.YtcdcpcdfcmokkaaGreatDoor (str_gtr str_leq str_geq bne_empty)
attribute [local go_sem] max2_int min2_int max_two min_two max_three min_three max_four min_four str_gtr str_leq str_geq   -- for this text's walks alone
set_option linter.unusedVariables false
set_option linter.unusedSimpArgs false
def cmp_isNaN_string.f (a0 : ByteArray) : Option (Bool) := some (a0.toList != a0.toList)
set_option maxHeartbeats 8000000 in
set_option maxRecDepth 100000 in
theorem cmp_isNaN_string.calls (a0 : ByteArray) (r : Bool) (w : World) (h : cmp_isNaN_string.f a0 = some r) :
  Calls Tryz.prog 87 #[.string a0] w fun e w' => e = .returned (.bool r) ∧ Drawn0 w w' := by
 have H : (some (a0.toList != a0.toList)) = some r := h
 clear h
 obtain rfl := Option.some.inj H
 go_enter Tryz.func87, Tryz.ntmps87
 go_wp2
 go_ret
 exact ⟨by first | rfl | (simp; done) | (simp [*]; done) | (simp [bne_empty, *]; done), by repeat (first | exact Drawn0.refl _ | apply Drawn0.step)⟩
end Go.Proofs.YtcdcpcdfcmokkaaGreatDoor.P
end
