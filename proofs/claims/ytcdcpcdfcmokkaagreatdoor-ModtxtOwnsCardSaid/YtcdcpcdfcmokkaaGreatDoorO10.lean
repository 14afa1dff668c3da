/- semver.idents, semver.orderPre: what they compute. · semver.Parse: what it computes. -/
import Derived.Test.YtcdcpcdfcmokkaaGreatDoorO09
import Derived.Test.YtcdcpcdfcmokkaaGreatDoorO05
set_option linter.unusedVariables false
set_option linter.unusedSimpArgs false
section
namespace Go.Proofs.YtcdcpcdfcmokkaaGreatDoor
open Go.RowKit Go.Shelf Go.Proofs.YtcdcpcdfcmokkaaGreatDoorW.PrintWords
attribute [local go_sem] Oper.semAt_some
set_option linter.unusedVariables false
set_option maxHeartbeats 1000000 in
theorem idents_any (s : ByteArray) (w : World) :
    Calls Tryz.prog 111 #[.string s] w fun e w' => e = .returned (.func (.func 134) #[] #[.pointer (some ⟨w.heap.size, 0, none⟩)]) ∧ w' = w.alloc (.cells #[.string s] 9) := by
  go_enter Tryz.func111, Tryz.ntmps111
  go_wp2
  go_ret
  exact ⟨rfl, rfl⟩
def cmpL : List ByteArray → List ByteArray → Int
  | [], _ => -1
  | _ :: _, [] => 1
  | x :: xs, y :: ys => if orderB x y = 0 then cmpL xs ys else orderB x y
def orderPreB (a b : ByteArray) : Int :=
  if a.toList = b.toList then 0 else if a.toList = [] then 1 else if b.toList = [] then -1 else cmpL (piecesB 46 a) (piecesB 46 b)
theorem cut_piece_size (c : UInt8) (s : ByteArray) : (cutB c s).1.size ≤ s.size := by
  unfold cutB
  rw [toB_size, Lib.size_eq]
  unfold Lib.cut; split <;> simp <;> exact Nat.min_le_right _ _
set_option maxHeartbeats 4000000 in
set_option maxRecDepth 100000 in
theorem orderPre_any (a b : ByteArray) (w : World) (ha : a.size ≤ 9223372036854775807) (hb : b.size ≤ 9223372036854775807) :
    Calls Tryz.prog 86 #[.string a, .string b] w fun e w' => e = .returned (.int .i64 (orderPreB a b)) ∧ Below w.heap.size w w' := by
  have hbl' : ∀ x : Int, Below w.heap.size w ((w.alloc (.cells #[.string b] 9)).alloc (.cells #[.int .i64 x] 3)) := fun x => ((Below.refl _ w).alloc (Nat.le_refl _) _).alloc (by simp) _
  have hvr : ∀ x : Int, VarAt ((w.alloc (.cells #[.string b] 9)).alloc (.cells #[.int .i64 x] 3)) (w.heap.size + 1) (.int .i64 x) := fun x => by
    have h := VarAt.new (w.alloc (.cells #[.string b] 9)) (.int .i64 x) 3
    rwa [World.size_alloc] at h
  by_cases e1 : a.toList = b.toList
  · have e1' : (a.toList == b.toList) = true := by simpa using e1
    go_enter Tryz.func86, Tryz.ntmps86
    go_wp2
    have hvc := (hvr 0).1
    refine bodyPost_ret (v := .int .i64 0) (by simp [results, Tryz.results86, go_sem, hvc]) rfl ⟨by simp [orderPreB, e1], hbl' _⟩
  have e1' : (a.toList == b.toList) = false := by simpa using e1
  by_cases e2 : a.toList = []
  · have e2' : a.toList.isEmpty = true := by simpa using e2
    have E2 := Lib.hid e2
    clear e2
    go_enter Tryz.func86, Tryz.ntmps86
    go_wp2
    have hvc := (hvr 1).1
    refine bodyPost_ret (v := .int .i64 1) (by simp [results, Tryz.results86, go_sem, hvc]) rfl ⟨by rw [orderPreB, if_neg e1, if_pos E2.out], hbl' _⟩
  have e2' : a.toList.isEmpty = false := by simpa using e2
  by_cases e3 : b.toList = []
  · have e3' : b.toList.isEmpty = true := by simpa using e3
    have E3 := Lib.hid e3
    clear e3
    go_enter Tryz.func86, Tryz.ntmps86
    go_wp2
    have hvc := (hvr (-1)).1
    refine bodyPost_ret (v := .int .i64 (-1)) (by simp [results, Tryz.results86, go_sem, hvc]) rfl ⟨by rw [orderPreB, if_neg e1, if_neg e2, if_pos E3.out], hbl' _⟩
  have e3' : b.toList.isEmpty = false := by simpa using e3
  have hres : orderPreB a b = cmpL (piecesB 46 a) (piecesB 46 b) := by rw [orderPreB, if_neg e1, if_neg e2, if_neg e3]
  rw [hres]
  refine (callsIn_wide (n := 5)).1 ?_
  refine callsIn_of_wp_marks Tryz.func86 rfl trivial ?_ rfl
  simp only [Tryz.ntmps86, List.size_toArray, List.length_cons, List.length_nil, Nat.reduceAdd, Nat.reduceSub, Array.replicate_succ, Array.replicate_zero, List.push_toArray, List.append_toArray, List.nil_append, List.cons_append]
  gi_wp2_with (refine ⟨trivial, ?_⟩; gi_at_call 111; refine (callsIn_wide.2 (idents_any _ _)).mono ?_; rintro e w' ⟨rfl, rfl⟩)
  obtain ⟨W0, hW0⟩ : ∃ W0, W0 = ((((w.alloc (.cells #[.string b] 9)).alloc (.cells #[.int .i64 0] 3)).alloc (.cells #[.bool true] 4)).alloc (.cells #[.string a] 9)) := ⟨_, rfl⟩
  rw [← hW0]
  have hR0 : VarAt W0 w.heap.size (.string b) := by rw [hW0]; exact (((VarAt.new w _ _).alloc _).alloc _).alloc _
  have hR1 : VarAt W0 (w.heap.size + 1) (.int .i64 0) := by rw [hW0]; exact ((hvr 0).alloc _).alloc _
  have hR2 : VarAt W0 (w.heap.size + 1 + 1) (.bool true) := by
    have h := VarAt.new ((w.alloc (.cells #[.string b] 9)).alloc (.cells #[.int .i64 0] 3)) (.bool true) 4
    rw [World.size_alloc, World.size_alloc] at h
    rw [hW0]; exact h.alloc _
  have hRB : VarAt W0 (w.heap.size + 1 + 1 + 1) (.string a) := by
    have h := VarAt.new (((w.alloc (.cells #[.string b] 9)).alloc (.cells #[.int .i64 0] 3)).alloc (.cells #[.bool true] 4)) (.string a) 9
    rw [World.size_alloc, World.size_alloc, World.size_alloc] at h
    rw [hW0]; exact h
  have hbW : Below w.heap.size w W0 := by rw [hW0]; exact below_alloc (below_alloc (below_alloc (below_alloc (Below.refl _ w) _) _) _) _
  have hz : W0.heap.size = w.heap.size + 1 + 1 + 1 + 1 := by rw [hW0, World.size_alloc, World.size_alloc, World.size_alloc, World.size_alloc]
  clear hW0
  refine wpIn_rangeAt (B := w.heap.size + 1 + 1 + 1) rfl (by omega) (gf := 134) (lb := #[.pointer (some ⟨w.heap.size + 1 + 1 + 1, 0, none⟩)]) rfl trivial (enters_of Tryz.func134 (by kernel_rfl) rfl)
    (idents1_seq 4 (w.heap.size + 1 + 1 + 1) (by omega) a ha) (by omega) (fun W hW => hRB.below hW) (fun _ => rfl)
    (fun pre W => ∃ c : ByteArray × Bool, VarAt W w.heap.size (.string c.1) ∧ (VarAt W (w.heap.size + 1 + 1) (.bool c.2) ∧ (VarAt W (w.heap.size + 1) (.int .i64 0) ∧ (Below w.heap.size w W ∧ Hid (c.1.size ≤ 9223372036854775807 ∧ ∀ zs, cmpL (pre ++ zs) (piecesB 46 b) = cmpL zs (leftB 46 c.2 c.1))))))
    (fun c pre W => ∃ r : Int, VarAt W (w.heap.size + 1) (.int .i64 r) ∧ (Below w.heap.size w W ∧ Hid (c = .ret ∧ ∀ zs, cmpL (pre ++ zs) (piecesB 46 b) = r)))
    (OwnAt.ex fun c => OwnAt.and (OwnAt.var _ (by omega)) (OwnAt.and (OwnAt.var _ (by omega)) (OwnAt.and (OwnAt.var _ (by omega)) (OwnAt.and (OwnAt.below (Nat.le_refl _) (by omega) (by omega)) OwnAt.pure))))
    (fun c => OwnAt.ex fun r => OwnAt.and (OwnAt.var _ (by omega)) (OwnAt.and (OwnAt.below (Nat.le_refl _) (by omega) (by omega)) OwnAt.pure))
    ⟨(b, true), hR0, hR2, hR1, hbW, hb, fun zs => rfl⟩
    (fun x => { tmps := #[.string a, .string b, undef, .pointer (some ⟨w.heap.size, 0, none⟩), .pointer (some ⟨w.heap.size + 1, 0, none⟩), .pointer (some ⟨w.heap.size + 1 + 1, 0, none⟩), .string x, undef, undef, .bool false, .string a, .string b, .bool false, .bool false, .string a, .bool false, .bool false, .string b, .bool false, .string a, .func (.func 134) #[] #[.pointer (some ⟨w.heap.size + 1 + 1 + 1, 0, none⟩)], .string x, undef, undef, undef, undef, undef, undef, undef, undef, undef, undef, undef, undef, undef, undef], defers := [] }) ?assign ?body ?done ?stop
  case assign =>
    intro l x W K hK
    gi_wp2
    exact hK
  case body =>
    rintro l pre x W ⟨⟨rest, more⟩, hv0, hv2, hv1, hbw, hH⟩ hpx hsz
    have hx := Lib.hid (Nat.le_trans (piece_size (prefix_mem hpx)) ha)
    have hc0 := hv0.1
    have hf0 := hv0.2
    have hc1 := hv1.1
    have hf1 := hv1.2
    have hc2 := hv2.1
    have hf2 := hv2.2
    cases more with
    | false =>
      gi_wp2
      exact ⟨keeps_set _ _ _ _, 1, hv1.set _, hbw.setCell (p := ⟨w.heap.size + 1, 0, none⟩) (by show w.heap.size ≤ w.heap.size + 1; omega) _, rfl, fun zs => by rw [List.append_assoc, hH.out.2]; rfl⟩
    | true =>
      have hne1 : w.heap.size ≠ w.heap.size + 1 + 1 := by omega
      have hne2 : w.heap.size + 1 ≠ w.heap.size + 1 + 1 := by omega
      have hne3 : w.heap.size + 1 ≠ w.heap.size := by omega
      have key : ∀ m : Nat, VarAt (((W.drewN m).setCell ⟨w.heap.size, 0, none⟩ (.string (cutB 46 rest).2.1)).setCell ⟨w.heap.size + 1 + 1, 0, none⟩ (.bool (cutB 46 rest).2.2)) w.heap.size (.string (cutB 46 rest).2.1) ∧
          VarAt (((W.drewN m).setCell ⟨w.heap.size, 0, none⟩ (.string (cutB 46 rest).2.1)).setCell ⟨w.heap.size + 1 + 1, 0, none⟩ (.bool (cutB 46 rest).2.2)) (w.heap.size + 1 + 1) (.bool (cutB 46 rest).2.2) ∧
          VarAt (((W.drewN m).setCell ⟨w.heap.size, 0, none⟩ (.string (cutB 46 rest).2.1)).setCell ⟨w.heap.size + 1 + 1, 0, none⟩ (.bool (cutB 46 rest).2.2)) (w.heap.size + 1) (.int .i64 0) ∧
          Below w.heap.size w (((W.drewN m).setCell ⟨w.heap.size, 0, none⟩ (.string (cutB 46 rest).2.1)).setCell ⟨w.heap.size + 1 + 1, 0, none⟩ (.bool (cutB 46 rest).2.2)) ∧
          KeepsFrom W0.heap.size W (((W.drewN m).setCell ⟨w.heap.size, 0, none⟩ (.string (cutB 46 rest).2.1)).setCell ⟨w.heap.size + 1 + 1, 0, none⟩ (.bool (cutB 46 rest).2.2)) ∧
          (((W.drewN m).setCell ⟨w.heap.size, 0, none⟩ (.string (cutB 46 rest).2.1)).setCell ⟨w.heap.size + 1 + 1, 0, none⟩ (.bool (cutB 46 rest).2.2)).heap[w.heap.size + 1 + 1 + 1]? = W.heap[w.heap.size + 1 + 1 + 1]? := fun m =>
        ⟨((hv0.drewN m).set _).setOther hne1 _, ((hv2.drewN m).setOther (Ne.symm hne1) _).set _, ((hv1.drewN m).setOther hne3 _).setOther hne2 _,
          below_set (below_set (pw_below_drewN hbw m) (Nat.le_refl _)) (by omega),
          ((keeps_below (pw_below_drewN (Below.refl _ W) m)).trans (keeps_set _ _ _ _)).trans (keeps_set _ _ _ _),
          (Below.heap_setCell _ _ _ _ (by show w.heap.size + 1 + 1 + 1 ≠ w.heap.size + 1 + 1; omega)).trans (Below.heap_setCell _ _ _ _ (by show w.heap.size + 1 + 1 + 1 ≠ w.heap.size; omega))⟩
      have hstep : Hid (∀ zs, cmpL (pre ++ [x] ++ zs) (piecesB 46 b) = if orderB x (cutB 46 rest).1 = 0 then cmpL zs (leftB 46 (cutB 46 rest).2.2 (cutB 46 rest).2.1) else orderB x (cutB 46 rest).1) := fun zs => by
        rw [List.append_assoc, hH.out.2, leftB_go]; rfl
      have hrs := Lib.hid hH.out.1
      clear hH hv0 hv1 hv2
      have hps := Lib.hid (Nat.le_trans (cut_piece_size 46 rest) hrs.out)
      have hls := Lib.hid (Nat.le_trans (cutB_le 46 rest) hrs.out)
      by_cases e : orderB x (cutB 46 rest).1 = 0
      · have e' : (orderB x (cutB 46 rest).1 == 0) = true := by simpa using e
        have E := Lib.hid e
        clear e
        gi_wp2_with (refine ⟨trivial, ?_⟩; first | (gi_at_call 38; refine (CallsIn.inRound l (callsIn_wide.2 (cut_one 46 _ _ hrs.out))).mono ?_; rintro e w' ⟨rfl, m, rfl⟩) | (gi_at_call 122; refine (CallsIn.inRound l (callsIn_wide.2 (order_any _ _ _ hx.out hps.out))).mono ?_; rintro e w3 ⟨rfl, hb3⟩))
        obtain ⟨k0, k2, k1, kb, kk, kB⟩ := key m
        refine ⟨kk.trans (keeps_below hb3), (hb3.block _ ?_).trans kB, ⟨(_, _), k0.below hb3, k2.below hb3, k1.below hb3, below_step kb hb3, hls.out, fun zs => by rw [hstep.out zs, if_pos E.out]; rfl⟩⟩
        exact Nat.lt_of_lt_of_le (by omega) kk.size
      · have e' : (orderB x (cutB 46 rest).1 == 0) = false := by simpa using e
        have E := Lib.hid e
        clear e
        gi_wp2_with (refine ⟨trivial, ?_⟩; first | (gi_at_call 38; refine (CallsIn.inRound l (callsIn_wide.2 (cut_one 46 _ _ hrs.out))).mono ?_; rintro e w' ⟨rfl, m, rfl⟩) | (gi_at_call 122; refine (CallsIn.inRound l (callsIn_wide.2 (order_any _ _ _ hx.out hps.out))).mono ?_; rintro e w3 ⟨rfl, hb3⟩; have q1 := ((key m).2.2.1.below hb3).1; have q2 := ((key m).2.2.1.below hb3).2))
        obtain ⟨k0, k2, k1, kb, kk, kB⟩ := key m
        exact ⟨(kk.trans (keeps_below hb3)).trans (keeps_set _ _ _ _), _, (k1.below hb3).set _, below_set (below_step kb hb3) (by omega), rfl, fun zs => by rw [hstep.out zs, if_neg E.out]⟩
  case done =>
    rintro D W hD ⟨⟨rest, more⟩, hv0, hv2, hv1, hbw, hH⟩ hK
    have hc1 := hv1.1
    have hf1 := hv1.2
    gi_wp2
    refine ⟨by simp, .inl ⟨_, _, rfl, run_takeDeferred ((Below.heap_setCell _ _ _ _ (by show D ≠ w.heap.size + 1; omega)).trans hK), ?_⟩⟩
    have hv3 := (hv1.set (.int .i64 (-1))).put (D := D) (by omega) (.deferred none)
    have hvc3 := hv3.1
    refine ⟨.int .i64 (-1), by simp [results, Tryz.results86, go_sem, hvc3], ?_, below_put (below_set hbw (by omega)) (by omega) (Nat.le_refl _) _⟩
    have := hH.out.2 []
    rw [List.append_nil] at this
    rw [this]; rfl
  case stop =>
    rintro D c pre W hD hpre ⟨r, hv1, hbw, hH⟩ hK
    obtain rfl := hH.out.1
    have hc1 := hv1.1
    have hf1 := hv1.2
    gi_wp2
    refine ⟨by simp, .inl ⟨_, _, rfl, run_takeDeferred hK, ?_⟩⟩
    have hv2 := hv1.put (D := D) (by omega) (.deferred none)
    have hvc2 := hv2.1
    refine ⟨.int .i64 r, by simp [results, Tryz.results86, go_sem, hvc2], ?_, below_put hbw (by omega) (Nat.le_refl _) _⟩
    obtain ⟨zs, hzs⟩ := hpre
    rw [← hzs, hH.out.2 zs]
end Go.Proofs.YtcdcpcdfcmokkaaGreatDoor
end
section
namespace Go.Proofs.YtcdcpcdfcmokkaaGreatDoor
open Go.RowKit Go.Shelf Go.Proofs.YtcdcpcdfcmokkaaGreatDoorW.PrintWords Go.Proofs.YtcdcpcdfcmokkaaGreatDoorW.PrintLast
attribute [local go_sem] Oper.semAt_some
set_option linter.unusedVariables false
def prefB (s : ByteArray) : Bool := Lib.hasPrefix s.data.toList [118]
def restB (s : ByteArray) : ByteArray := toB (Lib.trimPrefix s.data.toList [118])
def metaC (s : ByteArray) : ByteArray × ByteArray × Bool := cutB 43 (restB s)
def preC (s : ByteArray) : ByteArray × ByteArray × Bool := cutB 45 (metaC s).1
def idsB (s : ByteArray) : List ByteArray := piecesB 46 (preC s).1
def preOk (h : Bool) (e : ByteArray) : Bool := !h || (everyB signB e && !noughtB e)
def metaOk (h : Bool) (e : ByteArray) : Bool := !h || everyB signB e
def verOk (s : ByteArray) : Bool := prefB s && (decide (s.size ≤ 60) && (decide (Lib.countByte (preC s).1.data.toList 46 = 2) && ((idsB s).all numOk && ((piecesB 46 (preC s).2.1).all (preOk (preC s).2.2) && (piecesB 46 (metaC s).2.1).all (metaOk (metaC s).2.2)))))
def numAt (s : ByteArray) (i : Nat) : Int := if verOk s = true then numV ((idsB s).getD i ⟨#[]⟩) else 0
def preB (s : ByteArray) : ByteArray := if verOk s = true then (preC s).2.1 else ⟨#[]⟩
def metaB (s : ByteArray) : ByteArray := if verOk s = true then (metaC s).2.1 else ⟨#[]⟩
def verErr (s : ByteArray) : Int := if verOk s = true then 0 else 30
theorem parse_pick (s : ByteArray) (w : World) : Calls Tryz.prog 73 #[.string s, .string ⟨#[118]⟩] w fun e w' => e = .returned (.tuple #[.string (restB s), .bool (prefB s)]) ∧ w = w' :=
  (Tryz.strings_CutPrefix s ⟨#[118]⟩ w).mono fun e w' h => ⟨h.1, h.2.symm⟩
theorem parse_plus (s : ByteArray) (w : World) (h : (restB s).size ≤ 9223372036854775807) : Calls Tryz.prog 38 #[.string (restB s), .string ⟨#[43]⟩] w fun e w' => e = .returned (.tuple #[.string (metaC s).1, .string (metaC s).2.1, .bool (metaC s).2.2]) ∧ ∃ n, w' = w.drewN n := cut_one 43 (restB s) w h
theorem parse_dash (s : ByteArray) (w : World) (h : (metaC s).1.size ≤ 9223372036854775807) : Calls Tryz.prog 38 #[.string (metaC s).1, .string ⟨#[45]⟩] w fun e w' => e = .returned (.tuple #[.string (preC s).1, .string (preC s).2.1, .bool (preC s).2.2]) ∧ ∃ n, w' = w.drewN n := cut_one 45 (metaC s).1 w h
def zeroV : Obj := .cells #[.int .i64 0, .int .i64 0, .int .i64 0, .string ⟨#[]⟩, .string ⟨#[]⟩] 111 (0, 0)
def PSt (r : Nat) (w : World) (v : Value) (hm hp : Bool) (xs : List Int) (okb : Nat → Prop) (ok : Bool) (W : World) : Prop :=
  W.heap[r]? = some zeroV ∧ (VarAt W (r + 1) (.bool hm) ∧ (VarAt W (r + 1 + 1) (.bool hp) ∧ (VarAt W (r + 1 + 1 + 1) (.bool ok) ∧ (VarAt W (r + 1 + 1 + 1 + 1) v ∧ (Below r w W ∧ Kd.R (Kd.int .i64) 3 W (r + 6) okb v xs)))))
theorem PSt.own {β : Type} {D B r : Nat} {w : World} {hm hp : Bool} {okb : Nat → Prop} (v : β → Value) (xs : β → List Int) (ok : β → Bool) (hD : r + 6 ≤ D) (hB : r + 5 ≤ B) (hB' : ∀ k, okb k → r + 6 ≤ k → k ≠ B) (hr : r ≤ w.heap.size) :
    OwnAt D B (fun s W => PSt r w (v s) hm hp (xs s) okb (ok s) W) :=
  OwnAt.and (OwnAt.obj (by omega) (by omega)) (OwnAt.and (OwnAt.var _ (by omega)) (OwnAt.and (OwnAt.var _ (by omega)) (OwnAt.and (OwnAt.var _ (by omega)) (OwnAt.and (OwnAt.var _ (by omega)) (OwnAt.and (OwnAt.below hr (by omega) (by omega)) (OwnAt.row _ _ hB'))))))
theorem PSt.below {r : Nat} {w : World} {v : Value} {hm hp : Bool} {xs : List Int} {okb : Nat → Prop} {ok : Bool} {W W' : World} (h : PSt r w v hm hp xs okb ok W) (hb : Below W.heap.size W W') (hr : r ≤ w.heap.size) : PSt r w v hm hp xs okb ok W' :=
  ⟨blk_below h.1 hb, h.2.1.below hb, h.2.2.1.below hb, h.2.2.2.1.below hb, h.2.2.2.2.1.below hb, below_then h.2.2.2.2.2.1 (Nat.le_trans hr h.2.2.2.2.2.1.size) hb, Kd.R_below h.2.2.2.2.2.2 hb⟩
theorem PSt.setOk {r : Nat} {w : World} {v : Value} {hm hp : Bool} {xs : List Int} {okb : Nat → Prop} {ok : Bool} {W : World} (h : PSt r w v hm hp xs okb ok W) (b : Bool) : PSt r w v hm hp xs okb b (W.setCell ⟨r + 1 + 1 + 1, 0, none⟩ (.bool b)) := by
  obtain ⟨h0, h1, h2, h3, h4, hb, hx⟩ := h
  refine ⟨(Below.heap_setCell _ _ _ _ (by show r ≠ r + 1 + 1 + 1; omega)).trans h0, h1.setOther (by omega) _, h2.setOther (by omega) _, h3.set _, h4.setOther (by omega) _, hb.setCell (p := ⟨r + 1 + 1 + 1, 0, none⟩) (by show r ≤ r + 1 + 1 + 1; omega) _, ?_⟩
  exact Kd.R_mono (Kd.R_far (Kd.R_mono (Kd.R_bound hx) (fun k hk => (⟨hk.1, by have := hk.2.1; show k ≠ r + 1 + 1 + 1; omega⟩ : okb k ∧ k ≠ (⟨r + 1 + 1 + 1, 0, none⟩ : Addr).block))) (fun k hk => hk.2) _) (fun k hk => hk.1)
theorem PSt.grown {r : Nat} {w : World} {v v1 : Value} {hm hp : Bool} {xs xs1 : List Int} {okb : Nat → Prop} {ok : Bool} {W W' : World} (h : PSt r w v hm hp xs okb ok W) (hr : r ≤ w.heap.size) (hg : W.grownBy W' v.ownBlock) (hx1 : Kd.R (Kd.int .i64) 3 W' (r + 6) okb v1 xs1) :
    PSt r w v1 hm hp xs1 okb ok (W'.setCell ⟨r + 1 + 1 + 1 + 1, 0, none⟩ v1) := by
  obtain ⟨h0, h1, h2, h3, h4, hb, hx⟩ := h
  have hne : ∀ k, v.ownBlock = some k → r + 6 ≤ k := fun k hk => Kd.R_base hx k hk
  have ne : ∀ j, j < r + 6 → v.ownBlock ≠ some j := fun j hj e => by have := hne j e; omega
  refine ⟨(Below.heap_setCell _ _ _ _ (by show r ≠ r + 1 + 1 + 1 + 1; omega)).trans ((hg.block r (blk_lt h0) (fun e => ne r (by omega) e.symm)).trans h0), (h1.grown hg (ne _ (by omega))).setOther (by omega) _, (h2.grown hg (ne _ (by omega))).setOther (by omega) _, (h3.grown hg (ne _ (by omega))).setOther (by omega) _, (h4.grown hg (ne _ (by omega))).set _, (hb.grown hg (Nat.le_trans hr hb.size) (fun k e => by have := hne k e; omega)).setCell (p := ⟨r + 1 + 1 + 1 + 1, 0, none⟩) (by show r ≤ r + 1 + 1 + 1 + 1; omega) _, ?_⟩
  exact Kd.R_mono (Kd.R_far (Kd.R_mono (Kd.R_bound hx1) (fun k hk => (⟨hk.1, by have := hk.2.1; show k ≠ r + 1 + 1 + 1 + 1; omega⟩ : okb k ∧ k ≠ (⟨r + 1 + 1 + 1 + 1, 0, none⟩ : Addr).block))) (fun k hk => hk.2) _) (fun k hk => hk.1)
end Go.Proofs.YtcdcpcdfcmokkaaGreatDoor
end
