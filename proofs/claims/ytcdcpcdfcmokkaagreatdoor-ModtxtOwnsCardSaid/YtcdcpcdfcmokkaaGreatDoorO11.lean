/- semver.Parse: what it computes (the walk). -/
import Derived.Test.YtcdcpcdfcmokkaaGreatDoorO10
set_option linter.unusedVariables false
set_option linter.unusedSimpArgs false
namespace Go.Proofs.YtcdcpcdfcmokkaaGreatDoor
open Go.RowKit Go.Shelf Go.Proofs.YtcdcpcdfcmokkaaGreatDoorW.PrintWords Go.Proofs.YtcdcpcdfcmokkaaGreatDoorW.PrintLast
attribute [local go_sem] Oper.semAt_some
set_option linter.unusedVariables false
theorem some_undef_bool (b : Bool) : (some undef = some (Value.bool b)) = False := by simp [undef]
attribute [local go_sem] some_undef_bool
theorem size_drewN (w : World) (n : Nat) : (w.drewN n).heap.size = w.heap.size := rfl
theorem infoInt : (Tryz.prog.info? 3).map (fun i => (i.zero, i.size, i.bytes)) = some (some (.int .i64 0), 1, 8) := by kernel_rfl
theorem pieces_count (c : UInt8) : ∀ l : List UInt8, (pieces c l).length = l.count c + 1
  | [] => rfl
  | b :: l => by
    have ih := pieces_count c l
    unfold pieces
    by_cases h : b = c
    · subst h; simp [ih]
    · rw [if_neg h]
      have : (b :: l).count c = l.count c := List.count_cons_of_ne h
      rw [this, ← ih]
      split
      · rename_i e; exact absurd e (pieces_ne c l)
      · rename_i p ps e; rw [e]; rfl
theorem piecesB_count (c : UInt8) (s : ByteArray) : (piecesB c s).length = Lib.countByte s.data.toList c + 1 := by
  unfold piecesB Lib.countByte; rw [List.length_map, pieces_count]
theorem piecesB_len (c : UInt8) (s : ByteArray) : (piecesB c s).length ≤ s.size + 1 := by
  rw [piecesB_count, Lib.size_eq]; exact Nat.succ_le_succ List.count_le_length
theorem prefix_len {α : Type} {pre xs : List α} {x : α} (h : pre ++ [x] <+: xs) : pre.length + 1 ≤ xs.length := by
  have := h.length_le; simpa using this
set_option maxHeartbeats 8000000 in
set_option maxRecDepth 100000 in
theorem parse_any (s : ByteArray) (w : World) (hs : s.size ≤ 9223372036854775807) :
    Calls Tryz.prog 80 #[.string s] w fun e w' => e = .returned (.tuple #[.agg #[.int .i64 (numAt s 0), .int .i64 (numAt s 1), .int .i64 (numAt s 2), .string (preB s), .string (metaB s)], .int .i64 (verErr s)]) ∧ Below w.heap.size w w' := by
  by_cases hp : prefB s = true
  · by_cases h1 : s.size ≤ 60
    · have h1' : decide ((60 : Int) < (s.size : Int)) = false := decide_eq_false (by omega)
      have hr1 : (restB s).size ≤ 60 := by
        unfold restB; rw [toB_size]; have h1 := h1; rw [Lib.size_eq] at h1; unfold Lib.trimPrefix; split <;> simp at h1 ⊢ <;> omega
      have hr2 : (metaC s).1.size ≤ 60 := Nat.le_trans (cut_piece_size _ _) hr1
      have hr3 : (metaC s).2.1.size ≤ 60 := Nat.le_trans (cutB_le _ _) hr1
      have hr4 : (preC s).1.size ≤ 60 := Nat.le_trans (cut_piece_size _ _) hr2
      have hr5 : (preC s).2.1.size ≤ 60 := Nat.le_trans (cutB_le _ _) hr2
      have hb1 : (restB s).size ≤ 9223372036854775807 := by omega
      have hb2 : (metaC s).1.size ≤ 9223372036854775807 := by omega
      refine (callsIn_wide (n := 5)).1 ?_
      refine callsIn_of_wp_marks Tryz.func80 rfl trivial ?_ rfl
      simp only [Tryz.ntmps80, List.size_toArray, List.length_cons, List.length_nil, Nat.reduceAdd, Nat.reduceSub, Array.replicate_succ, Array.replicate_zero, List.push_toArray, List.append_toArray, List.nil_append, List.cons_append]
      gi_wp2_with (refine ⟨trivial, ?_⟩; first | (gi_at_call 73; refine (callsIn_wide.2 (parse_pick _ _)).mono ?_; rintro e w' ⟨rfl, rfl⟩) | (gi_at_call 38; first | (with_reducible refine (callsIn_wide.2 (parse_plus s _ hb1)).mono ?_; rintro e w' ⟨rfl, m1, rfl⟩) | (with_reducible refine (callsIn_wide.2 (parse_dash s _ hb2)).mono ?_; rintro e w' ⟨rfl, m2, rfl⟩)) | (gi_at_call 81; refine (callsIn_wide.2 (Tryz.strings_Count_one _ 46 _)).mono ?_; rintro e w' ⟨rfl, rfl⟩) | (gi_at_call 111; refine (callsIn_wide.2 (idents_any _ _)).mono ?_; rintro e w' ⟨rfl, rfl⟩))
      obtain ⟨W0, hW0⟩ : ∃ W0, W0 = ((((((((w.alloc zeroV).drewN m1).alloc (.cells #[.bool (metaC s).2.2] 4)).drewN m2).alloc (.cells #[.bool (preC s).2.2] 4)).alloc (.cells #[.bool (((Lib.countByte (preC s).1.data.toList 46 : Nat) : Int) == 2)] 4)).alloc (.cells #[.slice none 0 0] 114)).alloc (.cells #[.string (preC s).1] 9)) := ⟨_, rfl⟩
      rw [show (Obj.cells #[.int .i64 0, .int .i64 0, .int .i64 0, .string ⟨#[]⟩, .string ⟨#[]⟩] 111) = zeroV from rfl, ← hW0]
      have hz : W0.heap.size = w.heap.size + 1 + 1 + 1 + 1 + 1 + 1 := by subst hW0; simp only [World.size_alloc, size_drewN]
      have hbW : Below w.heap.size w W0 := by subst hW0; exact below_alloc (below_alloc (below_alloc (below_alloc (pw_below_drewN (below_alloc (pw_below_drewN (below_alloc (Below.refl _ w) _) _) _) _) _) _) _) _
      have hRB : VarAt W0 (w.heap.size + 1 + 1 + 1 + 1 + 1) (.string (preC s).1) := by
        subst hW0
        have h := VarAt.new (((((((w.alloc zeroV).drewN m1).alloc (.cells #[.bool (metaC s).2.2] 4)).drewN m2).alloc (.cells #[.bool (preC s).2.2] 4)).alloc (.cells #[.bool (((Lib.countByte (preC s).1.data.toList 46 : Nat) : Int) == 2)] 4)).alloc (.cells #[.slice none 0 0] 114)) (.string (preC s).1) 9
        simp only [World.size_alloc, size_drewN] at h
        exact h
      have hP0 : PSt w.heap.size w (.slice none 0 0) (metaC s).2.2 (preC s).2.2 [] (fun _ => True) (((Lib.countByte (preC s).1.data.toList 46 : Nat) : Int) == 2) W0 := by
        have e0 := blk_new w zeroV
        have z1 : (w.alloc zeroV).heap.size = w.heap.size + 1 := World.size_alloc _ _
        have v1 := VarAt.new ((w.alloc zeroV).drewN m1) (.bool (metaC s).2.2) 4
        have v2 := VarAt.new ((((w.alloc zeroV).drewN m1).alloc (.cells #[.bool (metaC s).2.2] 4)).drewN m2) (.bool (preC s).2.2) 4
        have v3 := VarAt.new (((((w.alloc zeroV).drewN m1).alloc (.cells #[.bool (metaC s).2.2] 4)).drewN m2).alloc (.cells #[.bool (preC s).2.2] 4)) (.bool (((Lib.countByte (preC s).1.data.toList 46 : Nat) : Int) == 2)) 4
        have v4 := VarAt.new ((((((w.alloc zeroV).drewN m1).alloc (.cells #[.bool (metaC s).2.2] 4)).drewN m2).alloc (.cells #[.bool (preC s).2.2] 4)).alloc (.cells #[.bool (((Lib.countByte (preC s).1.data.toList 46 : Nat) : Int) == 2)] 4)) (.slice none 0 0) 114
        simp only [World.size_alloc, size_drewN] at v1 v2 v3 v4
        rw [hW0] at hbW ⊢
        exact ⟨blk_alloc (blk_alloc (blk_alloc (blk_alloc (blk_drewN (blk_alloc (blk_drewN e0 _) _) _) _) _) _) _, (((((v1.drewN _).alloc _).alloc _).alloc _).alloc _), (((v2.alloc _).alloc _).alloc _), ((v3.alloc _).alloc _), v4.alloc _, hbW, Kd.R_nil _ _ _ _ _⟩
      have hids : (idsB s).length ≤ 61 := by have := piecesB_len 46 (preC s).1; unfold idsB; omega
      clear hW0
      refine wpIn_rangeAt (B := w.heap.size + 1 + 1 + 1 + 1 + 1) rfl (by omega) (gf := 134) (lb := #[.pointer (some ⟨w.heap.size + 1 + 1 + 1 + 1 + 1, 0, none⟩)]) rfl trivial (enters_of Tryz.func134 (by kernel_rfl) rfl)
        (idents1_seq 4 (w.heap.size + 1 + 1 + 1 + 1 + 1) (by omega) (preC s).1 (by omega)) (by omega) (fun W hW => hRB.below hW) (fun _ => rfl)
        (fun pre W => ∃ v, PSt w.heap.size w v (metaC s).2.2 (preC s).2.2 (pre.map numV) (fun _ => True) ((((Lib.countByte (preC s).1.data.toList 46 : Nat) : Int) == 2) && pre.all numOk) W)
        (fun c pre W => False)
        (OwnAt.ex fun v => PSt.own _ _ _ (by omega) (by omega) (fun k _ hk => by omega) (Nat.le_refl _))
        (fun c => OwnAt.no)
        ⟨_, by simpa using hP0⟩
        (fun x => { tmps := #[.string s, undef, .pointer (some ⟨w.heap.size, 0, none⟩), .int .i64 0, .string (preC s).1, .bool true, .string (metaC s).2.1, .pointer (some ⟨w.heap.size + 1, 0, none⟩), .string (preC s).2.1, .pointer (some ⟨w.heap.size + 1 + 1, 0, none⟩), .pointer (some ⟨w.heap.size + 1 + 1 + 1, 0, none⟩), .pointer (some ⟨w.heap.size + 1 + 1 + 1 + 1, 0, none⟩), .string x, undef, undef, undef, undef, .tuple #[.string (restB s), .bool true], .string s, .tuple #[.string (restB s), .bool true], .string (restB s), .bool true, .bool true, .bool false, .bool false, .string s, .int .i64 s.size, .bool false, .bool false, undef, .tuple #[.string (metaC s).1, .string (metaC s).2.1, .bool (metaC s).2.2], .string (restB s), .tuple #[.string (metaC s).1, .string (metaC s).2.1, .bool (metaC s).2.2], .string (metaC s).1, .string (metaC s).2.1, .bool (metaC s).2.2, .tuple #[.string (preC s).1, .string (preC s).2.1, .bool (preC s).2.2], .string (metaC s).1, .tuple #[.string (preC s).1, .string (preC s).2.1, .bool (preC s).2.2], .string (preC s).1, .string (preC s).2.1, .bool (preC s).2.2, .string (preC s).1, .int .i64 (Lib.countByte (preC s).1.data.toList 46), .bool (((Lib.countByte (preC s).1.data.toList 46 : Nat) : Int) == 2), .string (preC s).1, .func (.func 134) #[] #[.pointer (some ⟨w.heap.size + 1 + 1 + 1 + 1 + 1, 0, none⟩)], .string x, undef, undef, undef, undef, undef, undef, undef, undef, undef, undef, undef, undef, undef, undef, undef, undef, undef, undef, undef, undef, undef, undef, undef, undef, undef, undef, undef, undef, undef, undef, undef, undef, undef, undef, undef, undef, undef, undef, undef, undef, undef, undef, undef, undef, undef, undef, undef, undef, undef, undef, undef, undef, undef, undef, undef, undef, undef], defers := [] }) ?assign ?body ?done ?stop
      case stop => intro D c pre W hD hpre h; exact h.elim
      case assign =>
        intro l x W K hK
        gi_wp2
        exact hK
      case body =>
        rintro l pre x W ⟨v, hSt⟩ hpx hsz
        have hx := Lib.hid (Nat.le_trans (piece_size (prefix_mem hpx)) (show (preC s).1.size ≤ 9223372036854775807 by omega))
        have hlen : ((pre.map numV).length + 1) * 8 ≤ 140737488355328 := by have := prefix_len hpx; have := hids; unfold idsB at this; rw [List.length_map]; omega
        obtain ⟨okv, hokv⟩ : ∃ b, b = ((((Lib.countByte (preC s).1.data.toList 46 : Nat) : Int) == 2) && pre.all numOk) := ⟨_, rfl⟩
        rw [← hokv] at hSt
        have HO := Lib.hid hokv
        clear hokv
        cases okv with
        | true =>
          gi_wp2_with (refine ⟨trivial, ?_⟩; gi_at_call 112; refine (CallsIn.inRound l (callsIn_wide.2 (number_any _ _ hx.out))).mono ?_; rintro e W1 ⟨rfl, hbn⟩)
          have hSt1 := hSt.below hbn (Nat.le_refl _)
          have hSt2 := hSt1.below (below_drew (Below.refl _ W1)) (Nat.le_refl _)
          have hc4 := hSt2.2.2.2.2.1.1
          have hc3 := hSt2.2.2.2.1.1
          have hown : ∀ j, j < w.heap.size + 6 → v.ownBlock ≠ some j := fun j hj e => by have := Kd.R_base hSt2.2.2.2.2.2.2 j e; omega
          have hsz2 : w.heap.size + 6 ≤ W1.drew.heap.size := by have := hbn.size; show w.heap.size + 6 ≤ W1.heap.size; omega
          have hfin : ∀ v1 w1, PSt w.heap.size w v1 (metaC s).2.2 (preC s).2.2 (pre.map numV ++ [numV x]) (fun _ => True) true (w1.setCell ⟨w.heap.size + 1 + 1 + 1 + 1, 0, none⟩ v1) → W1.drew.grownBy w1 v.ownBlock →
              KeepsFrom W0.heap.size W ((w1.setCell ⟨w.heap.size + 1 + 1 + 1 + 1, 0, none⟩ v1).setCell ⟨w.heap.size + 1 + 1 + 1, 0, none⟩ (.bool (numOk x))) ∧ ((w1.setCell ⟨w.heap.size + 1 + 1 + 1 + 1, 0, none⟩ v1).setCell ⟨w.heap.size + 1 + 1 + 1, 0, none⟩ (.bool (numOk x))).heap[w.heap.size + 1 + 1 + 1 + 1 + 1]? = W.heap[w.heap.size + 1 + 1 + 1 + 1 + 1]? ∧
              ∃ v, PSt w.heap.size w v (metaC s).2.2 (preC s).2.2 ((pre ++ [x]).map numV) (fun _ => True) ((((Lib.countByte (preC s).1.data.toList 46 : Nat) : Int) == 2) && (pre ++ [x]).all numOk) ((w1.setCell ⟨w.heap.size + 1 + 1 + 1 + 1, 0, none⟩ v1).setCell ⟨w.heap.size + 1 + 1 + 1, 0, none⟩ (.bool (numOk x))) := fun v1 w1 h5 hg => by
            refine ⟨(((keeps_below hbn).trans (keeps_below (below_drew (Below.refl _ W1)))).trans ((keeps_row hg (fun k hk => ?_)).trans ((keeps_set _ _ _ _).trans (keeps_set _ _ _ _)))), ?_, v1, ?_⟩
            · obtain ⟨_, _, _, q, _, cells, hc⟩ := (Kd.R_bound hSt2.2.2.2.2.2.2).1 k hk
              exact ⟨_, hc, rfl⟩
            · refine (Below.heap_setCell _ _ _ _ (by show w.heap.size + 1 + 1 + 1 + 1 + 1 ≠ w.heap.size + 1 + 1 + 1; omega)).trans ((Below.heap_setCell _ _ _ _ (by show w.heap.size + 1 + 1 + 1 + 1 + 1 ≠ w.heap.size + 1 + 1 + 1 + 1; omega)).trans ((hg.block _ (by omega) (fun e => hown _ (by omega) e.symm)).trans (hbn.block _ (by omega))))
            · have h6 := h5.setOk (numOk x)
              rw [List.map_append, List.all_append, ← Bool.and_assoc, ← HO.out]
              simpa using h6
          refine start_round (S := fun w' => w'.cell? ⟨w.heap.size + 1 + 1 + 1 + 1, 0, none⟩ = some v ∧ w'.cell? ⟨w.heap.size + 1 + 1 + 1, 0, none⟩ = some (.bool true)) (ds := [8, 9]) #[false, false, false, false, false, false, false, false, false, false] (by kernel_rfl) rfl rfl (by kernel_rfl) (fun h => by obtain ⟨_, _, h⟩ := h; exact h) ⟨hc4, hc3⟩ (fun hHeld => ?_)
          generalize W1.drew = W2 at hSt2 hc4 hc3 hHeld hsz2 hfin ⊢
          refine pure_ (i := 1) (N := some 54) (v := ?_) (a' := ?_) #[false, true, false, false, false, false, false, false, false, false] rfl rfl (by kernel_rfl) (fun _ _ _ h => h) (Or.inl ⟨by rfl, ?_⟩) ?_ ?_
          rotate_left
          · intro w'
            go_simp
            with_reducible rfl
          rotate_left
          · simp only [Act.put, List.setIfInBounds_toArray, List.set_cons_zero, List.set_cons_succ, i64_w, i32_w]
            rfl
          refine take_ (i := 0) (N := some 53) (v := ?_) (a' := ?_) #[true, true, false, false, false, false, false, false, false, false] rfl rfl (by kernel_rfl) (fun _ _ _ h => h) (Or.inl ⟨by rfl, ?_⟩) hHeld ?_ ?_
          rotate_left
          · rintro w' ⟨s0, s1⟩
            go_simp
            with_reducible rfl
          rotate_left
          · simp only [Act.put, List.setIfInBounds_toArray, List.set_cons_zero, List.set_cons_succ, i64_w, i32_w]
            rfl
          refine take_ (i := 4) (N := some 57) (v := ?_) (a' := ?_) #[true, true, false, false, true, false, false, false, false, false] rfl rfl (by kernel_rfl) (fun _ _ _ h => h) (Or.inl ⟨by rfl, ?_⟩) hHeld ?_ ?_
          rotate_left
          · rintro w' ⟨s0, s1⟩
            go_simp
            with_reducible rfl
          rotate_left
          · simp only [Act.put, List.setIfInBounds_toArray, List.set_cons_zero, List.set_cons_succ, i64_w, i32_w]
            rfl
          refine one_ (i := 2) (N := some 55) #[true, true, true, false, true, false, false, false, false, false] rfl rfl (by kernel_rfl) (by decide) (fun K hK => ?_)
          refine value_ (w1 := ?_) (v := ?_) (by rfl) rfl ?_ ?_
          rotate_left 2
          · go_simp
            constructor
            · rfl
            · rfl
          refine hK.out _ _ ⟨(World.cell?_alloc_lt _ _ _ (World.block_lt_of_cell? _ _ hc4)).trans hc4, (World.cell?_alloc_lt _ _ _ (World.block_lt_of_cell? _ _ hc3)).trans hc3⟩ (fun hHeld => ?_)
          clear hK K
          refine norm_ (a' := ?_) ?_ ?_
          rotate_left
          · show Act.put _ (some 55) _ = _
            simp only [Act.put, List.setIfInBounds_toArray, List.set_cons_zero, List.set_cons_succ, i64_w, i32_w]
            rfl
          refine one_ (i := 3) (N := some 56) #[true, true, true, true, true, false, false, false, false, false] rfl rfl (by kernel_rfl) (by decide) (fun K hK => ?_)
          refine Kd.R_append_step (Kd.int .i64) (w0 := W2) (w.heap.size + 6) (by rfl) (.tmp 53) (.tmp 55) 114 3 (.int .i64 0) 8 rfl Tryz.underlying114 infoInt rfl (by decide) (by omega) v (pre.map numV) (numV x) [.int .i64 (numV x)] (fun _ => True) (fun _ => False) rfl rfl ?aP (fun _ hk => hk.elim) (fun _ _ => trivial) ?aO ?aB ?aS ?aL ?_
          (case aP => exact (show _ = _ from rfl))
          (case aO => exact hSt2.2.2.2.2.2.2)
          (case aB => exact Below.refl _ _)
          (case aS => exact hsz2)
          (case aL => exact hlen)
          intro v1 w1 ho hb1 hg hat
          obtain ⟨Ao, co, rfl⟩ := Kd.R_slice ho
          rw [show (pre.map numV ++ [numV x]).length = pre.length + 1 by simp] at ho
          have h5 := hSt2.grown (Nat.le_refl _) hg ho
          have q4 : w1.cell? ⟨w.heap.size + 1 + 1 + 1 + 1, 0, none⟩ = some v := (hSt2.2.2.2.2.1.grown hg (hown _ (by omega))).1
          have q3 : w1.cell? ⟨w.heap.size + 1 + 1 + 1, 0, none⟩ = some (.bool true) := (hSt2.2.2.2.1.grown hg (hown _ (by omega))).1
          refine hK.out _ _ ⟨q4, q3⟩ (fun hHeld => ?_)
          clear hK K
          refine norm_ (a' := ?_) ?_ ?_
          rotate_left
          · show Act.put _ (some 56) _ = _
            simp only [Act.put, List.setIfInBounds_toArray, List.set_cons_zero, List.set_cons_succ, i64_w, i32_w]
            rfl
          refine pure_ (i := 5) (N := some 58) (v := ?_) (a' := ?_) #[true, true, true, true, true, true, false, false, false, false] rfl rfl (by kernel_rfl) (fun _ _ _ h => h) (Or.inl ⟨by rfl, ?_⟩) ?_ ?_
          rotate_left
          · intro w'
            go_simp
            with_reducible rfl
          rotate_left
          · simp only [Act.put, List.setIfInBounds_toArray, List.set_cons_zero, List.set_cons_succ, i64_w, i32_w]
            rfl
          refine pure_ (i := 6) (N := some 59) (v := ?_) (a' := ?_) #[true, true, true, true, true, true, true, false, false, false] rfl rfl (by kernel_rfl) (fun _ _ _ h => h) (Or.inl ⟨by rfl, ?_⟩) ?_ ?_
          rotate_left
          · intro w'
            go_simp
            with_reducible rfl
          rotate_left
          · simp only [Act.put, List.setIfInBounds_toArray, List.set_cons_zero, List.set_cons_succ, i64_w, i32_w]
            rfl
          refine pure_ (i := 7) (N := some 60) (v := ?_) (a' := ?_) #[true, true, true, true, true, true, true, true, false, false] rfl rfl (by kernel_rfl) (fun _ _ _ h => h) (Or.inl ⟨by rfl, ?_⟩) ?_ ?_
          rotate_left
          · intro w'
            go_simp
            with_reducible rfl
          rotate_left
          · simp only [Act.put, List.setIfInBounds_toArray, List.set_cons_zero, List.set_cons_succ, i64_w, i32_w]
            rfl
          refine last_ (i := 8) (N := none) #[true, true, true, true, true, true, true, true, true, false] rfl rfl (by kernel_rfl) (by decide) (fun K hK => ?_)
          have qf4 : w1.frozen? ⟨w.heap.size + 1 + 1 + 1 + 1, 0, none⟩ = false := (hSt2.2.2.2.2.1.grown hg (hown _ (by omega))).2
          refine skip_ (w1 := ?_) (by rfl) rfl ?_ ?_
          rotate_left
          · go_simp
            rfl
          refine hK.out _ _ ?_
          clear hK K
          have k3 := q3
          have kf3 : w1.frozen? ⟨w.heap.size + 1 + 1 + 1, 0, none⟩ = false := (hSt2.2.2.2.1.grown hg (hown _ (by omega))).2
          refine last_ (i := 9) (N := none) #[true, true, true, true, true, true, true, true, true, true] rfl rfl (by kernel_rfl) (by decide) (fun K hK => ?_)
          refine skip_ (w1 := ?_) (by rfl) rfl ?_ ?_
          rotate_left
          · go_simp
            rfl
          refine hK.out _ _ ?_
          clear hK K
          refine done_ (by kernel_rfl) ?_
          exact (hfin _ w1 h5 hg)
        | false =>
          gi_wp2_with (refine ⟨trivial, ?_⟩; gi_at_call 112; refine (CallsIn.inRound l (callsIn_wide.2 (number_any _ _ hx.out))).mono ?_; rintro e W1 ⟨rfl, hbn⟩)
          have hSt1 := hSt.below hbn (Nat.le_refl _)
          have hSt2 := hSt1.below (below_drew (Below.refl _ W1)) (Nat.le_refl _)
          have hc4 := hSt2.2.2.2.2.1.1
          have hc3 := hSt2.2.2.2.1.1
          have hown : ∀ j, j < w.heap.size + 6 → v.ownBlock ≠ some j := fun j hj e => by have := Kd.R_base hSt2.2.2.2.2.2.2 j e; omega
          have hsz2 : w.heap.size + 6 ≤ W1.drew.heap.size := by have := hbn.size; show w.heap.size + 6 ≤ W1.heap.size; omega
          have hfin : ∀ v1 w1, PSt w.heap.size w v1 (metaC s).2.2 (preC s).2.2 (pre.map numV ++ [numV x]) (fun _ => True) false (w1.setCell ⟨w.heap.size + 1 + 1 + 1 + 1, 0, none⟩ v1) → W1.drew.grownBy w1 v.ownBlock →
              KeepsFrom W0.heap.size W ((w1.setCell ⟨w.heap.size + 1 + 1 + 1 + 1, 0, none⟩ v1).setCell ⟨w.heap.size + 1 + 1 + 1, 0, none⟩ (.bool false)) ∧ ((w1.setCell ⟨w.heap.size + 1 + 1 + 1 + 1, 0, none⟩ v1).setCell ⟨w.heap.size + 1 + 1 + 1, 0, none⟩ (.bool false)).heap[w.heap.size + 1 + 1 + 1 + 1 + 1]? = W.heap[w.heap.size + 1 + 1 + 1 + 1 + 1]? ∧
              ∃ v, PSt w.heap.size w v (metaC s).2.2 (preC s).2.2 ((pre ++ [x]).map numV) (fun _ => True) ((((Lib.countByte (preC s).1.data.toList 46 : Nat) : Int) == 2) && (pre ++ [x]).all numOk) ((w1.setCell ⟨w.heap.size + 1 + 1 + 1 + 1, 0, none⟩ v1).setCell ⟨w.heap.size + 1 + 1 + 1, 0, none⟩ (.bool false)) := fun v1 w1 h5 hg => by
            refine ⟨(((keeps_below hbn).trans (keeps_below (below_drew (Below.refl _ W1)))).trans ((keeps_row hg (fun k hk => ?_)).trans ((keeps_set _ _ _ _).trans (keeps_set _ _ _ _)))), ?_, v1, ?_⟩
            · obtain ⟨_, _, _, q, _, cells, hc⟩ := (Kd.R_bound hSt2.2.2.2.2.2.2).1 k hk
              exact ⟨_, hc, rfl⟩
            · refine (Below.heap_setCell _ _ _ _ (by show w.heap.size + 1 + 1 + 1 + 1 + 1 ≠ w.heap.size + 1 + 1 + 1; omega)).trans ((Below.heap_setCell _ _ _ _ (by show w.heap.size + 1 + 1 + 1 + 1 + 1 ≠ w.heap.size + 1 + 1 + 1 + 1; omega)).trans ((hg.block _ (by omega) (fun e => hown _ (by omega) e.symm)).trans (hbn.block _ (by omega))))
            · have h6 := h5.setOk false
              rw [List.map_append, List.all_append, ← Bool.and_assoc, ← HO.out]
              simpa using h6
          refine start_round (S := fun w' => w'.cell? ⟨w.heap.size + 1 + 1 + 1 + 1, 0, none⟩ = some v ∧ w'.cell? ⟨w.heap.size + 1 + 1 + 1, 0, none⟩ = some (.bool false)) (ds := [8, 9]) #[false, false, false, false, false, false, false, false, false, false] (by kernel_rfl) rfl rfl (by kernel_rfl) (fun h => by obtain ⟨_, _, h⟩ := h; exact h) ⟨hc4, hc3⟩ (fun hHeld => ?_)
          generalize W1.drew = W2 at hSt2 hc4 hc3 hHeld hsz2 hfin ⊢
          refine pure_ (i := 1) (N := some 54) (v := ?_) (a' := ?_) #[false, true, false, false, false, false, false, false, false, false] rfl rfl (by kernel_rfl) (fun _ _ _ h => h) (Or.inl ⟨by rfl, ?_⟩) ?_ ?_
          rotate_left
          · intro w'
            go_simp
            with_reducible rfl
          rotate_left
          · simp only [Act.put, List.setIfInBounds_toArray, List.set_cons_zero, List.set_cons_succ, i64_w, i32_w]
            rfl
          refine take_ (i := 0) (N := some 53) (v := ?_) (a' := ?_) #[true, true, false, false, false, false, false, false, false, false] rfl rfl (by kernel_rfl) (fun _ _ _ h => h) (Or.inl ⟨by rfl, ?_⟩) hHeld ?_ ?_
          rotate_left
          · rintro w' ⟨s0, s1⟩
            go_simp
            with_reducible rfl
          rotate_left
          · simp only [Act.put, List.setIfInBounds_toArray, List.set_cons_zero, List.set_cons_succ, i64_w, i32_w]
            rfl
          refine take_ (i := 4) (N := some 57) (v := ?_) (a' := ?_) #[true, true, false, false, true, false, false, false, false, false] rfl rfl (by kernel_rfl) (fun _ _ _ h => h) (Or.inl ⟨by rfl, ?_⟩) hHeld ?_ ?_
          rotate_left
          · rintro w' ⟨s0, s1⟩
            go_simp
            with_reducible rfl
          rotate_left
          · simp only [Act.put, List.setIfInBounds_toArray, List.set_cons_zero, List.set_cons_succ, i64_w, i32_w]
            rfl
          refine one_ (i := 2) (N := some 55) #[true, true, true, false, true, false, false, false, false, false] rfl rfl (by kernel_rfl) (by decide) (fun K hK => ?_)
          refine value_ (w1 := ?_) (v := ?_) (by rfl) rfl ?_ ?_
          rotate_left 2
          · go_simp
            constructor
            · rfl
            · rfl
          refine hK.out _ _ ⟨(World.cell?_alloc_lt _ _ _ (World.block_lt_of_cell? _ _ hc4)).trans hc4, (World.cell?_alloc_lt _ _ _ (World.block_lt_of_cell? _ _ hc3)).trans hc3⟩ (fun hHeld => ?_)
          clear hK K
          refine norm_ (a' := ?_) ?_ ?_
          rotate_left
          · show Act.put _ (some 55) _ = _
            simp only [Act.put, List.setIfInBounds_toArray, List.set_cons_zero, List.set_cons_succ, i64_w, i32_w]
            rfl
          refine one_ (i := 3) (N := some 56) #[true, true, true, true, true, false, false, false, false, false] rfl rfl (by kernel_rfl) (by decide) (fun K hK => ?_)
          refine Kd.R_append_step (Kd.int .i64) (w0 := W2) (w.heap.size + 6) (by rfl) (.tmp 53) (.tmp 55) 114 3 (.int .i64 0) 8 rfl Tryz.underlying114 infoInt rfl (by decide) (by omega) v (pre.map numV) (numV x) [.int .i64 (numV x)] (fun _ => True) (fun _ => False) rfl rfl ?aP (fun _ hk => hk.elim) (fun _ _ => trivial) ?aO ?aB ?aS ?aL ?_
          (case aP => exact (show _ = _ from rfl))
          (case aO => exact hSt2.2.2.2.2.2.2)
          (case aB => exact Below.refl _ _)
          (case aS => exact hsz2)
          (case aL => exact hlen)
          intro v1 w1 ho hb1 hg hat
          obtain ⟨Ao, co, rfl⟩ := Kd.R_slice ho
          rw [show (pre.map numV ++ [numV x]).length = pre.length + 1 by simp] at ho
          have h5 := hSt2.grown (Nat.le_refl _) hg ho
          have q4 : w1.cell? ⟨w.heap.size + 1 + 1 + 1 + 1, 0, none⟩ = some v := (hSt2.2.2.2.2.1.grown hg (hown _ (by omega))).1
          have q3 : w1.cell? ⟨w.heap.size + 1 + 1 + 1, 0, none⟩ = some (.bool false) := (hSt2.2.2.2.1.grown hg (hown _ (by omega))).1
          refine hK.out _ _ ⟨q4, q3⟩ (fun hHeld => ?_)
          clear hK K
          refine norm_ (a' := ?_) ?_ ?_
          rotate_left
          · show Act.put _ (some 56) _ = _
            simp only [Act.put, List.setIfInBounds_toArray, List.set_cons_zero, List.set_cons_succ, i64_w, i32_w]
            rfl
          refine pure_ (i := 5) (N := some 58) (v := ?_) (a' := ?_) #[true, true, true, true, true, true, false, false, false, false] rfl rfl (by kernel_rfl) (fun _ _ _ h => h) (Or.inl ⟨by rfl, ?_⟩) ?_ ?_
          rotate_left
          · intro w'
            go_simp
            with_reducible rfl
          rotate_left
          · simp only [Act.put, List.setIfInBounds_toArray, List.set_cons_zero, List.set_cons_succ, i64_w, i32_w]
            rfl
          refine pure_ (i := 6) (N := some 59) (v := undef) (a' := ?_) #[true, true, true, true, true, true, true, false, false, false] rfl rfl (by kernel_rfl) (fun _ _ _ h => h) (Or.inr ⟨by rfl, rfl⟩) ?_ ?_
          rotate_left
          · simp only [Act.put, List.setIfInBounds_toArray, List.set_cons_zero, List.set_cons_succ, i64_w, i32_w]
            rfl
          refine pure_ (i := 7) (N := some 60) (v := ?_) (a' := ?_) #[true, true, true, true, true, true, true, true, false, false] rfl rfl (by kernel_rfl) (fun _ _ _ h => h) (Or.inl ⟨by rfl, ?_⟩) ?_ ?_
          rotate_left
          · intro w'
            go_simp
            with_reducible rfl
          rotate_left
          · simp only [Act.put, List.setIfInBounds_toArray, List.set_cons_zero, List.set_cons_succ, i64_w, i32_w]
            rfl
          refine last_ (i := 8) (N := none) #[true, true, true, true, true, true, true, true, true, false] rfl rfl (by kernel_rfl) (by decide) (fun K hK => ?_)
          have qf4 : w1.frozen? ⟨w.heap.size + 1 + 1 + 1 + 1, 0, none⟩ = false := (hSt2.2.2.2.2.1.grown hg (hown _ (by omega))).2
          refine skip_ (w1 := ?_) (by rfl) rfl ?_ ?_
          rotate_left
          · go_simp
            rfl
          refine hK.out _ _ ?_
          clear hK K
          have k3 := q3
          have kf3 : w1.frozen? ⟨w.heap.size + 1 + 1 + 1, 0, none⟩ = false := (hSt2.2.2.2.1.grown hg (hown _ (by omega))).2
          refine last_ (i := 9) (N := none) #[true, true, true, true, true, true, true, true, true, true] rfl rfl (by kernel_rfl) (by decide) (fun K hK => ?_)
          refine skip_ (w1 := ?_) (by rfl) rfl ?_ ?_
          rotate_left
          · go_simp
            rfl
          refine hK.out _ _ ?_
          clear hK K
          refine done_ (by kernel_rfl) ?_
          exact (hfin _ w1 h5 hg)
      case done =>
        rintro D1 W1 hD1 ⟨v, hP0'⟩ hdD1
        have hP : PSt w.heap.size w v (metaC s).2.2 (preC s).2.2 ((idsB s).map numV) (fun k => k < W1.heap.size) ((((Lib.countByte (preC s).1.data.toList 46 : Nat) : Int) == 2) && (idsB s).all numOk) W1 := by
          obtain ⟨p0, p1, p2, p3, p4, p5, p6⟩ := hP0'
          exact ⟨p0, p1, p2, p3, p4, p5, Kd.R_mono (Kd.R_bound p6) (fun k hk => hk.2.2.1)⟩
        clear hP0'
        have hlt1 := blk_lt hdD1
        gi_wp2_with (refine ⟨trivial, ?_⟩; gi_at_call 111; refine (callsIn_wide.2 (idents_any _ _)).mono ?_; rintro e w' ⟨rfl, rfl⟩)
        obtain ⟨V, hV⟩ : ∃ V, V = W1.alloc (.cells #[.string (preC s).2.1] 9) := ⟨_, rfl⟩
        rw [← hV]
        have hzV : V.heap.size = W1.heap.size + 1 := by subst hV; rw [World.size_alloc]
        have hvB : VarAt V W1.heap.size (.string (preC s).2.1) := by subst hV; exact VarAt.new _ _ _
        have hPV := PSt.below hP (show Below W1.heap.size W1 V by subst hV; exact below_alloc (Below.refl _ _) _) (Nat.le_refl _)
        have hdD1V : V.heap[D1]? = some (.deferred (some [])) := by subst hV; exact blk_alloc hdD1 _
        clear hV
        refine wpIn_rangeAt (B := W1.heap.size) rfl (by omega) (gf := 134) (lb := #[.pointer (some ⟨W1.heap.size, 0, none⟩)]) rfl trivial (enters_of Tryz.func134 (by kernel_rfl) rfl)
          (idents1_seq 4 (W1.heap.size) (by omega) (preC s).2.1 (by omega)) (by omega) (fun W hW => hvB.below hW) (fun _ => rfl)
          (fun pre W' => PSt w.heap.size w v (metaC s).2.2 (preC s).2.2 ((idsB s).map numV) (fun k => k < W1.heap.size) (((((Lib.countByte (preC s).1.data.toList 46 : Nat) : Int) == 2) && (idsB s).all numOk) && pre.all (preOk (preC s).2.2)) W' ∧ (W'.heap[D1]? = some (.deferred (some []))))
          (fun c pre W => False)
          (OwnAt.and (PSt.own _ _ _ (by omega) (by omega) (fun k hk _ => by omega) (Nat.le_refl _)) (OwnAt.obj (by omega) (by omega)))
          (fun c => OwnAt.no)
          ⟨by simpa using hPV, hdD1V⟩
          (fun x => { tmps := #[.string s, undef, .pointer (some ⟨w.heap.size, 0, none⟩), .int .i64 0, .string (preC s).1, .bool true, .string (metaC s).2.1, .pointer (some ⟨w.heap.size + 1, 0, none⟩), .string (preC s).2.1, .pointer (some ⟨w.heap.size + 1 + 1, 0, none⟩), .pointer (some ⟨w.heap.size + 1 + 1 + 1, 0, none⟩), .pointer (some ⟨w.heap.size + 1 + 1 + 1 + 1, 0, none⟩), undef, undef, undef, .string x, undef, .tuple #[.string (restB s), .bool true], .string s, .tuple #[.string (restB s), .bool true], .string (restB s), .bool true, .bool true, .bool false, .bool false, .string s, .int .i64 s.size, .bool false, .bool false, undef, .tuple #[.string (metaC s).1, .string (metaC s).2.1, .bool (metaC s).2.2], .string (restB s), .tuple #[.string (metaC s).1, .string (metaC s).2.1, .bool (metaC s).2.2], .string (metaC s).1, .string (metaC s).2.1, .bool (metaC s).2.2, .tuple #[.string (preC s).1, .string (preC s).2.1, .bool (preC s).2.2], .string (metaC s).1, .tuple #[.string (preC s).1, .string (preC s).2.1, .bool (preC s).2.2], .string (preC s).1, .string (preC s).2.1, .bool (preC s).2.2, .string (preC s).1, .int .i64 (Lib.countByte (preC s).1.data.toList 46), .bool (((Lib.countByte (preC s).1.data.toList 46 : Nat) : Int) == 2), .string (preC s).1, .func (.func 134) #[] #[.pointer (some ⟨w.heap.size + 1 + 1 + 1 + 1 + 1, 0, none⟩)], undef, undef, undef, undef, undef, undef, undef, undef, undef, undef, undef, undef, undef, undef, .string (preC s).2.1, .func (.func 134) #[] #[.pointer (some ⟨W1.heap.size, 0, none⟩)], .string x, undef, undef, undef, undef, undef, undef, undef, undef, undef, undef, undef, undef, undef, undef, undef, undef, undef, undef, undef, undef, undef, undef, undef, undef, undef, undef, undef, undef, undef, undef, undef, undef, undef, undef, undef, undef, undef, undef, undef, undef, undef], defers := [] }) ?assign ?body ?done ?stop
        case stop => intro D c pre W hD hpre h; exact h.elim
        case assign =>
          intro l x W K hK
          gi_wp2
          exact hK
        case body =>
          rintro l pre x W' ⟨hSt, hdD1'⟩ hpx hsz
          have hx := Lib.hid (Nat.le_trans (piece_size (prefix_mem hpx)) (show ((preC s).2.1).size ≤ 9223372036854775807 by omega))
          obtain ⟨okv, hokv⟩ : ∃ b, b = (((((Lib.countByte (preC s).1.data.toList 46 : Nat) : Int) == 2) && (idsB s).all numOk) && pre.all (preOk (preC s).2.2)) := ⟨_, rfl⟩
          rw [← hokv] at hSt
          have HO := Lib.hid hokv
          clear hokv
          have hc3 := hSt.2.2.2.1.1
          have hf3 := hSt.2.2.2.1.2
          have hch := hSt.2.2.1.1
          have fin : Hid (∀ b : Bool, b = (okv && preOk (preC s).2.2 x) → KeepsFrom V.heap.size W' (W'.setCell ⟨w.heap.size + 1 + 1 + 1, 0, none⟩ (.bool b)) ∧ (W'.setCell ⟨w.heap.size + 1 + 1 + 1, 0, none⟩ (.bool b)).heap[W1.heap.size]? = W'.heap[W1.heap.size]? ∧
              (PSt w.heap.size w v (metaC s).2.2 (preC s).2.2 ((idsB s).map numV) (fun k => k < W1.heap.size) (((((Lib.countByte (preC s).1.data.toList 46 : Nat) : Int) == 2) && (idsB s).all numOk) && (pre ++ [x]).all (preOk (preC s).2.2)) (W'.setCell ⟨w.heap.size + 1 + 1 + 1, 0, none⟩ (.bool b)) ∧ ((W'.setCell ⟨w.heap.size + 1 + 1 + 1, 0, none⟩ (.bool b)).heap[D1]? = some (.deferred (some []))))) := fun b hb => by
            refine ⟨keeps_set _ _ _ _, Below.heap_setCell _ _ _ _ (by show W1.heap.size ≠ w.heap.size + 1 + 1 + 1; omega), ?_, (Below.heap_setCell _ _ _ _ (by show D1 ≠ w.heap.size + 1 + 1 + 1; omega)).trans hdD1'⟩
            have h6 := hSt.setOk b
            rw [List.all_append, ← Bool.and_assoc, ← HO.out]
            simpa [hb] using h6
          clear hSt HO
          generalize (preC s).2.2 = hb at *
          cases okv <;> cases hb <;> cases e1 : everyB signB x <;> cases e2 : noughtB x
          all_goals gi_wp2_with (refine ⟨trivial, ?_⟩; first | (gi_at_call 113; with_reducible refine (CallsIn.inRound l (callsIn_wide.2 (every_sign _ _ hx.out))).mono ?_; rintro e w' ⟨rfl, rfl⟩) | (gi_at_call 115; with_reducible refine (CallsIn.inRound l (callsIn_wide.2 (nought_any _ _ hx.out))).mono ?_; rintro e w' ⟨rfl, rfl⟩))
          all_goals first | (exfalso; have hu : ∃ b, some undef = some (Value.bool b) := ⟨_, by assumption⟩; simp [undef] at hu; done) | skip
          all_goals try (refine ⟨trivial, ?_⟩; gi_wp2_with (refine ⟨trivial, ?_⟩; first | (gi_at_call 113; with_reducible refine (CallsIn.inRound l (callsIn_wide.2 (every_sign _ _ hx.out))).mono ?_; rintro e w' ⟨rfl, rfl⟩) | (gi_at_call 115; with_reducible refine (CallsIn.inRound l (callsIn_wide.2 (nought_any _ _ hx.out))).mono ?_; rintro e w' ⟨rfl, rfl⟩)))
          all_goals first | (exfalso; have hu : ∃ b, some undef = some (Value.bool b) := ⟨_, by assumption⟩; simp [undef] at hu; done) | skip
          all_goals try (refine ⟨trivial, ?_⟩; gi_wp2_with (refine ⟨trivial, ?_⟩; first | (gi_at_call 113; with_reducible refine (CallsIn.inRound l (callsIn_wide.2 (every_sign _ _ hx.out))).mono ?_; rintro e w' ⟨rfl, rfl⟩) | (gi_at_call 115; with_reducible refine (CallsIn.inRound l (callsIn_wide.2 (nought_any _ _ hx.out))).mono ?_; rintro e w' ⟨rfl, rfl⟩)))
          all_goals first | (exfalso; have hu : ∃ b, some undef = some (Value.bool b) := ⟨_, by assumption⟩; simp [undef] at hu; done) | skip
          all_goals try (refine ⟨trivial, ?_⟩; gi_wp2_with (refine ⟨trivial, ?_⟩; first | (gi_at_call 113; with_reducible refine (CallsIn.inRound l (callsIn_wide.2 (every_sign _ _ hx.out))).mono ?_; rintro e w' ⟨rfl, rfl⟩) | (gi_at_call 115; with_reducible refine (CallsIn.inRound l (callsIn_wide.2 (nought_any _ _ hx.out))).mono ?_; rintro e w' ⟨rfl, rfl⟩)))
          all_goals first | (exfalso; have hu : ∃ b, some undef = some (Value.bool b) := ⟨_, by assumption⟩; simp [undef] at hu; done) | skip
          all_goals exact fin.out _ (by simp [preOk, e1, e2])
        case done =>
          rintro D2 W2 hD2 ⟨hP, hdD1⟩ hdD2
          have hlt1 := blk_lt hdD1
          have hlt2 := blk_lt hdD2
          have hs2 := hP.2.2.2.2.2.1.size
          have hbb : W1.heap.size + 1 ≤ W2.heap.size := by omega
          gi_wp2_with (refine ⟨trivial, ?_⟩; gi_at_call 111; refine (callsIn_wide.2 (idents_any _ _)).mono ?_; rintro e w' ⟨rfl, rfl⟩)
          obtain ⟨V, hV⟩ : ∃ V, V = W2.alloc (.cells #[.string (metaC s).2.1] 9) := ⟨_, rfl⟩
          rw [← hV]
          have hzV : V.heap.size = W2.heap.size + 1 := by subst hV; rw [World.size_alloc]
          have hvB : VarAt V W2.heap.size (.string (metaC s).2.1) := by subst hV; exact VarAt.new _ _ _
          have hPV := PSt.below hP (show Below W2.heap.size W2 V by subst hV; exact below_alloc (Below.refl _ _) _) (Nat.le_refl _)
          have hdD1V : V.heap[D1]? = some (.deferred (some [])) := by subst hV; exact blk_alloc hdD1 _
          have hdD2V : V.heap[D2]? = some (.deferred (some [])) := by subst hV; exact blk_alloc hdD2 _
          clear hV
          refine wpIn_rangeAt (B := W2.heap.size) rfl (by omega) (gf := 134) (lb := #[.pointer (some ⟨W2.heap.size, 0, none⟩)]) rfl trivial (enters_of Tryz.func134 (by kernel_rfl) rfl)
            (idents1_seq 4 (W2.heap.size) (by omega) (metaC s).2.1 (by omega)) (by omega) (fun W hW => hvB.below hW) (fun _ => rfl)
            (fun pre W' => PSt w.heap.size w v (metaC s).2.2 (preC s).2.2 ((idsB s).map numV) (fun k => k < W1.heap.size) ((((((Lib.countByte (preC s).1.data.toList 46 : Nat) : Int) == 2) && (idsB s).all numOk) && (piecesB 46 (preC s).2.1).all (preOk (preC s).2.2)) && pre.all (metaOk (metaC s).2.2)) W' ∧ (W'.heap[D1]? = some (.deferred (some [])) ∧ (W'.heap[D2]? = some (.deferred (some [])))))
            (fun c pre W => False)
            (OwnAt.and (PSt.own _ _ _ (by omega) (by omega) (fun k hk _ => by omega) (Nat.le_refl _)) (OwnAt.and (OwnAt.obj (by omega) (by omega)) (OwnAt.obj (by omega) (by omega))))
            (fun c => OwnAt.no)
            ⟨by simpa using hPV, hdD1V, hdD2V⟩
            (fun x => { tmps := #[.string s, undef, .pointer (some ⟨w.heap.size, 0, none⟩), .int .i64 0, .string (preC s).1, .bool true, .string (metaC s).2.1, .pointer (some ⟨w.heap.size + 1, 0, none⟩), .string (preC s).2.1, .pointer (some ⟨w.heap.size + 1 + 1, 0, none⟩), .pointer (some ⟨w.heap.size + 1 + 1 + 1, 0, none⟩), .pointer (some ⟨w.heap.size + 1 + 1 + 1 + 1, 0, none⟩), undef, undef, undef, undef, .string x, .tuple #[.string (restB s), .bool true], .string s, .tuple #[.string (restB s), .bool true], .string (restB s), .bool true, .bool true, .bool false, .bool false, .string s, .int .i64 s.size, .bool false, .bool false, undef, .tuple #[.string (metaC s).1, .string (metaC s).2.1, .bool (metaC s).2.2], .string (restB s), .tuple #[.string (metaC s).1, .string (metaC s).2.1, .bool (metaC s).2.2], .string (metaC s).1, .string (metaC s).2.1, .bool (metaC s).2.2, .tuple #[.string (preC s).1, .string (preC s).2.1, .bool (preC s).2.2], .string (metaC s).1, .tuple #[.string (preC s).1, .string (preC s).2.1, .bool (preC s).2.2], .string (preC s).1, .string (preC s).2.1, .bool (preC s).2.2, .string (preC s).1, .int .i64 (Lib.countByte (preC s).1.data.toList 46), .bool (((Lib.countByte (preC s).1.data.toList 46 : Nat) : Int) == 2), .string (preC s).1, .func (.func 134) #[] #[.pointer (some ⟨w.heap.size + 1 + 1 + 1 + 1 + 1, 0, none⟩)], undef, undef, undef, undef, undef, undef, undef, undef, undef, undef, undef, undef, undef, undef, .string (preC s).2.1, .func (.func 134) #[] #[.pointer (some ⟨W1.heap.size, 0, none⟩)], undef, undef, undef, undef, undef, undef, undef, undef, undef, undef, undef, undef, undef, undef, undef, .string (metaC s).2.1, .func (.func 134) #[] #[.pointer (some ⟨W2.heap.size, 0, none⟩)], .string x, undef, undef, undef, undef, undef, undef, undef, undef, undef, undef, undef, undef, undef, undef, undef, undef, undef, undef, undef, undef, undef, undef, undef, undef], defers := [] }) ?assign ?body ?done ?stop
          case stop => intro D c pre W hD hpre h; exact h.elim
          case assign =>
            intro l x W K hK
            gi_wp2
            exact hK
          case body =>
            rintro l pre x W' ⟨hSt, hdD1', hdD2'⟩ hpx hsz
            have hx := Lib.hid (Nat.le_trans (piece_size (prefix_mem hpx)) (show ((metaC s).2.1).size ≤ 9223372036854775807 by omega))
            obtain ⟨okv, hokv⟩ : ∃ b, b = ((((((Lib.countByte (preC s).1.data.toList 46 : Nat) : Int) == 2) && (idsB s).all numOk) && (piecesB 46 (preC s).2.1).all (preOk (preC s).2.2)) && pre.all (metaOk (metaC s).2.2)) := ⟨_, rfl⟩
            rw [← hokv] at hSt
            have HO := Lib.hid hokv
            clear hokv
            have hc3 := hSt.2.2.2.1.1
            have hf3 := hSt.2.2.2.1.2
            have hch := hSt.2.1.1
            have fin : Hid (∀ b : Bool, b = (okv && metaOk (metaC s).2.2 x) → KeepsFrom V.heap.size W' (W'.setCell ⟨w.heap.size + 1 + 1 + 1, 0, none⟩ (.bool b)) ∧ (W'.setCell ⟨w.heap.size + 1 + 1 + 1, 0, none⟩ (.bool b)).heap[W2.heap.size]? = W'.heap[W2.heap.size]? ∧
                (PSt w.heap.size w v (metaC s).2.2 (preC s).2.2 ((idsB s).map numV) (fun k => k < W1.heap.size) ((((((Lib.countByte (preC s).1.data.toList 46 : Nat) : Int) == 2) && (idsB s).all numOk) && (piecesB 46 (preC s).2.1).all (preOk (preC s).2.2)) && (pre ++ [x]).all (metaOk (metaC s).2.2)) (W'.setCell ⟨w.heap.size + 1 + 1 + 1, 0, none⟩ (.bool b)) ∧ ((W'.setCell ⟨w.heap.size + 1 + 1 + 1, 0, none⟩ (.bool b)).heap[D1]? = some (.deferred (some [])) ∧ ((W'.setCell ⟨w.heap.size + 1 + 1 + 1, 0, none⟩ (.bool b)).heap[D2]? = some (.deferred (some [])))))) := fun b hb => by
              refine ⟨keeps_set _ _ _ _, Below.heap_setCell _ _ _ _ (by show W2.heap.size ≠ w.heap.size + 1 + 1 + 1; omega), ?_, (Below.heap_setCell _ _ _ _ (by show D1 ≠ w.heap.size + 1 + 1 + 1; omega)).trans hdD1', (Below.heap_setCell _ _ _ _ (by show D2 ≠ w.heap.size + 1 + 1 + 1; omega)).trans hdD2'⟩
              have h6 := hSt.setOk b
              rw [List.all_append, ← Bool.and_assoc, ← HO.out]
              simpa [hb] using h6
            clear hSt HO
            generalize (metaC s).2.2 = hb at *
            cases okv <;> cases hb <;> cases e1 : everyB signB x <;> cases e2 : noughtB x
            all_goals gi_wp2_with (refine ⟨trivial, ?_⟩; first | (gi_at_call 113; with_reducible refine (CallsIn.inRound l (callsIn_wide.2 (every_sign _ _ hx.out))).mono ?_; rintro e w' ⟨rfl, rfl⟩) | (gi_at_call 115; with_reducible refine (CallsIn.inRound l (callsIn_wide.2 (nought_any _ _ hx.out))).mono ?_; rintro e w' ⟨rfl, rfl⟩))
            all_goals first | (exfalso; have hu : ∃ b, some undef = some (Value.bool b) := ⟨_, by assumption⟩; simp [undef] at hu; done) | skip
            all_goals try (refine ⟨trivial, ?_⟩; gi_wp2_with (refine ⟨trivial, ?_⟩; first | (gi_at_call 113; with_reducible refine (CallsIn.inRound l (callsIn_wide.2 (every_sign _ _ hx.out))).mono ?_; rintro e w' ⟨rfl, rfl⟩) | (gi_at_call 115; with_reducible refine (CallsIn.inRound l (callsIn_wide.2 (nought_any _ _ hx.out))).mono ?_; rintro e w' ⟨rfl, rfl⟩)))
            all_goals first | (exfalso; have hu : ∃ b, some undef = some (Value.bool b) := ⟨_, by assumption⟩; simp [undef] at hu; done) | skip
            all_goals try (refine ⟨trivial, ?_⟩; gi_wp2_with (refine ⟨trivial, ?_⟩; first | (gi_at_call 113; with_reducible refine (CallsIn.inRound l (callsIn_wide.2 (every_sign _ _ hx.out))).mono ?_; rintro e w' ⟨rfl, rfl⟩) | (gi_at_call 115; with_reducible refine (CallsIn.inRound l (callsIn_wide.2 (nought_any _ _ hx.out))).mono ?_; rintro e w' ⟨rfl, rfl⟩)))
            all_goals first | (exfalso; have hu : ∃ b, some undef = some (Value.bool b) := ⟨_, by assumption⟩; simp [undef] at hu; done) | skip
            all_goals try (refine ⟨trivial, ?_⟩; gi_wp2_with (refine ⟨trivial, ?_⟩; first | (gi_at_call 113; with_reducible refine (CallsIn.inRound l (callsIn_wide.2 (every_sign _ _ hx.out))).mono ?_; rintro e w' ⟨rfl, rfl⟩) | (gi_at_call 115; with_reducible refine (CallsIn.inRound l (callsIn_wide.2 (nought_any _ _ hx.out))).mono ?_; rintro e w' ⟨rfl, rfl⟩)))
            all_goals first | (exfalso; have hu : ∃ b, some undef = some (Value.bool b) := ⟨_, by assumption⟩; simp [undef] at hu; done) | skip
            all_goals exact fin.out _ (by simp [metaOk, e1, e2])
          case done =>
            rintro D3 W3 hD3 ⟨hP, hdD1, hdD2⟩ hdD3
            obtain ⟨okf, hokf⟩ : ∃ b, b = ((((((Lib.countByte (preC s).1.data.toList 46 : Nat) : Int) == 2) && (idsB s).all numOk) && (piecesB 46 (preC s).2.1).all (preOk (preC s).2.2)) && (piecesB 46 (metaC s).2.1).all (metaOk (metaC s).2.2)) := ⟨_, rfl⟩
            rw [← hokf] at hP
            have hver : Hid (verOk s = okf) := by
              show _ = _
              rw [hokf]
              simp only [verOk, hp, decide_eq_true h1, Bool.true_and, Bool.and_assoc]
              congr 1
              rw [Bool.eq_iff_iff]; simp; omega
            have hOK := Lib.hid hokf
            clear hokf
            have hlt1 := blk_lt hdD1
            have hlt2 := blk_lt hdD2
            have hlt3 := blk_lt hdD3
            have hc3 := hP.2.2.2.1.1
            have hcz0 : W3.cell? ⟨w.heap.size, 0, none⟩ = some (.int .i64 0) := (blk_cell hP.1 0).trans rfl
            have hfz0 : W3.frozen? ⟨w.heap.size, 0, none⟩ = false := blk_frozen hP.1 0
            have hcz1 : W3.cell? ⟨w.heap.size, 1, none⟩ = some (.int .i64 0) := (blk_cell hP.1 1).trans rfl
            have hfz1 : W3.frozen? ⟨w.heap.size, 1, none⟩ = false := blk_frozen hP.1 1
            have hcz2 : W3.cell? ⟨w.heap.size, 2, none⟩ = some (.int .i64 0) := (blk_cell hP.1 2).trans rfl
            have hfz2 : W3.frozen? ⟨w.heap.size, 2, none⟩ = false := blk_frozen hP.1 2
            have hcz3 : W3.cell? ⟨w.heap.size, 3, none⟩ = some (.string ⟨#[]⟩) := (blk_cell hP.1 3).trans rfl
            have hfz3 : W3.frozen? ⟨w.heap.size, 3, none⟩ = false := blk_frozen hP.1 3
            have hcz4 : W3.cell? ⟨w.heap.size, 4, none⟩ = some (.string ⟨#[]⟩) := (blk_cell hP.1 4).trans rfl
            have hfz4 : W3.frozen? ⟨w.heap.size, 4, none⟩ = false := blk_frozen hP.1 4
            cases okf with
            | false =>
              gi_wp2
              have hz5 : ((((((W3.setCell ⟨w.heap.size, 0, none⟩ (.int .i64 0)).setCell ⟨w.heap.size, 1, none⟩ (.int .i64 0)).setCell ⟨w.heap.size, 2, none⟩ (.int .i64 0)).setCell ⟨w.heap.size, 3, none⟩ (.string ⟨#[]⟩)).setCell ⟨w.heap.size, 4, none⟩ (.string ⟨#[]⟩))).heap[w.heap.size]? = some (.cells #[.int .i64 0, .int .i64 0, .int .i64 0, .string ⟨#[]⟩, .string ⟨#[]⟩] 111 (0, 0)) := blk_put (cs := #[.int .i64 0, .int .i64 0, .int .i64 0, .string ⟨#[]⟩, .string ⟨#[]⟩]) (cs' := #[.int .i64 0, .int .i64 0, .int .i64 0, .string ⟨#[]⟩, .string ⟨#[]⟩]) (blk_put (cs := #[.int .i64 0, .int .i64 0, .int .i64 0, .string ⟨#[]⟩, .string ⟨#[]⟩]) (cs' := #[.int .i64 0, .int .i64 0, .int .i64 0, .string ⟨#[]⟩, .string ⟨#[]⟩]) (blk_put (cs := #[.int .i64 0, .int .i64 0, .int .i64 0, .string ⟨#[]⟩, .string ⟨#[]⟩]) (cs' := #[.int .i64 0, .int .i64 0, .int .i64 0, .string ⟨#[]⟩, .string ⟨#[]⟩]) (blk_put (cs := #[.int .i64 0, .int .i64 0, .int .i64 0, .string ⟨#[]⟩, .string ⟨#[]⟩]) (cs' := #[.int .i64 0, .int .i64 0, .int .i64 0, .string ⟨#[]⟩, .string ⟨#[]⟩]) (blk_put (cs := #[.int .i64 0, .int .i64 0, .int .i64 0, .string ⟨#[]⟩, .string ⟨#[]⟩]) (cs' := #[.int .i64 0, .int .i64 0, .int .i64 0, .string ⟨#[]⟩, .string ⟨#[]⟩]) (hP.1) 0 _ rfl) 1 _ rfl) 2 _ rfl) 3 _ rfl) 4 _ rfl
              have hz6 : Below w.heap.size w ((((((W3.setCell ⟨w.heap.size, 0, none⟩ (.int .i64 0)).setCell ⟨w.heap.size, 1, none⟩ (.int .i64 0)).setCell ⟨w.heap.size, 2, none⟩ (.int .i64 0)).setCell ⟨w.heap.size, 3, none⟩ (.string ⟨#[]⟩)).setCell ⟨w.heap.size, 4, none⟩ (.string ⟨#[]⟩))) := ((((hP.2.2.2.2.2.1.setCell (p := ⟨w.heap.size, 0, none⟩) (Nat.le_refl _) _).setCell (p := ⟨w.heap.size, 1, none⟩) (Nat.le_refl _) _).setCell (p := ⟨w.heap.size, 2, none⟩) (Nat.le_refl _) _).setCell (p := ⟨w.heap.size, 3, none⟩) (Nat.le_refl _) _).setCell (p := ⟨w.heap.size, 4, none⟩) (Nat.le_refl _) _
              have k3 : ((((((W3.setCell ⟨w.heap.size, 0, none⟩ (.int .i64 0)).setCell ⟨w.heap.size, 1, none⟩ (.int .i64 0)).setCell ⟨w.heap.size, 2, none⟩ (.int .i64 0)).setCell ⟨w.heap.size, 3, none⟩ (.string ⟨#[]⟩)).setCell ⟨w.heap.size, 4, none⟩ (.string ⟨#[]⟩))).heap[D3]? = some (.deferred (some [])) := ((Below.heap_setCell _ _ _ _ (by show _ ≠ w.heap.size; omega)).trans <| (Below.heap_setCell _ _ _ _ (by show _ ≠ w.heap.size; omega)).trans <| (Below.heap_setCell _ _ _ _ (by show _ ≠ w.heap.size; omega)).trans <| (Below.heap_setCell _ _ _ _ (by show _ ≠ w.heap.size; omega)).trans <| (Below.heap_setCell _ _ _ _ (by show _ ≠ w.heap.size; omega)).trans <|  hdD3)
              have k2 : (((((((W3.setCell ⟨w.heap.size, 0, none⟩ (.int .i64 0)).setCell ⟨w.heap.size, 1, none⟩ (.int .i64 0)).setCell ⟨w.heap.size, 2, none⟩ (.int .i64 0)).setCell ⟨w.heap.size, 3, none⟩ (.string ⟨#[]⟩)).setCell ⟨w.heap.size, 4, none⟩ (.string ⟨#[]⟩))).putObj D3 (.deferred none)).heap[D2]? = some (.deferred (some [])) := (World.putObj_heap_other (by omega)).trans (((Below.heap_setCell _ _ _ _ (by show _ ≠ w.heap.size; omega)).trans <| (Below.heap_setCell _ _ _ _ (by show _ ≠ w.heap.size; omega)).trans <| (Below.heap_setCell _ _ _ _ (by show _ ≠ w.heap.size; omega)).trans <| (Below.heap_setCell _ _ _ _ (by show _ ≠ w.heap.size; omega)).trans <| (Below.heap_setCell _ _ _ _ (by show _ ≠ w.heap.size; omega)).trans <|  hdD2))
              have k1 : ((((((((W3.setCell ⟨w.heap.size, 0, none⟩ (.int .i64 0)).setCell ⟨w.heap.size, 1, none⟩ (.int .i64 0)).setCell ⟨w.heap.size, 2, none⟩ (.int .i64 0)).setCell ⟨w.heap.size, 3, none⟩ (.string ⟨#[]⟩)).setCell ⟨w.heap.size, 4, none⟩ (.string ⟨#[]⟩))).putObj D3 (.deferred none)).putObj D2 (.deferred none)).heap[D1]? = some (.deferred (some [])) := (World.putObj_heap_other (by omega)).trans ((World.putObj_heap_other (by omega)).trans (((Below.heap_setCell _ _ _ _ (by show _ ≠ w.heap.size; omega)).trans <| (Below.heap_setCell _ _ _ _ (by show _ ≠ w.heap.size; omega)).trans <| (Below.heap_setCell _ _ _ _ (by show _ ≠ w.heap.size; omega)).trans <| (Below.heap_setCell _ _ _ _ (by show _ ≠ w.heap.size; omega)).trans <| (Below.heap_setCell _ _ _ _ (by show _ ≠ w.heap.size; omega)).trans <|  hdD1)))
              refine ⟨by simp, .inl ⟨D3, _, rfl, run_takeDeferred k3, ?_⟩⟩
              refine ⟨by simp, .inl ⟨D2, _, rfl, run_takeDeferred k2, ?_⟩⟩
              refine ⟨by simp, .inl ⟨D1, _, rfl, run_takeDeferred k1, ?_⟩⟩
              have hz7 : (((((((((W3.setCell ⟨w.heap.size, 0, none⟩ (.int .i64 0)).setCell ⟨w.heap.size, 1, none⟩ (.int .i64 0)).setCell ⟨w.heap.size, 2, none⟩ (.int .i64 0)).setCell ⟨w.heap.size, 3, none⟩ (.string ⟨#[]⟩)).setCell ⟨w.heap.size, 4, none⟩ (.string ⟨#[]⟩))).putObj D3 (.deferred none)).putObj D2 (.deferred none)).putObj D1 (.deferred none)).heap[w.heap.size]? = some (.cells #[.int .i64 0, .int .i64 0, .int .i64 0, .string ⟨#[]⟩, .string ⟨#[]⟩] 111 (0, 0)) := (World.putObj_heap_other (by omega)).trans ((World.putObj_heap_other (by omega)).trans ((World.putObj_heap_other (by omega)).trans hz5))
              refine ⟨_, results_ct rfl _ _ w.heap.size 111 #[.int .i64 0, .int .i64 0, .int .i64 0, .string ⟨#[]⟩, .string ⟨#[]⟩] (0, 0) _ rfl hz7 Tryz.underlying111 rfl (by kernel_rfl), ?_, below_put (below_put (below_put hz6 (by omega) (Nat.le_refl _) _) (by omega) (Nat.le_refl _) _) (by omega) (Nat.le_refl _) _⟩
              rw [show numAt s 0 = 0 from if_neg (by rw [hver.out]; decide), show numAt s 1 = 0 from if_neg (by rw [hver.out]; decide), show numAt s 2 = 0 from if_neg (by rw [hver.out]; decide), show preB s = ⟨#[]⟩ from if_neg (by rw [hver.out]; decide), show metaB s = ⟨#[]⟩ from if_neg (by rw [hver.out]; decide), show verErr s = 30 from if_neg (by rw [hver.out]; decide)]
              rfl
            | true =>
              have hcnt : (idsB s).length = 3 := by
                have h := hOK.out.symm
                simp only [Bool.and_eq_true, beq_iff_eq] at h
                have := piecesB_count 46 (preC s).1
                unfold idsB; omega
              obtain ⟨ia, ib, ic, habc⟩ : ∃ a b c, idsB s = [a, b, c] := by
                generalize idsB s = L at hcnt
                match L, hcnt with
                | [a, b, c], _ => exact ⟨a, b, c, rfl⟩
              have n0 : numAt s 0 = numV ia := by rw [show numAt s 0 = _ from if_pos hver.out, habc]; rfl
              have n1 : numAt s 1 = numV ib := by rw [show numAt s 1 = _ from if_pos hver.out, habc]; rfl
              have n2 : numAt s 2 = numV ic := by rw [show numAt s 2 = _ from if_pos hver.out, habc]; rfl
              have N0 := Lib.hid n0
              have N1 := Lib.hid n1
              have N2 := Lib.hid n2
              have HAB := Lib.hid habc
              clear n0 n1 n2
              rw [habc] at hP
              clear habc hcnt
              obtain ⟨g, cap, hvg, hgb, hgl, _⟩ := Kd.R_form hP.2.2.2.2.2.2 (by simp)
              subst hvg
              have hc4 : W3.cell? ⟨w.heap.size + 1 + 1 + 1 + 1, 0, none⟩ = some (.slice (some ⟨g, 0, none⟩) 3 cap) := hP.2.2.2.2.1.1
              have hg0 : W3.cell? ⟨g, 0, none⟩ = some (.int .i64 (numV ia)) := (Kd.R_cell 0 hP.2.2.2.2.2.2 0 (by omega) (by simp)).1
              have hg1 : W3.cell? ⟨g, 1, none⟩ = some (.int .i64 (numV ib)) := (Kd.R_cell 0 hP.2.2.2.2.2.2 1 (by omega) (by simp)).1
              have hg2 : W3.cell? ⟨g, 2, none⟩ = some (.int .i64 (numV ic)) := (Kd.R_cell 0 hP.2.2.2.2.2.2 2 (by omega) (by simp)).1
              gi_wp2
              refine wpIn_wide.2 (wp_region_noPanic ?_)
              refine start_ (n := 14) (S := fun w' => w'.cell? ⟨w.heap.size + 1 + 1 + 1 + 1, 0, none⟩ = some (.slice (some ⟨g, 0, none⟩) 3 cap) ∧ w'.cell? ⟨g, 0, none⟩ = some (.int .i64 (numV ia)) ∧ w'.cell? ⟨g, 1, none⟩ = some (.int .i64 (numV ib)) ∧ w'.cell? ⟨g, 2, none⟩ = some (.int .i64 (numV ic))) (ds := [12]) #[false, false, false, false, false, false, false, false, false, false, false, false, false, false] (by kernel_rfl) rfl rfl ⟨hc4, hg0, hg1, hg2⟩ (fun hHeld => ?_)
              refine pure_ (i := 9) (N := some 102) (v := ?_) (a' := ?_) #[false, false, false, false, false, false, false, false, false, true, false, false, false, false] rfl rfl (by kernel_rfl) (fun _ _ _ h => h) (Or.inl ⟨by rfl, ?_⟩) ?_ ?_
              rotate_left
              · intro w'
                go_simp
                with_reducible rfl
              rotate_left
              · simp only [Act.put, List.setIfInBounds_toArray, List.set_cons_zero, List.set_cons_succ, i64_w, i32_w]
                rfl
              refine pure_ (i := 10) (N := some 103) (v := ?_) (a' := ?_) #[false, false, false, false, false, false, false, false, false, true, true, false, false, false] rfl rfl (by kernel_rfl) (fun _ _ _ h => h) (Or.inl ⟨by rfl, ?_⟩) ?_ ?_
              rotate_left
              · intro w'
                go_simp
                with_reducible rfl
              rotate_left
              · simp only [Act.put, List.setIfInBounds_toArray, List.set_cons_zero, List.set_cons_succ, i64_w, i32_w]
                rfl
              refine take_ (i := 0) (N := some 93) (v := ?_) (a' := ?_) #[true, false, false, false, false, false, false, false, false, true, true, false, false, false] rfl rfl (by kernel_rfl) (fun _ _ _ h => h) (Or.inl ⟨by rfl, ?_⟩) hHeld ?_ ?_
              rotate_left
              · rintro w' ⟨s0, s1, s2, s3⟩
                go_simp
                with_reducible rfl
              rotate_left
              · simp only [Act.put, List.setIfInBounds_toArray, List.set_cons_zero, List.set_cons_succ, i64_w, i32_w]
                rfl
              refine take_ (i := 3) (N := some 96) (v := ?_) (a' := ?_) #[true, false, false, true, false, false, false, false, false, true, true, false, false, false] rfl rfl (by kernel_rfl) (fun _ _ _ h => h) (Or.inl ⟨by rfl, ?_⟩) hHeld ?_ ?_
              rotate_left
              · rintro w' ⟨s0, s1, s2, s3⟩
                go_simp
                with_reducible rfl
              rotate_left
              · simp only [Act.put, List.setIfInBounds_toArray, List.set_cons_zero, List.set_cons_succ, i64_w, i32_w]
                rfl
              refine take_ (i := 6) (N := some 99) (v := ?_) (a' := ?_) #[true, false, false, true, false, false, true, false, false, true, true, false, false, false] rfl rfl (by kernel_rfl) (fun _ _ _ h => h) (Or.inl ⟨by rfl, ?_⟩) hHeld ?_ ?_
              rotate_left
              · rintro w' ⟨s0, s1, s2, s3⟩
                go_simp
                with_reducible rfl
              rotate_left
              · simp only [Act.put, List.setIfInBounds_toArray, List.set_cons_zero, List.set_cons_succ, i64_w, i32_w]
                rfl
              refine pure_ (i := 1) (N := some 94) (v := ?_) (a' := ?_) #[true, true, false, true, false, false, true, false, false, true, true, false, false, false] rfl rfl (by kernel_rfl) (fun _ _ _ h => h) (Or.inl ⟨by rfl, ?_⟩) ?_ ?_
              rotate_left
              · intro w'
                go_simp
                with_reducible rfl
              rotate_left
              · simp only [Act.put, List.setIfInBounds_toArray, List.set_cons_zero, List.set_cons_succ, i64_w, i32_w]
                rfl
              refine pure_ (i := 4) (N := some 97) (v := ?_) (a' := ?_) #[true, true, false, true, true, false, true, false, false, true, true, false, false, false] rfl rfl (by kernel_rfl) (fun _ _ _ h => h) (Or.inl ⟨by rfl, ?_⟩) ?_ ?_
              rotate_left
              · intro w'
                go_simp
                with_reducible rfl
              rotate_left
              · simp only [Act.put, List.setIfInBounds_toArray, List.set_cons_zero, List.set_cons_succ, i64_w, i32_w]
                rfl
              refine pure_ (i := 7) (N := some 100) (v := ?_) (a' := ?_) #[true, true, false, true, true, false, true, true, false, true, true, false, false, false] rfl rfl (by kernel_rfl) (fun _ _ _ h => h) (Or.inl ⟨by rfl, ?_⟩) ?_ ?_
              rotate_left
              · intro w'
                go_simp
                with_reducible rfl
              rotate_left
              · simp only [Act.put, List.setIfInBounds_toArray, List.set_cons_zero, List.set_cons_succ, i64_w, i32_w]
                rfl
              refine take_ (i := 2) (N := some 95) (v := ?_) (a' := ?_) #[true, true, true, true, true, false, true, true, false, true, true, false, false, false] rfl rfl (by kernel_rfl) (fun _ _ _ h => h) (Or.inl ⟨by rfl, ?_⟩) hHeld ?_ ?_
              rotate_left
              · rintro w' ⟨s0, s1, s2, s3⟩
                go_simp
                with_reducible rfl
              rotate_left
              · simp only [Act.put, List.setIfInBounds_toArray, List.set_cons_zero, List.set_cons_succ, i64_w, i32_w]
                rfl
              refine take_ (i := 5) (N := some 98) (v := ?_) (a' := ?_) #[true, true, true, true, true, true, true, true, false, true, true, false, false, false] rfl rfl (by kernel_rfl) (fun _ _ _ h => h) (Or.inl ⟨by rfl, ?_⟩) hHeld ?_ ?_
              rotate_left
              · rintro w' ⟨s0, s1, s2, s3⟩
                go_simp
                with_reducible rfl
              rotate_left
              · simp only [Act.put, List.setIfInBounds_toArray, List.set_cons_zero, List.set_cons_succ, i64_w, i32_w]
                rfl
              refine take_ (i := 8) (N := some 101) (v := ?_) (a' := ?_) #[true, true, true, true, true, true, true, true, true, true, true, false, false, false] rfl rfl (by kernel_rfl) (fun _ _ _ h => h) (Or.inl ⟨by rfl, ?_⟩) hHeld ?_ ?_
              rotate_left
              · rintro w' ⟨s0, s1, s2, s3⟩
                go_simp
                with_reducible rfl
              rotate_left
              · simp only [Act.put, List.setIfInBounds_toArray, List.set_cons_zero, List.set_cons_succ, i64_w, i32_w]
                rfl
              refine pure_ (i := 11) (N := some 104) (v := ?_) (a' := ?_) #[true, true, true, true, true, true, true, true, true, true, true, true, false, false] rfl rfl (by kernel_rfl) (fun _ _ _ h => h) (Or.inl ⟨by rfl, ?_⟩) ?_ ?_
              rotate_left
              · intro w'
                go_simp
                with_reducible rfl
              rotate_left
              · simp only [Act.put, List.setIfInBounds_toArray, List.set_cons_zero, List.set_cons_succ, i64_w, i32_w]
                rfl
              refine last_ (i := 12) (N := none) #[true, true, true, true, true, true, true, true, true, true, true, true, true, false] rfl rfl (by kernel_rfl) (by decide) (fun K hK => ?_)
              refine skip_ (w1 := ?_) (by rfl) rfl ?_ ?_
              rotate_left
              · go_simp
                rfl
              refine hK.out _ _ ?_
              clear hK K
              refine pure_ (i := 13) (N := some 3) (v := ?_) (a' := ?_) #[true, true, true, true, true, true, true, true, true, true, true, true, true, true] rfl rfl (by kernel_rfl) (fun _ _ _ h => h) (Or.inl ⟨by rfl, ?_⟩) ?_ ?_
              rotate_left
              · intro w'
                go_simp
                with_reducible rfl
              rotate_left
              · simp only [Act.put, List.setIfInBounds_toArray, List.set_cons_zero, List.set_cons_succ, i64_w, i32_w]
                rfl
              refine done_ (by kernel_rfl) ?_
              refine NoPanic.normal ?_
              gi_wp2
              have hz5 : ((((((W3.setCell ⟨w.heap.size, 0, none⟩ (.int .i64 (numV ia))).setCell ⟨w.heap.size, 1, none⟩ (.int .i64 (numV ib))).setCell ⟨w.heap.size, 2, none⟩ (.int .i64 (numV ic))).setCell ⟨w.heap.size, 3, none⟩ (.string (preC s).2.1)).setCell ⟨w.heap.size, 4, none⟩ (.string (metaC s).2.1))).heap[w.heap.size]? = some (.cells #[.int .i64 (numV ia), .int .i64 (numV ib), .int .i64 (numV ic), .string (preC s).2.1, .string (metaC s).2.1] 111 (0, 0)) := blk_put (cs := #[.int .i64 (numV ia), .int .i64 (numV ib), .int .i64 (numV ic), .string (preC s).2.1, .string ⟨#[]⟩]) (cs' := #[.int .i64 (numV ia), .int .i64 (numV ib), .int .i64 (numV ic), .string (preC s).2.1, .string (metaC s).2.1]) (blk_put (cs := #[.int .i64 (numV ia), .int .i64 (numV ib), .int .i64 (numV ic), .string ⟨#[]⟩, .string ⟨#[]⟩]) (cs' := #[.int .i64 (numV ia), .int .i64 (numV ib), .int .i64 (numV ic), .string (preC s).2.1, .string ⟨#[]⟩]) (blk_put (cs := #[.int .i64 (numV ia), .int .i64 (numV ib), .int .i64 0, .string ⟨#[]⟩, .string ⟨#[]⟩]) (cs' := #[.int .i64 (numV ia), .int .i64 (numV ib), .int .i64 (numV ic), .string ⟨#[]⟩, .string ⟨#[]⟩]) (blk_put (cs := #[.int .i64 (numV ia), .int .i64 0, .int .i64 0, .string ⟨#[]⟩, .string ⟨#[]⟩]) (cs' := #[.int .i64 (numV ia), .int .i64 (numV ib), .int .i64 0, .string ⟨#[]⟩, .string ⟨#[]⟩]) (blk_put (cs := #[.int .i64 0, .int .i64 0, .int .i64 0, .string ⟨#[]⟩, .string ⟨#[]⟩]) (cs' := #[.int .i64 (numV ia), .int .i64 0, .int .i64 0, .string ⟨#[]⟩, .string ⟨#[]⟩]) (hP.1) 0 _ rfl) 1 _ rfl) 2 _ rfl) 3 _ rfl) 4 _ rfl
              have hz6 : Below w.heap.size w ((((((W3.setCell ⟨w.heap.size, 0, none⟩ (.int .i64 (numV ia))).setCell ⟨w.heap.size, 1, none⟩ (.int .i64 (numV ib))).setCell ⟨w.heap.size, 2, none⟩ (.int .i64 (numV ic))).setCell ⟨w.heap.size, 3, none⟩ (.string (preC s).2.1)).setCell ⟨w.heap.size, 4, none⟩ (.string (metaC s).2.1))) := ((((hP.2.2.2.2.2.1.setCell (p := ⟨w.heap.size, 0, none⟩) (Nat.le_refl _) _).setCell (p := ⟨w.heap.size, 1, none⟩) (Nat.le_refl _) _).setCell (p := ⟨w.heap.size, 2, none⟩) (Nat.le_refl _) _).setCell (p := ⟨w.heap.size, 3, none⟩) (Nat.le_refl _) _).setCell (p := ⟨w.heap.size, 4, none⟩) (Nat.le_refl _) _
              have hz6 := below_drew hz6
              have hz5 : ((((((W3.setCell ⟨w.heap.size, 0, none⟩ (.int .i64 (numV ia))).setCell ⟨w.heap.size, 1, none⟩ (.int .i64 (numV ib))).setCell ⟨w.heap.size, 2, none⟩ (.int .i64 (numV ic))).setCell ⟨w.heap.size, 3, none⟩ (.string (preC s).2.1)).setCell ⟨w.heap.size, 4, none⟩ (.string (metaC s).2.1))).drew.heap[w.heap.size]? = some (.cells #[.int .i64 (numV ia), .int .i64 (numV ib), .int .i64 (numV ic), .string (preC s).2.1, .string (metaC s).2.1] 111 (0, 0)) := blk_drew hz5
              have k3 : (((((((W3.setCell ⟨w.heap.size, 0, none⟩ (.int .i64 (numV ia))).setCell ⟨w.heap.size, 1, none⟩ (.int .i64 (numV ib))).setCell ⟨w.heap.size, 2, none⟩ (.int .i64 (numV ic))).setCell ⟨w.heap.size, 3, none⟩ (.string (preC s).2.1)).setCell ⟨w.heap.size, 4, none⟩ (.string (metaC s).2.1))).drew).heap[D3]? = some (.deferred (some [])) := blk_drew ((Below.heap_setCell _ _ _ _ (by show _ ≠ w.heap.size; omega)).trans <| (Below.heap_setCell _ _ _ _ (by show _ ≠ w.heap.size; omega)).trans <| (Below.heap_setCell _ _ _ _ (by show _ ≠ w.heap.size; omega)).trans <| (Below.heap_setCell _ _ _ _ (by show _ ≠ w.heap.size; omega)).trans <| (Below.heap_setCell _ _ _ _ (by show _ ≠ w.heap.size; omega)).trans <|  hdD3)
              have k2 : ((((((((W3.setCell ⟨w.heap.size, 0, none⟩ (.int .i64 (numV ia))).setCell ⟨w.heap.size, 1, none⟩ (.int .i64 (numV ib))).setCell ⟨w.heap.size, 2, none⟩ (.int .i64 (numV ic))).setCell ⟨w.heap.size, 3, none⟩ (.string (preC s).2.1)).setCell ⟨w.heap.size, 4, none⟩ (.string (metaC s).2.1))).drew).putObj D3 (.deferred none)).heap[D2]? = some (.deferred (some [])) := (World.putObj_heap_other (by omega)).trans (blk_drew ((Below.heap_setCell _ _ _ _ (by show _ ≠ w.heap.size; omega)).trans <| (Below.heap_setCell _ _ _ _ (by show _ ≠ w.heap.size; omega)).trans <| (Below.heap_setCell _ _ _ _ (by show _ ≠ w.heap.size; omega)).trans <| (Below.heap_setCell _ _ _ _ (by show _ ≠ w.heap.size; omega)).trans <| (Below.heap_setCell _ _ _ _ (by show _ ≠ w.heap.size; omega)).trans <|  hdD2))
              have k1 : (((((((((W3.setCell ⟨w.heap.size, 0, none⟩ (.int .i64 (numV ia))).setCell ⟨w.heap.size, 1, none⟩ (.int .i64 (numV ib))).setCell ⟨w.heap.size, 2, none⟩ (.int .i64 (numV ic))).setCell ⟨w.heap.size, 3, none⟩ (.string (preC s).2.1)).setCell ⟨w.heap.size, 4, none⟩ (.string (metaC s).2.1))).drew).putObj D3 (.deferred none)).putObj D2 (.deferred none)).heap[D1]? = some (.deferred (some [])) := (World.putObj_heap_other (by omega)).trans ((World.putObj_heap_other (by omega)).trans (blk_drew ((Below.heap_setCell _ _ _ _ (by show _ ≠ w.heap.size; omega)).trans <| (Below.heap_setCell _ _ _ _ (by show _ ≠ w.heap.size; omega)).trans <| (Below.heap_setCell _ _ _ _ (by show _ ≠ w.heap.size; omega)).trans <| (Below.heap_setCell _ _ _ _ (by show _ ≠ w.heap.size; omega)).trans <| (Below.heap_setCell _ _ _ _ (by show _ ≠ w.heap.size; omega)).trans <|  hdD1)))
              refine ⟨by simp, .inl ⟨D3, _, rfl, run_takeDeferred k3, ?_⟩⟩
              refine ⟨by simp, .inl ⟨D2, _, rfl, run_takeDeferred k2, ?_⟩⟩
              refine ⟨by simp, .inl ⟨D1, _, rfl, run_takeDeferred k1, ?_⟩⟩
              have hz7 : ((((((((((W3.setCell ⟨w.heap.size, 0, none⟩ (.int .i64 (numV ia))).setCell ⟨w.heap.size, 1, none⟩ (.int .i64 (numV ib))).setCell ⟨w.heap.size, 2, none⟩ (.int .i64 (numV ic))).setCell ⟨w.heap.size, 3, none⟩ (.string (preC s).2.1)).setCell ⟨w.heap.size, 4, none⟩ (.string (metaC s).2.1))).drew).putObj D3 (.deferred none)).putObj D2 (.deferred none)).putObj D1 (.deferred none)).heap[w.heap.size]? = some (.cells #[.int .i64 (numV ia), .int .i64 (numV ib), .int .i64 (numV ic), .string (preC s).2.1, .string (metaC s).2.1] 111 (0, 0)) := (World.putObj_heap_other (by omega)).trans ((World.putObj_heap_other (by omega)).trans ((World.putObj_heap_other (by omega)).trans hz5))
              refine ⟨_, results_ct rfl _ _ w.heap.size 111 #[.int .i64 (numV ia), .int .i64 (numV ib), .int .i64 (numV ic), .string (preC s).2.1, .string (metaC s).2.1] (0, 0) _ rfl hz7 Tryz.underlying111 rfl (by kernel_rfl), ?_, below_put (below_put (below_put hz6 (by omega) (Nat.le_refl _) _) (by omega) (Nat.le_refl _) _) (by omega) (Nat.le_refl _) _⟩
              rw [N0.out, N1.out, N2.out, show preB s = (preC s).2.1 from if_pos hver.out, show metaB s = (metaC s).2.1 from if_pos hver.out, show verErr s = 0 from if_pos hver.out]
              rfl
    · have hv : verOk s = false := by simp [verOk, h1]
      have h1' : (60 : Int) < (s.size : Int) := by omega
      rw [show numAt s 0 = 0 from if_neg (by rw [hv]; decide), show numAt s 1 = 0 from if_neg (by rw [hv]; decide), show numAt s 2 = 0 from if_neg (by rw [hv]; decide), show preB s = ⟨#[]⟩ from if_neg (by rw [hv]; decide), show metaB s = ⟨#[]⟩ from if_neg (by rw [hv]; decide), show verErr s = 30 from if_neg (by rw [hv]; decide)]
      go_enter Tryz.func80, Tryz.ntmps80
      go_wp2_with (go_at_call 73; refine (parse_pick _ _).mono ?_; rintro e w' ⟨rfl, rfl⟩)
      exact ⟨rfl, _, results_ct rfl _ _ w.heap.size 111 _ (0, 0) _ rfl (blk_new w zeroV) Tryz.underlying111 rfl (by kernel_rfl), rfl, below_alloc (Below.refl _ _) _⟩
  · have hp' : prefB s = false := by simpa using hp
    have hv : verOk s = false := by simp [verOk, hp']
    rw [show numAt s 0 = 0 from if_neg (by rw [hv]; decide), show numAt s 1 = 0 from if_neg (by rw [hv]; decide), show numAt s 2 = 0 from if_neg (by rw [hv]; decide), show preB s = ⟨#[]⟩ from if_neg (by rw [hv]; decide), show metaB s = ⟨#[]⟩ from if_neg (by rw [hv]; decide), show verErr s = 30 from if_neg (by rw [hv]; decide)]
    go_enter Tryz.func80, Tryz.ntmps80
    go_wp2_with (go_at_call 73; refine (parse_pick _ _).mono ?_; rintro e w' ⟨rfl, rfl⟩)
    exact ⟨rfl, _, results_ct rfl _ _ w.heap.size 111 _ (0, 0) _ rfl (blk_new w zeroV) Tryz.underlying111 rfl (by kernel_rfl), rfl, below_alloc (Below.refl _ _) _⟩
end Go.Proofs.YtcdcpcdfcmokkaaGreatDoor
