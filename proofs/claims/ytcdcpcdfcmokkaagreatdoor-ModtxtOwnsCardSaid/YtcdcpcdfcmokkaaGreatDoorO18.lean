/- graftbedref03.Parse: what it computes (the walk). -/
import Derived.Test.YtcdcpcdfcmokkaaGreatDoorO17
set_option linter.unusedVariables false
set_option linter.unusedSimpArgs false
namespace Go.Proofs.YtcdcpcdfcmokkaaGreatDoor
open Go.RowKit Go.Shelf Go.Proofs.YtcdcpcdfcmokkaaGreatDoorW.PrintWords
set_option linter.unusedVariables false
theorem rsplit_ids (s : ByteArray) (w : World) (hs : (preC s).1.size ≤ 1099511627775) :
    Calls Tryz.prog 101 #[.string (preC s).1, .int .u8 46] w fun e w' => ∃ v, e = .returned v ∧ Kd.R Kd.string 9 w' w.heap.size (fun _ => True) v (idsB s) ∧ Below w.heap.size w w' := rsplit_any (preC s).1 w hs
theorem str_cell {e base g cap : Nat} {W : World} {ok : Nat → Prop} {xs : List ByteArray} (hR : Kd.R Kd.string e W base ok (.slice (some ⟨g, 0, none⟩) xs.length cap) xs) (i : Nat) (hi : i < xs.length) : W.cell? ⟨g, i, none⟩ = some (.string (xs.getD i ByteArray.empty)) :=
  (Kd.R_cell (enc := Value.string) (h1 := fun _ => rfl) ByteArray.empty hR (i : Int) (by omega) (by omega)).1
theorem numberB_ok {x : ByteArray} (h : numOk x = true) : decide (numberB x < 0) = false := by
  rw [show numberB x = valB x from if_pos h]; unfold valB; exact decide_eq_false (by omega)
theorem numV_ok {x : ByteArray} (h : numOk x = true) : numV x = numberB x := (if_pos h).trans (if_pos h).symm
theorem numberB_no {x : ByteArray} (h : ¬ numOk x = true) : decide (numberB x < 0) = true := by
  rw [show numberB x = -1 from if_neg h]; rfl
theorem hid_of {p : Prop} (h : p) : Hid p := h
def zeroR : Obj := .cells #[.int .i64 0, .int .i64 0, .int .i64 0, .string ⟨#[]⟩, .string ⟨#[]⟩] 120 (0, 0)
set_option maxHeartbeats 2000000 in
set_option maxRecDepth 100000 in
theorem rparse_any (s : ByteArray) (w : World) (hs : s.size ≤ 1099511627775) :
    Calls Tryz.prog 99 #[.string s] w fun e w' => e = .returned (.tuple #[.agg #[.int .i64 (numAt s 0), .int .i64 (numAt s 1), .int .i64 (numAt s 2), .string (preB s), .string (metaB s)], .int .i64 (verErr s)]) ∧ Below w.heap.size w w' := by
  by_cases hp : prefB s = true
  · by_cases h1 : s.size ≤ 60
    · have hp' := hp
      rw [pref_iff] at hp'
      simp only [Bool.and_eq_true, decide_eq_true_eq] at hp'
      have h0 : 0 < s.size := hp'.1
      have hb0 : (bt s 0 == 118) = true := hp'.2
      have hb0' : (bt s 0 != 118) = false := by simpa using hb0
      have hbt : ((s[0]'h0).toNat : Int) = bt s 0 := bt_at s 0 h0
      have g1 : decide ((s.size : Int) < 1) = false := decide_eq_false (by omega)
      have g2 : decide ((60 : Int) < (s.size : Int)) = false := decide_eq_false (by omega)
      have g3 : (1 : Int) ≤ (s.size : Int) := by omega
      have hrest := rest_eq hp
      have hr1 : (restB s).size ≤ 60 := by rw [← hrest, ByteArray.size_extract]; omega
      have hr2 : (metaC s).1.size ≤ 60 := Nat.le_trans (cut_piece_size _ _) hr1
      have b1 := Lib.hid (show (restB s).size ≤ 1099511627775 by omega)
      have b2 := Lib.hid (show (metaC s).1.size ≤ 1099511627775 by omega)
      clear hp'
      go_enter Tryz.func99, Tryz.ntmps99
      go_upto_if 30 with (first | (go_at_call 125; with_reducible refine (rfind_plus s _ b1.out).mono ?_; rintro e w' ⟨rfl, n1, rfl⟩))
      obtain ⟨W0, hW0⟩ : ∃ W0, W0 = ((w.alloc zeroR).alloc zeroR).drewN n1 := ⟨_, rfl⟩
      rw [show (Obj.cells #[.int .i64 0, .int .i64 0, .int .i64 0, .string ⟨#[]⟩, .string ⟨#[]⟩] 120) = zeroR from rfl, ← hW0]
      have kr : W0.heap[w.heap.size]? = some (.cells #[.int .i64 0, .int .i64 0, .int .i64 0, .string ⟨#[]⟩, .string ⟨#[]⟩] 120 (0, 0)) := by subst hW0; exact blk_drewN (blk_alloc (blk_new w zeroR) _) _
      have kq : W0.heap[w.heap.size + 1]? = some (.cells #[.int .i64 0, .int .i64 0, .int .i64 0, .string ⟨#[]⟩, .string ⟨#[]⟩] 120 (0, 0)) := by
        subst hW0
        have h := blk_new (w.alloc zeroR) zeroR
        rw [World.size_alloc] at h
        exact blk_drewN h _
      have hbW : Below w.heap.size w W0 := by subst hW0; exact pw_below_drewN (below_alloc (below_alloc (Below.refl _ w) _) _) _
      clear hW0
      go_cut [] (fun wc => wc.heap[w.heap.size]? = some (.cells #[.int .i64 0, .int .i64 0, .int .i64 0, .string ⟨#[]⟩, .string ⟨#[]⟩] 120 (0, 0)) ∧ wc.heap[w.heap.size + 1]? = some (.cells #[.int .i64 0, .int .i64 0, .int .i64 0, .string ⟨#[]⟩, .string (metaC s).2.1] 120 (0, 0)) ∧ Below w.heap.size w wc ∧ Hid ((!(metaC s).2.2 || (piecesB 46 (metaC s).2.1).all (identOk false)) = true))
      case first =>
        cases hm : (metaC s).2.2 with
        | false =>
          have e0 : (metaC s).1 = restB s := cut_not 43 (restB s) hm
          have e1 : (metaC s).2.1 = ⟨#[]⟩ := by
            rcases cut_cases 43 (restB s) with e | ⟨i, hi, e⟩
            · show (cutB 43 (restB s)).2.1 = _; rw [e]; rfl
            · have : (cutB 43 (restB s)).2.2 = false := hm
              rw [e] at this; cases this
          have m1 : decide ((metaC s).1.size < (restB s).size) = false := decide_eq_false (by rw [e0]; omega)
          clear e0
          have E1 := Lib.hid e1
          clear e1
          rw [m1]
          go_wp2
          go_meet
          case rel => exact ⟨kr, by rw [E1.out]; exact kq, hbW, by show _ = true; rw [hm]; rfl⟩
        | true =>
          obtain ⟨m0, e1⟩ := cut_found 43 (restB s) hm
          have m0 : (metaC s).1.size < (restB s).size := m0
          have e1 : (restB s).extract ((metaC s).1.size + 1) (restB s).size = (metaC s).2.1 := e1
          have m1 : decide ((metaC s).1.size < (restB s).size) = true := decide_eq_true m0
          have m2 : (0 : Int) ≤ ((metaC s).1.size : Int) + 1 := by omega
          have m3 : ((metaC s).1.size : Int) + 1 ≤ ((restB s).size : Int) := by omega
          have b3 := Lib.hid (show (metaC s).2.1.size ≤ 1099511627775 by rw [← e1, ByteArray.size_extract]; omega)
          have kq2 : (W0.setCell ⟨w.heap.size + 1, 4, none⟩ (.string (metaC s).2.1)).heap[w.heap.size + 1]? = some (.cells #[.int .i64 0, .int .i64 0, .int .i64 0, .string ⟨#[]⟩, .string (metaC s).2.1] 120 (0, 0)) := blk_put (cs := #[.int .i64 0, .int .i64 0, .int .i64 0, .string ⟨#[]⟩, .string ⟨#[]⟩]) kq 4 _ rfl
          have kr2 : (W0.setCell ⟨w.heap.size + 1, 4, none⟩ (.string (metaC s).2.1)).heap[w.heap.size]? = some (.cells #[.int .i64 0, .int .i64 0, .int .i64 0, .string ⟨#[]⟩, .string ⟨#[]⟩] 120 (0, 0)) := blk_far kr (by show w.heap.size ≠ w.heap.size + 1; omega) _
          have hb2 : Below w.heap.size w (W0.setCell ⟨w.heap.size + 1, 4, none⟩ (.string (metaC s).2.1)) := below_set hbW (by omega)
          have cra0 : W0.cell? ⟨w.heap.size, 0, none⟩ = some (.int .i64 0) := (blk_cell kr 0).trans rfl
          have fra0 := blk_frozen kr 0
          have cqa0 : W0.cell? ⟨w.heap.size + 1, 0, none⟩ = some (.int .i64 0) := (blk_cell kq 0).trans rfl
          have fqa0 := blk_frozen kq 0
          have cra1 : W0.cell? ⟨w.heap.size, 1, none⟩ = some (.int .i64 0) := (blk_cell kr 1).trans rfl
          have fra1 := blk_frozen kr 1
          have cqa1 : W0.cell? ⟨w.heap.size + 1, 1, none⟩ = some (.int .i64 0) := (blk_cell kq 1).trans rfl
          have fqa1 := blk_frozen kq 1
          have cra2 : W0.cell? ⟨w.heap.size, 2, none⟩ = some (.int .i64 0) := (blk_cell kr 2).trans rfl
          have fra2 := blk_frozen kr 2
          have cqa2 : W0.cell? ⟨w.heap.size + 1, 2, none⟩ = some (.int .i64 0) := (blk_cell kq 2).trans rfl
          have fqa2 := blk_frozen kq 2
          have cra3 : W0.cell? ⟨w.heap.size, 3, none⟩ = some (.string ⟨#[]⟩) := (blk_cell kr 3).trans rfl
          have fra3 := blk_frozen kr 3
          have cqa3 : W0.cell? ⟨w.heap.size + 1, 3, none⟩ = some (.string ⟨#[]⟩) := (blk_cell kq 3).trans rfl
          have fqa3 := blk_frozen kq 3
          have cra4 : W0.cell? ⟨w.heap.size, 4, none⟩ = some (.string ⟨#[]⟩) := (blk_cell kr 4).trans rfl
          have fra4 := blk_frozen kr 4
          have cqa4 : W0.cell? ⟨w.heap.size + 1, 4, none⟩ = some (.string ⟨#[]⟩) := (blk_cell kq 4).trans rfl
          have fqa4 := blk_frozen kq 4
          rw [m1]
          cases ho : (piecesB 46 (metaC s).2.1).all (identOk false) with
          | true =>
            go_wp2_with (go_at_call 127; with_reducible refine (rident_any (metaC s).2.1 false _ b3.out).mono ?_; rintro e w3 ⟨rfl, hb3⟩; have crb0 : w3.cell? ⟨w.heap.size, 0, none⟩ = some (.int .i64 0) := (blk_cell (blk_below kr2 hb3) 0).trans rfl; have frb0 := blk_frozen (blk_below kr2 hb3) 0; have cqb0 : w3.cell? ⟨w.heap.size + 1, 0, none⟩ = some (.int .i64 0) := (blk_cell (blk_below kq2 hb3) 0).trans rfl; have fqb0 := blk_frozen (blk_below kq2 hb3) 0; have crb1 : w3.cell? ⟨w.heap.size, 1, none⟩ = some (.int .i64 0) := (blk_cell (blk_below kr2 hb3) 1).trans rfl; have frb1 := blk_frozen (blk_below kr2 hb3) 1; have cqb1 : w3.cell? ⟨w.heap.size + 1, 1, none⟩ = some (.int .i64 0) := (blk_cell (blk_below kq2 hb3) 1).trans rfl; have fqb1 := blk_frozen (blk_below kq2 hb3) 1; have crb2 : w3.cell? ⟨w.heap.size, 2, none⟩ = some (.int .i64 0) := (blk_cell (blk_below kr2 hb3) 2).trans rfl; have frb2 := blk_frozen (blk_below kr2 hb3) 2; have cqb2 : w3.cell? ⟨w.heap.size + 1, 2, none⟩ = some (.int .i64 0) := (blk_cell (blk_below kq2 hb3) 2).trans rfl; have fqb2 := blk_frozen (blk_below kq2 hb3) 2; have crb3 : w3.cell? ⟨w.heap.size, 3, none⟩ = some (.string ⟨#[]⟩) := (blk_cell (blk_below kr2 hb3) 3).trans rfl; have frb3 := blk_frozen (blk_below kr2 hb3) 3; have cqb3 : w3.cell? ⟨w.heap.size + 1, 3, none⟩ = some (.string ⟨#[]⟩) := (blk_cell (blk_below kq2 hb3) 3).trans rfl; have fqb3 := blk_frozen (blk_below kq2 hb3) 3; have crb4 : w3.cell? ⟨w.heap.size, 4, none⟩ = some (.string ⟨#[]⟩) := (blk_cell (blk_below kr2 hb3) 4).trans rfl; have frb4 := blk_frozen (blk_below kr2 hb3) 4; have cqb4 : w3.cell? ⟨w.heap.size + 1, 4, none⟩ = some (.string (metaC s).2.1) := (blk_cell (blk_below kq2 hb3) 4).trans rfl; have fqb4 := blk_frozen (blk_below kq2 hb3) 4)
            go_meet
            case rel => exact ⟨blk_below kr2 hb3, blk_below kq2 hb3, below_step hb2 hb3, by show _ = true; rw [ho, Bool.or_true]⟩
          | false =>
            go_wp2_with (go_at_call 127; with_reducible refine (rident_any (metaC s).2.1 false _ b3.out).mono ?_; rintro e w3 ⟨rfl, hb3⟩; have crb0 : w3.cell? ⟨w.heap.size, 0, none⟩ = some (.int .i64 0) := (blk_cell (blk_below kr2 hb3) 0).trans rfl; have frb0 := blk_frozen (blk_below kr2 hb3) 0; have cqb0 : w3.cell? ⟨w.heap.size + 1, 0, none⟩ = some (.int .i64 0) := (blk_cell (blk_below kq2 hb3) 0).trans rfl; have fqb0 := blk_frozen (blk_below kq2 hb3) 0; have crb1 : w3.cell? ⟨w.heap.size, 1, none⟩ = some (.int .i64 0) := (blk_cell (blk_below kr2 hb3) 1).trans rfl; have frb1 := blk_frozen (blk_below kr2 hb3) 1; have cqb1 : w3.cell? ⟨w.heap.size + 1, 1, none⟩ = some (.int .i64 0) := (blk_cell (blk_below kq2 hb3) 1).trans rfl; have fqb1 := blk_frozen (blk_below kq2 hb3) 1; have crb2 : w3.cell? ⟨w.heap.size, 2, none⟩ = some (.int .i64 0) := (blk_cell (blk_below kr2 hb3) 2).trans rfl; have frb2 := blk_frozen (blk_below kr2 hb3) 2; have cqb2 : w3.cell? ⟨w.heap.size + 1, 2, none⟩ = some (.int .i64 0) := (blk_cell (blk_below kq2 hb3) 2).trans rfl; have fqb2 := blk_frozen (blk_below kq2 hb3) 2; have crb3 : w3.cell? ⟨w.heap.size, 3, none⟩ = some (.string ⟨#[]⟩) := (blk_cell (blk_below kr2 hb3) 3).trans rfl; have frb3 := blk_frozen (blk_below kr2 hb3) 3; have cqb3 : w3.cell? ⟨w.heap.size + 1, 3, none⟩ = some (.string ⟨#[]⟩) := (blk_cell (blk_below kq2 hb3) 3).trans rfl; have fqb3 := blk_frozen (blk_below kq2 hb3) 3; have crb4 : w3.cell? ⟨w.heap.size, 4, none⟩ = some (.string ⟨#[]⟩) := (blk_cell (blk_below kr2 hb3) 4).trans rfl; have frb4 := blk_frozen (blk_below kr2 hb3) 4; have cqb4 : w3.cell? ⟨w.heap.size + 1, 4, none⟩ = some (.string (metaC s).2.1) := (blk_cell (blk_below kq2 hb3) 4).trans rfl; have fqb4 := blk_frozen (blk_below kq2 hb3) 4)
            have hver : Hid (verOk s = false) := hid_of (by rw [← rparse_eq]; simp [rparseOk, hm, ho])
            refine bodyPost_ret (results_ct rfl _ _ (w.heap.size) 120 #[.int .i64 0, .int .i64 0, .int .i64 0, .string ⟨#[]⟩, .string ⟨#[]⟩] (0, 0) _ rfl (blk_put (cs := #[.int .i64 0, .int .i64 0, .int .i64 0, .string ⟨#[]⟩, .string ⟨#[]⟩]) (blk_put (cs := #[.int .i64 0, .int .i64 0, .int .i64 0, .string ⟨#[]⟩, .string ⟨#[]⟩]) (blk_put (cs := #[.int .i64 0, .int .i64 0, .int .i64 0, .string ⟨#[]⟩, .string ⟨#[]⟩]) (blk_put (cs := #[.int .i64 0, .int .i64 0, .int .i64 0, .string ⟨#[]⟩, .string ⟨#[]⟩]) (blk_put (cs := #[.int .i64 0, .int .i64 0, .int .i64 0, .string ⟨#[]⟩, .string ⟨#[]⟩]) (blk_below kr2 hb3) 0 _ rfl) 1 _ rfl) 2 _ rfl) 3 _ rfl) 4 _ rfl) Tryz.underlying120 rfl (by kernel_rfl)) rfl ⟨?_, below_set (below_set (below_set (below_set (below_set (below_step hb2 hb3) (Nat.le_refl _)) (Nat.le_refl _)) (Nat.le_refl _)) (Nat.le_refl _)) (Nat.le_refl _)⟩
            rw [show numAt s 0 = 0 from if_neg (by rw [hver.out]; decide), show numAt s 1 = 0 from if_neg (by rw [hver.out]; decide), show numAt s 2 = 0 from if_neg (by rw [hver.out]; decide), show preB s = ⟨#[]⟩ from if_neg (by rw [hver.out]; decide), show metaB s = ⟨#[]⟩ from if_neg (by rw [hver.out]; decide), show verErr s = 30 from if_neg (by rw [hver.out]; decide)]
            rfl
      case rest =>
        clear kr kq hbW
        obtain ⟨kr, kq, hbW, hokm⟩ := hcut
        have q1 : (restB s).extract 0 (metaC s).1.size = (metaC s).1 := cut_head 43 (restB s)
        have q2 : ((metaC s).1.size : Int) ≤ ((restB s).size : Int) := by have := cut_piece_size 43 (restB s); show ((cutB 43 (restB s)).1.size : Int) ≤ _; omega
        go_upto_if 49 with (first | (go_at_call 125; with_reducible refine (rfind_dash s _ b2.out).mono ?_; rintro e w' ⟨rfl, n2, rfl⟩))
        obtain ⟨W1, hW1⟩ : ∃ W1, W1 = wc.drewN n2 := ⟨_, rfl⟩
        rw [← hW1]
        have kr : W1.heap[w.heap.size]? = some (.cells #[.int .i64 0, .int .i64 0, .int .i64 0, .string ⟨#[]⟩, .string ⟨#[]⟩] 120 (0, 0)) := by subst hW1; exact blk_drewN kr _
        have kq : W1.heap[w.heap.size + 1]? = some (.cells #[.int .i64 0, .int .i64 0, .int .i64 0, .string ⟨#[]⟩, .string (metaC s).2.1] 120 (0, 0)) := by subst hW1; exact blk_drewN kq _
        have hbW : Below w.heap.size w W1 := by subst hW1; exact pw_below_drewN hbW _
        clear hW1
        go_cut [] (fun wc => wc.heap[w.heap.size]? = some (.cells #[.int .i64 0, .int .i64 0, .int .i64 0, .string ⟨#[]⟩, .string ⟨#[]⟩] 120 (0, 0)) ∧ wc.heap[w.heap.size + 1]? = some (.cells #[.int .i64 0, .int .i64 0, .int .i64 0, .string (preC s).2.1, .string (metaC s).2.1] 120 (0, 0)) ∧ Below w.heap.size w wc ∧ Hid ((!(preC s).2.2 || (piecesB 46 (preC s).2.1).all (identOk true)) = true))
        case first =>
          cases hm : (preC s).2.2 with
          | false =>
            have e0 : (preC s).1 = (metaC s).1 := cut_not 45 (metaC s).1 hm
            have e1 : (preC s).2.1 = ⟨#[]⟩ := by
              rcases cut_cases 45 (metaC s).1 with e | ⟨i, hi, e⟩
              · show (cutB 45 (metaC s).1).2.1 = _; rw [e]; rfl
              · have : (cutB 45 (metaC s).1).2.2 = false := hm
                rw [e] at this; cases this
            have m1 : decide ((preC s).1.size < (metaC s).1.size) = false := decide_eq_false (by rw [e0]; omega)
            clear e0
            have E1 := Lib.hid e1
            clear e1
            rw [m1]
            go_wp2
            go_meet
            case rel => exact ⟨kr, by rw [E1.out]; exact kq, hbW, by show _ = true; rw [hm]; rfl⟩
          | true =>
            obtain ⟨m0, e1⟩ := cut_found 45 (metaC s).1 hm
            have m0 : (preC s).1.size < (metaC s).1.size := m0
            have e1 : (metaC s).1.extract ((preC s).1.size + 1) (metaC s).1.size = (preC s).2.1 := e1
            have m1 : decide ((preC s).1.size < (metaC s).1.size) = true := decide_eq_true m0
            have m2 : (0 : Int) ≤ ((preC s).1.size : Int) + 1 := by omega
            have m3 : ((preC s).1.size : Int) + 1 ≤ ((metaC s).1.size : Int) := by omega
            have b3 := Lib.hid (show (preC s).2.1.size ≤ 1099511627775 by rw [← e1, ByteArray.size_extract]; omega)
            have kq2 : (W1.setCell ⟨w.heap.size + 1, 3, none⟩ (.string (preC s).2.1)).heap[w.heap.size + 1]? = some (.cells #[.int .i64 0, .int .i64 0, .int .i64 0, .string (preC s).2.1, .string (metaC s).2.1] 120 (0, 0)) := blk_put (cs := #[.int .i64 0, .int .i64 0, .int .i64 0, .string ⟨#[]⟩, .string (metaC s).2.1]) kq 3 _ rfl
            have kr2 : (W1.setCell ⟨w.heap.size + 1, 3, none⟩ (.string (preC s).2.1)).heap[w.heap.size]? = some (.cells #[.int .i64 0, .int .i64 0, .int .i64 0, .string ⟨#[]⟩, .string ⟨#[]⟩] 120 (0, 0)) := blk_far kr (by show w.heap.size ≠ w.heap.size + 1; omega) _
            have hb2 : Below w.heap.size w (W1.setCell ⟨w.heap.size + 1, 3, none⟩ (.string (preC s).2.1)) := below_set hbW (by omega)
            have cra0 : W1.cell? ⟨w.heap.size, 0, none⟩ = some (.int .i64 0) := (blk_cell kr 0).trans rfl
            have fra0 := blk_frozen kr 0
            have cqa0 : W1.cell? ⟨w.heap.size + 1, 0, none⟩ = some (.int .i64 0) := (blk_cell kq 0).trans rfl
            have fqa0 := blk_frozen kq 0
            have cra1 : W1.cell? ⟨w.heap.size, 1, none⟩ = some (.int .i64 0) := (blk_cell kr 1).trans rfl
            have fra1 := blk_frozen kr 1
            have cqa1 : W1.cell? ⟨w.heap.size + 1, 1, none⟩ = some (.int .i64 0) := (blk_cell kq 1).trans rfl
            have fqa1 := blk_frozen kq 1
            have cra2 : W1.cell? ⟨w.heap.size, 2, none⟩ = some (.int .i64 0) := (blk_cell kr 2).trans rfl
            have fra2 := blk_frozen kr 2
            have cqa2 : W1.cell? ⟨w.heap.size + 1, 2, none⟩ = some (.int .i64 0) := (blk_cell kq 2).trans rfl
            have fqa2 := blk_frozen kq 2
            have cra3 : W1.cell? ⟨w.heap.size, 3, none⟩ = some (.string ⟨#[]⟩) := (blk_cell kr 3).trans rfl
            have fra3 := blk_frozen kr 3
            have cqa3 : W1.cell? ⟨w.heap.size + 1, 3, none⟩ = some (.string ⟨#[]⟩) := (blk_cell kq 3).trans rfl
            have fqa3 := blk_frozen kq 3
            have cra4 : W1.cell? ⟨w.heap.size, 4, none⟩ = some (.string ⟨#[]⟩) := (blk_cell kr 4).trans rfl
            have fra4 := blk_frozen kr 4
            have cqa4 : W1.cell? ⟨w.heap.size + 1, 4, none⟩ = some (.string (metaC s).2.1) := (blk_cell kq 4).trans rfl
            have fqa4 := blk_frozen kq 4
            rw [m1]
            cases ho : (piecesB 46 (preC s).2.1).all (identOk true) with
            | true =>
              go_wp2_with (go_at_call 127; with_reducible refine (rident_any (preC s).2.1 true _ b3.out).mono ?_; rintro e w3 ⟨rfl, hb3⟩; have crb0 : w3.cell? ⟨w.heap.size, 0, none⟩ = some (.int .i64 0) := (blk_cell (blk_below kr2 hb3) 0).trans rfl; have frb0 := blk_frozen (blk_below kr2 hb3) 0; have cqb0 : w3.cell? ⟨w.heap.size + 1, 0, none⟩ = some (.int .i64 0) := (blk_cell (blk_below kq2 hb3) 0).trans rfl; have fqb0 := blk_frozen (blk_below kq2 hb3) 0; have crb1 : w3.cell? ⟨w.heap.size, 1, none⟩ = some (.int .i64 0) := (blk_cell (blk_below kr2 hb3) 1).trans rfl; have frb1 := blk_frozen (blk_below kr2 hb3) 1; have cqb1 : w3.cell? ⟨w.heap.size + 1, 1, none⟩ = some (.int .i64 0) := (blk_cell (blk_below kq2 hb3) 1).trans rfl; have fqb1 := blk_frozen (blk_below kq2 hb3) 1; have crb2 : w3.cell? ⟨w.heap.size, 2, none⟩ = some (.int .i64 0) := (blk_cell (blk_below kr2 hb3) 2).trans rfl; have frb2 := blk_frozen (blk_below kr2 hb3) 2; have cqb2 : w3.cell? ⟨w.heap.size + 1, 2, none⟩ = some (.int .i64 0) := (blk_cell (blk_below kq2 hb3) 2).trans rfl; have fqb2 := blk_frozen (blk_below kq2 hb3) 2; have crb3 : w3.cell? ⟨w.heap.size, 3, none⟩ = some (.string ⟨#[]⟩) := (blk_cell (blk_below kr2 hb3) 3).trans rfl; have frb3 := blk_frozen (blk_below kr2 hb3) 3; have cqb3 : w3.cell? ⟨w.heap.size + 1, 3, none⟩ = some (.string (preC s).2.1) := (blk_cell (blk_below kq2 hb3) 3).trans rfl; have fqb3 := blk_frozen (blk_below kq2 hb3) 3; have crb4 : w3.cell? ⟨w.heap.size, 4, none⟩ = some (.string ⟨#[]⟩) := (blk_cell (blk_below kr2 hb3) 4).trans rfl; have frb4 := blk_frozen (blk_below kr2 hb3) 4; have cqb4 : w3.cell? ⟨w.heap.size + 1, 4, none⟩ = some (.string (metaC s).2.1) := (blk_cell (blk_below kq2 hb3) 4).trans rfl; have fqb4 := blk_frozen (blk_below kq2 hb3) 4)
              go_meet
              case rel => exact ⟨blk_below kr2 hb3, blk_below kq2 hb3, below_step hb2 hb3, by show _ = true; rw [ho, Bool.or_true]⟩
            | false =>
              go_wp2_with (go_at_call 127; with_reducible refine (rident_any (preC s).2.1 true _ b3.out).mono ?_; rintro e w3 ⟨rfl, hb3⟩; have crb0 : w3.cell? ⟨w.heap.size, 0, none⟩ = some (.int .i64 0) := (blk_cell (blk_below kr2 hb3) 0).trans rfl; have frb0 := blk_frozen (blk_below kr2 hb3) 0; have cqb0 : w3.cell? ⟨w.heap.size + 1, 0, none⟩ = some (.int .i64 0) := (blk_cell (blk_below kq2 hb3) 0).trans rfl; have fqb0 := blk_frozen (blk_below kq2 hb3) 0; have crb1 : w3.cell? ⟨w.heap.size, 1, none⟩ = some (.int .i64 0) := (blk_cell (blk_below kr2 hb3) 1).trans rfl; have frb1 := blk_frozen (blk_below kr2 hb3) 1; have cqb1 : w3.cell? ⟨w.heap.size + 1, 1, none⟩ = some (.int .i64 0) := (blk_cell (blk_below kq2 hb3) 1).trans rfl; have fqb1 := blk_frozen (blk_below kq2 hb3) 1; have crb2 : w3.cell? ⟨w.heap.size, 2, none⟩ = some (.int .i64 0) := (blk_cell (blk_below kr2 hb3) 2).trans rfl; have frb2 := blk_frozen (blk_below kr2 hb3) 2; have cqb2 : w3.cell? ⟨w.heap.size + 1, 2, none⟩ = some (.int .i64 0) := (blk_cell (blk_below kq2 hb3) 2).trans rfl; have fqb2 := blk_frozen (blk_below kq2 hb3) 2; have crb3 : w3.cell? ⟨w.heap.size, 3, none⟩ = some (.string ⟨#[]⟩) := (blk_cell (blk_below kr2 hb3) 3).trans rfl; have frb3 := blk_frozen (blk_below kr2 hb3) 3; have cqb3 : w3.cell? ⟨w.heap.size + 1, 3, none⟩ = some (.string (preC s).2.1) := (blk_cell (blk_below kq2 hb3) 3).trans rfl; have fqb3 := blk_frozen (blk_below kq2 hb3) 3; have crb4 : w3.cell? ⟨w.heap.size, 4, none⟩ = some (.string ⟨#[]⟩) := (blk_cell (blk_below kr2 hb3) 4).trans rfl; have frb4 := blk_frozen (blk_below kr2 hb3) 4; have cqb4 : w3.cell? ⟨w.heap.size + 1, 4, none⟩ = some (.string (metaC s).2.1) := (blk_cell (blk_below kq2 hb3) 4).trans rfl; have fqb4 := blk_frozen (blk_below kq2 hb3) 4)
              have hver : Hid (verOk s = false) := hid_of (by rw [← rparse_eq]; simp [rparseOk, hm, ho])
              refine bodyPost_ret (results_ct rfl _ _ (w.heap.size) 120 #[.int .i64 0, .int .i64 0, .int .i64 0, .string ⟨#[]⟩, .string ⟨#[]⟩] (0, 0) _ rfl (blk_put (cs := #[.int .i64 0, .int .i64 0, .int .i64 0, .string ⟨#[]⟩, .string ⟨#[]⟩]) (blk_put (cs := #[.int .i64 0, .int .i64 0, .int .i64 0, .string ⟨#[]⟩, .string ⟨#[]⟩]) (blk_put (cs := #[.int .i64 0, .int .i64 0, .int .i64 0, .string ⟨#[]⟩, .string ⟨#[]⟩]) (blk_put (cs := #[.int .i64 0, .int .i64 0, .int .i64 0, .string ⟨#[]⟩, .string ⟨#[]⟩]) (blk_put (cs := #[.int .i64 0, .int .i64 0, .int .i64 0, .string ⟨#[]⟩, .string ⟨#[]⟩]) (blk_below kr2 hb3) 0 _ rfl) 1 _ rfl) 2 _ rfl) 3 _ rfl) 4 _ rfl) Tryz.underlying120 rfl (by kernel_rfl)) rfl ⟨?_, below_set (below_set (below_set (below_set (below_set (below_step hb2 hb3) (Nat.le_refl _)) (Nat.le_refl _)) (Nat.le_refl _)) (Nat.le_refl _)) (Nat.le_refl _)⟩
              rw [show numAt s 0 = 0 from if_neg (by rw [hver.out]; decide), show numAt s 1 = 0 from if_neg (by rw [hver.out]; decide), show numAt s 2 = 0 from if_neg (by rw [hver.out]; decide), show preB s = ⟨#[]⟩ from if_neg (by rw [hver.out]; decide), show metaB s = ⟨#[]⟩ from if_neg (by rw [hver.out]; decide), show verErr s = 30 from if_neg (by rw [hver.out]; decide)]
              rfl
        case rest =>
          obtain ⟨kr, kq, hbW, hokp⟩ := hcut
          have hr3 : (preC s).1.size ≤ 60 := Nat.le_trans (cut_piece_size _ _) hr2
          have b3 := Lib.hid (show (preC s).1.size ≤ 1099511627775 by omega)
          have p1 : (metaC s).1.extract 0 (preC s).1.size = (preC s).1 := cut_head 45 (metaC s).1
          have p2 : ((preC s).1.size : Int) ≤ ((metaC s).1.size : Int) := by have := cut_piece_size 45 (metaC s).1; show ((cutB 45 (metaC s).1).1.size : Int) ≤ _; omega
          by_cases hl : (idsB s).length = 3
          · obtain ⟨ia, ib, ic, habc⟩ : ∃ a b c, idsB s = [a, b, c] := by
              generalize idsB s = L at hl
              match L, hl with
              | [a, b, c], _ => exact ⟨a, b, c, rfl⟩
            have HL := Lib.hid hl
            clear hl
            have si : ∀ x, x ∈ idsB s → x.size ≤ 1099511627775 := fun x hx => Nat.le_trans (piece_size hx) (by omega)
            have sa := Lib.hid (si ia (by rw [habc]; simp))
            have sb := Lib.hid (si ib (by rw [habc]; simp))
            have sc := Lib.hid (si ic (by rw [habc]; simp))
            clear si
            have HAB := Lib.hid habc
            clear habc
            by_cases oa : numOk ia = true
            · have na : decide (numberB ia < 0) = false := numberB_ok oa
              by_cases ob : numOk ib = true
              · have nb : decide (numberB ib < 0) = false := numberB_ok ob
                by_cases oc : numOk ic = true
                · have nc : decide (numberB ic < 0) = false := numberB_ok oc
                  go_wp2_with (first | (go_at_call 101; with_reducible refine (rsplit_ids s _ b3.out).mono ?_; rintro e w3 ⟨v, rfl, hR, hb3⟩; have kr3 := blk_below kr hb3; have kq3 := blk_below kq hb3; rw [HAB.out] at hR; obtain ⟨g, cap, hvg, hgb, hgl, _⟩ := Kd.R_form hR (by simp); subst hvg; have gne1 : g ≠ w.heap.size + 1 := (by have := blk_lt kq; omega); have gne2 : w.heap.size + 1 ≠ g := (by omega); have hg0 : w3.cell? ⟨g, 0, none⟩ = some (.string ia) := (str_cell hR 0 (by simp)).trans rfl; have hg1 : w3.cell? ⟨g, 1, none⟩ = some (.string ib) := (str_cell hR 1 (by simp)).trans rfl; have hg2 : w3.cell? ⟨g, 2, none⟩ = some (.string ic) := (str_cell hR 2 (by simp)).trans rfl; have crb0 : w3.cell? ⟨w.heap.size, 0, none⟩ = some (.int .i64 0) := (blk_cell kr3 0).trans rfl; have frb0 := blk_frozen kr3 0; have cqb0 : w3.cell? ⟨w.heap.size + 1, 0, none⟩ = some (.int .i64 0) := (blk_cell kq3 0).trans rfl; have fqb0 := blk_frozen kq3 0; have crb1 : w3.cell? ⟨w.heap.size, 1, none⟩ = some (.int .i64 0) := (blk_cell kr3 1).trans rfl; have frb1 := blk_frozen kr3 1; have cqb1 : w3.cell? ⟨w.heap.size + 1, 1, none⟩ = some (.int .i64 0) := (blk_cell kq3 1).trans rfl; have fqb1 := blk_frozen kq3 1; have crb2 : w3.cell? ⟨w.heap.size, 2, none⟩ = some (.int .i64 0) := (blk_cell kr3 2).trans rfl; have frb2 := blk_frozen kr3 2; have cqb2 : w3.cell? ⟨w.heap.size + 1, 2, none⟩ = some (.int .i64 0) := (blk_cell kq3 2).trans rfl; have fqb2 := blk_frozen kq3 2; have crb3 : w3.cell? ⟨w.heap.size, 3, none⟩ = some (.string ⟨#[]⟩) := (blk_cell kr3 3).trans rfl; have frb3 := blk_frozen kr3 3; have cqb3 : w3.cell? ⟨w.heap.size + 1, 3, none⟩ = some (.string (preC s).2.1) := (blk_cell kq3 3).trans rfl; have fqb3 := blk_frozen kq3 3; have crb4 : w3.cell? ⟨w.heap.size, 4, none⟩ = some (.string ⟨#[]⟩) := (blk_cell kr3 4).trans rfl; have frb4 := blk_frozen kr3 4; have cqb4 : w3.cell? ⟨w.heap.size + 1, 4, none⟩ = some (.string (metaC s).2.1) := (blk_cell kq3 4).trans rfl; have fqb4 := blk_frozen kq3 4) | (go_at_call 67; first | (with_reducible refine (rnumber_any ia _ sa.out).mono ?_; rintro e w' ⟨rfl, k1, rfl⟩) | (with_reducible refine (rnumber_any ib _ sb.out).mono ?_; rintro e w' ⟨rfl, k2, rfl⟩) | (with_reducible refine (rnumber_any ic _ sc.out).mono ?_; rintro e w' ⟨rfl, k3, rfl⟩)))
                  refine bodyPost_ret (results_ct rfl _ _ w.heap.size 120 #[.int .i64 (numberB ia), .int .i64 (numberB ib), .int .i64 (numberB ic), .string (preC s).2.1, .string (metaC s).2.1] (0, 0) _ rfl (blk_put (cs := #[.int .i64 (numberB ia), .int .i64 (numberB ib), .int .i64 (numberB ic), .string (preC s).2.1, .string ⟨#[]⟩]) (cs' := #[.int .i64 (numberB ia), .int .i64 (numberB ib), .int .i64 (numberB ic), .string (preC s).2.1, .string (metaC s).2.1]) (blk_put (cs := #[.int .i64 (numberB ia), .int .i64 (numberB ib), .int .i64 (numberB ic), .string ⟨#[]⟩, .string ⟨#[]⟩]) (cs' := #[.int .i64 (numberB ia), .int .i64 (numberB ib), .int .i64 (numberB ic), .string (preC s).2.1, .string ⟨#[]⟩]) (blk_put (cs := #[.int .i64 (numberB ia), .int .i64 (numberB ib), .int .i64 0, .string ⟨#[]⟩, .string ⟨#[]⟩]) (cs' := #[.int .i64 (numberB ia), .int .i64 (numberB ib), .int .i64 (numberB ic), .string ⟨#[]⟩, .string ⟨#[]⟩]) (blk_put (cs := #[.int .i64 (numberB ia), .int .i64 0, .int .i64 0, .string ⟨#[]⟩, .string ⟨#[]⟩]) (cs' := #[.int .i64 (numberB ia), .int .i64 (numberB ib), .int .i64 0, .string ⟨#[]⟩, .string ⟨#[]⟩]) (blk_put (cs := #[.int .i64 0, .int .i64 0, .int .i64 0, .string ⟨#[]⟩, .string ⟨#[]⟩]) (cs' := #[.int .i64 (numberB ia), .int .i64 0, .int .i64 0, .string ⟨#[]⟩, .string ⟨#[]⟩]) ((blk_far (blk_drewN (blk_far (blk_drewN (blk_far (blk_drewN kr3 _) (by show w.heap.size ≠ w.heap.size + 1; omega) _) _) (by show w.heap.size ≠ w.heap.size + 1; omega) _) _) (by show w.heap.size ≠ w.heap.size + 1; omega) _)) 0 _ rfl) 1 _ rfl) 2 _ rfl) 3 _ rfl) 4 _ rfl) Tryz.underlying120 rfl (by kernel_rfl)) rfl ⟨?_, below_set (below_set (below_set (below_set (below_set (below_set (pw_below_drewN (below_set (pw_below_drewN (below_set (pw_below_drewN (below_step hbW hb3) _) (by omega)) _) (by omega)) _) (by omega)) (Nat.le_refl _)) (Nat.le_refl _)) (Nat.le_refl _)) (Nat.le_refl _)) (Nat.le_refl _)⟩
                  have hver : Hid (verOk s = true) := hid_of (by rw [← rparse_eq]; have e1 := hokm.out; have e2 := hokp.out; have e3 := HAB.out; simp only [rparseOk, hp, decide_eq_true h1, e1, e2, e3, Bool.true_and]; simp [oa, ob, oc])
                  rw [show numAt s 0 = numberB ia from (if_pos hver.out).trans (by rw [HAB.out]; exact numV_ok oa), show numAt s 1 = numberB ib from (if_pos hver.out).trans (by rw [HAB.out]; exact numV_ok ob), show numAt s 2 = numberB ic from (if_pos hver.out).trans (by rw [HAB.out]; exact numV_ok oc), show preB s = (preC s).2.1 from if_pos hver.out, show metaB s = (metaC s).2.1 from if_pos hver.out, show verErr s = 0 from if_pos hver.out]
                  rfl
                · have nc : decide (numberB ic < 0) = true := numberB_no oc
                  have hver : Hid (verOk s = false) := hid_of (by rw [← rparse_eq]; have := HAB.out; simp [rparseOk, this, oc])
                  clear oc
                  go_wp2_with (first | (go_at_call 101; with_reducible refine (rsplit_ids s _ b3.out).mono ?_; rintro e w3 ⟨v, rfl, hR, hb3⟩; have kr3 := blk_below kr hb3; have kq3 := blk_below kq hb3; rw [HAB.out] at hR; obtain ⟨g, cap, hvg, hgb, hgl, _⟩ := Kd.R_form hR (by simp); subst hvg; have gne1 : g ≠ w.heap.size + 1 := (by have := blk_lt kq; omega); have gne2 : w.heap.size + 1 ≠ g := (by omega); have hg0 : w3.cell? ⟨g, 0, none⟩ = some (.string ia) := (str_cell hR 0 (by simp)).trans rfl; have hg1 : w3.cell? ⟨g, 1, none⟩ = some (.string ib) := (str_cell hR 1 (by simp)).trans rfl; have hg2 : w3.cell? ⟨g, 2, none⟩ = some (.string ic) := (str_cell hR 2 (by simp)).trans rfl; have crb0 : w3.cell? ⟨w.heap.size, 0, none⟩ = some (.int .i64 0) := (blk_cell kr3 0).trans rfl; have frb0 := blk_frozen kr3 0; have cqb0 : w3.cell? ⟨w.heap.size + 1, 0, none⟩ = some (.int .i64 0) := (blk_cell kq3 0).trans rfl; have fqb0 := blk_frozen kq3 0; have crb1 : w3.cell? ⟨w.heap.size, 1, none⟩ = some (.int .i64 0) := (blk_cell kr3 1).trans rfl; have frb1 := blk_frozen kr3 1; have cqb1 : w3.cell? ⟨w.heap.size + 1, 1, none⟩ = some (.int .i64 0) := (blk_cell kq3 1).trans rfl; have fqb1 := blk_frozen kq3 1; have crb2 : w3.cell? ⟨w.heap.size, 2, none⟩ = some (.int .i64 0) := (blk_cell kr3 2).trans rfl; have frb2 := blk_frozen kr3 2; have cqb2 : w3.cell? ⟨w.heap.size + 1, 2, none⟩ = some (.int .i64 0) := (blk_cell kq3 2).trans rfl; have fqb2 := blk_frozen kq3 2; have crb3 : w3.cell? ⟨w.heap.size, 3, none⟩ = some (.string ⟨#[]⟩) := (blk_cell kr3 3).trans rfl; have frb3 := blk_frozen kr3 3; have cqb3 : w3.cell? ⟨w.heap.size + 1, 3, none⟩ = some (.string (preC s).2.1) := (blk_cell kq3 3).trans rfl; have fqb3 := blk_frozen kq3 3; have crb4 : w3.cell? ⟨w.heap.size, 4, none⟩ = some (.string ⟨#[]⟩) := (blk_cell kr3 4).trans rfl; have frb4 := blk_frozen kr3 4; have cqb4 : w3.cell? ⟨w.heap.size + 1, 4, none⟩ = some (.string (metaC s).2.1) := (blk_cell kq3 4).trans rfl; have fqb4 := blk_frozen kq3 4) | (go_at_call 67; first | (with_reducible refine (rnumber_any ia _ sa.out).mono ?_; rintro e w' ⟨rfl, k1, rfl⟩) | (with_reducible refine (rnumber_any ib _ sb.out).mono ?_; rintro e w' ⟨rfl, k2, rfl⟩) | (with_reducible refine (rnumber_any ic _ sc.out).mono ?_; rintro e w' ⟨rfl, k3, rfl⟩)))
                  refine bodyPost_ret (results_ct rfl _ _ (w.heap.size) 120 #[.int .i64 0, .int .i64 0, .int .i64 0, .string ⟨#[]⟩, .string ⟨#[]⟩] (0, 0) _ rfl (blk_put (cs := #[.int .i64 0, .int .i64 0, .int .i64 0, .string ⟨#[]⟩, .string ⟨#[]⟩]) (blk_put (cs := #[.int .i64 0, .int .i64 0, .int .i64 0, .string ⟨#[]⟩, .string ⟨#[]⟩]) (blk_put (cs := #[.int .i64 0, .int .i64 0, .int .i64 0, .string ⟨#[]⟩, .string ⟨#[]⟩]) (blk_put (cs := #[.int .i64 0, .int .i64 0, .int .i64 0, .string ⟨#[]⟩, .string ⟨#[]⟩]) (blk_put (cs := #[.int .i64 0, .int .i64 0, .int .i64 0, .string ⟨#[]⟩, .string ⟨#[]⟩]) (blk_far (blk_drewN (blk_far (blk_drewN (blk_far (blk_drewN kr3 _) (by show w.heap.size ≠ w.heap.size + 1; omega) _) _) (by show w.heap.size ≠ w.heap.size + 1; omega) _) _) (by show w.heap.size ≠ w.heap.size + 1; omega) _) 0 _ rfl) 1 _ rfl) 2 _ rfl) 3 _ rfl) 4 _ rfl) Tryz.underlying120 rfl (by kernel_rfl)) rfl ⟨?_, below_set (below_set (below_set (below_set (below_set (below_set (pw_below_drewN (below_set (pw_below_drewN (below_set (pw_below_drewN (below_step hbW hb3) _) (by omega)) _) (by omega)) _) (by omega)) (Nat.le_refl _)) (Nat.le_refl _)) (Nat.le_refl _)) (Nat.le_refl _)) (Nat.le_refl _)⟩
                  rw [show numAt s 0 = 0 from if_neg (by rw [hver.out]; decide), show numAt s 1 = 0 from if_neg (by rw [hver.out]; decide), show numAt s 2 = 0 from if_neg (by rw [hver.out]; decide), show preB s = ⟨#[]⟩ from if_neg (by rw [hver.out]; decide), show metaB s = ⟨#[]⟩ from if_neg (by rw [hver.out]; decide), show verErr s = 30 from if_neg (by rw [hver.out]; decide)]
                  rfl
              · have nb : decide (numberB ib < 0) = true := numberB_no ob
                have hver : Hid (verOk s = false) := hid_of (by rw [← rparse_eq]; have := HAB.out; simp [rparseOk, this, ob])
                clear ob
                go_wp2_with (first | (go_at_call 101; with_reducible refine (rsplit_ids s _ b3.out).mono ?_; rintro e w3 ⟨v, rfl, hR, hb3⟩; have kr3 := blk_below kr hb3; have kq3 := blk_below kq hb3; rw [HAB.out] at hR; obtain ⟨g, cap, hvg, hgb, hgl, _⟩ := Kd.R_form hR (by simp); subst hvg; have gne1 : g ≠ w.heap.size + 1 := (by have := blk_lt kq; omega); have gne2 : w.heap.size + 1 ≠ g := (by omega); have hg0 : w3.cell? ⟨g, 0, none⟩ = some (.string ia) := (str_cell hR 0 (by simp)).trans rfl; have hg1 : w3.cell? ⟨g, 1, none⟩ = some (.string ib) := (str_cell hR 1 (by simp)).trans rfl; have hg2 : w3.cell? ⟨g, 2, none⟩ = some (.string ic) := (str_cell hR 2 (by simp)).trans rfl; have crb0 : w3.cell? ⟨w.heap.size, 0, none⟩ = some (.int .i64 0) := (blk_cell kr3 0).trans rfl; have frb0 := blk_frozen kr3 0; have cqb0 : w3.cell? ⟨w.heap.size + 1, 0, none⟩ = some (.int .i64 0) := (blk_cell kq3 0).trans rfl; have fqb0 := blk_frozen kq3 0; have crb1 : w3.cell? ⟨w.heap.size, 1, none⟩ = some (.int .i64 0) := (blk_cell kr3 1).trans rfl; have frb1 := blk_frozen kr3 1; have cqb1 : w3.cell? ⟨w.heap.size + 1, 1, none⟩ = some (.int .i64 0) := (blk_cell kq3 1).trans rfl; have fqb1 := blk_frozen kq3 1; have crb2 : w3.cell? ⟨w.heap.size, 2, none⟩ = some (.int .i64 0) := (blk_cell kr3 2).trans rfl; have frb2 := blk_frozen kr3 2; have cqb2 : w3.cell? ⟨w.heap.size + 1, 2, none⟩ = some (.int .i64 0) := (blk_cell kq3 2).trans rfl; have fqb2 := blk_frozen kq3 2; have crb3 : w3.cell? ⟨w.heap.size, 3, none⟩ = some (.string ⟨#[]⟩) := (blk_cell kr3 3).trans rfl; have frb3 := blk_frozen kr3 3; have cqb3 : w3.cell? ⟨w.heap.size + 1, 3, none⟩ = some (.string (preC s).2.1) := (blk_cell kq3 3).trans rfl; have fqb3 := blk_frozen kq3 3; have crb4 : w3.cell? ⟨w.heap.size, 4, none⟩ = some (.string ⟨#[]⟩) := (blk_cell kr3 4).trans rfl; have frb4 := blk_frozen kr3 4; have cqb4 : w3.cell? ⟨w.heap.size + 1, 4, none⟩ = some (.string (metaC s).2.1) := (blk_cell kq3 4).trans rfl; have fqb4 := blk_frozen kq3 4) | (go_at_call 67; first | (with_reducible refine (rnumber_any ia _ sa.out).mono ?_; rintro e w' ⟨rfl, k1, rfl⟩) | (with_reducible refine (rnumber_any ib _ sb.out).mono ?_; rintro e w' ⟨rfl, k2, rfl⟩) | (with_reducible refine (rnumber_any ic _ sc.out).mono ?_; rintro e w' ⟨rfl, k3, rfl⟩)))
                refine bodyPost_ret (results_ct rfl _ _ (w.heap.size) 120 #[.int .i64 0, .int .i64 0, .int .i64 0, .string ⟨#[]⟩, .string ⟨#[]⟩] (0, 0) _ rfl (blk_put (cs := #[.int .i64 0, .int .i64 0, .int .i64 0, .string ⟨#[]⟩, .string ⟨#[]⟩]) (blk_put (cs := #[.int .i64 0, .int .i64 0, .int .i64 0, .string ⟨#[]⟩, .string ⟨#[]⟩]) (blk_put (cs := #[.int .i64 0, .int .i64 0, .int .i64 0, .string ⟨#[]⟩, .string ⟨#[]⟩]) (blk_put (cs := #[.int .i64 0, .int .i64 0, .int .i64 0, .string ⟨#[]⟩, .string ⟨#[]⟩]) (blk_put (cs := #[.int .i64 0, .int .i64 0, .int .i64 0, .string ⟨#[]⟩, .string ⟨#[]⟩]) (blk_far (blk_drewN (blk_far (blk_drewN (blk_far (blk_drewN kr3 _) (by show w.heap.size ≠ w.heap.size + 1; omega) _) _) (by show w.heap.size ≠ w.heap.size + 1; omega) _) _) (by show w.heap.size ≠ w.heap.size + 1; omega) _) 0 _ rfl) 1 _ rfl) 2 _ rfl) 3 _ rfl) 4 _ rfl) Tryz.underlying120 rfl (by kernel_rfl)) rfl ⟨?_, below_set (below_set (below_set (below_set (below_set (below_set (pw_below_drewN (below_set (pw_below_drewN (below_set (pw_below_drewN (below_step hbW hb3) _) (by omega)) _) (by omega)) _) (by omega)) (Nat.le_refl _)) (Nat.le_refl _)) (Nat.le_refl _)) (Nat.le_refl _)) (Nat.le_refl _)⟩
                rw [show numAt s 0 = 0 from if_neg (by rw [hver.out]; decide), show numAt s 1 = 0 from if_neg (by rw [hver.out]; decide), show numAt s 2 = 0 from if_neg (by rw [hver.out]; decide), show preB s = ⟨#[]⟩ from if_neg (by rw [hver.out]; decide), show metaB s = ⟨#[]⟩ from if_neg (by rw [hver.out]; decide), show verErr s = 30 from if_neg (by rw [hver.out]; decide)]
                rfl
            · have na : decide (numberB ia < 0) = true := numberB_no oa
              have hver : Hid (verOk s = false) := hid_of (by rw [← rparse_eq]; have := HAB.out; simp [rparseOk, this, oa])
              clear oa
              go_wp2_with (first | (go_at_call 101; with_reducible refine (rsplit_ids s _ b3.out).mono ?_; rintro e w3 ⟨v, rfl, hR, hb3⟩; have kr3 := blk_below kr hb3; have kq3 := blk_below kq hb3; rw [HAB.out] at hR; obtain ⟨g, cap, hvg, hgb, hgl, _⟩ := Kd.R_form hR (by simp); subst hvg; have gne1 : g ≠ w.heap.size + 1 := (by have := blk_lt kq; omega); have gne2 : w.heap.size + 1 ≠ g := (by omega); have hg0 : w3.cell? ⟨g, 0, none⟩ = some (.string ia) := (str_cell hR 0 (by simp)).trans rfl; have hg1 : w3.cell? ⟨g, 1, none⟩ = some (.string ib) := (str_cell hR 1 (by simp)).trans rfl; have hg2 : w3.cell? ⟨g, 2, none⟩ = some (.string ic) := (str_cell hR 2 (by simp)).trans rfl; have crb0 : w3.cell? ⟨w.heap.size, 0, none⟩ = some (.int .i64 0) := (blk_cell kr3 0).trans rfl; have frb0 := blk_frozen kr3 0; have cqb0 : w3.cell? ⟨w.heap.size + 1, 0, none⟩ = some (.int .i64 0) := (blk_cell kq3 0).trans rfl; have fqb0 := blk_frozen kq3 0; have crb1 : w3.cell? ⟨w.heap.size, 1, none⟩ = some (.int .i64 0) := (blk_cell kr3 1).trans rfl; have frb1 := blk_frozen kr3 1; have cqb1 : w3.cell? ⟨w.heap.size + 1, 1, none⟩ = some (.int .i64 0) := (blk_cell kq3 1).trans rfl; have fqb1 := blk_frozen kq3 1; have crb2 : w3.cell? ⟨w.heap.size, 2, none⟩ = some (.int .i64 0) := (blk_cell kr3 2).trans rfl; have frb2 := blk_frozen kr3 2; have cqb2 : w3.cell? ⟨w.heap.size + 1, 2, none⟩ = some (.int .i64 0) := (blk_cell kq3 2).trans rfl; have fqb2 := blk_frozen kq3 2; have crb3 : w3.cell? ⟨w.heap.size, 3, none⟩ = some (.string ⟨#[]⟩) := (blk_cell kr3 3).trans rfl; have frb3 := blk_frozen kr3 3; have cqb3 : w3.cell? ⟨w.heap.size + 1, 3, none⟩ = some (.string (preC s).2.1) := (blk_cell kq3 3).trans rfl; have fqb3 := blk_frozen kq3 3; have crb4 : w3.cell? ⟨w.heap.size, 4, none⟩ = some (.string ⟨#[]⟩) := (blk_cell kr3 4).trans rfl; have frb4 := blk_frozen kr3 4; have cqb4 : w3.cell? ⟨w.heap.size + 1, 4, none⟩ = some (.string (metaC s).2.1) := (blk_cell kq3 4).trans rfl; have fqb4 := blk_frozen kq3 4) | (go_at_call 67; first | (with_reducible refine (rnumber_any ia _ sa.out).mono ?_; rintro e w' ⟨rfl, k1, rfl⟩) | (with_reducible refine (rnumber_any ib _ sb.out).mono ?_; rintro e w' ⟨rfl, k2, rfl⟩) | (with_reducible refine (rnumber_any ic _ sc.out).mono ?_; rintro e w' ⟨rfl, k3, rfl⟩)))
              refine bodyPost_ret (results_ct rfl _ _ (w.heap.size) 120 #[.int .i64 0, .int .i64 0, .int .i64 0, .string ⟨#[]⟩, .string ⟨#[]⟩] (0, 0) _ rfl (blk_put (cs := #[.int .i64 0, .int .i64 0, .int .i64 0, .string ⟨#[]⟩, .string ⟨#[]⟩]) (blk_put (cs := #[.int .i64 0, .int .i64 0, .int .i64 0, .string ⟨#[]⟩, .string ⟨#[]⟩]) (blk_put (cs := #[.int .i64 0, .int .i64 0, .int .i64 0, .string ⟨#[]⟩, .string ⟨#[]⟩]) (blk_put (cs := #[.int .i64 0, .int .i64 0, .int .i64 0, .string ⟨#[]⟩, .string ⟨#[]⟩]) (blk_put (cs := #[.int .i64 0, .int .i64 0, .int .i64 0, .string ⟨#[]⟩, .string ⟨#[]⟩]) (blk_far (blk_drewN (blk_far (blk_drewN (blk_far (blk_drewN kr3 _) (by show w.heap.size ≠ w.heap.size + 1; omega) _) _) (by show w.heap.size ≠ w.heap.size + 1; omega) _) _) (by show w.heap.size ≠ w.heap.size + 1; omega) _) 0 _ rfl) 1 _ rfl) 2 _ rfl) 3 _ rfl) 4 _ rfl) Tryz.underlying120 rfl (by kernel_rfl)) rfl ⟨?_, below_set (below_set (below_set (below_set (below_set (below_set (pw_below_drewN (below_set (pw_below_drewN (below_set (pw_below_drewN (below_step hbW hb3) _) (by omega)) _) (by omega)) _) (by omega)) (Nat.le_refl _)) (Nat.le_refl _)) (Nat.le_refl _)) (Nat.le_refl _)) (Nat.le_refl _)⟩
              rw [show numAt s 0 = 0 from if_neg (by rw [hver.out]; decide), show numAt s 1 = 0 from if_neg (by rw [hver.out]; decide), show numAt s 2 = 0 from if_neg (by rw [hver.out]; decide), show preB s = ⟨#[]⟩ from if_neg (by rw [hver.out]; decide), show metaB s = ⟨#[]⟩ from if_neg (by rw [hver.out]; decide), show verErr s = 30 from if_neg (by rw [hver.out]; decide)]
              rfl
          · have hl' : (((idsB s).length : Int) != 3) = true := by simpa using fun e : ((idsB s).length : Int) = 3 => hl (by omega)
            go_wp2_with (go_at_call 101; with_reducible refine (rsplit_ids s _ b3.out).mono ?_; rintro e w3 ⟨v, rfl, hR, hb3⟩; have kr3 := blk_below kr hb3; have kq3 := blk_below kq hb3; obtain ⟨Ao, co, rfl⟩ := Kd.R_slice hR; have crb0 : w3.cell? ⟨w.heap.size, 0, none⟩ = some (.int .i64 0) := (blk_cell kr3 0).trans rfl; have frb0 := blk_frozen kr3 0; have cqb0 : w3.cell? ⟨w.heap.size + 1, 0, none⟩ = some (.int .i64 0) := (blk_cell kq3 0).trans rfl; have fqb0 := blk_frozen kq3 0; have crb1 : w3.cell? ⟨w.heap.size, 1, none⟩ = some (.int .i64 0) := (blk_cell kr3 1).trans rfl; have frb1 := blk_frozen kr3 1; have cqb1 : w3.cell? ⟨w.heap.size + 1, 1, none⟩ = some (.int .i64 0) := (blk_cell kq3 1).trans rfl; have fqb1 := blk_frozen kq3 1; have crb2 : w3.cell? ⟨w.heap.size, 2, none⟩ = some (.int .i64 0) := (blk_cell kr3 2).trans rfl; have frb2 := blk_frozen kr3 2; have cqb2 : w3.cell? ⟨w.heap.size + 1, 2, none⟩ = some (.int .i64 0) := (blk_cell kq3 2).trans rfl; have fqb2 := blk_frozen kq3 2; have crb3 : w3.cell? ⟨w.heap.size, 3, none⟩ = some (.string ⟨#[]⟩) := (blk_cell kr3 3).trans rfl; have frb3 := blk_frozen kr3 3; have cqb3 : w3.cell? ⟨w.heap.size + 1, 3, none⟩ = some (.string (preC s).2.1) := (blk_cell kq3 3).trans rfl; have fqb3 := blk_frozen kq3 3; have crb4 : w3.cell? ⟨w.heap.size, 4, none⟩ = some (.string ⟨#[]⟩) := (blk_cell kr3 4).trans rfl; have frb4 := blk_frozen kr3 4; have cqb4 : w3.cell? ⟨w.heap.size + 1, 4, none⟩ = some (.string (metaC s).2.1) := (blk_cell kq3 4).trans rfl; have fqb4 := blk_frozen kq3 4)
            have hver : Hid (verOk s = false) := hid_of (by rw [← rparse_eq]; simp [rparseOk, hl])
            refine bodyPost_ret (results_ct rfl _ _ (w.heap.size) 120 #[.int .i64 0, .int .i64 0, .int .i64 0, .string ⟨#[]⟩, .string ⟨#[]⟩] (0, 0) _ rfl (blk_put (cs := #[.int .i64 0, .int .i64 0, .int .i64 0, .string ⟨#[]⟩, .string ⟨#[]⟩]) (blk_put (cs := #[.int .i64 0, .int .i64 0, .int .i64 0, .string ⟨#[]⟩, .string ⟨#[]⟩]) (blk_put (cs := #[.int .i64 0, .int .i64 0, .int .i64 0, .string ⟨#[]⟩, .string ⟨#[]⟩]) (blk_put (cs := #[.int .i64 0, .int .i64 0, .int .i64 0, .string ⟨#[]⟩, .string ⟨#[]⟩]) (blk_put (cs := #[.int .i64 0, .int .i64 0, .int .i64 0, .string ⟨#[]⟩, .string ⟨#[]⟩]) kr3 0 _ rfl) 1 _ rfl) 2 _ rfl) 3 _ rfl) 4 _ rfl) Tryz.underlying120 rfl (by kernel_rfl)) rfl ⟨?_, below_set (below_set (below_set (below_set (below_set (below_step hbW hb3) (Nat.le_refl _)) (Nat.le_refl _)) (Nat.le_refl _)) (Nat.le_refl _)) (Nat.le_refl _)⟩
            rw [show numAt s 0 = 0 from if_neg (by rw [hver.out]; decide), show numAt s 1 = 0 from if_neg (by rw [hver.out]; decide), show numAt s 2 = 0 from if_neg (by rw [hver.out]; decide), show preB s = ⟨#[]⟩ from if_neg (by rw [hver.out]; decide), show metaB s = ⟨#[]⟩ from if_neg (by rw [hver.out]; decide), show verErr s = 30 from if_neg (by rw [hver.out]; decide)]
            rfl
    · have hver : Hid (verOk s = false) := hid_of (by simp [verOk, h1])
      have g1 : decide ((s.size : Int) < 1) = false := decide_eq_false (by omega)
      have g2 : (60 : Int) < (s.size : Int) := by omega
      go_enter Tryz.func99, Tryz.ntmps99
      go_wp2
      exact ⟨rfl, _, results_ct rfl _ _ w.heap.size 120 _ (0, 0) _ rfl (blk_new w zeroR) Tryz.underlying120 rfl (by kernel_rfl), (by rw [show numAt s 0 = 0 from if_neg (by rw [hver.out]; decide), show numAt s 1 = 0 from if_neg (by rw [hver.out]; decide), show numAt s 2 = 0 from if_neg (by rw [hver.out]; decide), show preB s = ⟨#[]⟩ from if_neg (by rw [hver.out]; decide), show metaB s = ⟨#[]⟩ from if_neg (by rw [hver.out]; decide), show verErr s = 30 from if_neg (by rw [hver.out]; decide)]; rfl), below_alloc (Below.refl _ _) _⟩
  · have hver : Hid (verOk s = false) := hid_of (by have : prefB s = false := by simpa using hp
                                                    simp [verOk, this])
    by_cases h0 : s.size < 1
    · have g1 : (s.size : Int) < 1 := by omega
      go_enter Tryz.func99, Tryz.ntmps99
      go_wp2
      exact ⟨rfl, _, results_ct rfl _ _ w.heap.size 120 _ (0, 0) _ rfl (blk_new w zeroR) Tryz.underlying120 rfl (by kernel_rfl), (by rw [show numAt s 0 = 0 from if_neg (by rw [hver.out]; decide), show numAt s 1 = 0 from if_neg (by rw [hver.out]; decide), show numAt s 2 = 0 from if_neg (by rw [hver.out]; decide), show preB s = ⟨#[]⟩ from if_neg (by rw [hver.out]; decide), show metaB s = ⟨#[]⟩ from if_neg (by rw [hver.out]; decide), show verErr s = 30 from if_neg (by rw [hver.out]; decide)]; rfl), below_alloc (Below.refl _ _) _⟩
    · have g1 : decide ((s.size : Int) < 1) = false := decide_eq_false (by omega)
      by_cases h2 : 60 < s.size
      · have g2 : (60 : Int) < (s.size : Int) := by omega
        go_enter Tryz.func99, Tryz.ntmps99
        go_wp2
        exact ⟨rfl, _, results_ct rfl _ _ w.heap.size 120 _ (0, 0) _ rfl (blk_new w zeroR) Tryz.underlying120 rfl (by kernel_rfl), (by rw [show numAt s 0 = 0 from if_neg (by rw [hver.out]; decide), show numAt s 1 = 0 from if_neg (by rw [hver.out]; decide), show numAt s 2 = 0 from if_neg (by rw [hver.out]; decide), show preB s = ⟨#[]⟩ from if_neg (by rw [hver.out]; decide), show metaB s = ⟨#[]⟩ from if_neg (by rw [hver.out]; decide), show verErr s = 30 from if_neg (by rw [hver.out]; decide)]; rfl), below_alloc (Below.refl _ _) _⟩
      · have g2 : decide ((60 : Int) < (s.size : Int)) = false := decide_eq_false (by omega)
        have h0' : 0 < s.size := by omega
        have hbt : ((s[0]'h0').toNat : Int) = bt s 0 := bt_at s 0 h0'
        have hb0 : (bt s 0 == 118) = false := by
          have := pref_iff s
          cases hb : (bt s 0 == 118) with
          | false => rfl
          | true => exact absurd (by rw [this, hb]; simp; omega) hp
        have hb0' : (bt s 0 != 118) = true := by rw [bne, hb0]; rfl
        have HP := Lib.hid hp
        clear hp
        go_enter Tryz.func99, Tryz.ntmps99
        go_wp2
        exact ⟨rfl, _, results_ct rfl _ _ w.heap.size 120 _ (0, 0) _ rfl (blk_new w zeroR) Tryz.underlying120 rfl (by kernel_rfl), (by rw [show numAt s 0 = 0 from if_neg (by rw [hver.out]; decide), show numAt s 1 = 0 from if_neg (by rw [hver.out]; decide), show numAt s 2 = 0 from if_neg (by rw [hver.out]; decide), show preB s = ⟨#[]⟩ from if_neg (by rw [hver.out]; decide), show metaB s = ⟨#[]⟩ from if_neg (by rw [hver.out]; decide), show verErr s = 30 from if_neg (by rw [hver.out]; decide)]; rfl), below_alloc (Below.refl _ _) _⟩
end Go.Proofs.YtcdcpcdfcmokkaaGreatDoor
