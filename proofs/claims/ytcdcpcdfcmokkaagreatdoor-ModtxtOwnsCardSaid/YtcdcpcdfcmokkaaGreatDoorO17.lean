/- Cells of a block that is known whole; small helps. · The document's identifiers by hand. -/
import Derived.Test.YtcdcpcdfcmokkaaGreatDoorO05
import Derived.RangeFuncWrites
import Derived.Test.YtcdcpcdfcmokkaaGreatDoorO15
import Derived.WalkSpells
import Derived.Deep.DeepCutAuto
set_option linter.unusedVariables false
set_option linter.unusedSimpArgs false
section
namespace Go.Proofs.YtcdcpcdfcmokkaaGreatDoor
open Go Go.RowKit Go.Proofs.YtcdcpcdfcmokkaaGreatDoorW.PrintWords
set_option linter.unusedVariables false
def emp : ByteArray := ⟨#[]⟩
theorem strC_cell {w : World} {A : Option Addr} {n : Nat} {l : List ByteArray} (h : Kd.string.C w A n l) {i : Nat} (hi : i < n) : ∃ ad, A = some ad ∧ w.cell? (ad.add i) = some (.string (l.getD i emp)) := by
  obtain ⟨ad, c, e, _, hK, hc⟩ := Kd.C_get h emp (i : Int) (by omega) (by omega)
  refine ⟨ad, e, ?_⟩
  have hK' : c = [.string (l.getD i emp)] := hK
  have := hc 0 (.string (l.getD i emp)) (by rw [hK']; rfl)
  rw [Int.toNat_natCast, Nat.add_zero, show Kd.string.sz = 1 from rfl, Nat.mul_one] at this
  exact this
def upto (f : Nat → Bool) : Nat → Bool
  | 0 => true
  | k + 1 => upto f k && f k
theorem upto_no {f : Nat → Bool} {k : Nat} (h : f k = false) : ∀ n, k < n → upto f n = false
  | 0, hk => by omega
  | n + 1, hk => by
    rcases Nat.lt_or_ge k n with h' | h'
    · simp [upto, upto_no h n h']
    · obtain rfl : k = n := by omega
      simp [upto, h]
theorem upto_iff {f : Nat → Bool} : ∀ n, upto f n = true ↔ ∀ k, k < n → f k = true
  | 0 => by simp [upto]
  | n + 1 => by
    simp only [upto, Bool.and_eq_true, upto_iff n]
    constructor
    · rintro ⟨h1, h2⟩ k hk
      rcases Nat.lt_or_ge k n with h | h
      · exact h1 k h
      · obtain rfl : k = n := by omega
        exact h2
    · intro h; exact ⟨fun k hk => h k (by omega), h n (by omega)⟩
theorem blk2 {w : World} {g t : Nat} {a0 a1 : Value} (h : w.heap[g]? = some (.cells #[a0, a1] t (0, 0))) : w.cell? ⟨g, 0, none⟩ = some a0 ∧ w.cell? ⟨g, 1, none⟩ = some a1 :=
  ⟨(blk_cell h 0).trans rfl, (blk_cell h 1).trans rfl⟩
theorem blk4 {w : World} {g t : Nat} {a0 a1 a2 a3 : Value} (h : w.heap[g]? = some (.cells #[a0, a1, a2, a3] t (0, 0))) : w.cell? ⟨g, 0, none⟩ = some a0 ∧ w.cell? ⟨g, 1, none⟩ = some a1 ∧ w.cell? ⟨g, 2, none⟩ = some a2 ∧ w.cell? ⟨g, 3, none⟩ = some a3 :=
  ⟨(blk_cell h 0).trans rfl, (blk_cell h 1).trans rfl, (blk_cell h 2).trans rfl, (blk_cell h 3).trans rfl⟩
theorem blk7 {w : World} {g t : Nat} {a0 a1 a2 a3 a4 a5 a6 : Value} (h : w.heap[g]? = some (.cells #[a0, a1, a2, a3, a4, a5, a6] t (0, 0))) :
    w.cell? ⟨g, 0, none⟩ = some a0 ∧ w.cell? ⟨g, 1, none⟩ = some a1 ∧ w.cell? ⟨g, 2, none⟩ = some a2 ∧ w.cell? ⟨g, 3, none⟩ = some a3 ∧ w.cell? ⟨g, 4, none⟩ = some a4 ∧ w.cell? ⟨g, 5, none⟩ = some a5 ∧ w.cell? ⟨g, 6, none⟩ = some a6 :=
  ⟨(blk_cell h 0).trans rfl, (blk_cell h 1).trans rfl, (blk_cell h 2).trans rfl, (blk_cell h 3).trans rfl, (blk_cell h 4).trans rfl, (blk_cell h 5).trans rfl, (blk_cell h 6).trans rfl⟩
theorem blk_at {w W : World} {g : Nat} {o : Obj} (h : w.heap[g]? = some o) (hb : Below w.heap.size w W) : W.heap[g]? = some o := (hb.block g (blk_lt h)).trans h
theorem blk_new (w : World) (o : Obj) : (w.alloc o).heap[w.heap.size]? = some o := World.alloc_heap_new w o
theorem blk5 {w : World} {g t : Nat} {a0 a1 a2 a3 a4 : Value} (h : w.heap[g]? = some (.cells #[a0, a1, a2, a3, a4] t (0, 0))) :
    w.cell? ⟨g, 0, none⟩ = some a0 ∧ w.cell? ⟨g, 1, none⟩ = some a1 ∧ w.cell? ⟨g, 2, none⟩ = some a2 ∧ w.cell? ⟨g, 3, none⟩ = some a3 ∧ w.cell? ⟨g, 4, none⟩ = some a4 :=
  ⟨(blk_cell h 0).trans rfl, (blk_cell h 1).trans rfl, (blk_cell h 2).trans rfl, (blk_cell h 3).trans rfl, (blk_cell h 4).trans rfl⟩
theorem takeB_getD {α : Type} {l : List α} {k : Nat} {z m : α} (h : k < l.length) (hm : l.getD k z = m) : l.take (k + 1) = l.take k ++ [m] := by
  rw [List.take_succ_eq_append_getElem h, ← hm, List.getD_eq_getElem?_getD, List.getElem?_eq_getElem h]; rfl
theorem drop_getD {l : List ByteArray} {k : Nat} {z m : ByteArray} (h : k < l.length) (hm : l.getD k z = m) : l.drop k = m :: l.drop (k + 1) := by
  rw [List.drop_eq_getElem_cons h, ← hm, List.getD_eq_getElem?_getD, List.getElem?_eq_getElem h]; rfl
theorem getD_in {l : List ByteArray} {k : Nat} {z : ByteArray} (h : k < l.length) : l.getD k z ∈ l := by
  rw [List.getD_eq_getElem?_getD, List.getElem?_eq_getElem h]; exact List.getElem_mem h
end Go.Proofs.YtcdcpcdfcmokkaaGreatDoor
end
section
namespace Go.Proofs.YtcdcpcdfcmokkaaGreatDoor
open Go Go.RowKit Go.Proofs.YtcdcpcdfcmokkaaGreatDoorW.PrintWords
set_option linter.unusedVariables false
set_option linter.unusedSimpArgs false
theorem rdigit_any (c : Int) (w : World) : Calls Tryz.prog 128 #[.int .u8 c] w fun e w' => e = .returned (.bool (digitB c)) ∧ ∃ n, w' = w.drewN n :=
  (P.graftbedref03_digit.calls _ _ w (digit_eq c)).mono fun e w' h => ⟨h.1, h.2.out⟩
theorem rdigits_any (s : ByteArray) (w : World) (hs : s.size ≤ 1099511627775) : Calls Tryz.prog 103 #[.string s] w fun e w' => e = .returned (.bool (everyB digitB s)) ∧ ∃ n, w' = w.drewN n := by
  obtain ⟨k, h⟩ := (digits_ev s (by omega)).rounds
  exact (P.graftbedref03_digits.calls k s _ w h).mono fun e w' h => ⟨h.1, h.2.out⟩
theorem str_drew {e base g cap n : Nat} {W W' : World} {ok : Nat → Prop} {xs : List ByteArray} {x : ByteArray} (hR : Kd.R Kd.string e W base ok (.slice (some ⟨g, 0, none⟩) xs.length cap) xs) {i : Nat} (hi : i < xs.length) (hx : xs.getD i ByteArray.empty = x) (hw : W' = W.drewN n) : W'.cell? ⟨g, i, none⟩ = some (.string x) := by
  subst hw; rw [← hx]; exact (Kd.R_cell (enc := Value.string) (h1 := fun _ => rfl) ByteArray.empty hR (i : Int) (by omega) (by omega)).1
theorem allB_no {p : ByteArray → Bool} {l : List ByteArray} {k : Nat} {z x : ByteArray} (h : k < l.length) (hx : l.getD k z = x) (hp : p x = false) : l.all p = false := by
  rw [List.all_eq_false]; exact ⟨x, hx ▸ getD_in h, by rw [hp]; decide⟩
theorem allB_succ {p : ByteArray → Bool} {l : List ByteArray} {k : Nat} {z x : ByteArray} (h : k < l.length) (hx : l.getD k z = x) (ha : (l.take k).all p = true) (hp : p x = true) : (l.take (k + 1)).all p = true := by
  rw [takeB_getD h hx, List.all_append, ha]; simp [hp]
theorem allB_end {p : ByteArray → Bool} {l : List ByteArray} (ha : (l.take l.length).all p = true) : l.all p = true := by rwa [List.take_length] at ha
set_option maxHeartbeats 8000000 in
set_option maxRecDepth 100000 in
theorem rident_any (s : ByteArray) (b : Bool) (w : World) (hs : s.size ≤ 1099511627775) :
    Calls Tryz.prog 127 #[.string s, .bool b] w fun e w' => e = .returned (.bool ((piecesB 46 s).all (identOk b))) ∧ Below w.heap.size w w' := by
  have hsm := piecesB_small (c := 46) hs
  have l0 : 0 < (piecesB 46 s).length := List.length_pos_iff.2 (by simp [piecesB, pieces_ne])
  have sz := fun (e : ByteArray) (he : e ∈ piecesB 46 s) => Nat.le_trans (piece_size he) hs
  obtain ⟨L, hL⟩ : ∃ L, L = piecesB 46 s := ⟨_, rfl⟩
  rw [← hL] at l0 hsm sz ⊢
  have HL := Lib.hid hL
  have ll := hsm.1
  have ls := Lib.hid sz
  clear hL hsm sz
  go_enter Tryz.func127, Tryz.ntmps127
  go_wp2_with (go_at_call 101; (with_reducible refine (rsplit_any s _ hs).mono ?_); rintro e w1 ⟨v, rfl, hR, hb⟩; rw [← HL.out] at hR; obtain ⟨g, c, rfl, _, _, _⟩ := Kd.R_form hR l0)
  go_loopw [6] (fun i wr => ∃ k n : Nat, k ≤ L.length ∧ i = .int .i64 k ∧ Hid ((L.take k).all (identOk b) = true) ∧ Hid (wr = w1.drewN n)) (fun i wr => L.length - (intOf i).toNat)
  case atStart => exact ⟨0, 0, Nat.zero_le _, rfl, Lib.hid rfl, Lib.hid rfl⟩
  case round =>
    obtain ⟨k, n, hk, rfl, HA, HW⟩ := hrel
    have HB := Lib.hid (show Below w.heap.size w wr from HW.out ▸ pw_below_drewN hb n)
    by_cases hlt : k < L.length
    · obtain ⟨x, Hx⟩ : ∃ x, Hid (L.getD k ByteArray.empty = x) := ⟨_, rfl⟩
      have cx := str_drew hR hlt Hx.out HW.out
      have zx := ls.out x (Hx.out ▸ getD_in hlt)
      have HN := Lib.hid (fun h : identOk b x = false => allB_no hlt Hx.out h)
      cases t1 : (x.toList == []) with
      | true =>
        have t1' : x.toList.isEmpty = true := by simpa using t1
        go_wp2
        go_ret
        exact ⟨by rw [HN.out (by simp [identOk, t1])]; rfl, HB.out⟩
      | false =>
      have t1' : x.toList.isEmpty = false := by simpa using t1
      go_upto_region 5 with (fail)
      obtain ⟨wo, rfl⟩ : ∃ wo : World, wo = wr := ⟨_, rfl⟩
      go_cut [47] (fun v wc => v = .bool (b && noughtB x) ∧ Hid (∃ n, wc = w1.drewN n))
      case first =>
        cases b with
        | false =>
          go_wp2
          go_meet
          case rel => exact ⟨rfl, Lib.hid ⟨n, HW.out⟩⟩
        | true =>
          have HD := Lib.hid (show ∀ q, ∃ n, wo.drewN q = w1.drewN n from fun q => ⟨n + q, by rw [HW.out, World.drewN_drewN]⟩)
          cases t2 : everyB digitB x with
          | false =>
            go_wp2_with (go_at_call 103; (with_reducible refine (rdigits_any x _ zx).mono ?_); rw [t2]; rintro e w2 ⟨rfl, q, rfl⟩)
            go_meet
            case rel => exact ⟨by simp [noughtB, t2], Lib.hid (HD.out q)⟩
          | true =>
            by_cases t3 : 1 < x.size
            · have px : 0 < x.size := by omega
              have hbt : ((x[0]'px).toNat : Int) = bt x 0 := bt_at x (0 : Int) px
              cases t4 : (bt x 0 == 48) with
              | _ =>
                go_wp2_with (go_at_call 103; (with_reducible refine (rdigits_any x _ zx).mono ?_); rw [t2]; rintro e w2 ⟨rfl, q, rfl⟩)
                go_meet
                case rel => exact ⟨by simp [noughtB, t2, t3, t4], Lib.hid (HD.out q)⟩
            · go_wp2_with (go_at_call 103; (with_reducible refine (rdigits_any x _ zx).mono ?_); rw [t2]; rintro e w2 ⟨rfl, q, rfl⟩)
              go_meet
              case rel => exact ⟨by simp [noughtB, t2]; omega, Lib.hid (HD.out q)⟩
      case rest =>
        clear HB cx
        obtain ⟨rfl, HQ⟩ := hcut
        obtain ⟨n1, HW1⟩ := HQ.out
        have HW1 := Lib.hid HW1
        have HB := Lib.hid (show Below w.heap.size w wc from HW1.out ▸ pw_below_drewN hb n1)
        cases t2 : (b && noughtB x) with
        | true =>
          go_wp2
          go_ret
          exact ⟨by rw [HN.out (by unfold identOk; rw [t2]; simp)]; rfl, HB.out⟩
        | false =>
        have HE := Lib.hid (show identOk b x = everyUpto signB x x.size by unfold identOk; rw [t1, t2]; rfl)
        have cx := str_drew hR hlt Hx.out HW1.out
        go_wp2
        go_loopw [7] (fun j wr => ∃ m q : Nat, m ≤ x.size ∧ j = .int .i64 m ∧ Hid (everyUpto signB x m = true) ∧ Hid (wr = w1.drewN q)) (fun j wr => x.size - (intOf j).toNat)
        case atStart => exact ⟨0, n1, Nat.zero_le _, rfl, Lib.hid rfl, HW1⟩
        case round =>
          clear HB cx
          obtain ⟨m, q, hm, rfl, HF, HW'⟩ := hrel
          have HB := Lib.hid (show Below w.heap.size w wr from HW'.out ▸ pw_below_drewN hb q)
          have cx := str_drew hR hlt Hx.out HW'.out
          by_cases hml : m < x.size
          · have hbt : ((x[m]'hml).toNat : Int) = bt x m := bt_at x (m : Int) hml
            obtain ⟨c0, hc0⟩ : ∃ c0, bt x m = c0 := ⟨_, rfl⟩
            rw [hc0] at hbt
            have SG := Lib.hid (show signB (bt x m) = _ from sign_char x m)
            rw [hc0] at SG
            have HY := Lib.hid (fun h : signB c0 = true => show everyUpto signB x (m + 1) = true by rw [everyUpto, HF.out, hc0, h]; rfl)
            have HZ := Lib.hid (fun h : signB c0 = false => HN.out (HE.out.trans (everyUpto_no signB x m (by rw [hc0]; exact h) _ hml)))
            have HD := Lib.hid (show ∀ a, wr.drewN a = w1.drewN (q + a) from fun a => by rw [HW'.out, World.drewN_drewN])
            clear hc0
            cases d0 : digitB c0 with
            | true =>
              go_wp2_with (go_at_call 128; (with_reducible refine (rdigit_any c0 _).mono ?_); rw [d0]; rintro e w2 ⟨rfl, a, rfl⟩)
              go_roundw
              case rel => exact ⟨m + 1, q + a, by omega, by go_num, Lib.hid (HY.out (by rw [SG.out, d0]; rfl)), Lib.hid (HD.out a)⟩
              case measure => simp [intOf]; omega
            | false =>
              rcases (show (c0 = 45 ∨ (65 ≤ c0 ∧ c0 ≤ 90) ∨ (97 ≤ c0 ∧ c0 ≤ 122)) ∨ ((c0 < 65 ∧ ¬ c0 = 45) ∨ (90 < c0 ∧ c0 < 97) ∨ 122 < c0) by omega) with h | h
              · have HS := Lib.hid (HY.out (by rw [SG.out, d0]; rcases h with h | h | h <;> simp [h]))
                rcases h with rfl | h | h
                · have h45 : ((45 : Int) != 45) = false := rfl
                  go_wp2_with (go_at_call 128; (with_reducible refine (rdigit_any _ _).mono ?_); rw [d0]; rintro e w2 ⟨rfl, a, rfl⟩)
                  go_roundw
                  case rel => exact ⟨m + 1, q + a, by omega, by go_num, HS, Lib.hid (HD.out a)⟩
                  case measure => simp [intOf]; omega
                all_goals
                  have h45 : (c0 != 45) = true := by simp; omega
                  go_wp2_with (go_at_call 128; (with_reducible refine (rdigit_any c0 _).mono ?_); rw [d0]; rintro e w2 ⟨rfl, a, rfl⟩)
                  go_roundw
                  case rel => exact ⟨m + 1, q + a, by omega, by go_num, HS, Lib.hid (HD.out a)⟩
                  case measure => simp [intOf]; omega
              · have HS := Lib.hid (HZ.out (by rw [SG.out, d0]; simp; omega))
                rcases h with h | h | h
                all_goals
                  have h45 : (c0 != 45) = true := by simp; omega
                  go_wp2_with (go_at_call 128; (with_reducible refine (rdigit_any c0 _).mono ?_); rw [d0]; rintro e w2 ⟨rfl, a, rfl⟩)
                  go_ret
                  exact ⟨by rw [HS.out]; rfl, pw_below_drewN HB.out _⟩
          · obtain rfl : m = x.size := by omega
            go_wp2
            refine ⟨⟨k + 1, q, by omega, by go_num, Lib.hid (allB_succ hlt Hx.out HA.out (HE.out.trans HF.out)), HW'⟩, by simp [intOf]; omega⟩
    · obtain rfl : k = L.length := by omega
      go_wp2
      go_ret
      exact ⟨by rw [allB_end HA.out]; rfl, HB.out⟩
end Go.Proofs.YtcdcpcdfcmokkaaGreatDoor
end
