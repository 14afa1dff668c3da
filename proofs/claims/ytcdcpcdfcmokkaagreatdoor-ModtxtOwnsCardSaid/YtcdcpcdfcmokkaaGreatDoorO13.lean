/- The document's answer for layer 3, in plain words: digits, numbers, pieces, identifiers, find. -/
import Derived.Test.YtcdcpcdfcmokkaaGreatDoorO08
import Derived.Test.YtcdcpcdfcmokkaaGreatDoorO11
import Derived.Test.YtcdcpcdfcmokkaaGreatDoorO12
import Derived.Test.YtcdcpcdfcmokkaaGreatDoorO05
set_option linter.unusedVariables false
set_option linter.unusedSimpArgs false
section
namespace Go.Proofs.YtcdcpcdfcmokkaaGreatDoor
open Go Go.RowKit Go.Proofs.YtcdcpcdfcmokkaaGreatDoorW.PrintWords
set_option linter.unusedVariables false
theorem digit_eq (c : Int) : P.graftbedref03_digit.f c = some (digitB c) := by
  unfold P.graftbedref03_digit.f digitB
  by_cases h : c ≥ 48
  · rw [if_pos h]; simp [h]
  · rw [if_neg h]; simp; omega
theorem digits_loop (s : ByteArray) (hs : s.size ≤ 1099511627776) : ∀ (d i : Nat), s.size - i = d → i ≤ s.size → everyUpto digitB s i = true → Ev (fun k => P.graftbedref03_digits.l0 k s i) (everyB digitB s)
  | 0, i, hd, hi, he => by
    obtain rfl : i = s.size := by omega
    refine Ev.step (f := fun _ => some (everyB digitB s)) (fun k => ?_) (Ev.now _)
    rw [P.graftbedref03_digits.l0, if_neg (by omega)]
    simp only [everyB, he, Bool.true_and]
    cases s.toList <;> rfl
  | d + 1, i, hd, hi, he => by
    have hlt : i < s.size := by omega
    by_cases hg : digitB (bt s i) = true
    · refine Ev.step (f := fun k => P.graftbedref03_digits.l0 k s ((i + 1 : Nat) : Int)) (fun k => ?_) (digits_loop s hs d (i + 1) (by omega) (by omega) (by simp [everyUpto, he, hg]))
      rw [P.graftbedref03_digits.l0, if_pos (by omega), if_pos (by omega), digit_eq, hg, wrap_id (by omega) (by omega)]
      rfl
    · have hg' : digitB (bt s i) = false := by simpa using hg
      refine Ev.step (f := fun _ => some (everyB digitB s)) (fun k => ?_) (Ev.now _)
      rw [P.graftbedref03_digits.l0, if_pos (by omega), if_pos (by omega), digit_eq, hg']
      have : everyUpto digitB s s.size = false := everyUpto_no digitB s i hg' _ hlt
      simp [everyB, this]
theorem digits_ev (s : ByteArray) (hs : s.size ≤ 1099511627776) : Ev (fun k => P.graftbedref03_digits.f k s) (everyB digitB s) :=
  digits_loop s hs _ 0 rfl (Nat.zero_le _) rfl
def numberB (s : ByteArray) : Int := if numOk s = true then valB s else -1
theorem number_loop (s : ByteArray) (hs : s.size ≤ 9) (hd : ∀ b ∈ s.data.toList, 48 ≤ b.toNat ∧ b.toNat ≤ 57) : ∀ (d i n : Nat), s.size - i = d → i ≤ s.size → Lib.decFrom 0 (s.data.toList.take i) = some n → n < 10 ^ i → Ev (fun k => P.graftbedref03_Number.l0 k s n i) (valB s)
  | 0, i, n, e, hi, hn, hb => by
    obtain rfl : i = s.size := by omega
    refine Ev.step (f := fun _ => some (valB s)) (fun k => ?_) (Ev.now _)
    rw [P.graftbedref03_Number.l0, if_neg (by omega)]
    rw [List.take_of_length_le (by rw [← Lib.size_eq]; exact Nat.le_refl _)] at hn
    simp [valB, hn]
  | d + 1, i, n, e, hi, hn, hb => by
    have hlt : i < s.size := by omega
    have hlt' : i < s.data.toList.length := by rw [← Lib.size_eq]; exact hlt
    have hbi := hd _ (List.getElem_mem hlt')
    have hbt := bt_get s i hlt
    have h9 : (10 : Nat) ^ i ≤ 10 ^ 8 := Nat.pow_le_pow_right (by omega) (by omega)
    have hval := Lib.decFrom_take s.data.toList i 0 n _ (s.data.toList[i].toNat - 48) hn (List.getElem?_eq_getElem hlt') (by simp only [Lib.digitVal, if_pos hbi])
    refine Ev.step (f := fun k => P.graftbedref03_Number.l0 k s ((n * 10 + (s.data.toList[i].toNat - 48) : Nat) : Int) ((i + 1 : Nat) : Int)) (fun k => ?_) (number_loop s hs hd d (i + 1) _ (by omega) (by omega) hval (by rw [Nat.pow_succ]; omega))
    rw [P.graftbedref03_Number.l0, if_pos (by omega), if_pos (by omega), hbt, wrap_id (x := 10 * (n : Int)) (by omega) (by omega), wrap_id (x := (i : Int) + 1) (by omega) (by omega)]
    congr 1
    rw [wrap_id (by omega) (by omega)]
    omega
theorem number_ev (s : ByteArray) (hs : s.size ≤ 1099511627776) : Ev (fun k => P.graftbedref03_Number.f k s) (numberB s) := by
  unfold P.graftbedref03_Number.f
  refine Ev.bind (digits_ev s hs) ?_
  have no : ∀ (_ : numOk s = false), Ev (fun k => P.graftbedref03_Number.j0 k s true) (numberB s) := fun h =>
    Ev.step (f := fun _ => some (numberB s)) (fun k => by rw [P.graftbedref03_Number.j0, if_pos rfl]; simp [numberB, h]) (Ev.now _)
  by_cases hd : everyB digitB s = true
  · simp only [hd, if_true]
    by_cases h9 : (s.size : Int) > 9
    · simp only [if_pos h9]
      exact no (by simp [numOk]; omega)
    · simp only [if_neg h9]
      have yes : ∀ (_ : noughtB s = false), Ev (fun k => P.graftbedref03_Number.j0 k s false) (numberB s) := fun h => by
        have hok : numOk s = true := by simp [numOk, hd, h]; omega
        rw [show numberB s = valB s from if_pos hok]
        exact Ev.step (f := fun k => P.graftbedref03_Number.l0 k s 0 0) (fun k => by rw [P.graftbedref03_Number.j0]; simp) (number_loop s (by omega) (every_digits hd).1 _ 0 0 rfl (Nat.zero_le _) rfl (by decide))
      by_cases h1 : (s.size : Int) > 1
      · simp only [if_pos h1, if_pos (show 0 < (s.size : Int) by omega)]
        cases h0 : (bt s 0 == 48) with
        | true => exact no (by simp [numOk, noughtB, hd, h0]; omega)
        | false => exact yes (by simp [noughtB, h0])
      · simp only [if_neg h1]
        exact yes (by simp [noughtB]; omega)
  · have hd' : everyB digitB s = false := by simpa using hd
    simp only [hd', Bool.false_eq_true, if_false]
    exact no (by simp [numOk, hd'])
theorem find_loop (s : ByteArray) (c : UInt8) (hs : s.size ≤ 1099511627776) : ∀ (d i : Nat), s.size - i = d → i ≤ s.size → Ev (fun k => P.graftbedref03_find.l0 k s c.toNat i) (i + ((Lib.cut (s.data.toList.drop i) [c]).1.length : Nat) : Int)
  | 0, i, e, hi => by
    obtain rfl : i = s.size := by omega
    refine Ev.step (f := fun _ => some _) (fun k => ?_) (Ev.now _)
    rw [P.graftbedref03_find.l0, if_neg (by omega)]
    rw [List.drop_of_length_le (by rw [← Lib.size_eq]; exact Nat.le_refl _), cut_nil]; simp
  | d + 1, i, e, hi => by
    have hlt : i < s.size := by omega
    have hlt' : i < s.data.toList.length := by rw [← Lib.size_eq]; exact hlt
    have hbt := bt_get s i hlt
    have hdr : s.data.toList.drop i = s.data.toList[i] :: s.data.toList.drop (i + 1) := List.drop_eq_getElem_cons hlt'
    by_cases h : s.data.toList[i] = c
    · refine Ev.step (f := fun _ => some _) (fun k => ?_) (Ev.now _)
      rw [P.graftbedref03_find.l0, if_pos (by omega), if_pos (by omega), hbt, h, if_pos rfl, hdr, h, cut_same]; simp
    · have hne : ¬ ((s.data.toList[i].toNat : Nat) : Int) = c.toNat := fun e => h (UInt8.toNat_inj.1 (by omega))
      have ih := find_loop s c hs d (i + 1) (by omega) (by omega)
      rw [hdr, cut_other h]
      have e2 : ((i : Int) + ((s.data.toList[i] :: (Lib.cut (s.data.toList.drop (i + 1)) [c]).1).length : Nat)) = ((i + 1 : Nat) : Int) + ((Lib.cut (s.data.toList.drop (i + 1)) [c]).1.length : Nat) := by simp; omega
      rw [e2]
      refine Ev.step (f := fun k => P.graftbedref03_find.l0 k s c.toNat ((i + 1 : Nat) : Int)) (fun k => ?_) ih
      rw [P.graftbedref03_find.l0, if_pos (by omega), if_pos (by omega), hbt, if_neg hne, wrap_id (by omega) (by omega)]
      rfl
theorem find_ev (s : ByteArray) (c : UInt8) (hs : s.size ≤ 1099511627776) : Ev (fun k => P.graftbedref03_find.f k s c.toNat) ((cutB c s).1.size : Int) := by
  have h := find_loop s c hs _ 0 rfl (Nat.zero_le _)
  show Ev (fun k => P.graftbedref03_find.l0 k s c.toNat 0) _
  simpa [cutB, toB_size] using h
def glue (pre : List UInt8) : List (List UInt8) → List (List UInt8)
  | [] => []
  | p :: ps => (pre ++ p) :: ps
theorem pieces_cons (c b : UInt8) (l : List UInt8) : pieces c (b :: l) = if b = c then [] :: pieces c l else glue [b] (pieces c l) := by
  conv => lhs; unfold pieces
  split
  · rfl
  · have := pieces_ne c l
    cases h : pieces c l with
    | nil => exact absurd h this
    | cons p ps => rfl
theorem glue_glue (a b : List UInt8) (l : List (List UInt8)) : glue a (glue b l) = glue (a ++ b) l := by cases l <;> simp [glue]
theorem glue_nil (l : List (List UInt8)) : glue [] l = l := by cases l <;> simp [glue]
theorem split_loop (s : ByteArray) (c : UInt8) (hs : s.size ≤ 1099511627776) : ∀ (d i fr : Nat) (acc : List ByteArray), s.size - i = d → fr ≤ i → i ≤ s.size → acc.length ≤ i →
    Ev (fun k => P.graftbedref03_Split.l0 k s c.toNat acc fr i) (acc ++ (glue ((s.data.toList.take i).drop fr) (pieces c (s.data.toList.drop i))).map toB)
  | 0, i, fr, acc, e, hf, hi, ha => by
    obtain rfl : i = s.size := by omega
    refine Ev.step (f := fun k => P.graftbedref03_Split.l0 k s c.toNat (acc ++ [s.extract fr s.size]) ((s.size + 1 : Nat) : Int) ((s.size + 1 : Nat) : Int)) (fun k => ?_) ?_
    · rw [P.graftbedref03_Split.l0, if_pos (by omega), if_pos rfl, if_pos (by omega), if_pos (by omega), if_pos (by omega), wrap_id (by omega) (by omega)]
      rfl
    · refine Ev.step (f := fun _ => some _) (fun k => ?_) (Ev.now _)
      rw [P.graftbedref03_Split.l0, if_neg (by omega)]
      rw [List.drop_of_length_le (show s.data.toList.length ≤ s.size by rw [← Lib.size_eq]; exact Nat.le_refl _), extract_toB]
      simp [pieces, glue]
  | d + 1, i, fr, acc, e, hf, hi, ha => by
    have hlt : i < s.size := by omega
    have hlt' : i < s.data.toList.length := by rw [← Lib.size_eq]; exact hlt
    have hbt := bt_get s i hlt
    have hdr : s.data.toList.drop i = s.data.toList[i] :: s.data.toList.drop (i + 1) := List.drop_eq_getElem_cons hlt'
    rw [hdr, pieces_cons]
    by_cases h : s.data.toList[i] = c
    · rw [if_pos h]
      have ih := split_loop s c hs d (i + 1) (i + 1) (acc ++ [s.extract fr i]) (by omega) (Nat.le_refl _) (by omega) (by simp; omega)
      have e1 : ((s.data.toList.take (i + 1)).drop (i + 1)) = [] := List.drop_of_length_le (by simp; omega)
      rw [e1, glue_nil] at ih
      have e2 : acc ++ (glue ((s.data.toList.take i).drop fr) ([] :: pieces c (s.data.toList.drop (i + 1)))).map toB = (acc ++ [s.extract fr i]) ++ (pieces c (s.data.toList.drop (i + 1))).map toB := by
        rw [extract_toB]; simp [glue]
      rw [e2]
      refine Ev.step (f := fun k => P.graftbedref03_Split.l0 k s c.toNat (acc ++ [s.extract fr i]) ((i + 1 : Nat) : Int) ((i + 1 : Nat) : Int)) (fun k => ?_) ih
      rw [P.graftbedref03_Split.l0, if_pos (by omega), if_neg (by omega), if_pos (by omega), if_pos (by omega), hbt, h, if_pos rfl, if_pos (by omega), if_pos (by omega), if_pos (by omega), wrap_id (by omega) (by omega)]
      rfl
    · rw [if_neg h, glue_glue]
      have hne : ¬ ((s.data.toList[i].toNat : Nat) : Int) = c.toNat := fun e => h (UInt8.toNat_inj.1 (by omega))
      have ih := split_loop s c hs d (i + 1) fr acc (by omega) (by omega) (by omega) (by omega)
      have e1 : ((s.data.toList.take (i + 1)).drop fr) = (s.data.toList.take i).drop fr ++ [s.data.toList[i]] := by
        rw [List.take_succ_eq_append_getElem hlt', List.drop_append_of_le_length (by simp; omega)]
      rw [e1] at ih
      refine Ev.step (f := fun k => P.graftbedref03_Split.l0 k s c.toNat acc fr ((i + 1 : Nat) : Int)) (fun k => ?_) ih
      rw [P.graftbedref03_Split.l0, if_pos (by omega), if_neg (by omega), if_pos (by omega), if_pos (by omega), hbt, if_neg hne, wrap_id (by omega) (by omega)]
      rfl
theorem split_ev (s : ByteArray) (c : UInt8) (hs : s.size ≤ 1099511627776) : Ev (fun k => P.graftbedref03_Split.f k s c.toNat) (piecesB c s) := by
  have h := split_loop s c hs _ 0 0 [] rfl (Nat.le_refl _) (Nat.zero_le _) (Nat.zero_le _)
  show Ev (fun k => P.graftbedref03_Split.l0 k s c.toNat [] 0 0) _
  simpa [glue_nil, piecesB] using h
def identOk (strict : Bool) (e : ByteArray) : Bool := !(e.toList == []) && (!(strict && noughtB e) && everyUpto signB e e.size)
theorem sign_small : ∀ c : Fin 256, signB (c.val : Int) = (digitB c.val || ((decide (97 ≤ (c.val : Int)) && decide ((c.val : Int) ≤ 122)) || ((decide (65 ≤ (c.val : Int)) && decide ((c.val : Int) ≤ 90)) || (c.val : Int) == 45))) := by decide +kernel
theorem sign_char (s : ByteArray) (i : Nat) : signB (bt s i) = (digitB (bt s i) || ((decide (97 ≤ bt s i) && decide (bt s i ≤ 122)) || ((decide (65 ≤ bt s i) && decide (bt s i ≤ 90)) || bt s i == 45))) := by
  have h := bt_range s i
  obtain ⟨c, hc⟩ : ∃ c : Nat, bt s i = c := ⟨(bt s i).toNat, by omega⟩
  have := sign_small ⟨c, by omega⟩
  rw [hc]; exact this
theorem rdOf_nat {α : Type} (d : α) (L : List α) (i : Nat) (h : i < L.length) : rdOf d L (i : Int) = L[i] := by
  simp [rdOf, List.getD_eq_getElem?_getD, List.getElem?_eq_getElem h]
theorem piecesB_small {c : UInt8} {s : ByteArray} (hs : s.size ≤ 1099511627775) : (piecesB c s).length ≤ 1099511627776 ∧ ∀ e ∈ piecesB c s, e.size ≤ 1099511627776 :=
  ⟨by have := piecesB_len c s; omega, fun e he => by have := piece_size he; omega⟩
end Go.Proofs.YtcdcpcdfcmokkaaGreatDoor
end
section
namespace Go.Proofs.YtcdcpcdfcmokkaaGreatDoor.P
open Go.RowKit Go.Proofs.YtcdcpcdfcmokkaaGreatDoorW.PrintWords Go.Proofs.YtcdcpcdfcmokkaaGreatDoorW.PrintLast Go.Proofs.YtcdcpcdfcmokkaaGreatDoorW.PrintMore
open Go.Proofs.YtcdcpcdfcmokkaaGreatDoor (str_gtr str_leq str_geq bne_empty)
attribute [local go_sem] max2_int min2_int max_two min_two max_three min_three max_four min_four str_gtr str_leq str_geq   -- for this text's walks alone
set_option linter.unusedVariables false
set_option linter.unusedSimpArgs false
def graftbedref01_Elems.l0 : Nat → ByteArray → List ByteArray → Int → Int → Option (List ByteArray)
 | 0, _, _, _, _ => none
 | k + 1, x0, x3, x4, x5 => if x5 ≤ (x0.size : Int) then (if x5 = (x0.size : Int) then (if 0 ≤ x4 then (if x4 ≤ x5 then (if x3.length < 8796093022208 then (graftbedref01_Elems.l0 k x0 (x3 ++ [x0.extract (x4 : Int).toNat (x5 : Int).toNat]) (wrap64 (x5 + 1)) (wrap64 (x5 + 1))) else (none)) else (none)) else (none)) else (if 0 ≤ x5 then (if x5 < (x0.size : Int) then (if (bt x0 x5) = 47 then (if 0 ≤ x4 then (if x4 ≤ x5 then (if x3.length < 8796093022208 then (graftbedref01_Elems.l0 k x0 (x3 ++ [x0.extract (x4 : Int).toNat (x5 : Int).toNat]) (wrap64 (x5 + 1)) (wrap64 (x5 + 1))) else (none)) else (none)) else (none)) else (graftbedref01_Elems.l0 k x0 x3 x4 (wrap64 (x5 + 1)))) else (none)) else (none))) else (some x3)
def graftbedref01_Elems.f (k : Nat) (a0 : ByteArray) : Option (List ByteArray) := (some (([] : List ByteArray) : List ByteArray)).bind fun y271 => (if a0.toList = ([] : List UInt8) then (some y271) else (graftbedref01_Elems.l0 k a0 y271 0 0))
set_option maxHeartbeats 8000000 in
set_option maxRecDepth 100000 in
theorem graftbedref01_Elems.calls (k : Nat) (a0 : ByteArray) (r : List ByteArray) (w : World) (h : graftbedref01_Elems.f k a0 = some r) :
  Calls Tryz.prog 70 #[.string a0] w fun e w' => ∃ v0_ : Value, e = .returned (v0_) ∧ Kd.R Kd.string 9 w' w.heap.size (fun _ => True) v0_ r ∧ Below w.heap.size w w' := by
 have HB := Aside0.mk (Below.refl w.heap.size w)
 have H : ((some (([] : List ByteArray) : List ByteArray)).bind fun y271 => (if a0.toList = ([] : List UInt8) then (some y271) else (graftbedref01_Elems.l0 k a0 y271 0 0))) = some r := h
 clear h
 obtain ⟨y271, hy271⟩ : ∃ y_ : List ByteArray, y_ = (([] : List ByteArray)) := ⟨_, rfl⟩
 replace H : (if a0.toList = ([] : List UInt8) then (some y271) else (graftbedref01_Elems.l0 k a0 y271 0 0)) = some r := by first | (rw [hy271]; with_reducible exact H) | (have H2_ := (Option.bind_some _ _).symm.trans H; rw [hy271]; with_reducible exact H2_) | (have H2_ := (Option.bind_some _ _).symm.trans H; with_reducible exact H2_) | with_reducible exact H | (rw [hy271]; exact H) | exact H
 have Ny271 := Aside0.mk hy271
 clear hy271
 by_cases c2 : a0.toList = ([] : List UInt8)
 ·rw [if_pos c2] at H
  have c2b0 : (a0.toList == ([] : List UInt8)) = true := beq_iff_eq.mpr c2
  have c2bz : (a0.toList.isEmpty) = true := by simpa using c2b0
  have c2b1 : (a0.toList != ([] : List UInt8)) = false := bne_eq_false_iff_eq.mpr c2
  clear c2
  obtain rfl := Option.some.inj H
  go_enter Tryz.func70, Tryz.ntmps70
  go_wp2_with (first | ((with_reducible refine gate_dst (N := 6) rfl ?_); refine Kd.R_lit Kd.string _ 9 ?hg (N := 6) ?hd (xs := ([] : List ByteArray)) (inner := []) (ok := fun _ => True) (okp := fun _ => True) ?hr ?hp (fun _ hk => hk) trivial (Below.refl _ _) (Nat.le_refl _) (by simp) ?_; (case hd => rfl); (case hg => rfl); (case hr => first | (go_simp; done) | (go_simp; rfl)); (case hp => exact (Reps.none _ _)); intro v272 w3 ho4 hb hg_ hnew_; clear hg_ hnew_; (first | rw [← Ny271.out] at ho4 | (simp only [Int.reduceToNat] at ho4; rw [← Ny271.out] at ho4)); have n0_ := Aside0.mk (Kd.R_lower ho4 (below_size (by repeat (first | (with_reducible first | exact HB.out | apply below_alloc | apply pw_below_drewN | apply below_drew1) | exact HB.out)))); have n1_ := Aside0.mk (below_step (by repeat (first | (with_reducible first | exact HB.out | apply below_alloc | apply pw_below_drewN | apply below_drew1) | exact HB.out)) hb); clear HB; have HO273 := n0_; have HB := n1_; clear n0_ n1_; clear hb ho4))
  go_ret
  exact ⟨_, by first | rfl | (simp [errW_none, errW_some] <;> rfl) | (simp [*, errW_none, errW_some] <;> rfl) | (exfalso; simp_all; done) | (exfalso; omega), by (with_reducible repeat (first | apply Kd.R_alloc | apply Kd.R_drewN | apply Kd.R_drew)); exact HO273.out, by repeat (first | (with_reducible first | exact HB.out | apply below_alloc | apply pw_below_drewN | apply below_drew1) | exact HB.out)⟩
 ·rw [if_neg c2] at H
  have c2b0 : (a0.toList == ([] : List UInt8)) = false := beq_eq_false_iff_ne.mpr c2
  have c2bz : (a0.toList.isEmpty) = false := by simpa using c2b0
  have c2b1 : (a0.toList != ([] : List UInt8)) = true := bne_iff_ne.mpr c2
  have H' := Aside0.mk H
  clear H
  go_enter Tryz.func70, Tryz.ntmps70
  go_wp2_with (first | ((with_reducible refine gate_dst (N := 6) rfl ?_); refine Kd.R_lit Kd.string _ 9 ?hg (N := 6) ?hd (xs := ([] : List ByteArray)) (inner := []) (ok := fun _ => True) (okp := fun _ => True) ?hr ?hp (fun _ hk => hk) trivial (Below.refl _ _) (Nat.le_refl _) (by simp) ?_; (case hd => rfl); (case hg => rfl); (case hr => first | (go_simp; done) | (go_simp; rfl)); (case hp => exact (Reps.none _ _)); intro v272 w5 ho6 hb hg_ hnew_; clear hg_ hnew_; (first | rw [← Ny271.out] at ho6 | (simp only [Int.reduceToNat] at ho6; rw [← Ny271.out] at ho6)); have n0_ := Aside0.mk (Kd.R_lower ho6 (below_size (by repeat (first | (with_reducible first | exact HB.out | apply below_alloc | apply pw_below_drewN | apply below_drew1) | exact HB.out)))); have n1_ := Aside0.mk (below_step (by repeat (first | (with_reducible first | exact HB.out | apply below_alloc | apply pw_below_drewN | apply below_drew1) | exact HB.out)) hb); clear HB; have HO273 := n0_; have HB := n1_; clear n0_ n1_; clear hb ho6))
  go_loopg [3, 4, 5] k (fun kq v3 v4 v5 w' => ∃ (x3_1 : List ByteArray) (x4_1 : Int) (x5_1 : Int), v4 = .int .i64 x4_1 ∧ v5 = .int .i64 x5_1 ∧ Aside0 (graftbedref01_Elems.l0 kq a0 x3_1 x4_1 x5_1 = some r) ∧ Aside0 (kq ≤ k) ∧ Aside0 (Kd.R Kd.string 9 w' w.heap.size (fun _ => True) v3 x3_1) ∧ Aside0 (Below w.heap.size w w'))
  case atStart => exact ⟨(y271), (0), (0), (by first | rfl | (simp; done) | (simp [*]; done) | (simp [bne_empty, *]; done)), (by first | rfl | (simp; done) | (simp [*]; done) | (simp [bne_empty, *]; done)), H', ⟨Nat.le_refl _⟩, ⟨by (with_reducible repeat (first | apply Kd.R_alloc | apply Kd.R_drewN | apply Kd.R_drew)); exact HO273.out⟩, ⟨by repeat (first | (with_reducible first | exact HB.out | apply below_alloc | apply pw_below_drewN | apply below_drew1) | exact HB.out)⟩⟩
  case round =>
   clear H'
   try clear c2
   try clear c2b0
   try clear c2b1
   try clear p2
   obtain ⟨x3_1, x4_1, x5_1, rfl, rfl, HA, HK1, HO_3, HB⟩ := hrel
   cases gk with
   | zero => exact absurd HA.out (by simp [graftbedref01_Elems.l0])
   | succ k1 =>
    have H := HA.out
    clear HA
    simp only [graftbedref01_Elems.l0] at H
    by_cases c7 : x5_1 ≤ (a0.size : Int)
    ·rw [if_pos c7] at H
     have c7b0 : decide (x5_1 ≤ (a0.size : Int)) = true := decide_eq_true c7
     clear c7
     by_cases c8 : x5_1 = (a0.size : Int)
     ·rw [if_pos c8] at H
      have c8b0 : (x5_1 == (a0.size : Int)) = true := beq_iff_eq.mpr c8
      have c8b1 : (x5_1 != (a0.size : Int)) = false := bne_eq_false_iff_eq.mpr c8
      clear c8
      by_cases c9 : 0 ≤ x4_1
      ·rw [if_pos c9] at H
       have c9b0 := eq_true c9
       have c9b1 : decide (0 ≤ x4_1) = true := decide_eq_true c9
       clear c9
       by_cases c10 : x4_1 ≤ x5_1
       ·rw [if_pos c10] at H
        have c10b0 := eq_true c10
        have c10b1 : decide (x4_1 ≤ x5_1) = true := decide_eq_true c10
        clear c10
        have c11b0 := eq_true (of_decide_eq_true (by first | (with_reducible assumption) | assumption) : x5_1 ≤ (a0.size : Int))
        by_cases c12 : x3_1.length < 8796093022208
        ·rw [if_pos c12] at H
         have LMc12 := Aside0.mk c12
         clear c12
         obtain ⟨y274, hy274⟩ : ∃ y_ : List ByteArray, y_ = (x3_1 ++ [a0.extract (x4_1 : Int).toNat (x5_1 : Int).toNat]) := ⟨_, rfl⟩
         replace H : (graftbedref01_Elems.l0 k1 a0 y274 (wrap64 (x5_1 + 1)) (wrap64 (x5_1 + 1))) = some r := by first | (rw [hy274]; with_reducible exact H) | (have H2_ := (Option.bind_some _ _).symm.trans H; rw [hy274]; with_reducible exact H2_) | (have H2_ := (Option.bind_some _ _).symm.trans H; with_reducible exact H2_) | with_reducible exact H | (rw [hy274]; exact H) | exact H
         have Ny274 := Aside0.mk hy274
         clear hy274
         have H' := Aside0.mk H
         clear H
         go_wp2_with (first | ((with_reducible refine gate_builtin (b := .append) (xs := #[.tmp 26, .tmp 31]) rfl ?_); at_builtin; refine Kd.R_append Kd.string (w0 := w) w.heap.size rfl (.tmp 26) (.tmp 31) 39 9 (.string ⟨#[]⟩) 16 rfl Tryz.underlying39 info9 rfl (by decide) (by omega) u3 x3_1 (a0.extract (x4_1 : Int).toNat (x5_1 : Int).toNat) [.string (a0.extract (x4_1 : Int).toNat (x5_1 : Int).toNat)] (fun _ => True) (fun _ => False) rfl rfl ?aP (fun _ hk => hk.elim) ?aF ?aO ?aB ?aS ?aL ?_; (case aP => exact rfl); (case aB => exact (by repeat (first | (with_reducible first | exact HB.out | apply below_alloc | apply pw_below_drewN | apply below_drew1) | exact HB.out))); (case aF => exact (fun _ _ => trivial)); (case aO => exact (by (with_reducible repeat (first | apply Kd.R_alloc | apply Kd.R_drewN | apply Kd.R_drew)); exact HO_3.out)); (case aS => exact (below_size (by repeat (first | (with_reducible first | exact HB.out | apply below_alloc | apply pw_below_drewN | apply below_drew1) | exact HB.out)))); (case aL => have := LMc12.out; omega); intro v275 w13 ho hb hg hat; rw [← Ny274.out] at ho; have n0_ := Aside0.mk (hb); have n1_ := Aside0.mk (ho); clear HB; clear HO_3; have HB := n0_; have HO276 := n1_; clear n0_ n1_; clear ho hb hg hat))
         go_roundg k1
         case measure => have := HK1.out; omega
         case rel => exact ⟨(y274), (wrap64 (x5_1 + 1)), (wrap64 (x5_1 + 1)), (by first | rfl | (simp; done) | (simp [*]; done) | (simp [bne_empty, *]; done)), (by first | rfl | (simp; done) | (simp [*]; done) | (simp [bne_empty, *]; done)), H', ⟨by have := HK1.out; omega⟩, ⟨by (with_reducible repeat (first | apply Kd.R_alloc | apply Kd.R_drewN | apply Kd.R_drew)); exact HO276.out⟩, ⟨by repeat (first | (with_reducible first | exact HB.out | apply below_alloc | apply pw_below_drewN | apply below_drew1) | exact HB.out)⟩⟩
        ·rw [if_neg c12] at H
         exact absurd H (by simp)
       ·rw [if_neg c10] at H
        exact absurd H (by simp)
      ·rw [if_neg c9] at H
       exact absurd H (by simp)
     ·rw [if_neg c8] at H
      have c8b0 : (x5_1 == (a0.size : Int)) = false := beq_eq_false_iff_ne.mpr c8
      have c8b1 : (x5_1 != (a0.size : Int)) = true := bne_iff_ne.mpr c8
      by_cases c14 : 0 ≤ x5_1
      ·rw [if_pos c14] at H
       have c14b0 : decide (0 ≤ x5_1) = true := decide_eq_true c14
       clear c14
       by_cases c15 : x5_1 < (a0.size : Int)
       ·rw [if_pos c15] at H
        have c15b0 : decide (x5_1 < (a0.size : Int)) = true := decide_eq_true c15
        clear c15
        by_cases c17 : (bt a0 x5_1) = 47
        ·rw [if_pos c17] at H
         have c17b0 : ((bt a0 x5_1) == 47) = true := beq_iff_eq.mpr c17
         have c17b1 : ((bt a0 x5_1) != 47) = false := bne_eq_false_iff_eq.mpr c17
         clear c17
         by_cases c18 : 0 ≤ x4_1
         ·rw [if_pos c18] at H
          have c18b0 := eq_true c18
          have c18b1 : decide (0 ≤ x4_1) = true := decide_eq_true c18
          clear c18
          by_cases c19 : x4_1 ≤ x5_1
          ·rw [if_pos c19] at H
           have c19b0 := eq_true c19
           have c19b1 : decide (x4_1 ≤ x5_1) = true := decide_eq_true c19
           clear c19
           have c20b0 := eq_true (of_decide_eq_true (by first | (with_reducible assumption) | assumption) : x5_1 ≤ (a0.size : Int))
           by_cases c21 : x3_1.length < 8796093022208
           ·rw [if_pos c21] at H
            have LMc21 := Aside0.mk c21
            clear c21
            obtain ⟨y277, hy277⟩ : ∃ y_ : List ByteArray, y_ = (x3_1 ++ [a0.extract (x4_1 : Int).toNat (x5_1 : Int).toNat]) := ⟨_, rfl⟩
            replace H : (graftbedref01_Elems.l0 k1 a0 y277 (wrap64 (x5_1 + 1)) (wrap64 (x5_1 + 1))) = some r := by first | (rw [hy277]; with_reducible exact H) | (have H2_ := (Option.bind_some _ _).symm.trans H; rw [hy277]; with_reducible exact H2_) | (have H2_ := (Option.bind_some _ _).symm.trans H; with_reducible exact H2_) | with_reducible exact H | (rw [hy277]; exact H) | exact H
            have Ny277 := Aside0.mk hy277
            clear hy277
            have H' := Aside0.mk H
            clear H
            have p16 : 0 ≤ (x5_1 : Int) := of_decide_eq_true (by first | (with_reducible assumption) | assumption)
            have q16 : x5_1 < (a0.size : Int) := of_decide_eq_true (by first | (with_reducible assumption) | assumption)
            have hx16 := bt_at a0 x5_1
            replace p16 := eq_true p16
            replace q16 := eq_true q16
            go_wp2_with (first | ((with_reducible refine gate_builtin (b := .append) (xs := #[.tmp 26, .tmp 31]) rfl ?_); at_builtin; refine Kd.R_append Kd.string (w0 := w) w.heap.size rfl (.tmp 26) (.tmp 31) 39 9 (.string ⟨#[]⟩) 16 rfl Tryz.underlying39 info9 rfl (by decide) (by omega) u3 x3_1 (a0.extract (x4_1 : Int).toNat (x5_1 : Int).toNat) [.string (a0.extract (x4_1 : Int).toNat (x5_1 : Int).toNat)] (fun _ => True) (fun _ => False) rfl rfl ?aP (fun _ hk => hk.elim) ?aF ?aO ?aB ?aS ?aL ?_; (case aP => exact rfl); (case aB => exact (by repeat (first | (with_reducible first | exact HB.out | apply below_alloc | apply pw_below_drewN | apply below_drew1) | exact HB.out))); (case aF => exact (fun _ _ => trivial)); (case aO => exact (by (with_reducible repeat (first | apply Kd.R_alloc | apply Kd.R_drewN | apply Kd.R_drew)); exact HO_3.out)); (case aS => exact (below_size (by repeat (first | (with_reducible first | exact HB.out | apply below_alloc | apply pw_below_drewN | apply below_drew1) | exact HB.out)))); (case aL => have := LMc21.out; omega); intro v278 w22 ho hb hg hat; rw [← Ny277.out] at ho; have n0_ := Aside0.mk (hb); have n1_ := Aside0.mk (ho); clear HB; clear HO_3; have HB := n0_; have HO279 := n1_; clear n0_ n1_; clear ho hb hg hat))
            go_roundg k1
            case measure => have := HK1.out; omega
            case rel => exact ⟨(y277), (wrap64 (x5_1 + 1)), (wrap64 (x5_1 + 1)), (by first | rfl | (simp; done) | (simp [*]; done) | (simp [bne_empty, *]; done)), (by first | rfl | (simp; done) | (simp [*]; done) | (simp [bne_empty, *]; done)), H', ⟨by have := HK1.out; omega⟩, ⟨by (with_reducible repeat (first | apply Kd.R_alloc | apply Kd.R_drewN | apply Kd.R_drew)); exact HO279.out⟩, ⟨by repeat (first | (with_reducible first | exact HB.out | apply below_alloc | apply pw_below_drewN | apply below_drew1) | exact HB.out)⟩⟩
           ·rw [if_neg c21] at H
            exact absurd H (by simp)
          ·rw [if_neg c19] at H
           exact absurd H (by simp)
         ·rw [if_neg c18] at H
          exact absurd H (by simp)
        ·rw [if_neg c17] at H
         have c17b0 : ((bt a0 x5_1) == 47) = false := beq_eq_false_iff_ne.mpr c17
         have c17b1 : ((bt a0 x5_1) != 47) = true := bne_iff_ne.mpr c17
         have H' := Aside0.mk H
         clear H
         have p16 : 0 ≤ (x5_1 : Int) := of_decide_eq_true (by first | (with_reducible assumption) | assumption)
         have q16 : x5_1 < (a0.size : Int) := of_decide_eq_true (by first | (with_reducible assumption) | assumption)
         have hx16 := bt_at a0 x5_1
         replace p16 := eq_true p16
         replace q16 := eq_true q16
         go_wp2
         go_roundg k1
         case measure => have := HK1.out; omega
         case rel => exact ⟨(x3_1), (x4_1), (wrap64 (x5_1 + 1)), (by first | rfl | (simp; done) | (simp [*]; done) | (simp [bne_empty, *]; done)), (by first | rfl | (simp; done) | (simp [*]; done) | (simp [bne_empty, *]; done)), H', ⟨by have := HK1.out; omega⟩, ⟨by (with_reducible repeat (first | apply Kd.R_alloc | apply Kd.R_drewN | apply Kd.R_drew)); exact HO_3.out⟩, ⟨by repeat (first | (with_reducible first | exact HB.out | apply below_alloc | apply pw_below_drewN | apply below_drew1) | exact HB.out)⟩⟩
       ·rw [if_neg c15] at H
        exact absurd H (by simp)
      ·rw [if_neg c14] at H
       exact absurd H (by simp)
    ·rw [if_neg c7] at H
     have c7b0 : decide (x5_1 ≤ (a0.size : Int)) = false := decide_eq_false c7
     clear c7
     obtain rfl := Option.some.inj H
     go_wp2
     go_ret
     exact ⟨_, by first | rfl | (simp [errW_none, errW_some] <;> rfl) | (simp [*, errW_none, errW_some] <;> rfl) | (exfalso; simp_all; done) | (exfalso; omega), by (with_reducible repeat (first | apply Kd.R_alloc | apply Kd.R_drewN | apply Kd.R_drew)); exact HO_3.out, by repeat (first | (with_reducible first | exact HB.out | apply below_alloc | apply pw_below_drewN | apply below_drew1) | exact HB.out)⟩
end Go.Proofs.YtcdcpcdfcmokkaaGreatDoor.P
end
section
namespace Go.Proofs.YtcdcpcdfcmokkaaGreatDoor.P
open Go.RowKit Go.Proofs.YtcdcpcdfcmokkaaGreatDoorW.PrintWords Go.Proofs.YtcdcpcdfcmokkaaGreatDoorW.PrintLast Go.Proofs.YtcdcpcdfcmokkaaGreatDoorW.PrintMore
open Go.Proofs.YtcdcpcdfcmokkaaGreatDoor (str_gtr str_leq str_geq bne_empty)
attribute [local go_sem] max2_int min2_int max_two min_two max_three min_three max_four min_four str_gtr str_leq str_geq   -- for this text's walks alone
set_option linter.unusedVariables false
set_option linter.unusedSimpArgs false
mutual
def graftbedref01_fine.j0 : Nat → Int → Bool → Option (Bool)
 | 0, _, _ => none
 | k + 1, x0, x10 => if x10 = true then (some false) else (graftbedref01_fine.l0 k x0 (⟨#[34, 42, 58, 60, 62, 63, 92, 124, 96]⟩ : ByteArray) 0)
def graftbedref01_fine.l0 : Nat → Int → ByteArray → Int → Option (Bool)
 | 0, _, _, _ => none
 | k + 1, x0, x3, x4 => if x4 < (x3.size : Int) then (if 0 ≤ x4 then (if (bt x3 x4) = x0 then (some false) else (graftbedref01_fine.l0 k x0 x3 (wrap64 (x4 + 1)))) else (none)) else (some true)
end
def graftbedref01_fine.f (k : Nat) (a0 : Int) : Option (Bool) := if a0 < 33 then (graftbedref01_fine.j0 k a0 true) else (graftbedref01_fine.j0 k a0 (decide (a0 > 126)))
theorem graftbedref01_fine.mono_l : ∀ k, (∀ y0 y1, LeO (graftbedref01_fine.j0 k y0 y1) (graftbedref01_fine.j0 (k + 1) y0 y1)) ∧ (∀ y0 y1 y2, LeO (graftbedref01_fine.l0 k y0 y1 y2) (graftbedref01_fine.l0 (k + 1) y0 y1 y2))
 | 0 => ⟨fun _ _ r h => by simp [graftbedref01_fine.j0] at h, fun _ _ _ r h => by simp [graftbedref01_fine.l0] at h⟩
 | k + 1 => by
  obtain ⟨ih0, ih1⟩ := graftbedref01_fine.mono_l k
  refine ⟨?_, ?_⟩
  ·intro y0 y1
   unfold graftbedref01_fine.j0
   repeat' first
   | (with_reducible exact ih0 _ _)
   | (with_reducible exact ih1 _ _ _)
   | (with_reducible exact LeO.refl _)
   | (with_reducible exact LeO.none _)
   | (with_reducible refine LeO.ite ?_ ?_)
   | (with_reducible refine LeO.bind ?_ (fun _ => ?_))
   | exact ih0 _ _
   | exact ih1 _ _ _
   | exact LeO.none _
   | refine LeO.ite ?_ ?_
   | refine LeO.bind ?_ (fun _ => ?_)
  ·intro y0 y1 y2
   unfold graftbedref01_fine.l0
   repeat' first
   | (with_reducible exact ih0 _ _)
   | (with_reducible exact ih1 _ _ _)
   | (with_reducible exact LeO.refl _)
   | (with_reducible exact LeO.none _)
   | (with_reducible refine LeO.ite ?_ ?_)
   | (with_reducible refine LeO.bind ?_ (fun _ => ?_))
   | exact ih0 _ _
   | exact ih1 _ _ _
   | exact LeO.none _
   | refine LeO.ite ?_ ?_
   | refine LeO.bind ?_ (fun _ => ?_)
theorem graftbedref01_fine.mono : ∀ a0 k, LeO (graftbedref01_fine.f k a0) (graftbedref01_fine.f (k + 1) a0) := by
 intro a0 k
 obtain ⟨ih0, ih1⟩ := graftbedref01_fine.mono_l k
 unfold graftbedref01_fine.f
 repeat' first
   | (with_reducible exact ih0 _ _)
   | (with_reducible exact ih1 _ _ _)
   | (with_reducible exact LeO.refl _)
   | (with_reducible exact LeO.none _)
   | (with_reducible refine LeO.ite ?_ ?_)
   | (with_reducible refine LeO.bind ?_ (fun _ => ?_))
   | exact ih0 _ _
   | exact ih1 _ _ _
   | exact LeO.none _
   | refine LeO.ite ?_ ?_
   | refine LeO.bind ?_ (fun _ => ?_)
set_option maxHeartbeats 8000000 in
set_option maxRecDepth 100000 in
theorem graftbedref01_fine.calls (k : Nat) (a0 : Int) (r : Bool) (w : World) (h : graftbedref01_fine.f k a0 = some r) :
  Calls Tryz.prog 104 #[.int .u8 a0] w fun e w' => e = .returned (.bool r) ∧ Drawn0 w w' := by
 have H : (if a0 < 33 then (graftbedref01_fine.j0 k a0 true) else (graftbedref01_fine.j0 k a0 (decide (a0 > 126)))) = some r := h
 clear h
 have HC2 := Aside0.mk H
 clear H
 go_enter Tryz.func104, Tryz.ntmps104
 go_upto_region 1 with (fail)
 go_cut [10] (fun v10 wc => ∃ (kq : Nat) (x10_1 : Bool), v10 = .bool x10_1 ∧ Aside0 (graftbedref01_fine.j0 kq a0 x10_1 = some r) ∧ Aside0 (kq ≤ k) ∧ Drawn0 w wc)
 case first =>
  have H := HC2.out
  clear HC2
  by_cases c3 : a0 < 33
  ·rw [if_pos c3] at H
   have c3b0 : decide (a0 < 33) = true := decide_eq_true c3
   clear c3
   (first | rw [c3b0] | (simp only [i64_w, i32_w]; rw [c3b0]) | skip)
   have H' := Aside0.mk H
   clear H
   go_wp2
   go_meet
   case rel => exact ⟨_, (true), (by first | rfl | (simp; done) | (simp [*]; done) | (simp [bne_empty, *]; done)), H', ⟨by first | omega | exact Nat.le_refl _⟩, by repeat (first | exact Drawn0.refl _ | apply Drawn0.step)⟩
  ·rw [if_neg c3] at H
   have c3b0 : decide (a0 < 33) = false := decide_eq_false c3
   clear c3
   (first | rw [c3b0] | (simp only [i64_w, i32_w]; rw [c3b0]) | skip)
   have H' := Aside0.mk H
   clear H
   go_wp2
   go_meet
   case rel => exact ⟨_, (decide (a0 > 126)), (by first | rfl | (simp; done) | (simp [*]; done) | (simp [bne_empty, *]; done)), H', ⟨by first | omega | exact Nat.le_refl _⟩, by repeat (first | exact Drawn0.refl _ | apply Drawn0.step)⟩
 case rest =>
  clear HC2
  try clear c1
  try clear p2
  try clear c3
  try clear c3b0
  obtain ⟨kq, x10_1, rfl, HA, HJ1, ⟨mc1, rfl⟩⟩ := hcut
  cases kq with
  | zero => exact absurd HA.out (by simp [graftbedref01_fine.j0])
  | succ kj1 =>
   have H := HA.out
   clear HA
   simp only [graftbedref01_fine.j0] at H
   by_cases c4 : x10_1 = true
   ·subst c4
    have H1 : (some false) = some r := by rw [if_pos rfl] at H; exact H
    clear H
    have H := H1
    clear H1
    obtain rfl := Option.some.inj H
    go_wp2
    go_ret
    exact ⟨by first | rfl | (simp; done) | (simp [*]; done) | (simp [bne_empty, *]; done), by repeat (first | exact Drawn0.refl _ | apply Drawn0.step)⟩
   ·replace c4 := Bool.eq_false_iff.mpr c4
    subst c4
    have H1 : (graftbedref01_fine.l0 kj1 a0 (⟨#[34, 42, 58, 60, 62, 63, 92, 124, 96]⟩ : ByteArray) 0) = some r := by rw [if_neg (show ¬ (false = true) by decide)] at H; exact H
    clear H
    have H := H1
    clear H1
    have H' := Aside0.mk H
    clear H
    go_wp2
    go_loopg [4] kj1 (fun kq v4 w' => ∃ (x4_2 : Int), v4 = .int .i64 x4_2 ∧ Aside0 (graftbedref01_fine.l0 kq a0 (⟨#[34, 42, 58, 60, 62, 63, 92, 124, 96]⟩ : ByteArray) x4_2 = some r) ∧ Aside0 (kq ≤ kj1) ∧ Drawn0 w w')
    case atStart => exact ⟨(0), (by first | rfl | (simp; done) | (simp [*]; done) | (simp [bne_empty, *]; done)), H', ⟨Nat.le_refl _⟩, by repeat (first | exact Drawn0.refl _ | apply Drawn0.step)⟩
    case round =>
     clear H'
     try clear c1
     try clear p2
     try clear c3
     try clear c3b0
     try clear c4
     try clear p2
     obtain ⟨x4_2, rfl, HA, HK2, ⟨m2, rfl⟩⟩ := hrel
     cases gk with
     | zero => exact absurd HA.out (by simp [graftbedref01_fine.l0])
     | succ k2 =>
      have H := HA.out
      clear HA
      simp only [graftbedref01_fine.l0] at H
      by_cases c5 : x4_2 < ((⟨#[34, 42, 58, 60, 62, 63, 92, 124, 96]⟩ : ByteArray).size : Int)
      ·rw [if_pos c5] at H
       have c5b0 : decide (x4_2 < ((⟨#[34, 42, 58, 60, 62, 63, 92, 124, 96]⟩ : ByteArray).size : Int)) = true := decide_eq_true c5
       have c5by : decide (x4_2 < (9 : Int)) = true := c5b0
       clear c5
       by_cases c6 : 0 ≤ x4_2
       ·rw [if_pos c6] at H
        have c6b0 : decide (0 ≤ x4_2) = true := decide_eq_true c6
        clear c6
        by_cases c8 : (bt (⟨#[34, 42, 58, 60, 62, 63, 92, 124, 96]⟩ : ByteArray) x4_2) = a0
        ·rw [if_pos c8] at H
         have c8b0 : ((bt (⟨#[34, 42, 58, 60, 62, 63, 92, 124, 96]⟩ : ByteArray) x4_2) == a0) = true := beq_iff_eq.mpr c8
         have c8b1 : ((bt (⟨#[34, 42, 58, 60, 62, 63, 92, 124, 96]⟩ : ByteArray) x4_2) != a0) = false := bne_eq_false_iff_eq.mpr c8
         clear c8
         obtain rfl := Option.some.inj H
         have p7 : 0 ≤ (x4_2 : Int) := of_decide_eq_true (by first | (with_reducible assumption) | assumption)
         have q7 : x4_2 < (9 : Int) := of_decide_eq_true (by first | (with_reducible assumption) | assumption)
         have hx7 := bt_at (⟨#[34, 42, 58, 60, 62, 63, 92, 124, 96]⟩ : ByteArray) x4_2
         replace p7 := eq_true p7
         replace q7 := eq_true q7
         go_wp2
         go_ret
         exact ⟨by first | rfl | (simp; done) | (simp [*]; done) | (simp [bne_empty, *]; done), by repeat (first | exact Drawn0.refl _ | apply Drawn0.step)⟩
        ·rw [if_neg c8] at H
         have c8b0 : ((bt (⟨#[34, 42, 58, 60, 62, 63, 92, 124, 96]⟩ : ByteArray) x4_2) == a0) = false := beq_eq_false_iff_ne.mpr c8
         have c8b1 : ((bt (⟨#[34, 42, 58, 60, 62, 63, 92, 124, 96]⟩ : ByteArray) x4_2) != a0) = true := bne_iff_ne.mpr c8
         have H' := Aside0.mk H
         clear H
         have p7 : 0 ≤ (x4_2 : Int) := of_decide_eq_true (by first | (with_reducible assumption) | assumption)
         have q7 : x4_2 < (9 : Int) := of_decide_eq_true (by first | (with_reducible assumption) | assumption)
         have hx7 := bt_at (⟨#[34, 42, 58, 60, 62, 63, 92, 124, 96]⟩ : ByteArray) x4_2
         replace p7 := eq_true p7
         replace q7 := eq_true q7
         go_wp2
         go_roundg k2
         case measure => have := HJ1.out; have := HK2.out; omega
         case rel => exact ⟨(wrap64 (x4_2 + 1)), (by first | rfl | (simp; done) | (simp [*]; done) | (simp [bne_empty, *]; done)), H', ⟨by have := HJ1.out; have := HK2.out; omega⟩, by repeat (first | exact Drawn0.refl _ | apply Drawn0.step)⟩
       ·rw [if_neg c6] at H
        exact absurd H (by simp)
      ·rw [if_neg c5] at H
       have c5b0 : decide (x4_2 < ((⟨#[34, 42, 58, 60, 62, 63, 92, 124, 96]⟩ : ByteArray).size : Int)) = false := decide_eq_false c5
       have c5by : decide (x4_2 < (9 : Int)) = false := c5b0
       clear c5
       obtain rfl := Option.some.inj H
       go_wp2
       go_ret
       exact ⟨by first | rfl | (simp; done) | (simp [*]; done) | (simp [bne_empty, *]; done), by repeat (first | exact Drawn0.refl _ | apply Drawn0.step)⟩
end Go.Proofs.YtcdcpcdfcmokkaaGreatDoor.P
end
