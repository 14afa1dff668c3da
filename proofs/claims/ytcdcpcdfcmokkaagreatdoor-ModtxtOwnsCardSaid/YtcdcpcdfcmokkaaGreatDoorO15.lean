/- The document's answer for layer 1, in plain words. · The document's answer for layer 1, in plain words: made. · graftbedref03.Parse: what it computes (by hand). · The document's answer for layer 1, in plain words: Module, Import, Compare, Within. · slices.Clone, slices.AppendSeq, slices.Collect, paths.Elems: what they compute. · Functions of paths, taken as given by the printed walks. -/
import Derived.Test.YtcdcpcdfcmokkaaGreatDoorO13
import Derived.Test.YtcdcpcdfcmokkaaGreatDoorO05
import Derived.Test.YtcdcpcdfcmokkaaGreatDoorO14
import Derived.Lib.Explode
import Derived.Test.YtcdcpcdfcmokkaaGreatDoorO09
import Derived.Test.YtcdcpcdfcmokkaaGreatDoorO08
import Derived.Lib.LazyBuf
set_option linter.unusedVariables false
set_option linter.unusedSimpArgs false
section
namespace Go.Proofs.YtcdcpcdfcmokkaaGreatDoor
open Go Go.RowKit Go.Proofs.YtcdcpcdfcmokkaaGreatDoorW.PrintWords
set_option linter.unusedVariables false
theorem Ev.pos {α : Type} {c : Prop} [Decidable c] {f g : Nat → Option α} {r : α} (h : c) (k : Ev f r) : Ev (fun n => if c then f n else g n) r := by simpa only [if_pos h] using k
theorem Ev.neg {α : Type} {c : Prop} [Decidable c] {f g : Nat → Option α} {r : α} (h : ¬ c) (k : Ev g r) : Ev (fun n => if c then f n else g n) r := by simpa only [if_neg h] using k
theorem elems_loop (s : ByteArray) (hs : s.size ≤ 1099511627776) : ∀ (d i fr : Nat) (acc : List ByteArray), s.size - i = d → fr ≤ i → i ≤ s.size → acc.length ≤ i →
    Ev (fun k => P.graftbedref01_Elems.l0 k s acc fr i) (acc ++ (glue ((s.data.toList.take i).drop fr) (pieces 47 (s.data.toList.drop i))).map toB)
  | 0, i, fr, acc, e, hf, hi, ha => by
    obtain rfl : i = s.size := by omega
    refine Ev.step (f := fun k => P.graftbedref01_Elems.l0 k s (acc ++ [s.extract fr s.size]) ((s.size + 1 : Nat) : Int) ((s.size + 1 : Nat) : Int)) (fun k => ?_) ?_
    · rw [P.graftbedref01_Elems.l0, if_pos (by omega), if_pos rfl, if_pos (by omega), if_pos (by omega), if_pos (by omega), wrap_id (by omega) (by omega)]
      rfl
    · refine Ev.step (f := fun _ => some _) (fun k => ?_) (Ev.now _)
      rw [P.graftbedref01_Elems.l0, if_neg (by omega)]
      rw [List.drop_of_length_le (show s.data.toList.length ≤ s.size by rw [← Lib.size_eq]; exact Nat.le_refl _), extract_toB]
      simp [pieces, glue]
  | d + 1, i, fr, acc, e, hf, hi, ha => by
    have hlt : i < s.size := by omega
    have hlt' : i < s.data.toList.length := by rw [← Lib.size_eq]; exact hlt
    have hbt := bt_get s i hlt
    have hdr : s.data.toList.drop i = s.data.toList[i] :: s.data.toList.drop (i + 1) := List.drop_eq_getElem_cons hlt'
    rw [hdr, pieces_cons]
    by_cases h : s.data.toList[i] = 47
    · rw [if_pos h]
      have ih := elems_loop s hs d (i + 1) (i + 1) (acc ++ [s.extract fr i]) (by omega) (Nat.le_refl _) (by omega) (by simp; omega)
      have e1 : ((s.data.toList.take (i + 1)).drop (i + 1)) = [] := List.drop_of_length_le (by simp; omega)
      rw [e1, glue_nil] at ih
      have e2 : acc ++ (glue ((s.data.toList.take i).drop fr) ([] :: pieces 47 (s.data.toList.drop (i + 1)))).map toB = (acc ++ [s.extract fr i]) ++ (pieces 47 (s.data.toList.drop (i + 1))).map toB := by
        rw [extract_toB]; simp [glue]
      rw [e2]
      refine Ev.step (f := fun k => P.graftbedref01_Elems.l0 k s (acc ++ [s.extract fr i]) ((i + 1 : Nat) : Int) ((i + 1 : Nat) : Int)) (fun k => ?_) ih
      rw [P.graftbedref01_Elems.l0, if_pos (by omega), if_neg (by omega), if_pos (by omega), if_pos (by omega), hbt, if_pos (by rw [h]; rfl), if_pos (by omega), if_pos (by omega), if_pos (by omega), wrap_id (by omega) (by omega)]
      rfl
    · rw [if_neg h, glue_glue]
      have hne : ((s.data.toList[i].toNat : Nat) : Int) ≠ 47 := fun e => h (UInt8.toNat_inj.1 (show s.data.toList[i].toNat = 47 by omega))
      have ih := elems_loop s hs d (i + 1) fr acc (by omega) (by omega) (by omega) (by omega)
      have e1 : ((s.data.toList.take (i + 1)).drop fr) = (s.data.toList.take i).drop fr ++ [s.data.toList[i]] := by
        rw [List.take_succ_eq_append_getElem hlt', List.drop_append_of_le_length (by simp; omega)]
      rw [e1] at ih
      refine Ev.step (f := fun k => P.graftbedref01_Elems.l0 k s acc fr ((i + 1 : Nat) : Int)) (fun k => ?_) ih
      rw [P.graftbedref01_Elems.l0, if_pos (by omega), if_neg (by omega), if_pos (by omega), if_pos (by omega), hbt, if_neg hne, wrap_id (by omega) (by omega)]
      rfl
theorem relems_ev (s : ByteArray) (hs : s.size ≤ 1099511627776) : Ev (fun k => P.graftbedref01_Elems.f k s) (elemsB s) := by
  have h := elems_loop s hs _ 0 0 [] rfl (Nat.le_refl _) (Nat.zero_le _) (Nat.zero_le _)
  simp only [List.take_zero, List.drop_nil, glue_nil, List.drop_zero, List.nil_append] at h
  unfold P.graftbedref01_Elems.f elemsB
  simp only [Option.bind_some]
  rw [Lib.toList_data]
  by_cases e : s.data.toList = []
  · rw [if_pos e]
    simp only [if_pos e]
    exact Ev.now _
  · rw [if_neg e]
    simp only [if_neg e]
    exact h
theorem fine_small : ∀ c : Fin 256, P.graftbedref01_fine.f 12 (c.val : Int) = some (fineB c.val) := by decide +kernel
theorem rfine_ev (s : ByteArray) (i : Nat) : Ev (fun k => P.graftbedref01_fine.f k (bt s i)) (fineB (bt s i)) := by
  have h := bt_range s i
  obtain ⟨c, hc⟩ : ∃ c : Nat, bt s i = c := ⟨(bt s i).toNat, by omega⟩
  rw [hc]
  exact Ev.of (fun k => P.graftbedref01_fine.mono _ k) (fine_small ⟨c, by omega⟩)
set_option maxHeartbeats 1000000 in
/-- Valid. -/
theorem valid_bytes (L : List ByteArray) (i : Nat) (hi : i < L.length) (hl : L.length ≤ 1099511627776) (hs : L[i].size ≤ 1099511627776) (rest : Bool)
    (hr : Ev (fun k => P.graftbedref01_Valid.l0 k L ((i + 1 : Nat) : Int)) rest) : ∀ (d j : Nat), L[i].size - j = d → j ≤ L[i].size → fineAll L[i] j = true →
    Ev (fun k => P.graftbedref01_Valid.l1 k L i j) (fineAll L[i] L[i].size && rest) := by
  intro d
  induction d with
  | zero =>
    intro j e hj hu
    obtain rfl : j = L[i].size := by omega
    refine Ev.step (f := fun k => P.graftbedref01_Valid.l0 k L ((i + 1 : Nat) : Int)) (fun k => ?_) (by rw [hu, Bool.true_and]; exact hr)
    rw [P.graftbedref01_Valid.l1, if_pos (by omega), if_pos (by omega), rdOf_nat _ _ _ hi, if_neg (by omega), wrap_id (by omega) (by omega)]
    rfl
  | succ d ih =>
    intro j e hj hu
    have hlt : j < L[i].size := by omega
    refine Ev.step (f := fun k => (P.graftbedref01_fine.f k (bt L[i] j)).bind fun t => if t = true then P.graftbedref01_Valid.l1 k L i ((j + 1 : Nat) : Int) else some false) (fun k => ?_) (Ev.bind (f := fun k t => if t = true then P.graftbedref01_Valid.l1 k L i ((j + 1 : Nat) : Int) else some false) (rfine_ev L[i] j) ?_)
    · rw [P.graftbedref01_Valid.l1, if_pos (by omega), if_pos (by omega), rdOf_nat _ _ _ hi, if_pos (by omega), if_pos (by omega), wrap_id (x := (j : Int) + 1) (by omega) (by omega)]
      rfl
    · cases hg : fineB (bt L[i] j) with
      | true =>
        simp only [if_true]
        exact ih (j + 1) (by omega) (by omega) (by simp [fineAll, hu, hg])
      | false =>
        simp only [Bool.false_eq_true, if_false]
        rw [fineAll_no L[i] j hg _ hlt, Bool.false_and]
        exact Ev.now _
theorem valid_loop (L : List ByteArray) (hl : L.length ≤ 1099511627776) (hs : ∀ e ∈ L, e.size ≤ 1099511627776) : ∀ (d i : Nat), L.length - i = d → i ≤ L.length → Ev (fun k => P.graftbedref01_Valid.l0 k L i) ((L.drop i).all elemOk)
  | 0, i, e, hi => by
    obtain rfl : i = L.length := by omega
    refine Ev.step (f := fun _ => some _) (fun k => ?_) (Ev.now _)
    rw [P.graftbedref01_Valid.l0, if_neg (by omega)]; simp
  | d + 1, i, e, hi => by
    have hlt : i < L.length := by omega
    have ih := valid_loop L hl hs d (i + 1) (by omega) (by omega)
    have hsz := hs _ (List.getElem_mem hlt)
    have hdr : L.drop i = L[i] :: L.drop (i + 1) := List.drop_eq_getElem_cons hlt
    rw [hdr, List.all_cons]
    have no : elemOk L[i] = false → Ev (fun k => P.graftbedref01_Valid.j2 k L i true) (elemOk L[i] && (L.drop (i + 1)).all elemOk) := fun h => by
      refine Ev.step (f := fun _ => some _) (fun k => ?_) (Ev.now _)
      rw [P.graftbedref01_Valid.j2, if_pos rfl, h, Bool.false_and]
    have he0 : (L[i].size : Int) < 1 ↔ L[i].toList = [] := by
      rw [Lib.toList_data, ← List.length_eq_zero_iff, ← Lib.size_eq]; omega
    by_cases h1 : (L[i].size : Int) < 1
    · refine Ev.step (f := fun k => P.graftbedref01_Valid.j2 k L i true) (fun k => ?_) (no (by simp [elemOk, he0.1 h1]))
      rw [P.graftbedref01_Valid.l0, if_pos (by omega), if_pos (by omega), rdOf_nat _ _ _ hlt, if_pos h1]
    · have h1' : (L[i].toList == []) = false := by simpa using fun e => h1 (he0.2 e)
      by_cases h2 : (L[i].size : Int) > 30
      · refine Ev.step (f := fun k => P.graftbedref01_Valid.j2 k L i true) (fun k => ?_) (no (by simp [elemOk]; omega))
        rw [P.graftbedref01_Valid.l0, if_pos (by omega), if_pos (by omega), rdOf_nat _ _ _ hlt, if_neg h1, if_pos h2]
      · by_cases h3 : L[i].toList = [46]
        · refine Ev.step (f := fun k => P.graftbedref01_Valid.j2 k L i true) (fun k => ?_) (no (by simp [elemOk, h3]))
          rw [P.graftbedref01_Valid.l0, if_pos (by omega), if_pos (by omega), rdOf_nat _ _ _ hlt, if_neg h1, if_neg h2, if_pos h3]
        · refine Ev.step (f := fun k => P.graftbedref01_Valid.j2 k L i (L[i].toList == [46, 46])) (fun k => ?_) ?_
          · rw [P.graftbedref01_Valid.l0, if_pos (by omega), if_pos (by omega), rdOf_nat _ _ _ hlt, if_neg h1, if_neg h2, if_neg h3]
          · cases h4 : (L[i].toList == [46, 46]) with
            | true => exact no (by simp [elemOk, h4])
            | false =>
              refine Ev.step (f := fun k => P.graftbedref01_Valid.l1 k L i ((0 : Nat) : Int)) (fun k => by rw [P.graftbedref01_Valid.j2]; simp) ?_
              have := valid_bytes L i hlt hl hsz _ ih _ 0 rfl (Nat.zero_le _) rfl
              have h3' : (L[i].toList == [46]) = false := by simpa using h3
              have h2' : decide (L[i].size ≤ 30) = true := decide_eq_true (by omega)
              simpa [elemOk, h1', h2', h3', h4] using this
theorem elems_small {s : ByteArray} (hs : s.size ≤ 1099511627775) : (elemsB s).length ≤ 1099511627776 ∧ ∀ e ∈ elemsB s, e.size ≤ 1099511627776 := by
  unfold elemsB
  split
  · exact ⟨by simp, fun e h => by cases h⟩
  · exact piecesB_small hs
theorem rvalid_ev (s : ByteArray) (hs : s.size ≤ 1099511627775) : Ev (fun k => P.graftbedref01_Valid.f k s) (validB s) := by
  have he0 : (s.size : Int) < 1 ↔ s.toList = [] := by
    rw [Lib.toList_data, ← List.length_eq_zero_iff, ← Lib.size_eq]; omega
  have no : validB s = false → Ev (fun k => P.graftbedref01_Valid.j0 k s true) (validB s) := fun h =>
    Ev.step (f := fun _ => some (validB s)) (fun k => by rw [P.graftbedref01_Valid.j0, if_pos rfl, h]) (Ev.now _)
  unfold P.graftbedref01_Valid.f
  by_cases h1 : (s.size : Int) < 1
  · exact Ev.pos h1 (no (by simp [validB, he0.1 h1]))
  · refine Ev.neg h1 ?_
    by_cases h2 : (s.size : Int) > 60
    · simp only [decide_eq_true h2]
      exact no (by simp [validB]; omega)
    · simp only [decide_eq_false h2]
      refine Ev.step (f := fun k => (P.graftbedref01_Elems.f k s).bind fun t => P.graftbedref01_Valid.l0 k t 0) (fun k => by rw [P.graftbedref01_Valid.j0]; simp) (Ev.bind (relems_ev s (by omega)) ?_)
      have := valid_loop (elemsB s) (elems_small hs).1 (elems_small hs).2 _ 0 rfl (Nat.zero_le _)
      have h1' : (s.toList == []) = false := by simpa using fun e => h1 (he0.2 e)
      have h2' : decide (s.size ≤ 60) = true := decide_eq_true (by omega)
      simpa [validB, h1', h2'] using this
end Go.Proofs.YtcdcpcdfcmokkaaGreatDoor
end
section
namespace Go.Proofs.YtcdcpcdfcmokkaaGreatDoor
open Go Go.RowKit Go.Proofs.YtcdcpcdfcmokkaaGreatDoorW.PrintWords
set_option linter.unusedVariables false
def inRange (up : Bool) (c : Int) : Bool := (decide (97 ≤ c) && decide (c ≤ 122)) || ((decide (48 ≤ c) && decide (c ≤ 57)) || (up && (decide (65 ≤ c) && decide (c ≤ 90))))
def anyIs (more : ByteArray) (c : Int) : Nat → Bool
  | 0 => false
  | j + 1 => anyIs more c j || bt more j == c
theorem made_more (s : ByteArray) (up : Bool) (more : ByteArray) (i : Nat) (c : Int) (hm : more.size ≤ 1000) (rest : Bool) (hi : i < s.size) (hs : s.size ≤ 1099511627776)
    (hr : Ev (fun k => P.graftbedref01_made.l0 k s up more ((i + 1 : Nat) : Int)) rest) (is0 : Bool) :
    ∀ (d j : Nat), more.size - j = d → j ≤ more.size → Ev (fun k => P.graftbedref01_made.l1 k s up more i c (is0 || anyIs more c j) j) ((is0 || anyIs more c more.size) && rest) := by
  intro d
  induction d with
  | zero =>
    intro j e hj
    obtain rfl : j = more.size := by omega
    cases h : (is0 || anyIs more c more.size) with
    | true =>
      refine Ev.step (f := fun k => P.graftbedref01_made.l0 k s up more ((i + 1 : Nat) : Int)) (fun k => ?_) (by rw [Bool.true_and]; exact hr)
      rw [P.graftbedref01_made.l1, if_neg (by omega), if_pos rfl, wrap_id (by omega) (by omega)]
      rfl
    | false =>
      refine Ev.step (f := fun _ => some _) (fun k => ?_) (Ev.now _)
      rw [P.graftbedref01_made.l1, if_neg (by omega), if_neg (by decide)]; rfl
  | succ d ih =>
    intro j e hj
    have hlt : j < more.size := by omega
    have ih' := ih (j + 1) (by omega) (by omega)
    cases h : (is0 || anyIs more c j) with
    | true =>
      have h' : (is0 || anyIs more c (j + 1)) = true := by rw [anyIs, ← Bool.or_assoc, h]; rfl
      rw [h'] at ih'
      refine Ev.step (f := fun k => P.graftbedref01_made.l1 k s up more i c true ((j + 1 : Nat) : Int)) (fun k => ?_) ih'
      rw [P.graftbedref01_made.l1, if_pos (by omega), if_pos rfl, wrap_id (x := (j : Int) + 1) (by omega) (by omega)]
      rfl
    | false =>
      have h' : (is0 || anyIs more c (j + 1)) = (bt more j == c) := by rw [anyIs, ← Bool.or_assoc, h]; rfl
      rw [h'] at ih'
      refine Ev.step (f := fun k => P.graftbedref01_made.l1 k s up more i c (bt more j == c) ((j + 1 : Nat) : Int)) (fun k => ?_) ih'
      rw [P.graftbedref01_made.l1, if_pos (by omega), if_neg (by decide), if_pos (by omega), wrap_id (x := (j : Int) + 1) (by omega) (by omega)]
      rfl
def rgood (up : Bool) (more : ByteArray) (c : Int) : Bool := inRange up c || anyIs more c more.size
theorem made_loop (s : ByteArray) (up : Bool) (more : ByteArray) (hm : more.size ≤ 1000) (hs : s.size ≤ 1099511627776) :
    ∀ (d i : Nat), s.size - i = d → i ≤ s.size → everyUpto (rgood up more) s i = true → Ev (fun k => P.graftbedref01_made.l0 k s up more i) (everyUpto (rgood up more) s s.size) := by
  intro d
  induction d with
  | zero =>
    intro i e hi hu
    obtain rfl : i = s.size := by omega
    refine Ev.step (f := fun _ => some _) (fun k => ?_) (Ev.now _)
    rw [P.graftbedref01_made.l0, if_neg (by omega), hu]
  | succ d ih =>
    intro i e hi hu
    have hlt : i < s.size := by omega
    have base : ∀ k, P.graftbedref01_made.l0 (k + 1) s up more i = P.graftbedref01_made.j1 k s up more i (bt s i) (inRange up (bt s i)) := fun k => by
      rw [P.graftbedref01_made.l0, if_pos (by omega), if_pos (by omega)]
      generalize bt s i = c
      unfold inRange
      by_cases a1 : c ≥ 97 <;> by_cases a2 : c ≤ 122 <;> by_cases a3 : c ≥ 48 <;> by_cases a4 : c ≤ 57 <;> cases up <;> by_cases a5 : c ≥ 65 <;> by_cases a6 : c ≤ 90 <;>
        simp only [a1, a2, a3, a4, a5, a6, if_true, if_false, ge_iff_le, decide_true, decide_false, Bool.true_and, Bool.false_and, Bool.and_true, Bool.and_false, Bool.or_true, Bool.true_or, Bool.false_or, Bool.or_false, Bool.false_eq_true, not_true_eq_false, not_false_eq_true] <;> first | rfl | omega
    refine Ev.step (f := fun k => P.graftbedref01_made.j1 k s up more i (bt s i) (inRange up (bt s i))) base ?_
    refine Ev.step (f := fun k => P.graftbedref01_made.l1 k s up more i (bt s i) (inRange up (bt s i) || anyIs more (bt s i) 0) ((0 : Nat) : Int)) (fun k => by rw [P.graftbedref01_made.j1]; simp [anyIs]) ?_
    cases hg : rgood up more (bt s i) with
    | true =>
      have hr := ih (i + 1) (by omega) (by omega) (by simp [everyUpto, hu, hg])
      have := made_more s up more i (bt s i) hm _ hlt hs hr (inRange up (bt s i)) _ 0 rfl (Nat.zero_le _)
      rw [show (inRange up (bt s i) || anyIs more (bt s i) more.size) = true from hg, Bool.true_and] at this
      exact this
    | false =>
      rw [everyUpto_no _ s i hg _ hlt]
      -- the rest does not matter
      have key : ∀ (d j : Nat), more.size - j = d → j ≤ more.size → Ev (fun k => P.graftbedref01_made.l1 k s up more i (bt s i) false j) false := by
        have hall : ∀ j, j ≤ more.size → anyIs more (bt s i) j = false := by
          have h0 : anyIs more (bt s i) more.size = false := by unfold rgood at hg; simpa using (Bool.or_eq_false_iff.1 hg).2
          intro j hj
          induction hn : more.size - j generalizing j with
          | zero => obtain rfl : j = more.size := by omega
                    exact h0
          | succ n ihn =>
            have := ihn (j + 1) (by omega) (by omega)
            simp only [anyIs, Bool.or_eq_false_iff] at this
            exact this.1
        intro d
        induction d with
        | zero =>
          intro j e hj
          obtain rfl : j = more.size := by omega
          refine Ev.step (f := fun _ => some _) (fun k => ?_) (Ev.now _)
          rw [P.graftbedref01_made.l1, if_neg (by omega), if_neg (by decide)]
        | succ d ih2 =>
          intro j e hj
          have hlt2 : j < more.size := by omega
          have hb : (bt more j == bt s i) = false := by
            have := hall (j + 1) (by omega)
            simp only [anyIs, Bool.or_eq_false_iff] at this
            exact this.2
          refine Ev.step (f := fun k => P.graftbedref01_made.l1 k s up more i (bt s i) false ((j + 1 : Nat) : Int)) (fun k => ?_) (ih2 (j + 1) (by omega) (by omega))
          rw [P.graftbedref01_made.l1, if_pos (by omega), if_neg (by decide), if_pos (by omega), hb, wrap_id (x := (j : Int) + 1) (by omega) (by omega)]
          rfl
      have h1 : inRange up (bt s i) = false := by unfold rgood at hg; exact (Bool.or_eq_false_iff.1 hg).1
      rw [h1]
      exact key _ 0 rfl (Nat.zero_le _)
theorem rmade_ev (s : ByteArray) (up : Bool) (more : ByteArray) (hm : more.size ≤ 1000) (hs : s.size ≤ 1099511627776) : Ev (fun k => P.graftbedref01_made.f k s up more) (everyUpto (rgood up more) s s.size) :=
  made_loop s up more hm hs _ 0 rfl (Nat.zero_le _) rfl
theorem good_small : ∀ c : Fin 256, rgood false ⟨#[45, 46, 95, 126, 47]⟩ (c.val : Int) = goodB ⟨#[]⟩ c.val ∧ rgood true ⟨#[45, 46, 95, 126, 47, 43]⟩ (c.val : Int) = goodB bigSigns c.val := by decide +kernel
theorem made_upto (p : Int → Bool) (more s : ByteArray) (h : ∀ i : Nat, p (bt s i) = goodB more (bt s i)) : ∀ n, everyUpto p s n = madeUpto more s n
  | 0 => rfl
  | n + 1 => by rw [everyUpto, madeUpto, made_upto p more s h n, h]
theorem rmade_small (s : ByteArray) (hs : s.size ≤ 1099511627776) : Ev (fun k => P.graftbedref01_made.f k s false ⟨#[45, 46, 95, 126, 47]⟩) (madeB s ⟨#[]⟩) := by
  have h := rmade_ev s false ⟨#[45, 46, 95, 126, 47]⟩ (by decide) hs
  rwa [made_upto _ ⟨#[]⟩ s (fun i => by
    have h := bt_range s i
    obtain ⟨c, hc⟩ : ∃ c : Nat, bt s i = c := ⟨(bt s i).toNat, by omega⟩
    rw [hc]; exact (good_small ⟨c, by omega⟩).1)] at h
theorem rmade_big (s : ByteArray) (hs : s.size ≤ 1099511627776) : Ev (fun k => P.graftbedref01_made.f k s true ⟨#[45, 46, 95, 126, 47, 43]⟩) (madeB s bigSigns) := by
  have h := rmade_ev s true ⟨#[45, 46, 95, 126, 47, 43]⟩ (by decide) hs
  rwa [made_upto _ bigSigns s (fun i => by
    have h := bt_range s i
    obtain ⟨c, hc⟩ : ∃ c : Nat, bt s i = c := ⟨(bt s i).toNat, by omega⟩
    rw [hc]; exact (good_small ⟨c, by omega⟩).2)] at h
end Go.Proofs.YtcdcpcdfcmokkaaGreatDoor
end
section
namespace Go.Proofs.YtcdcpcdfcmokkaaGreatDoor
open Go.RowKit Go.Shelf Go.Proofs.YtcdcpcdfcmokkaaGreatDoorW.PrintWords
set_option linter.unusedVariables false
theorem rfind_any (s : ByteArray) (c : Int) (d : UInt8) (hd : (d.toNat : Int) = c) (w : World) (hs : s.size ≤ 1099511627775) :
    Calls Tryz.prog 125 #[.string s, .int .u8 c] w fun e w' => e = .returned (.int .i64 ((cutB d s).1.size : Int)) ∧ ∃ n, w' = w.drewN n := by
  subst hd
  obtain ⟨k, hk⟩ := (find_ev s d (by omega)).rounds
  exact (P.graftbedref03_find.calls k s d.toNat _ w hk).mono fun e w' h => ⟨h.1, h.2.out⟩
theorem rsplit_any (s : ByteArray) (w : World) (hs : s.size ≤ 1099511627775) :
    Calls Tryz.prog 101 #[.string s, .int .u8 46] w fun e w' => ∃ v, e = .returned v ∧ Kd.R Kd.string 9 w' w.heap.size (fun _ => True) v (piecesB 46 s) ∧ Below w.heap.size w w' := by
  obtain ⟨k, hk⟩ := (split_ev s 46 (by omega)).rounds
  exact P.graftbedref03_Split.calls k s 46 _ w hk
theorem rnumber_any (s : ByteArray) (w : World) (hs : s.size ≤ 1099511627775) :
    Calls Tryz.prog 67 #[.string s] w fun e w' => e = .returned (.int .i64 (numberB s)) ∧ ∃ n, w' = w.drewN n := by
  obtain ⟨k, hk⟩ := (number_ev s (by omega)).rounds
  exact (P.graftbedref03_Number.calls k s _ w hk).mono fun e w' h => ⟨h.1, h.2.out⟩
theorem cut_cases (c : UInt8) (s : ByteArray) : (cutB c s = (s, ByteArray.empty, false)) ∨ ∃ i : Nat, i + 1 ≤ s.size ∧ cutB c s = (s.extract 0 i, s.extract (i + 1) s.size, true) := by
  rcases Lib.indexB_cases s ⟨#[c]⟩ with hix | ⟨i, hix, hroom⟩
  · obtain ⟨e1, e2, e3⟩ := Lib.cutB_miss s ⟨#[c]⟩ hix
    left
    unfold cutB toB
    rw [e1, e2, e3]
  · obtain ⟨e1, e2, e3⟩ := Lib.cutB_hit s ⟨#[c]⟩ i hix
    right
    refine ⟨i, hroom, ?_⟩
    unfold cutB toB
    rw [e1, e2, e3]
    rfl
theorem cut_found (c : UInt8) (s : ByteArray) (h : (cutB c s).2.2 = true) : (cutB c s).1.size < s.size ∧ s.extract ((cutB c s).1.size + 1) s.size = (cutB c s).2.1 := by
  rcases cut_cases c s with e | ⟨i, hi, e⟩
  · rw [e] at h; cases h
  · rw [e]
    have : (s.extract 0 i).size = i := by rw [ByteArray.size_extract]; omega
    simp only [this]
    exact ⟨by omega, trivial⟩
theorem cut_not (c : UInt8) (s : ByteArray) (h : (cutB c s).2.2 = false) : (cutB c s).1 = s := by
  rcases cut_cases c s with e | ⟨i, hi, e⟩
  · rw [e]
  · rw [e] at h; cases h
theorem cut_head (c : UInt8) (s : ByteArray) : s.extract 0 (cutB c s).1.size = (cutB c s).1 := by
  rcases cut_cases c s with e | ⟨i, hi, e⟩
  · rw [e]; exact Lib.whole_piece s
  · rw [e]
    have : (s.extract 0 i).size = i := by rw [ByteArray.size_extract]; omega
    simp only [this]
theorem rest_eq {s : ByteArray} (h : prefB s = true) : s.extract 1 s.size = restB s := by
  unfold prefB at h
  unfold restB Lib.trimPrefix
  rw [if_pos h, extract_toB, List.take_of_length_le (by rw [← Lib.size_eq]; exact Nat.le_refl _)]
  rfl
theorem pref_iff (s : ByteArray) : prefB s = (decide (0 < s.size) && bt s 0 == 118) := by
  unfold prefB Lib.hasPrefix
  cases h : s.data.toList with
  | nil =>
    have : s.size = 0 := by rw [Lib.size_eq, h]; rfl
    simp [this]
  | cons b l =>
    have hs : 0 < s.size := by rw [Lib.size_eq, h]; simp
    have hb := bt_get s 0 hs
    simp only [h, List.getElem_cons_zero] at hb
    rw [show bt s 0 = (b.toNat : Int) from hb]
    simp only [hs, decide_true, Bool.true_and]
    rw [Bool.eq_iff_iff]
    simp
    constructor
    · rintro rfl; rfl
    · intro e; exact UInt8.toNat_inj.1 (show (118 : UInt8).toNat = b.toNat by have e' : (b.toNat : Int) = 118 := e; show 118 = b.toNat; omega)
theorem rfind_plus (s : ByteArray) (w : World) (hs : (restB s).size ≤ 1099511627775) :
    Calls Tryz.prog 125 #[.string (restB s), .int .u8 43] w fun e w' => e = .returned (.int .i64 ((metaC s).1.size : Int)) ∧ ∃ n, w' = w.drewN n := rfind_any (restB s) 43 43 rfl w hs
theorem rfind_dash (s : ByteArray) (w : World) (hs : (metaC s).1.size ≤ 1099511627775) :
    Calls Tryz.prog 125 #[.string (metaC s).1, .int .u8 45] w fun e w' => e = .returned (.int .i64 ((preC s).1.size : Int)) ∧ ∃ n, w' = w.drewN n := rfind_any (metaC s).1 45 45 rfl w hs
def rparseOk (s : ByteArray) : Bool := prefB s && (decide (s.size ≤ 60) && ((!(metaC s).2.2 || (piecesB 46 (metaC s).2.1).all (identOk false)) && ((!(preC s).2.2 || (piecesB 46 (preC s).2.1).all (identOk true)) && (decide ((idsB s).length = 3) && (idsB s).all numOk))))
theorem all_not {α : Type} (l : List α) (p : α → Bool) (h : Bool) (hl : l ≠ []) : l.all (fun e => !h || p e) = (!h || l.all p) := by
  cases h with
  | true => simp
  | false => simp
theorem rparse_eq (s : ByteArray) : rparseOk s = verOk s := by
  unfold rparseOk verOk
  have h1 : decide ((idsB s).length = 3) = decide (Lib.countByte (preC s).1.data.toList 46 = 2) := by
    unfold idsB; rw [piecesB_count]; simp
  have h2 : (piecesB 46 (preC s).2.1).all (preOk (preC s).2.2) = (!(preC s).2.2 || (piecesB 46 (preC s).2.1).all (identOk true)) := by
    have e : preOk (preC s).2.2 = fun e => !(preC s).2.2 || identOk true e := by
      funext x; simp only [preOk, identOk, everyB, Bool.true_and]
      cases (preC s).2.2 <;> cases everyUpto signB x x.size <;> cases noughtB x <;> cases (x.toList == []) <;> rfl
    rw [e, all_not _ _ _ (by simp [piecesB, pieces_ne])]
  have h3 : (piecesB 46 (metaC s).2.1).all (metaOk (metaC s).2.2) = (!(metaC s).2.2 || (piecesB 46 (metaC s).2.1).all (identOk false)) := by
    have e : metaOk (metaC s).2.2 = fun e => !(metaC s).2.2 || identOk false e := by
      funext x; simp only [metaOk, identOk, everyB, Bool.false_and, Bool.not_false, Bool.true_and]
      cases (metaC s).2.2 <;> cases everyUpto signB x x.size <;> cases (x.toList == []) <;> rfl
    rw [e, all_not _ _ _ (by simp [piecesB, pieces_ne])]
  rw [h1, h2, h3]
  cases prefB s <;> cases decide (s.size ≤ 60) <;> cases (!(metaC s).2.2 || (piecesB 46 (metaC s).2.1).all (identOk false)) <;> cases (!(preC s).2.2 || (piecesB 46 (preC s).2.1).all (identOk true)) <;> simp
end Go.Proofs.YtcdcpcdfcmokkaaGreatDoor
end
section
namespace Go.Proofs.YtcdcpcdfcmokkaaGreatDoor
open Go Go.RowKit Go.Proofs.YtcdcpcdfcmokkaaGreatDoorW.PrintWords
set_option linter.unusedVariables false
set_option linter.unusedSimpArgs false
theorem pref1 (c : UInt8) (s : ByteArray) (hs : 0 < s.size) : Lib.hasPrefix s.data.toList [c] = (bt s 0 == (c.toNat : Int)) := by
  unfold Lib.hasPrefix
  cases h : s.data.toList with
  | nil => rw [Lib.size_eq, h] at hs; simp at hs
  | cons b l =>
    have hb := bt_get s 0 hs
    simp only [h, List.getElem_cons_zero] at hb
    rw [show bt s 0 = (b.toNat : Int) from hb]
    rw [Bool.eq_iff_iff]
    simp
    constructor
    · rintro rfl; rfl
    · intro e; exact UInt8.toNat_inj.1 (by omega)
theorem suf1 (c : UInt8) (s : ByteArray) (hs : 0 < s.size) : Lib.hasSuffix s.data.toList [c] = (bt s ((s.size - 1 : Nat) : Int) == (c.toNat : Int)) := by
  have hlt : s.size - 1 < s.size := by omega
  rw [bt_get s (s.size - 1) hlt]
  unfold Lib.hasSuffix
  rw [Bool.eq_iff_iff]
  simp only [List.isSuffixOf_iff_suffix, beq_iff_eq]
  have hne : s.data.toList ≠ [] := fun e => by rw [Lib.size_eq, e] at hs; simp at hs
  have hl : s.data.toList[s.size - 1]'(by rw [← Lib.size_eq]; exact hlt) = s.data.toList.getLast hne := by
    rw [List.getLast_eq_getElem]; congr 1
  rw [hl]
  constructor
  · intro h
    obtain ⟨t, ht⟩ := h
    have : s.data.toList.getLast hne = c := by simp [← ht]
    rw [this]
  · intro h
    have : s.data.toList.getLast hne = c := UInt8.toNat_inj.1 (by omega)
    exact ⟨s.data.toList.dropLast, by rw [← this]; exact List.dropLast_concat_getLast hne⟩
theorem index_any (c : UInt8) : ∀ l : List UInt8, decide (0 ≤ Lib.indexByte l c) = l.any (fun b => (b.toNat : Int) == (c.toNat : Int))
  | [] => rfl
  | b :: l => by
    have ih := index_any c l
    have hg := Lib.indexByte_ge l c
    rw [List.any_cons, ← ih]
    by_cases h : b = c
    · subst h; simp [Lib.indexByte]
    · have hb : (b == c) = false := by simpa using h
      have hn : ((b.toNat : Int) == (c.toNat : Int)) = false := by
        cases e : ((b.toNat : Int) == (c.toNat : Int)) with
        | false => rfl
        | true => exact absurd (UInt8.toNat_inj.1 (by have := beq_iff_eq.1 e; omega)) h
      rw [hn, Bool.false_or, Bool.eq_iff_iff]
      simp only [decide_eq_true_eq]
      by_cases e : Lib.indexByte l c = -1
      · simp [Lib.indexByte, hb, e]
      · simp [Lib.indexByte, hb, e]; omega
theorem anyIs_take (s : ByteArray) (c : UInt8) : ∀ n, n ≤ s.size → anyIs s c.toNat n = (s.data.toList.take n).any (fun b => (b.toNat : Int) == (c.toNat : Int))
  | 0, _ => by simp [anyIs]
  | n + 1, h => by
    have hlt : n < s.data.toList.length := by rw [← Lib.size_eq]; omega
    rw [anyIs, anyIs_take s c n (by omega), List.take_succ_eq_append_getElem hlt, List.any_append, bt_get s n (by omega)]
    simp
theorem anyIs_index (s : ByteArray) (c : UInt8) : anyIs s c.toNat s.size = decide (0 ≤ Lib.indexByte s.data.toList c) := by
  rw [index_any, anyIs_take s c s.size (Nat.le_refl _), List.take_of_length_le (by rw [← Lib.size_eq]; exact Nat.le_refl _)]
theorem elems_ne {s : ByteArray} (hV : validB s = true) : elemsB s = (cutB 47 s).1 :: (if (cutB 47 s).2.2 = true then piecesB 47 (cutB 47 s).2.1 else []) := by
  have := valid_pos hV
  unfold elemsB
  rw [if_neg (fun e => by rw [Lib.size_eq, e] at this; simp at this), piecesB_cut]
theorem head_byte (c : UInt8) (s : ByteArray) (h : 0 < (cutB c s).1.size) : bt (cutB c s).1 0 = bt s 0 := by
  rcases cut_cases c s with e | ⟨i, hi, e⟩
  · rw [e]
  · rw [e] at h ⊢
    simp only [] at h ⊢
    have h1 := bt_get (s.extract 0 i) 0 h
    have h2 := bt_get s 0 (by omega)
    rw [show bt (s.extract 0 i) 0 = _ from h1, show bt s 0 = _ from h2]
    congr 2
    simp [List.getElem_take]
end Go.Proofs.YtcdcpcdfcmokkaaGreatDoor
end
section
namespace Go.Proofs.YtcdcpcdfcmokkaaGreatDoor
open Go.RowKit Go.Shelf Go.Proofs.YtcdcpcdfcmokkaaGreatDoorW.PrintWords Go.Proofs.YtcdcpcdfcmokkaaGreatDoorW.PrintLast Go.Proofs.YtcdcpcdfcmokkaaGreatDoorW.PrintMore
attribute [local go_sem] Oper.semAt_some
theorem eql_nil_strs (w : World) (a : Option Addr) (l c : Nat) : (binOp .eql 39 (.slice a l c) (.slice none 0 0)).run Tryz.prog w = .ok (.bool a.isNone) w := by
  apply Lib.run_eql_slice_nil
  exact Tryz.underlying39
attribute [local go_sem] eql_nil_strs
set_option linter.unusedVariables false
theorem infoStr : (Tryz.prog.info? 9).map (fun i => (i.zero, i.size, i.bytes)) = some (some (.string ⟨#[]⟩), 1, 16) := by kernel_rfl
set_option maxHeartbeats 2000000 in
set_option maxRecDepth 100000 in
theorem clone_any (A : Option Addr) (c : Nat) (l : List ByteArray) (w : World) (hr : Kd.string.C w A l.length l) (hc : l.length ≤ c) (hl : l.length ≤ 8796093022208) :
    Calls Tryz.prog 27 #[.slice A l.length c] w fun e w' => ∃ v, e = .returned v ∧ Kd.R Kd.string 9 w' w.heap.size (fun _ => True) v l ∧ Below w.heap.size w w' := by
  cases A with
  | none =>
    have h0 : l = [] := by
      rcases Nat.eq_zero_or_pos l.length with h | h
      · exact List.eq_nil_of_length_eq_zero h
      · obtain ⟨ad, e, _⟩ := hr.2.2 h; cases e
    subst h0
    go_enter Tryz.func27, Tryz.ntmps27
    go_wp2
    go_ret
    exact ⟨_, rfl, Kd.R_nil _ _ _ _ _, Below.refl _ _⟩
  | some ad =>
    go_enter Tryz.func27, Tryz.ntmps27
    go_wp2_with (first | ((with_reducible refine gate_dst (N := 5) rfl ?_); refine Kd.R_lit Kd.string _ 9 ?hg (N := 5) ?hd (xs := ([] : List ByteArray)) (inner := []) (ok := fun _ => True) (okp := fun _ => True) ?hr ?hp (fun _ hk => hk) trivial (Below.refl _ _) (Nat.le_refl _) (by simp) ?_; (case hd => rfl); (case hg => rfl); (case hr => first | (go_simp; done) | (go_simp; rfl)); (case hp => exact (Reps.none _ _)); intro v1 w1 ho hb hg_ hnew_) | ((with_reducible refine gate_dst (N := 7) rfl ?_); refine Kd.R_append_rows Kd.string (w0 := w1) w.heap.size rfl (.tmp 5) (.tmp 6) 39 9 (.string ⟨#[]⟩) 16 rfl Tryz.underlying39 infoStr rfl (by decide) (by omega) v1 [] l (some ad) l.length c (fun _ => True) (fun _ => False) rfl rfl (Kd.R_lower ho (Nat.le_refl _)) (Kd.C_below hr (below_then (Below.refl _ _) (Nat.le_refl _) hb)) (fun _ _ h => h) (fun _ hk => hk.elim) (fun _ _ => trivial) (Below.refl _ _) hb.size (by simp; omega) ?_; intro v2 w2 ho2 hb2 hg2 hat2))
    go_ret
    exact ⟨_, rfl, by simpa using ho2, hb.trans hb2⟩
theorem OwnAt.grown {β : Type} {D B C : Nat} {w : World} (hD : w.heap.size ≤ D) (hB : B = C ∨ w.heap.size ≤ B) : OwnAt D B (fun (_ : β) W => w.grownBy W (some C)) := fun s W W' row hs hg hr =>
  ⟨hg.os.trans hs.os, hg.tape.trans hs.tape, hg.output.trans hs.output, Nat.le_trans hs.size hg.size, fun k hk hne => (hg.block k (Nat.lt_of_lt_of_le hk hs.size) (fun e => by
    rcases hr k e.symm with h | ⟨h, _⟩
    · rcases hB with hB | hB
      · exact hne (by rw [h, hB])
      · omega
    · omega)).trans (hs.block k hk hne)⟩
theorem grown_over {w W W' : World} {B : Nat} {row : Option Nat} (h : w.grownBy W (some B)) (hg : W.grownBy W' row) (hrow : ∀ k, row = some k → w.heap.size ≤ k) : w.grownBy W' (some B) :=
  ⟨hg.os.trans h.os, hg.tape.trans h.tape, hg.output.trans h.output, Nat.le_trans h.size hg.size, fun k hk hne => (hg.block k (Nat.lt_of_lt_of_le hk h.size) (fun e => by have := hrow k e.symm; omega)).trans (h.block k hk hne)⟩
set_option maxHeartbeats 4000000 in
set_option maxRecDepth 100000 in
/-- slices.AppendSeq of no row, over paths.elems's closure. -/
theorem appendSeq_elems (s : ByteArray) (B : Nat) (w : World) (hv : VarAt w B (.string s)) (hs : s.size ≤ 8796093022206) :
    Calls Tryz.prog 141 #[.slice none 0 0, .func (.func 90) #[] #[.pointer (some ⟨B, 0, none⟩)]] w fun e w' => ∃ v, e = .returned v ∧ Kd.R Kd.string 9 w' w.heap.size (fun _ => True) v (elemsB s) ∧ w.grownBy w' (some B) := by
  refine (callsIn_wide (n := 5)).1 ?_
  refine callsIn_of_wp_marks Tryz.func141 rfl trivial ?_ rfl
  simp only [Tryz.ntmps141, List.size_toArray, List.length_cons, List.length_nil, Nat.reduceAdd, Nat.reduceSub, Array.replicate_succ, Array.replicate_zero, List.push_toArray, List.append_toArray, List.nil_append, List.cons_append]
  gi_wp2
  have hBl := hv.lt
  have hz : (w.alloc (.cells #[.slice none 0 0] 39)).heap.size = w.heap.size + 1 := World.size_alloc _ _
  have hl0 : (elemsB s).length ≤ s.size + 1 := by
    unfold elemsB
    split
    · simp
    · unfold piecesB
      rw [List.length_map]
      exact Nat.le_trans (pieces_le _ _) (by rw [Lib.size_eq]; exact Nat.le_refl _)
  refine wpIn_rangeAt (B := B) rfl (by omega) (gf := 90) (lb := #[.pointer (some ⟨B, 0, none⟩)]) rfl trivial (enters_of Tryz.func90 (by kernel_rfl) rfl)
    (elems1_seq 4 B (by omega) s (by omega)) (by omega) (fun W hW => (hv.alloc _).below hW) (fun _ => rfl)
    (fun pre W => ∃ v, VarAt W w.heap.size v ∧ (w.grownBy W (some B) ∧ Kd.R Kd.string 9 W (w.heap.size + 1) (fun _ => True) v pre))
    (fun c pre W => False)
    (OwnAt.ex fun v => OwnAt.and (OwnAt.var _ (by omega)) (OwnAt.and (OwnAt.grown (by omega) (.inl rfl)) (OwnAt.row _ _ (fun k _ hk => by omega))))
    (fun c => OwnAt.no)
    ⟨_, VarAt.new _ _ _, World.grownBy_alloc _ _ _, Kd.R_nil _ _ _ _ _⟩
    (fun x => { tmps := #[.slice none 0 0, .func (.func 90) #[] #[.pointer (some ⟨B, 0, none⟩)], .pointer (some ⟨w.heap.size, 0, none⟩), undef, .slice none 0 0, .string x, .func (.func 90) #[] #[.pointer (some ⟨B, 0, none⟩)], .string x, undef, undef, undef, undef, undef], defers := [] }) ?assign ?body ?done ?stop
  case stop => intro D c pre W hD hpre h; exact h.elim
  case assign =>
    intro l x W K hK
    gi_wp2
    exact hK
  case body =>
    rintro l pre x W ⟨v, hv0, hgr, hR⟩ hpx hsz
    have hlen : (pre.length + 1) * 16 ≤ 140737488355328 := by have := hpx.length_le; simp at this; omega
    have hown : v.ownBlock ≠ some w.heap.size := fun e => by have := Kd.R_base hR _ e; omega
    have hownB : v.ownBlock ≠ some B := fun e => by have := Kd.R_base hR _ e; omega
    have hc0 := hv0.1
    have hf0 := hv0.2
    refine wpIn_block ?_
    refine wpIn_region_lit (wpListIn_of (fun h => by obtain ⟨_, _, h⟩ := h; exact h) _ (by rfl) _ _ ?_)
    go_wp2_with (first | ((with_reducible refine gate_dst (N := 11) rfl ?_); refine Kd.R_append Kd.string (w0 := W) (w.heap.size + 1) rfl (.tmp 8) (.tmp 10) 39 9 (.string ⟨#[]⟩) 16 rfl Tryz.underlying39 infoStr rfl (by decide) (by omega) v pre x [.string x] (fun _ => True) (fun _ => False) rfl rfl ?aP (fun _ hk => hk.elim) (fun _ _ => trivial) hR (Below.refl _ _) (by omega) hlen ?_; (case aP => exact (show _ = _ from rfl)); intro v1 w1 ho hb hg hat; have q1 := (hv0.grown hg hown).1; have q2 := (hv0.grown hg hown).2; obtain ⟨Ao, co, rfl⟩ := Kd.R_slice ho))
    rw [show (pre ++ [x]).length = pre.length + 1 by simp] at ho
    refine ⟨(keeps_row hg (fun k hk => ?_)).trans (keeps_set _ _ _ _), (Below.heap_setCell _ _ _ _ (by show B ≠ w.heap.size; omega)).trans (hg.block B (by omega) (fun e => hownB e.symm)), _, (hv0.grown hg hown).set _, ?_, ?_⟩
    · obtain ⟨_, _, _, q, _, cells, hc⟩ := (Kd.R_bound hR).1 k hk
      exact ⟨_, hc, rfl⟩
    · exact grown_over (grown_over hgr hg (fun k hk => by have := Kd.R_base hR k hk; omega)) (grown_set _ _ _) (fun k hk => by cases hk; exact Nat.le_refl _)
    · exact Kd.R_mono (Kd.R_far (Kd.R_mono (Kd.R_bound ho) (fun k hk => (⟨hk.1, by have := hk.2.1; show k ≠ w.heap.size; omega⟩ : True ∧ k ≠ (⟨w.heap.size, 0, none⟩ : Addr).block))) (fun k hk => hk.2) _) (fun k hk => hk.1)
  case done =>
    rintro D W hD ⟨v, hv0, hgr, hR⟩ hK
    have hc0 := hv0.1
    gi_wp2
    refine ⟨by simp, .inl ⟨_, _, rfl, run_takeDeferred hK, ?_⟩⟩
    refine ⟨v, by simp [results, Tryz.results141, go_sem], v, rfl, ?_, grown_over hgr (grownBy_putObj' _ _ _) (fun k hk => by cases hk; omega)⟩
    refine Kd.R_lower (Kd.R_mono (Kd.R_step (Kd.R_bound hR) (fun k hk hlt => World.putObj_heap_other (fun e => ?_))) (fun k hk => hk.1)) (by omega)
    obtain ⟨q, _, cells, hc⟩ := hk.2.2.2
    rw [e] at hc
    first | (rw [hK] at hc; cases hc) | (rw [← e] at hK; rw [hK] at hc; cases hc)
set_option maxHeartbeats 1000000 in
theorem collect_elems (s : ByteArray) (B : Nat) (w : World) (hv : VarAt w B (.string s)) (hs : s.size ≤ 8796093022206) :
    Calls Tryz.prog 120 #[.func (.func 90) #[] #[.pointer (some ⟨B, 0, none⟩)]] w fun e w' => ∃ v, e = .returned v ∧ Kd.R Kd.string 9 w' w.heap.size (fun _ => True) v (elemsB s) ∧ w.grownBy w' (some B) := by
  go_enter Tryz.func120, Tryz.ntmps120
  go_wp2_with (go_at_call 141; refine (appendSeq_elems s B _ hv hs).mono ?_; rintro e w' ⟨v, rfl, hR, hg⟩)
  go_ret
  exact ⟨_, rfl, hR, hg⟩
set_option maxHeartbeats 1000000 in
theorem pathElems_any (s : ByteArray) (w : World) (hs : s.size ≤ 8796093022206) :
    Calls Tryz.prog 84 #[.string s] w fun e w' => ∃ v, e = .returned v ∧ Kd.R Kd.string 9 w' w.heap.size (fun _ => True) v (elemsB s) ∧ Below w.heap.size w w' := by
  have hv : VarAt (w.alloc (.cells #[.string s] 9)) w.heap.size (.string s) := VarAt.new w _ _
  go_enter Tryz.func84, Tryz.ntmps84
  go_wp2_with (first | (go_at_call 59; refine (elems_any _ _).mono ?_; rintro e w' ⟨rfl, rfl⟩) | (go_at_call 120; refine (collect_elems s _ _ hv hs).mono ?_; rintro e w' ⟨v, rfl, hR, hg⟩))
  go_ret
  refine ⟨_, rfl, Kd.R_lower hR (by simp), ?_⟩
  exact (below_alloc (Below.refl _ w) _).grown hg (by simp) (fun k hk => by cases hk; exact Nat.le_refl _)
end Go.Proofs.YtcdcpcdfcmokkaaGreatDoor
end
section
namespace Go.Proofs.YtcdcpcdfcmokkaaGreatDoor.P
open Go.RowKit Go.Proofs.YtcdcpcdfcmokkaaGreatDoorW.PrintWords
set_option linter.unusedVariables false
def paths_Valid.f (a0 : ByteArray) : Option Bool := if a0.size ≤ 9223372036854775807 then some (validB a0) else none
theorem paths_Valid.calls (a0 : ByteArray) (r : Bool) (w : World) (h : paths_Valid.f a0 = some r) :
    Calls Tryz.prog 56 #[.string a0] w fun e w' => e = .returned (.bool r) ∧ Below w.heap.size w w' := by
  unfold paths_Valid.f at h
  split at h
  · obtain rfl := Option.some.inj h; exact valid_any a0 w (by assumption)
  · cases h
def paths_Elems.f (a0 : ByteArray) : Option (List ByteArray) := if a0.size ≤ 8796093022206 then some (elemsB a0) else none
theorem paths_Elems.calls (a0 : ByteArray) (r : List ByteArray) (w : World) (h : paths_Elems.f a0 = some r) :
    Calls Tryz.prog 84 #[.string a0] w fun e w' => ∃ v0_ : Value, e = .returned v0_ ∧ Kd.R Kd.string 9 w' w.heap.size (fun _ => True) v0_ r ∧ Below w.heap.size w w' := by
  unfold paths_Elems.f at h
  split at h
  · obtain rfl := Option.some.inj h; exact pathElems_any a0 w (by assumption)
  · cases h
end Go.Proofs.YtcdcpcdfcmokkaaGreatDoor.P
end
