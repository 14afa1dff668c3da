/- Canonical, Major, Fits of layer 3: the program's and the document's, in plain words. · Fits of layer 3, Within of layer 1: the program's and the document's, in plain words. -/
import Derived.Test.YtcdcpcdfcmokkaaGreatDoorO19
import Derived.Test.YtcdcpcdfcmokkaaGreatDoorO18
import Derived.Test.YtcdcpcdfcmokkaaGreatDoorO05
import Derived.Test.YtcdcpcdfcmokkaaGreatDoorO16
import Derived.Test.YtcdcpcdfcmokkaaGreatDoorO20
import Derived.Test.YtcdcpcdfcmokkaaGreatDoorO21
import Derived.Test.YtcdcpcdfcmokkaaGreatDoorO15
set_option linter.unusedVariables false
set_option linter.unusedSimpArgs false
section
namespace Go.Proofs.YtcdcpcdfcmokkaaGreatDoor
open Go Go.RowKit Go.Proofs.YtcdcpcdfcmokkaaGreatDoorW.PrintWords
set_option linter.unusedVariables false
set_option linter.unusedSimpArgs false
theorem pparse_eq (s : ByteArray) (h : s.size ≤ 1099511627775) : P.semver_Parse.f s = some (numAt s 0, numAt s 1, numAt s 2, preB s, metaB s, verErr s) := if_pos (by omega)
theorem rparse_f (s : ByteArray) (h : s.size ≤ 1099511627775) : P.graftbedref03_Parse.f s = some (numAt s 0, numAt s 1, numAt s 2, preB s, metaB s, verErr s) := if_pos h
def incompat : List UInt8 := [105, 110, 99, 111, 109, 112, 97, 116, 105, 98, 108, 101]
def canonB (s : ByteArray) : ByteArray := if verOk s = true then (if (metaB s).toList = incompat then s else (cutB 43 s).1) else ⟨#[]⟩
theorem canon_eq (s : ByteArray) (h : s.size ≤ 1099511627775) : P.semver_Canonical.f s = some (canonB s) := by
  unfold P.semver_Canonical.f canonB
  rw [pparse_eq s h, Option.bind_some]
  by_cases h1 : verErr s = 0
  · rw [if_pos h1, if_pos ((verErr_iff s).1 h1)]
    by_cases h2 : (metaB s).toList = incompat
    · rw [if_pos h2]; exact if_pos h2
    · rw [if_neg h2]
      refine (if_neg h2).trans ?_
      rw [show P.strings_Cut.f s ⟨#[43]⟩ = some ((cutB 43 s).1, (cutB 43 s).2.1, (cutB 43 s).2.2) from if_pos (by omega)]
      rfl
  · rw [if_neg h1, if_neg (fun h => h1 ((verErr_iff s).2 h))]
theorem rcanon_ev (s : ByteArray) (h : s.size ≤ 1099511627775) : Ev (fun k => P.graftbedref03_Canonical.f k s) (canonB s) := by
  unfold P.graftbedref03_Canonical.f canonB
  simp only [rparse_f s h, Option.bind_some]
  by_cases h1 : verErr s = 0
  · rw [if_pos ((verErr_iff s).1 h1)]
    refine Ev.pos h1 ?_
    by_cases h2 : (metaB s).toList = incompat
    · rw [if_pos h2]; exact Ev.pos h2 (Ev.now _)
    · rw [if_neg h2]
      refine Ev.neg h2 ?_
      refine Ev.bind (f := fun k t => if 0 ≤ t then (if t ≤ (s.size : Int) then some (s.extract 0 t.toNat) else none) else none) (find_ev s 43 (by omega)) ?_
      refine Ev.pos (by omega) (Ev.pos ?_ ?_)
      · have := cut_piece_size 43 s; omega
      · rw [Int.toNat_natCast, cut_head]; exact Ev.now _
  · rw [if_neg (fun h => h1 ((verErr_iff s).2 h))]
    exact Ev.neg h1 (Ev.now _)
theorem pieces_none (c : UInt8) : ∀ l : List UInt8, c ∉ l → pieces c l = [l]
  | [], _ => rfl
  | b :: l, h => by
    simp only [List.mem_cons, not_or] at h
    unfold pieces
    rw [if_neg (fun e => h.1 e.symm), pieces_none c l h.2]
theorem pieces_last (c : UInt8) : ∀ (a b : List UInt8), c ∉ b → pieces c (a ++ c :: b) = pieces c a ++ [b]
  | [], b, h => by simp [pieces, pieces_none c b h]
  | x :: a, b, h => by
    have ih := pieces_last c a b h
    rw [List.cons_append]
    unfold pieces
    by_cases e : x = c
    · rw [if_pos e, if_pos e, ih]; rfl
    · rw [if_neg e, if_neg e, ih]
      cases hp : pieces c a with
      | nil => exact absurd hp (pieces_ne c a)
      | cons p ps => rfl
theorem last_loop (s : ByteArray) (hs : s.size ≤ 1099511627776) : ∀ (n : Nat), n ≤ s.size → (47 : UInt8) ∉ s.data.toList.drop n →
    (Ev (fun k => P.bytealg_LastIndexByteString.l0 k s 47 ((n : Int) - 1)) (-1) ∧ (47 : UInt8) ∉ s.data.toList) ∨
    ∃ a b, s.data.toList = a ++ 47 :: b ∧ (47 : UInt8) ∉ b ∧ Ev (fun k => P.bytealg_LastIndexByteString.l0 k s 47 ((n : Int) - 1)) (a.length : Int)
  | 0, _, h => by
    left
    refine ⟨Ev.step (f := fun _ => some _) (fun k => ?_) (Ev.now _), by simpa using h⟩
    rw [P.bytealg_LastIndexByteString.l0, if_neg (by omega)]
  | n + 1, hn, h => by
    have hlt : n < s.size := by omega
    have hlt' : n < s.data.toList.length := by rw [← Lib.size_eq]; exact hlt
    have hbt := bt_get s n hlt
    have hdr : s.data.toList.drop n = s.data.toList[n] :: s.data.toList.drop (n + 1) := List.drop_eq_getElem_cons hlt'
    have e1 : (((n + 1 : Nat) : Int) - 1) = n := by omega
    rw [e1]
    by_cases hc : s.data.toList[n] = 47
    · right
      refine ⟨s.data.toList.take n, s.data.toList.drop (n + 1), ?_, h, ?_⟩
      · rw [← hc, ← hdr, List.take_append_drop]
      · refine Ev.step (f := fun _ => some _) (fun k => ?_) (Ev.now _)
        rw [P.bytealg_LastIndexByteString.l0, if_pos (by omega), if_pos (by omega), if_pos (by omega), hbt, hc, if_pos (show ((UInt8.toNat 47 : Nat) : Int) = 47 from rfl), List.length_take]
        congr 1; omega
    · have hnin : (47 : UInt8) ∉ s.data.toList.drop n := by
        rw [hdr]; simp only [List.mem_cons, not_or]; exact ⟨fun e => hc e.symm, h⟩
      have hne : ¬ ((s.data.toList[n].toNat : Nat) : Int) = 47 := fun e => hc (UInt8.toNat_inj.1 (show s.data.toList[n].toNat = 47 by omega))
      have st : ∀ k, P.bytealg_LastIndexByteString.l0 (k + 1) s 47 (n : Int) = P.bytealg_LastIndexByteString.l0 k s 47 ((n : Int) - 1) := fun k => by
        rw [P.bytealg_LastIndexByteString.l0, if_pos (by omega), if_pos (by omega), if_pos (by omega), hbt, if_neg hne, wrap_id (by omega) (by omega)]
      rcases last_loop s hs n (by omega) hnin with ⟨h1, h2⟩ | ⟨a, b, h1, h2, h3⟩
      · exact .inl ⟨Ev.step st h1, h2⟩
      · exact .inr ⟨a, b, h1, h2, Ev.step st h3⟩
theorem split_cases (s : ByteArray) (hs : s.size ≤ 1099511627775) :
    (Ev (fun k => P.paths_Split.f k s) ((⟨#[]⟩ : ByteArray), s) ∧ (47 : UInt8) ∉ s.data.toList) ∨
    ∃ a b, s.data.toList = a ++ 47 :: b ∧ (47 : UInt8) ∉ b ∧ Ev (fun k => P.paths_Split.f k s) (toB a, toB b) := by
  have h := last_loop s (by omega) s.size (Nat.le_refl _) (by rw [List.drop_of_length_le (by rw [← Lib.size_eq]; exact Nat.le_refl _)]; simp)
  have e1 : wrap64 ((s.size : Int) - 1) = (s.size : Int) - 1 := wrap_id (by omega) (by omega)
  have lift : ∀ r, Ev (fun k => P.bytealg_LastIndexByteString.l0 k s 47 ((s.size : Int) - 1)) r → Ev (fun k => P.strings_LastIndexByte.f k s 47) r := fun r h => by
    unfold P.strings_LastIndexByte.f P.bytealg_LastIndexByteString.f
    rw [e1]
    exact Ev.bind (f := fun _ t => some t) h (Ev.now _)
  rcases h with ⟨h1, h2⟩ | ⟨a, b, h1, h2, h3⟩
  · left
    refine ⟨?_, h2⟩
    unfold P.paths_Split.f
    refine Ev.bind (f := fun k t => if t ≥ 0 then (if 0 ≤ t then (if t ≤ (s.size : Int) then (if 0 ≤ (wrap64 (t + 1)) then (if (wrap64 (t + 1)) ≤ (s.size : Int) then (some (s.extract 0 (t : Int).toNat, s.extract ((wrap64 (t + 1)) : Int).toNat s.size)) else (none)) else (none)) else (none)) else (none)) else (some ((⟨#[]⟩ : ByteArray), s))) (lift _ h1) ?_
    exact Ev.neg (by omega) (Ev.now _)
  · right
    refine ⟨a, b, h1, h2, ?_⟩
    have hsz : s.size = a.length + 1 + b.length := by rw [Lib.size_eq, h1]; simp; omega
    unfold P.paths_Split.f
    refine Ev.bind (f := fun k t => if t ≥ 0 then (if 0 ≤ t then (if t ≤ (s.size : Int) then (if 0 ≤ (wrap64 (t + 1)) then (if (wrap64 (t + 1)) ≤ (s.size : Int) then (some (s.extract 0 (t : Int).toNat, s.extract ((wrap64 (t + 1)) : Int).toNat s.size)) else (none)) else (none)) else (none)) else (none)) else (some ((⟨#[]⟩ : ByteArray), s))) (lift _ h3) ?_
    have e2 : wrap64 ((a.length : Int) + 1) = ((a.length + 1 : Nat) : Int) := (wrap_id (by omega) (by omega)).trans rfl
    refine Ev.pos (by omega) (Ev.pos (by omega) (Ev.pos (by omega) (Ev.pos (by rw [e2]; omega) (Ev.pos (by rw [e2]; omega) ?_))))
    rw [e2, Int.toNat_natCast, Int.toNat_natCast, extract_toB, extract_toB, h1]
    have e3 : (List.take s.size (a ++ 47 :: b)).drop (a.length + 1) = b := by
      rw [List.take_of_length_le (by simp; omega), show a ++ 47 :: b = (a ++ [47]) ++ b by simp]
      exact List.drop_left' (by simp)
    rw [e3]
    simp only [List.take_left', List.drop_zero]
    exact Ev.now _
theorem take_toList (s : ByteArray) (n : Nat) : (s.extract 0 n).toList = s.data.toList.take n := by
  rw [extract_toB, Lib.toList_data, toB_data, List.drop_zero]
theorem hasP_eq (a p : ByteArray) : P.stringslite_HasPrefix.f a p = some (Lib.hasPrefix a.data.toList p.data.toList) := by
  unfold P.stringslite_HasPrefix.f
  rw [← Lib.hasPrefix_of_take]
  by_cases h : (a.size : Int) ≥ (p.size : Int)
  · rw [if_pos h, if_pos (by omega), if_pos (by omega), Int.toNat_natCast, take_toList, Lib.toList_data, Lib.size_eq p]
    have : decide (p.data.toList.length ≤ a.data.toList.length) = true := decide_eq_true (by rw [← Lib.size_eq, ← Lib.size_eq]; omega)
    rw [this, Bool.true_and]
  · rw [if_neg h]
    have : decide (p.data.toList.length ≤ a.data.toList.length) = false := decide_eq_false (by rw [← Lib.size_eq, ← Lib.size_eq]; omega)
    rw [this, Bool.false_and]
theorem hasPrefix_eq (a p : ByteArray) : P.strings_HasPrefix.f a p = some (Lib.hasPrefix a.data.toList p.data.toList) := by
  unfold P.strings_HasPrefix.f; rw [hasP_eq]; rfl
def cutPre (a p : ByteArray) : ByteArray × Bool := if Lib.hasPrefix a.data.toList p.data.toList = true then (a.extract p.size a.size, true) else (a, false)
theorem hasPrefix_len {a p : ByteArray} (h : Lib.hasPrefix a.data.toList p.data.toList = true) : p.size ≤ a.size := by
  rw [← Lib.hasPrefix_of_take] at h
  simp only [Bool.and_eq_true, decide_eq_true_eq] at h
  rw [Lib.size_eq, Lib.size_eq]; exact h.1
theorem cutPrefix_eq (a p : ByteArray) : P.strings_CutPrefix.f a p = some (cutPre a p) := by
  unfold P.strings_CutPrefix.f P.stringslite_CutPrefix.f cutPre
  rw [hasP_eq, Option.bind_some]
  by_cases h : Lib.hasPrefix a.data.toList p.data.toList = true
  · have := hasPrefix_len h
    rw [if_pos h, if_pos (by omega), if_pos (by omega), if_pos h]; rfl
  · rw [if_neg h, if_neg h]; rfl
theorem cutPre_v (s : ByteArray) : cutPre s ⟨#[118]⟩ = (restB s, prefB s) := by
  unfold cutPre
  by_cases h : prefB s = true
  · rw [if_pos (show Lib.hasPrefix s.data.toList _ = true from h), h, ← rest_eq h]; rfl
  · have h' : prefB s = false := by simpa using h
    rw [if_neg (show ¬ Lib.hasPrefix s.data.toList _ = true from h), h']
    congr 1
    unfold restB Lib.trimPrefix
    rw [if_neg (show ¬ Lib.hasPrefix s.data.toList [118] = true from h), toB_mk]
def majorOf (e : ByteArray) : Int := if (prefB e && (numOk (restB e) && decide (2 ≤ numV (restB e)))) = true then numV (restB e) else 0
def majorB (path : ByteArray) : Int := if 2 ≤ (elemsB path).length then majorOf ((elemsB path).getD ((elemsB path).length - 1) ByteArray.empty) else 0
theorem restB_le (s : ByteArray) : (restB s).size ≤ s.size := by
  unfold restB Lib.trimPrefix
  rw [toB_size, Lib.size_eq]
  split <;> simp
theorem major_ev (s : ByteArray) (hs : s.size ≤ 1099511627775) : Ev (fun k => P.semver_Major.f k s) (majorB s) := by
  have tailF : ∀ (dir last : ByteArray), last.size ≤ 1099511627775 → ∀ r : Int, (r = if majorOf last = 0 then 0 else if dir.toList = [] then (if Lib.hasPrefix s.data.toList [47] = true then majorOf last else 0) else majorOf last) →
      Ev (fun k => P.paths_Split.f k s) (dir, last) → Ev (fun k => P.semver_Major.f k s) r := fun dir last hl r hr hsp => by
    unfold P.semver_Major.f
    refine Ev.bind (f := fun k (bt167 : ByteArray × ByteArray) => (P.strings_CutPrefix.f bt167.2 (⟨#[118]⟩ : ByteArray)).bind fun bt169 => ((P.semver_number.f bt169.1).bind fun bt171 => (if bt169.2 = true then (if bt171.2 = true then (if bt171.1 < 2 then (some 0) else (if bt167.1.toList = ([] : List UInt8) then ((P.strings_HasPrefix.f s (⟨#[47]⟩ : ByteArray)).bind fun t173 => (if t173 = true then (some bt171.1) else (some 0))) else (some bt171.1))) else (some 0)) else (some 0)))) hsp ?_
    simp only [cutPrefix_eq, Option.bind_some, cutPre_v]
    rw [show P.semver_number.f (restB last) = some (numV (restB last), numOk (restB last)) from if_pos (by have := restB_le last; omega)]
    simp only [Option.bind_some, hasPrefix_eq]
    subst hr
    unfold majorOf
    refine ⟨0, fun k _ => ?_⟩
    by_cases h1 : prefB last = true
    · by_cases h2 : numOk (restB last) = true
      · by_cases h3 : numV (restB last) < 2
        · have h3' : ¬ 2 ≤ numV (restB last) := by omega
          simp [h1, h2, h3, h3']
        · have h3' : 2 ≤ numV (restB last) := by omega
          have h4 : ¬ numV (restB last) = 0 := by omega
          simp only [h1, h2, h3, h3', h4, if_true, if_false, decide_true, Bool.and_self]
          by_cases h5 : dir.toList = []
          · simp only [h5, if_true]
            cases Lib.hasPrefix s.data.toList [47] <;> rfl
          · simp only [h5, if_false]
      · simp [h1, h2]
    · simp [h1]
  rcases split_cases s hs with ⟨h1, h2⟩ | ⟨a, b, h1, h2, h3⟩
  · refine tailF _ s hs _ ?_ h1
    have hE : ¬ 2 ≤ (elemsB s).length := by
      unfold elemsB
      split
      · simp
      · unfold piecesB; rw [pieces_none 47 _ h2]; simp
    have hP : ¬ Lib.hasPrefix s.data.toList [47] = true := by
      unfold Lib.hasPrefix
      intro h
      cases hl : s.data.toList with
      | nil => rw [hl] at h; cases h
      | cons x l => rw [hl] at h h2; simp at h; subst h; simp at h2
    rw [majorB, if_neg hE, if_neg hP]
    simp
  · have hE : elemsB s = (pieces 47 a).map toB ++ [toB b] := by
      unfold elemsB piecesB
      rw [h1, if_neg (by simp), pieces_last 47 a b h2]; simp
    have hlen : 2 ≤ (elemsB s).length := by
      rw [hE]; simp
      cases hp : pieces 47 a with
      | nil => exact absurd hp (pieces_ne 47 a)
      | cons p ps => simp
    have hlast : (elemsB s).getD ((elemsB s).length - 1) ByteArray.empty = toB b := by rw [hE]; simp
    refine tailF _ (toB b) (by rw [toB_size]; rw [Lib.size_eq, h1] at hs; simp at hs; omega) _ ?_ h3
    rw [majorB, if_pos hlen, hlast]
    by_cases hz : majorOf (toB b) = 0
    · rw [if_pos hz, hz]
    · rw [if_neg hz]
      by_cases hd : (toB a).toList = []
      · have ha : a = [] := by rw [Lib.toList_data, toB_data] at hd; exact hd
        rw [if_pos hd, if_pos (by rw [h1, ha]; simp [Lib.hasPrefix])]
      · rw [if_neg hd]
theorem rmajor_ev (s : ByteArray) (hs : s.size ≤ 1099511627775) : Ev (fun k => P.graftbedref03_Major.f k s) (majorB s) := by
  unfold P.graftbedref03_Major.f
  refine Ev.bind (f := fun k (t352 : List ByteArray) => if (t352.length : Int) < 2 then (some 0) else (if 0 ≤ (wrap64 ((t352.length : Int) - 1)) then (if (wrap64 ((t352.length : Int) - 1)) < (t352.length : Int) then (if ((rdOf ByteArray.empty t352 (wrap64 ((t352.length : Int) - 1))).size : Int) < 2 then (some 0) else (if 0 < ((rdOf ByteArray.empty t352 (wrap64 ((t352.length : Int) - 1))).size : Int) then (if (bt (rdOf ByteArray.empty t352 (wrap64 ((t352.length : Int) - 1))) 0) = 118 then (if 1 ≤ ((rdOf ByteArray.empty t352 (wrap64 ((t352.length : Int) - 1))).size : Int) then ((P.graftbedref03_Number.f k ((rdOf ByteArray.empty t352 (wrap64 ((t352.length : Int) - 1))).extract 1 (rdOf ByteArray.empty t352 (wrap64 ((t352.length : Int) - 1))).size)).bind fun t356 => (if t356 < 2 then (some 0) else ((P.graftbedref03_Number.f k ((rdOf ByteArray.empty t352 (wrap64 ((t352.length : Int) - 1))).extract 1 (rdOf ByteArray.empty t352 (wrap64 ((t352.length : Int) - 1))).size)).bind fun t357 => (some t357)))) else (none)) else (some 0)) else (none))) else (none)) else (none))) (relems_ev s (by omega)) ?_
  have hsm := elems_small hs
  unfold majorB
  by_cases h1 : ((elemsB s).length : Int) < 2
  · rw [if_neg (by omega)]
    exact Ev.pos h1 (Ev.now _)
  · rw [if_pos (by omega)]
    have hi : (elemsB s).length - 1 < (elemsB s).length := by omega
    have e1 : wrap64 (((elemsB s).length : Int) - 1) = (((elemsB s).length - 1 : Nat) : Int) := by rw [wrap_id (by omega) (by omega)]; omega
    have hg : (elemsB s).getD ((elemsB s).length - 1) ByteArray.empty = (elemsB s)[(elemsB s).length - 1] := by rw [List.getD_eq_getElem?_getD, List.getElem?_eq_getElem hi]; rfl
    rw [hg]
    simp only [e1, rdOf_nat ByteArray.empty (elemsB s) _ hi]
    have hz := hsm.2 _ (List.getElem_mem hi)
    generalize (elemsB s)[(elemsB s).length - 1] = x at hz
    refine Ev.neg h1 (Ev.pos (by omega) (Ev.pos (by omega) ?_))
    have hv : ∀ (h : 0 < x.size), prefB x = (bt x 0 == 118) := fun h => by rw [pref_iff, decide_eq_true h, Bool.true_and]
    by_cases h2 : (x.size : Int) < 2
    · refine Ev.pos h2 ?_
      have : majorOf x = 0 := by
        unfold majorOf
        have : numOk (restB x) = true → prefB x = true → False := fun hn hp => by
          have hr := rest_eq hp
          have : (restB x).size = 0 := by rw [← hr, ByteArray.size_extract]; omega
          have hl : (restB x).toList = [] := by rw [Lib.toList_data]; exact List.eq_nil_of_length_eq_zero (by rw [← Lib.size_eq]; exact this)
          simp [numOk, everyB, hl] at hn
        cases hp : prefB x with
        | false => simp
        | true => cases hn : numOk (restB x) with
          | false => simp
          | true => exact absurd hp (fun hp => this hn hp)
      rw [this]; exact Ev.now _
    · refine Ev.neg h2 (Ev.pos (by omega) ?_)
      by_cases h3 : bt x 0 = 118
      · have hp : prefB x = true := by rw [hv (by omega)]; simpa using h3
        refine Ev.pos h3 (Ev.pos (by omega) ?_)
        simp only [rest_eq hp]
        have hle := restB_le x
        refine Ev.bind (f := fun k t356 => if t356 < 2 then (some 0) else ((P.graftbedref03_Number.f k (restB x)).bind fun t357 => (some t357))) (number_ev (restB x) (by omega)) ?_
        unfold majorOf
        rw [hp, Bool.true_and]
        by_cases h4 : numOk (restB x) = true
        · have en : numberB (restB x) = numV (restB x) := (numV_ok h4).symm
          rw [en]
          by_cases h5 : numV (restB x) < 2
          · rw [if_neg (by simp [h4]; omega)]; exact Ev.pos h5 (Ev.now _)
          · rw [if_pos (by simp [h4]; omega)]
            refine Ev.neg h5 (Ev.bind (f := fun _ t => some t) (number_ev (restB x) (by omega)) ?_)
            rw [en]; exact Ev.now _
        · rw [if_neg (by simp [h4])]
          have : numberB (restB x) = -1 := if_neg h4
          rw [this]
          exact Ev.pos (by decide) (Ev.now _)
      · have hp : prefB x = false := by rw [hv (by omega)]; simpa using h3
        refine Ev.neg h3 ?_
        rw [show majorOf x = 0 by unfold majorOf; rw [hp]; rfl]
        exact Ev.now _
end Go.Proofs.YtcdcpcdfcmokkaaGreatDoor
end
section
namespace Go.Proofs.YtcdcpcdfcmokkaaGreatDoor
open Go Go.RowKit Go.Proofs.YtcdcpcdfcmokkaaGreatDoorW.PrintWords
set_option linter.unusedVariables false
set_option linter.unusedSimpArgs false
def fitsB (path v : ByteArray) : Int :=
  if verOk v = true then
    (if 0 < majorB path then (if numAt v 0 = majorB path ∧ ¬ (metaB v).toList = incompat then 0 else 31)
     else if (decide (1 < numAt v 0)) = decide ((metaB v).toList = incompat) then 0 else 31)
  else 30
theorem major_nonneg (s : ByteArray) : 0 ≤ majorB s := by
  unfold majorB majorOf
  split
  · split
    · rename_i h; simp only [Bool.and_eq_true, decide_eq_true_eq] at h; omega
    · omega
  · omega
def withinB (s dir : ByteArray) : ByteArray × Bool :=
  if dir.toList = [] ∨ dir.toList = [46] then (s, true) else if s.toList = dir.toList then (⟨#[]⟩, true)
  else if Lib.hasPrefix s.data.toList (dir ++ (⟨#[47]⟩ : ByteArray)).data.toList = true then (s.extract (dir.size + 1) s.size, true) else (⟨#[]⟩, false)
theorem within_a {s dir : ByteArray} (h : dir.toList = [] ∨ dir.toList = [46]) : withinB s dir = (s, true) := if_pos h
theorem within_b {s dir : ByteArray} (h1 : ¬ dir.toList = []) (h2 : ¬ dir.toList = [46]) (h3 : s.toList = dir.toList) : withinB s dir = (⟨#[]⟩, true) := (if_neg (by simp [h1, h2])).trans (if_pos h3)
theorem within_c {s dir : ByteArray} (h1 : ¬ dir.toList = []) (h2 : ¬ dir.toList = [46]) (h3 : ¬ s.toList = dir.toList) : withinB s dir = if Lib.hasPrefix s.data.toList (dir ++ (⟨#[47]⟩ : ByteArray)).data.toList = true then (s.extract (dir.size + 1) s.size, true) else (⟨#[]⟩, false) := (if_neg (by simp [h1, h2])).trans (if_neg h3)
theorem within_eq (s dir : ByteArray) (hd : dir.size ≤ 1099511627775) : P.paths_Within.f s dir = some (withinB s dir) := by
  unfold P.paths_Within.f P.paths_here.f
  by_cases h1 : dir.toList = []
  · rw [within_a (Or.inl h1), if_pos h1]; rfl
  · rw [if_neg h1, Option.bind_some]
    by_cases h2 : dir.toList = [46]
    · rw [within_a (Or.inr h2), if_pos (by simpa using h2)]
    · rw [if_neg (by simpa using h2)]
      by_cases h3 : s.toList = dir.toList
      · rw [within_b h1 h2 h3, if_pos h3]
      · rw [within_c h1 h2 h3, if_neg h3, if_pos (by omega), cutPrefix_eq, Option.bind_some]
        unfold cutPre
        have hz : (dir ++ (⟨#[47]⟩ : ByteArray)).size = dir.size + 1 := by rw [ByteArray.size_append]; rfl
        by_cases h4 : Lib.hasPrefix s.data.toList (dir ++ (⟨#[47]⟩ : ByteArray)).data.toList = true
        · rw [if_pos h4, if_pos h4, if_pos rfl, hz]
        · rw [if_neg h4, if_neg h4, if_neg (show ¬ (false = true) by decide)]
theorem rwithin_ev (s dir : ByteArray) (hs : s.size ≤ 1099511627775) (hd : dir.size ≤ 1099511627775) : Ev (fun k => P.graftbedref01_Within.f k s dir) (withinB s dir) := by
  unfold P.graftbedref01_Within.f
  by_cases h1 : dir.toList = []
  · rw [within_a (Or.inl h1)]
    refine Ev.pos h1 (Ev.step (f := fun _ => some _) (fun k => by rw [P.graftbedref01_Within.j0, if_pos rfl]) (Ev.now _))
  · refine Ev.neg h1 ?_
    by_cases h2 : dir.toList = [46]
    · rw [within_a (Or.inr h2)]
      refine Ev.step (f := fun _ => some _) (fun k => ?_) (Ev.now _)
      rw [P.graftbedref01_Within.j0, if_pos (by simpa using h2)]
    · refine Ev.step (f := fun _ => some _) (fun k => ?_) (Ev.now _)
      have e1 : wrap64 ((dir.size : Int) + 1) = ((dir.size + 1 : Nat) : Int) := (wrap_id (by omega) (by omega)).trans rfl
      rw [P.graftbedref01_Within.j0, if_neg (by simpa using h2), e1, Int.toNat_natCast]
      by_cases h3 : s.toList = dir.toList
      · rw [within_b h1 h2 h3, if_pos h3]
      · rw [within_c h1 h2 h3, if_neg h3]
        have hz : (dir ++ (⟨#[47]⟩ : ByteArray)).data.toList.length = dir.size + 1 := by rw [← Lib.size_eq, ByteArray.size_append]; rfl
        rw [← Lib.hasPrefix_of_take, hz, ← Lib.size_eq]
        by_cases h4 : (s.size : Int) ≥ ((dir.size + 1 : Nat) : Int)
        · rw [if_pos h4, if_pos (by omega), if_pos (by omega), if_pos (by omega), take_toList, Lib.toList_data, decide_eq_true (show dir.size + 1 ≤ s.size by omega), Bool.true_and]
          by_cases h5 : s.data.toList.take (dir.size + 1) = (dir ++ (⟨#[47]⟩ : ByteArray)).data.toList
          · rw [if_pos h5, if_pos (by simpa using h5)]
          · rw [if_neg h5, if_neg (by simpa using h5)]
        · rw [if_neg h4, decide_eq_false (show ¬ dir.size + 1 ≤ s.size by omega), Bool.false_and, if_neg (by decide)]
end Go.Proofs.YtcdcpcdfcmokkaaGreatDoor
end
section
namespace Go.Proofs.YtcdcpcdfcmokkaaGreatDoor.P
open Go.RowKit Go.Proofs.YtcdcpcdfcmokkaaGreatDoorW.PrintWords Go.Proofs.YtcdcpcdfcmokkaaGreatDoorW.PrintLast Go.Proofs.YtcdcpcdfcmokkaaGreatDoorW.PrintMore
open Go.Proofs.YtcdcpcdfcmokkaaGreatDoor (str_gtr str_leq str_geq bne_empty)
attribute [local go_sem] max2_int min2_int max_two min_two max_three min_three max_four min_four str_gtr str_leq str_geq   -- for this text's walks alone
set_option linter.unusedVariables false
set_option linter.unusedSimpArgs false
def gomod_Local.l0 : Nat → ByteArray → ByteArray → Bool → Option (Bool)
 | 0, _, _, _ => none
 | k + 1, x0, x3, x4 => if x4 = true then ((strings_CutPrefix.f x3 (⟨#[46, 47]⟩ : ByteArray)).bind fun bt115 => ((strings_CutPrefix.f bt115.1 (⟨#[46, 46, 47]⟩ : ByteArray)).bind fun bt117 => (if bt117.2 = true then (gomod_Local.l0 k x0 bt117.1 true) else (gomod_Local.l0 k x0 bt117.1 bt115.2)))) else (if x3.toList = x0.toList then (some false) else (if x3.toList = ([] : List UInt8) then (some true) else ((paths_Valid.f x3).bind fun t119 => (some t119))))
def gomod_Local.f (k : Nat) (a0 : ByteArray) : Option (Bool) := gomod_Local.l0 k a0 a0 true
set_option maxHeartbeats 8000000 in
set_option maxRecDepth 100000 in
theorem gomod_Local.calls (k : Nat) (a0 : ByteArray) (r : Bool) (w : World) (h : gomod_Local.f k a0 = some r) :
  Calls Tryz.prog 93 #[.string a0] w fun e w' => e = .returned (.bool r) ∧ Below w.heap.size w w' := by
 have HB := Aside0.mk (Below.refl w.heap.size w)
 have H : (gomod_Local.l0 k a0 a0 true) = some r := h
 clear h
 have H' := Aside0.mk H
 clear H
 go_enter Tryz.func93, Tryz.ntmps93
 go_wp2
 go_loopg [3, 4] k (fun kq v3 v4 w' => ∃ (x3_1 : ByteArray) (x4_1 : Bool), v3 = .string x3_1 ∧ v4 = .bool x4_1 ∧ Aside0 (gomod_Local.l0 kq a0 x3_1 x4_1 = some r) ∧ Aside0 (kq ≤ k) ∧ Aside0 (Below w.heap.size w w'))
 case atStart => exact ⟨(a0), (true), (by first | rfl | (simp; done) | (simp [*]; done) | (simp [bne_empty, *]; done)), (by first | rfl | (simp; done) | (simp [*]; done) | (simp [bne_empty, *]; done)), H', ⟨Nat.le_refl _⟩, ⟨by repeat (first | (with_reducible first | exact HB.out | apply below_alloc | apply pw_below_drewN | apply below_drew1) | exact HB.out)⟩⟩
 case round =>
  clear H'
  obtain ⟨x3_1, x4_1, rfl, rfl, HA, HK1, HB⟩ := hrel
  cases gk with
  | zero => exact absurd HA.out (by simp [gomod_Local.l0])
  | succ k1 =>
   have H := HA.out
   clear HA
   simp only [gomod_Local.l0] at H
   by_cases c2 : x4_1 = true
   ·subst c2
    have H1 : ((strings_CutPrefix.f x3_1 (⟨#[46, 47]⟩ : ByteArray)).bind fun bt115 => ((strings_CutPrefix.f bt115.1 (⟨#[46, 46, 47]⟩ : ByteArray)).bind fun bt117 => (if bt117.2 = true then (gomod_Local.l0 k1 a0 bt117.1 true) else (gomod_Local.l0 k1 a0 bt117.1 bt115.2)))) = some r := by rw [if_pos rfl] at H; exact H
    clear H
    have H := H1
    clear H1
    replace H := Option.bind_eq_some_iff.mp H
    obtain ⟨⟨t115, t116⟩, A30, H⟩ := H
    replace H : ((strings_CutPrefix.f t115 (⟨#[46, 46, 47]⟩ : ByteArray)).bind fun bt117 => (if bt117.2 = true then (gomod_Local.l0 k1 a0 bt117.1 true) else (gomod_Local.l0 k1 a0 bt117.1 t116))) = some r := H
    have A3 := Aside0.mk A30
    clear A30
    replace H := Option.bind_eq_some_iff.mp H
    obtain ⟨⟨t117, t118⟩, A40, H⟩ := H
    replace H : (if t118 = true then (gomod_Local.l0 k1 a0 t117 true) else (gomod_Local.l0 k1 a0 t117 t116)) = some r := H
    have A4 := Aside0.mk A40
    clear A40
    by_cases c5 : t118 = true
    ·subst c5
     have H1 : (gomod_Local.l0 k1 a0 t117 true) = some r := by rw [if_pos rfl] at H; exact H
     clear H
     have H := H1
     clear H1
     have H' := Aside0.mk H
     clear H
     go_wp2_with (first | ((with_reducible refine gate_callee (f := 73) rfl ?_); refine goesL_ (some 10) rfl rfl Tryz.func73 (by kernel_rfl) rfl #[.string x3_1, .string (⟨#[46, 47]⟩ : ByteArray)] rfl (by (try simp only [List.map_toArray, List.map_cons, List.map_nil]); first | done | rfl | (simp only [List.length_drop, List.length_take]; rfl)) ?_; (with_reducible refine (strings_CutPrefix.calls x3_1 (⟨#[46, 47]⟩ : ByteArray) t115 t116 _ A3.out).mono ?_); rintro e w' ⟨rfl, ⟨nd, rfl⟩⟩; refine ⟨_, rfl, ?_⟩) | ((with_reducible refine gate_callee (f := 73) rfl ?_); refine goesL_ (some 15) rfl rfl Tryz.func73 (by kernel_rfl) rfl #[.string t115, .string (⟨#[46, 46, 47]⟩ : ByteArray)] rfl (by (try simp only [List.map_toArray, List.map_cons, List.map_nil]); first | done | rfl | (simp only [List.length_drop, List.length_take]; rfl)) ?_; (with_reducible refine (strings_CutPrefix.calls t115 (⟨#[46, 46, 47]⟩ : ByteArray) t117 true _ A4.out).mono ?_); rintro e w' ⟨rfl, ⟨nd, rfl⟩⟩; refine ⟨_, rfl, ?_⟩))
     go_roundg k1
     case measure => have := HK1.out; omega
     case rel => exact ⟨(t117), (true), (by first | rfl | (simp; done) | (simp [*]; done) | (simp [bne_empty, *]; done)), (by first | rfl | (simp; done) | (simp [*]; done) | (simp [bne_empty, *]; done)), H', ⟨by have := HK1.out; omega⟩, ⟨by repeat (first | (with_reducible first | exact HB.out | apply below_alloc | apply pw_below_drewN | apply below_drew1) | exact HB.out)⟩⟩
    ·replace c5 := Bool.eq_false_iff.mpr c5
     subst c5
     have H1 : (gomod_Local.l0 k1 a0 t117 t116) = some r := by rw [if_neg (show ¬ (false = true) by decide)] at H; exact H
     clear H
     have H := H1
     clear H1
     have H' := Aside0.mk H
     clear H
     go_wp2_with (first | ((with_reducible refine gate_callee (f := 73) rfl ?_); refine goesL_ (some 10) rfl rfl Tryz.func73 (by kernel_rfl) rfl #[.string x3_1, .string (⟨#[46, 47]⟩ : ByteArray)] rfl (by (try simp only [List.map_toArray, List.map_cons, List.map_nil]); first | done | rfl | (simp only [List.length_drop, List.length_take]; rfl)) ?_; (with_reducible refine (strings_CutPrefix.calls x3_1 (⟨#[46, 47]⟩ : ByteArray) t115 t116 _ A3.out).mono ?_); rintro e w' ⟨rfl, ⟨nd, rfl⟩⟩; refine ⟨_, rfl, ?_⟩) | ((with_reducible refine gate_callee (f := 73) rfl ?_); refine goesL_ (some 15) rfl rfl Tryz.func73 (by kernel_rfl) rfl #[.string t115, .string (⟨#[46, 46, 47]⟩ : ByteArray)] rfl (by (try simp only [List.map_toArray, List.map_cons, List.map_nil]); first | done | rfl | (simp only [List.length_drop, List.length_take]; rfl)) ?_; (with_reducible refine (strings_CutPrefix.calls t115 (⟨#[46, 46, 47]⟩ : ByteArray) t117 false _ A4.out).mono ?_); rintro e w' ⟨rfl, ⟨nd, rfl⟩⟩; refine ⟨_, rfl, ?_⟩))
     go_roundg k1
     case measure => have := HK1.out; omega
     case rel => exact ⟨(t117), (t116), (by first | rfl | (simp; done) | (simp [*]; done) | (simp [bne_empty, *]; done)), (by first | rfl | (simp; done) | (simp [*]; done) | (simp [bne_empty, *]; done)), H', ⟨by have := HK1.out; omega⟩, ⟨by repeat (first | (with_reducible first | exact HB.out | apply below_alloc | apply pw_below_drewN | apply below_drew1) | exact HB.out)⟩⟩
   ·replace c2 := Bool.eq_false_iff.mpr c2
    subst c2
    have H1 : (if x3_1.toList = a0.toList then (some false) else (if x3_1.toList = ([] : List UInt8) then (some true) else ((paths_Valid.f x3_1).bind fun t119 => (some t119)))) = some r := by rw [if_neg (show ¬ (false = true) by decide)] at H; exact H
    clear H
    have H := H1
    clear H1
    by_cases c6 : x3_1.toList = a0.toList
    ·rw [if_pos c6] at H
     have c6b0 : (x3_1.toList == a0.toList) = true := beq_iff_eq.mpr c6
     have c6b1 : (x3_1.toList != a0.toList) = false := bne_eq_false_iff_eq.mpr c6
     clear c6
     obtain rfl := Option.some.inj H
     go_wp2
     go_ret
     exact ⟨by first | rfl | (simp [errW_none, errW_some] <;> rfl) | (simp [*, errW_none, errW_some] <;> rfl) | (exfalso; simp_all; done) | (exfalso; omega), by repeat (first | (with_reducible first | exact HB.out | apply below_alloc | apply pw_below_drewN | apply below_drew1) | exact HB.out)⟩
    ·rw [if_neg c6] at H
     have c6b0 : (x3_1.toList == a0.toList) = false := beq_eq_false_iff_ne.mpr c6
     have c6b1 : (x3_1.toList != a0.toList) = true := bne_iff_ne.mpr c6
     by_cases c7 : x3_1.toList = ([] : List UInt8)
     ·rw [if_pos c7] at H
      have c7b0 : (x3_1.toList == ([] : List UInt8)) = true := beq_iff_eq.mpr c7
      have c7bz : (x3_1.toList.isEmpty) = true := by simpa using c7b0
      have c7b1 : (x3_1.toList != ([] : List UInt8)) = false := bne_eq_false_iff_eq.mpr c7
      clear c7
      obtain rfl := Option.some.inj H
      go_wp2
      go_ret
      exact ⟨by first | rfl | (simp [errW_none, errW_some] <;> rfl) | (simp [*, errW_none, errW_some] <;> rfl) | (exfalso; simp_all; done) | (exfalso; omega), by repeat (first | (with_reducible first | exact HB.out | apply below_alloc | apply pw_below_drewN | apply below_drew1) | exact HB.out)⟩
     ·rw [if_neg c7] at H
      have c7b0 : (x3_1.toList == ([] : List UInt8)) = false := beq_eq_false_iff_ne.mpr c7
      have c7bz : (x3_1.toList.isEmpty) = false := by simpa using c7b0
      have c7b1 : (x3_1.toList != ([] : List UInt8)) = true := bne_iff_ne.mpr c7
      replace H := Option.bind_eq_some_iff.mp H
      obtain ⟨t119, A80, H⟩ := H
      replace H : (some t119) = some r := H
      have A8 := Aside0.mk A80
      clear A80
      obtain rfl := Option.some.inj H
      go_wp2_with (first | (go_at_call 56; (with_reducible refine (paths_Valid.calls x3_1 t119 _ A8.out).mono ?_); rintro e w9 ⟨rfl, hb⟩; have n0_ := Aside0.mk (below_step (by repeat (first | (with_reducible first | exact HB.out | apply below_alloc | apply pw_below_drewN | apply below_drew1) | exact HB.out)) hb); clear HB; have HB := n0_; clear n0_; (try clear hb); (try clear hb2); (try clear hk); (try clear hi)))
      go_ret
      exact ⟨by first | rfl | (simp [errW_none, errW_some] <;> rfl) | (simp [*, errW_none, errW_some] <;> rfl) | (exfalso; simp_all; done) | (exfalso; omega), by repeat (first | (with_reducible first | exact HB.out | apply below_alloc | apply pw_below_drewN | apply below_drew1) | exact HB.out)⟩
end Go.Proofs.YtcdcpcdfcmokkaaGreatDoor.P
end
