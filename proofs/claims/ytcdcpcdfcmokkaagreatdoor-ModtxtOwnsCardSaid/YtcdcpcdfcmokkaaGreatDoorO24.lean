/- Local and Release of layer 5, Known and Order of layer 7: the program's and the document's, in plain words. · Release of layer 5: the program's and the document's, in plain words. · Known and Order of layer 7: the program's and the document's, in plain words. -/
import Derived.Test.YtcdcpcdfcmokkaaGreatDoorO05
import Derived.Test.YtcdcpcdfcmokkaaGreatDoorO12
import Derived.Test.YtcdcpcdfcmokkaaGreatDoorO23
import Derived.Test.YtcdcpcdfcmokkaaGreatDoorO22
import Derived.Test.YtcdcpcdfcmokkaaGreatDoorO15
import Derived.Test.YtcdcpcdfcmokkaaGreatDoorO19
import Derived.Test.YtcdcpcdfcmokkaaGreatDoorO16
import Derived.Test.YtcdcpcdfcmokkaaGreatDoorO20
import Derived.Test.YtcdcpcdfcmokkaaGreatDoorO09
import Derived.Test.YtcdcpcdfcmokkaaGreatDoorO13
import Derived.Test.YtcdcpcdfcmokkaaGreatDoorO14
import Derived.Test.YtcdcpcdfcmokkaaGreatDoorO21
set_option linter.unusedVariables false
set_option linter.unusedSimpArgs false
section
namespace Go.Proofs.YtcdcpcdfcmokkaaGreatDoor.P
open Go.RowKit Go.Proofs.YtcdcpcdfcmokkaaGreatDoorW.PrintWords Go.Proofs.YtcdcpcdfcmokkaaGreatDoorW.PrintLast Go.Proofs.YtcdcpcdfcmokkaaGreatDoorW.PrintMore
open Go.Proofs.YtcdcpcdfcmokkaaGreatDoor (str_gtr str_leq str_geq bne_empty)
attribute [local go_sem] max2_int min2_int max_two min_two max_three min_three max_four min_four str_gtr str_leq str_geq   -- for this text's walks alone
set_option linter.unusedVariables false
set_option linter.unusedSimpArgs false
def graftbedref05_Release.f (k : Nat) (a0 : ByteArray) : Option (Bool) := (graftbedref05_begins.f a0 (⟨#[49, 46]⟩ : ByteArray)).bind fun t409 => (if t409 = true then (if 2 ≤ (a0.size : Int) then ((graftbedref03_Number.f k (a0.extract 2 a0.size)).bind fun t410 => (some (decide (t410 ≥ 0)))) else (none)) else (some false))
set_option maxHeartbeats 8000000 in
set_option maxRecDepth 100000 in
theorem graftbedref05_Release.calls (k : Nat) (a0 : ByteArray) (r : Bool) (w : World) (h : graftbedref05_Release.f k a0 = some r) :
  Calls Tryz.prog 34 #[.string a0] w fun e w' => e = .returned (.bool r) ∧ Drawn0 w w' := by
 have H : ((graftbedref05_begins.f a0 (⟨#[49, 46]⟩ : ByteArray)).bind fun t409 => (if t409 = true then (if 2 ≤ (a0.size : Int) then ((graftbedref03_Number.f k (a0.extract 2 a0.size)).bind fun t410 => (some (decide (t410 ≥ 0)))) else (none)) else (some false))) = some r := h
 clear h
 replace H := Option.bind_eq_some_iff.mp H
 obtain ⟨t409, A20, H⟩ := H
 replace H : (if t409 = true then (if 2 ≤ (a0.size : Int) then ((graftbedref03_Number.f k (a0.extract 2 a0.size)).bind fun t410 => (some (decide (t410 ≥ 0)))) else (none)) else (some false)) = some r := H
 have A2 := Aside0.mk A20
 clear A20
 by_cases c3 : t409 = true
 ·subst c3
  have H1 : (if 2 ≤ (a0.size : Int) then ((graftbedref03_Number.f k (a0.extract 2 a0.size)).bind fun t410 => (some (decide (t410 ≥ 0)))) else (none)) = some r := by rw [if_pos rfl] at H; exact H
  clear H
  have H := H1
  clear H1
  by_cases c4 : 2 ≤ (a0.size : Int)
  ·rw [if_pos c4] at H
   have c4b0 := eq_true c4
   have c4b1 : decide (2 ≤ (a0.size : Int)) = true := decide_eq_true c4
   clear c4
   replace H := Option.bind_eq_some_iff.mp H
   obtain ⟨t410, A50, H⟩ := H
   replace H : (some (decide (t410 ≥ 0))) = some r := H
   have A5 := Aside0.mk A50
   clear A50
   obtain rfl := Option.some.inj H
   go_enter Tryz.func34, Tryz.ntmps34
   go_wp2_with (first | ((with_reducible refine gate_callee (f := 66) rfl ?_); refine goesL_ (some 4) rfl rfl Tryz.func66 (by kernel_rfl) rfl #[.string a0, .string (⟨#[49, 46]⟩ : ByteArray)] rfl (by (try simp only [List.map_toArray, List.map_cons, List.map_nil]); first | done | rfl | (simp only [List.length_drop, List.length_take]; rfl)) ?_; (with_reducible refine (graftbedref05_begins.calls a0 (⟨#[49, 46]⟩ : ByteArray) true _ A2.out).mono ?_); rintro e w' ⟨rfl, ⟨nd, rfl⟩⟩; refine ⟨_, rfl, ?_⟩) | (go_at_call 67; (with_reducible refine (graftbedref03_Number.calls k (a0.extract 2 a0.size) t410 _ A5.out).mono ?_); rintro e w' ⟨rfl, ⟨nd, rfl⟩⟩))
   go_ret
   exact ⟨by first | rfl | (simp; done) | (simp [*]; done) | (simp [bne_empty, *]; done), by repeat (first | exact Drawn0.refl _ | apply Drawn0.step)⟩
  ·rw [if_neg c4] at H
   exact absurd H (by simp)
 ·replace c3 := Bool.eq_false_iff.mpr c3
  subst c3
  have H1 : (some false) = some r := by rw [if_neg (show ¬ (false = true) by decide)] at H; exact H
  clear H
  have H := H1
  clear H1
  obtain rfl := Option.some.inj H
  go_enter Tryz.func34, Tryz.ntmps34
  go_wp2_with (first | ((with_reducible refine gate_callee (f := 66) rfl ?_); refine goesL_ (some 4) rfl rfl Tryz.func66 (by kernel_rfl) rfl #[.string a0, .string (⟨#[49, 46]⟩ : ByteArray)] rfl (by (try simp only [List.map_toArray, List.map_cons, List.map_nil]); first | done | rfl | (simp only [List.length_drop, List.length_take]; rfl)) ?_; (with_reducible refine (graftbedref05_begins.calls a0 (⟨#[49, 46]⟩ : ByteArray) false _ A2.out).mono ?_); rintro e w' ⟨rfl, ⟨nd, rfl⟩⟩; refine ⟨_, rfl, ?_⟩))
  go_ret
  exact ⟨by first | rfl | (simp; done) | (simp [*]; done) | (simp [bne_empty, *]; done), by repeat (first | exact Drawn0.refl _ | apply Drawn0.step)⟩
end Go.Proofs.YtcdcpcdfcmokkaaGreatDoor.P
end
section
namespace Go.Proofs.YtcdcpcdfcmokkaaGreatDoor
open Go Go.RowKit Go.Proofs.YtcdcpcdfcmokkaaGreatDoorW.PrintWords
set_option linter.unusedVariables false
set_option linter.unusedSimpArgs false
theorem begins_eq (a p : ByteArray) : P.graftbedref05_begins.f a p = some (Lib.hasPrefix a.data.toList p.data.toList) := by
  rw [← hasP_eq]; rfl
def dot1 : ByteArray := ⟨#[46, 47]⟩
def dot2 : ByteArray := ⟨#[46, 46, 47]⟩
theorem shorter {s p : ByteArray} (h : Lib.hasPrefix s.data.toList p.data.toList = true) (hp : 0 < p.size) : (s.extract p.size s.size).size < s.size := by
  have := hasPrefix_len h
  rw [ByteArray.size_extract]; omega
def stripB (s : ByteArray) : ByteArray :=
  if h : Lib.hasPrefix s.data.toList dot1.data.toList = true then stripB (s.extract dot1.size s.size)
  else if h2 : Lib.hasPrefix s.data.toList dot2.data.toList = true then stripB (s.extract dot2.size s.size) else s
termination_by s.size
decreasing_by
  · exact shorter h (by decide)
  · exact shorter h2 (by decide)
def startsDot (s : ByteArray) : Bool := Lib.hasPrefix s.data.toList dot1.data.toList || Lib.hasPrefix s.data.toList dot2.data.toList
def localB (s : ByteArray) : Bool := startsDot s && ((stripB s).toList == [] || validB (stripB s))
theorem strip_size (s : ByteArray) : (stripB s).size ≤ s.size := by
  induction hn : s.size using Nat.strongRecOn generalizing s with
  | _ n ih =>
    rw [stripB]
    split
    · rename_i h
      have h1 := shorter h (by decide)
      have h2 := ih (s.extract dot1.size s.size).size (by omega) _ rfl
      omega
    · split
      · rename_i h
        have h1 := shorter h (by decide)
        have h2 := ih (s.extract dot2.size s.size).size (by omega) _ rfl
        omega
      · omega
theorem strip_less {s : ByteArray} (h : startsDot s = true) : (stripB s).size < s.size := by
  unfold startsDot at h
  rw [stripB]
  split
  · rename_i h
    have := shorter h (by decide)
    have := strip_size (s.extract dot1.size s.size)
    omega
  · rename_i h1
    rw [dif_pos (by simpa [h1] using h)]
    have h2 : Lib.hasPrefix s.data.toList dot2.data.toList = true := by simpa [h1] using h
    have := shorter h2 (by decide)
    have := strip_size (s.extract dot2.size s.size)
    omega
theorem local_loop (s : ByteArray) : ∀ (n : Nat) (t : ByteArray), t.size = n → n ≤ 1099511627775 → stripB t = stripB s → (t = s ∨ t.size < s.size) →
    Ev (fun k => P.gomod_Local.l0 k s t true) (!((stripB s).toList == s.toList) && ((stripB s).toList == [] || validB (stripB s))) := by
  intro n
  induction n using Nat.strongRecOn with
  | _ n ih =>
    intro t hn hle hst hts
    have hle2 : t.size ≤ s.size := by rcases hts with h | h
                                      · rw [h]; exact Nat.le_refl _
                                      · omega
    have st : ∀ k, P.gomod_Local.l0 (k + 1) s t true = if (cutPre (cutPre t dot1).1 dot2).2 = true then P.gomod_Local.l0 k s (cutPre (cutPre t dot1).1 dot2).1 true else P.gomod_Local.l0 k s (cutPre (cutPre t dot1).1 dot2).1 (cutPre t dot1).2 := fun k => by
      rw [P.gomod_Local.l0, if_pos rfl, show P.strings_CutPrefix.f t ⟨#[46, 47]⟩ = some (cutPre t dot1) from cutPrefix_eq _ _, Option.bind_some, show P.strings_CutPrefix.f (cutPre t dot1).1 ⟨#[46, 46, 47]⟩ = some (cutPre (cutPre t dot1).1 dot2) from cutPrefix_eq _ _, Option.bind_some]
    refine Ev.step st ?_
    by_cases h1 : Lib.hasPrefix t.data.toList dot1.data.toList = true
    · have e1 : cutPre t dot1 = (t.extract dot1.size t.size, true) := if_pos h1
      have hs1 := shorter h1 (by decide)
      have hst1 : stripB (t.extract dot1.size t.size) = stripB s := by rw [← hst]; conv => rhs; rw [stripB, dif_pos h1]
      simp only [e1]
      by_cases h2 : Lib.hasPrefix (t.extract dot1.size t.size).data.toList dot2.data.toList = true
      · have e2 : cutPre (t.extract dot1.size t.size) dot2 = ((t.extract dot1.size t.size).extract dot2.size (t.extract dot1.size t.size).size, true) := if_pos h2
        have hs2 := shorter h2 (by decide)
        simp only [e2, if_true]
        refine ih _ (by omega) _ rfl (by omega) ?_ (.inr (by omega))
        have h3 : ¬ Lib.hasPrefix (t.extract dot1.size t.size).data.toList dot1.data.toList = true := fun h => by
          have a1 := List.isPrefixOf_iff_prefix.1 h
          have a2 := List.isPrefixOf_iff_prefix.1 h2
          obtain ⟨r1, hr1⟩ := a1
          obtain ⟨r2, hr2⟩ := a2
          rw [← hr1] at hr2
          simp [dot1, dot2] at hr2
        rw [← hst1]; conv => rhs; rw [stripB, dif_neg h3, dif_pos h2]
      · have e2 : cutPre (t.extract dot1.size t.size) dot2 = (t.extract dot1.size t.size, false) := if_neg h2
        simp only [e2, Bool.false_eq_true, if_false]
        exact ih _ (by omega) _ rfl (by omega) hst1 (.inr (by omega))
    · have e1 : cutPre t dot1 = (t, false) := if_neg h1
      simp only [e1]
      by_cases h2 : Lib.hasPrefix t.data.toList dot2.data.toList = true
      · have e2 : cutPre t dot2 = (t.extract dot2.size t.size, true) := if_pos h2
        have hs2 := shorter h2 (by decide)
        simp only [e2, if_true]
        refine ih _ (by omega) _ rfl (by omega) ?_ (.inr (by omega))
        rw [← hst]; conv => rhs; rw [stripB, dif_neg h1, dif_pos h2]
      · have e2 : cutPre t dot2 = (t, false) := if_neg h2
        simp only [e2, Bool.false_eq_true, if_false]
        have ht : stripB t = t := by rw [stripB, dif_neg h1, dif_neg h2]
        rw [ht] at hst
        rw [← hst]
        refine Ev.step (f := fun _ => some _) (fun k => ?_) (Ev.now _)
        rw [P.gomod_Local.l0, if_neg (by decide)]
        by_cases h3 : t.toList = s.toList
        · rw [if_pos h3]; simp [h3]
        · rw [if_neg h3]
          have h3' : (t.toList == s.toList) = false := by simpa using h3
          by_cases h4 : t.toList = []
          · rw [if_pos h4, h3', h4]; rfl
          · have h4' : (t.toList == []) = false := by simpa using h4
            rw [if_neg h4, h3', h4', show P.paths_Valid.f t = some (validB t) from if_pos (by omega)]; rfl
theorem local_ev (s : ByteArray) (hs : s.size ≤ 1099511627775) : Ev (fun k => P.gomod_Local.f k s) (localB s) := by
  have h := local_loop s s.size s rfl hs rfl (.inl rfl)
  have e : (!((stripB s).toList == s.toList)) = startsDot s := by
    cases hd : startsDot s with
    | true =>
      have := strip_less hd
      have hne : ¬ (stripB s).toList = s.toList := fun e => by rw [list_inj e] at this; omega
      simpa using hne
    | false =>
      have h1 : Lib.hasPrefix s.data.toList dot1.data.toList = false := by unfold startsDot at hd; exact (Bool.or_eq_false_iff.1 hd).1
      have h2 : Lib.hasPrefix s.data.toList dot2.data.toList = false := by unfold startsDot at hd; exact (Bool.or_eq_false_iff.1 hd).2
      have : stripB s = s := by rw [stripB, dif_neg (by rw [h1]; decide), dif_neg (by rw [h2]; decide)]
      rw [this]; simp
  rw [e] at h
  exact h
theorem rlocal_loop : ∀ (n : Nat) (t : ByteArray), t.size = n → n ≤ 1099511627775 → Ev (fun k => P.graftbedref05_Local.l0 k t) ((stripB t).toList == [] || validB (stripB t)) := by
  intro n
  induction n using Nat.strongRecOn with
  | _ n ih =>
    intro t hn hle
    by_cases h1 : Lib.hasPrefix t.data.toList dot1.data.toList = true
    · have hs1 := shorter h1 (by decide)
      have hl := hasPrefix_len h1
      have hd : dot1.size = 2 := rfl
      refine Ev.step (f := fun k => P.graftbedref05_Local.j2 k t true) (fun k => ?_) ?_
      · rw [P.graftbedref05_Local.l0, show P.graftbedref05_begins.f t ⟨#[46, 47]⟩ = some _ from begins_eq t dot1, Option.bind_some, if_pos h1]
      refine Ev.step (f := fun k => P.graftbedref05_Local.l0 k (t.extract dot1.size t.size)) (fun k => ?_) ?_
      · rw [P.graftbedref05_Local.j2, if_pos rfl, show P.graftbedref05_begins.f t ⟨#[46, 47]⟩ = some _ from begins_eq t dot1, Option.bind_some, if_pos h1, if_pos (by omega)]
        rfl
      · have := ih _ (by omega) (t.extract dot1.size t.size) rfl (by omega)
        rw [stripB, dif_pos h1]; exact this
    · by_cases h2 : Lib.hasPrefix t.data.toList dot2.data.toList = true
      · have hs2 := shorter h2 (by decide)
        have hl := hasPrefix_len h2
        have hd : dot2.size = 3 := rfl
        refine Ev.step (f := fun k => P.graftbedref05_Local.j2 k t true) (fun k => ?_) ?_
        · rw [P.graftbedref05_Local.l0, show P.graftbedref05_begins.f t ⟨#[46, 47]⟩ = some _ from begins_eq t dot1, Option.bind_some, if_neg h1, show P.graftbedref05_begins.f t ⟨#[46, 46, 47]⟩ = some _ from begins_eq t dot2, Option.bind_some, h2]
        refine Ev.step (f := fun k => P.graftbedref05_Local.l0 k (t.extract dot2.size t.size)) (fun k => ?_) ?_
        · rw [P.graftbedref05_Local.j2, if_pos rfl, show P.graftbedref05_begins.f t ⟨#[46, 47]⟩ = some _ from begins_eq t dot1, Option.bind_some, if_neg h1, if_pos (by omega)]
          rfl
        · have := ih _ (by omega) (t.extract dot2.size t.size) rfl (by omega)
          rw [stripB, dif_neg h1, dif_pos h2]; exact this
      · have h2' : Lib.hasPrefix t.data.toList dot2.data.toList = false := by simpa using h2
        have ht : stripB t = t := by rw [stripB, dif_neg h1, dif_neg h2]
        rw [ht]
        refine Ev.step (f := fun k => P.graftbedref05_Local.j2 k t false) (fun k => ?_) ?_
        · rw [P.graftbedref05_Local.l0, show P.graftbedref05_begins.f t ⟨#[46, 47]⟩ = some _ from begins_eq t dot1, Option.bind_some, if_neg h1, show P.graftbedref05_begins.f t ⟨#[46, 46, 47]⟩ = some _ from begins_eq t dot2, Option.bind_some, h2']
        by_cases h4 : t.toList = []
        · refine Ev.step (f := fun _ => some _) (fun k => ?_) (Ev.now _)
          rw [P.graftbedref05_Local.j2, if_neg (by decide), if_pos h4, h4]; rfl
        · have h4' : (t.toList == []) = false := by simpa using h4
          refine Ev.step (f := fun k => (P.graftbedref01_Valid.f k t).bind fun x => some x) (fun k => by rw [P.graftbedref05_Local.j2, if_neg (by decide), if_neg h4]) ?_
          rw [h4', Bool.false_or]
          exact Ev.bind (f := fun _ x => some x) (rvalid_ev t (by omega)) (Ev.now _)
theorem rlocal_ev (s : ByteArray) (hs : s.size ≤ 1099511627775) : Ev (fun k => P.graftbedref05_Local.f k s) (localB s) := by
  unfold P.graftbedref05_Local.f localB startsDot
  have hl := rlocal_loop s.size s rfl hs
  simp only [show P.graftbedref05_begins.f s ⟨#[46, 47]⟩ = some _ from begins_eq s dot1, show P.graftbedref05_begins.f s ⟨#[46, 46, 47]⟩ = some _ from begins_eq s dot2, Option.bind_some]
  cases h1 : Lib.hasPrefix s.data.toList dot1.data.toList with
  | true =>
    refine Ev.pos rfl (Ev.step (f := fun k => P.graftbedref05_Local.l0 k s) (fun k => by rw [P.graftbedref05_Local.j0, if_neg (by decide)]) ?_)
    simpa using hl
  | false =>
    refine Ev.neg (by decide) ?_
    cases h2 : Lib.hasPrefix s.data.toList dot2.data.toList with
    | true =>
      refine Ev.step (f := fun k => P.graftbedref05_Local.l0 k s) (fun k => by rw [P.graftbedref05_Local.j0, if_neg (by decide)]) ?_
      simpa using hl
    | false =>
      refine Ev.step (f := fun _ => some _) (fun k => ?_) (Ev.now _)
      rw [P.graftbedref05_Local.j0, if_pos (by decide)]; rfl
end Go.Proofs.YtcdcpcdfcmokkaaGreatDoor
end
section
namespace Go.Proofs.YtcdcpcdfcmokkaaGreatDoor
open Go Go.RowKit Go.Proofs.YtcdcpcdfcmokkaaGreatDoorW.PrintWords
set_option linter.unusedVariables false
set_option linter.unusedSimpArgs false
theorem cut_none (c : UInt8) : ∀ l : List UInt8, c ∉ l → Lib.cut l [c] = (l, [], false)
  | [], _ => cut_nil c
  | b :: l, h => by
    simp only [List.mem_cons, not_or] at h
    rw [cut_other (fun e => h.1 e.symm), cut_none c l h.2]
theorem cut_mem (c : UInt8) (m : List UInt8) : ∀ l : List UInt8, c ∈ l → (Lib.cut (l ++ m) [c]).1 = (Lib.cut l [c]).1
  | [], h => by cases h
  | b :: l, h => by
    by_cases e : b = c
    · subst e; rw [List.cons_append, cut_same, cut_same]
    · have : c ∈ l := by rcases List.mem_cons.1 h with h | h; · exact absurd h.symm e
                         · exact h
      rw [List.cons_append, cut_other e, cut_other e, cut_mem c m l this]
theorem cut_count (c d : UInt8) : ∀ l : List UInt8, (Lib.cut l [c]).1.count d ≤ l.count d
  | [] => by rw [cut_nil]; simp
  | b :: l => by
    by_cases e : b = c
    · subst e; rw [cut_same]; simp
    · rw [cut_other e]
      have := cut_count c d l
      simp only [List.count_cons]; omega
theorem any_none (chars : List UInt8) : ∀ l : List UInt8, (∀ b ∈ l, chars.contains b = false) → Lib.indexAny l chars = -1
  | [], _ => rfl
  | b :: l, h => by
    have ih := any_none chars l (fun c hc => h c (by simp [hc]))
    unfold Lib.indexAny
    rw [h b (by simp), ih]; rfl
def relText (s : ByteArray) : ByteArray := ((⟨#[118]⟩ : ByteArray) ++ s) ++ (⟨#[46, 48]⟩ : ByteArray)
theorem relText_list (s : ByteArray) : (relText s).data.toList = 118 :: (s.data.toList ++ [46, 48]) := by
  unfold relText; simp
theorem rel_pref (s : ByteArray) : prefB (relText s) = true := by
  unfold prefB; rw [relText_list]; simp [Lib.hasPrefix]
theorem rel_rest (s : ByteArray) : restB (relText s) = toB (s.data.toList ++ [46, 48]) := by
  unfold restB Lib.trimPrefix
  rw [if_pos (show Lib.hasPrefix (relText s).data.toList [118] = true from rel_pref s), relText_list]; rfl
theorem num_one : numOk (toB [49]) = true ∧ numOk (toB [48]) = true := by decide +kernel
theorem numOk_digits {e : ByteArray} (h : numOk e = true) : (∀ b ∈ e.data.toList, 48 ≤ b.toNat ∧ b.toNat ≤ 57) ∧ e.size ≤ 9 := by
  unfold numOk at h
  simp only [Bool.and_eq_true, decide_eq_true_eq] at h
  exact ⟨(every_digits h.1).1, h.2.1⟩
theorem rel_ok (s : ByteArray) (r : List UInt8) (hl : s.data.toList = 49 :: 46 :: r) (hr : (46 : UInt8) ∉ r) : verOk (relText s) = true ↔ numOk (toB r) = true := by
  have hrest := rel_rest s
  have hcnt : (s.data.toList ++ [46, 48]).count 46 = 2 := by
    rw [hl]; simp [List.count_cons, List.count_eq_zero.2 hr]
  have hcl : s.data.toList.count 46 = 1 := by rw [hl]; simp [List.count_cons, List.count_eq_zero.2 hr]
  have full : (43 : UInt8) ∉ s.data.toList → (45 : UInt8) ∉ s.data.toList → metaC (relText s) = (toB (s.data.toList ++ [46, 48]), toB [], false) ∧ preC (relText s) = (toB (s.data.toList ++ [46, 48]), toB [], false) ∧ idsB (relText s) = [toB [49], toB r, toB [48]] := fun h1 h2 => by
    have e1 : metaC (relText s) = (toB (s.data.toList ++ [46, 48]), toB [], false) := by
      unfold metaC cutB; rw [hrest, toB_data, cut_none 43 _ (by simp [h1])]
    have e2 : preC (relText s) = (toB (s.data.toList ++ [46, 48]), toB [], false) := by
      unfold preC cutB; rw [e1]; simp only []; rw [toB_data, cut_none 45 _ (by simp [h2])]
    refine ⟨e1, e2, ?_⟩
    unfold idsB piecesB
    rw [e2]; simp only []
    rw [toB_data, hl]
    have p1 : pieces 46 (49 :: 46 :: r ++ [46, 48]) = [49] :: pieces 46 (r ++ 46 :: [48]) := by
      rw [List.cons_append, List.cons_append, pieces_cons, if_neg (by decide), pieces_cons, if_pos rfl]; rfl
    rw [p1, pieces_last 46 r [48] (by decide), pieces_none 46 r hr]
    rfl
  constructor
  · intro h
    unfold verOk at h
    simp only [Bool.and_eq_true, decide_eq_true_eq] at h
    obtain ⟨_, hsz, hc, hids, _, _⟩ := h
    have h1 : (43 : UInt8) ∉ s.data.toList := fun hm => by
      have e : (preC (relText s)).1.data.toList.count 46 ≤ 1 := by
        have a1 := cut_count 45 46 (metaC (relText s)).1.data.toList
        have a2 : (metaC (relText s)).1.data.toList = (Lib.cut s.data.toList [43]).1 := by
          unfold metaC cutB; rw [hrest, toB_data, toB_data, cut_mem 43 _ _ hm]
        have a3 := cut_count 43 46 s.data.toList
        have a4 : (preC (relText s)).1.data.toList = (Lib.cut (metaC (relText s)).1.data.toList [45]).1 := by unfold preC cutB; rw [toB_data]
        rw [a4]; rw [a2] at a1 ⊢; omega
      unfold Lib.countByte at hc; omega
    have h2 : (45 : UInt8) ∉ s.data.toList := fun hm => by
      have e : (preC (relText s)).1.data.toList.count 46 ≤ 1 := by
        have a2 : (metaC (relText s)).1.data.toList = s.data.toList ++ [46, 48] := by
          unfold metaC cutB; rw [hrest, toB_data, toB_data, cut_none 43 (s.data.toList ++ [46, 48]) (by simp [h1])]
        have a4 : (preC (relText s)).1.data.toList = (Lib.cut s.data.toList [45]).1 := by unfold preC cutB; rw [toB_data, a2, cut_mem 45 _ _ hm]
        have a3 := cut_count 45 46 s.data.toList
        rw [a4]; omega
      unfold Lib.countByte at hc; omega
    obtain ⟨_, _, e3⟩ := full h1 h2
    rw [e3] at hids
    simp only [List.all_cons, Bool.and_eq_true] at hids
    exact hids.2.1
  · intro h
    obtain ⟨hd, hz⟩ := numOk_digits h
    rw [toB_data] at hd
    rw [toB_size] at hz
    have no : ∀ c : UInt8, c.toNat < 46 → c ∉ s.data.toList := fun c hc hm => by
      rw [hl] at hm
      simp only [List.mem_cons] at hm
      rcases hm with h | h | h
      · subst h; exact absurd hc (by decide)
      · subst h; exact absurd hc (by decide)
      · have := hd c h; omega
    obtain ⟨e1, e2, e3⟩ := full (no 43 (by decide)) (no 45 (by decide))
    have hsz : (relText s).size ≤ 60 := by rw [Lib.size_eq, relText_list, hl]; simp; omega
    unfold verOk
    rw [rel_pref, decide_eq_true hsz, e1, e2, e3]
    simp only [toB_data]
    have hc : decide (Lib.countByte (s.data.toList ++ [46, 48]) 46 = 2) = true := decide_eq_true hcnt
    rw [hc]
    simp only [List.all_cons, List.all_nil, num_one.1, num_one.2, h]
    simp [preOk, metaOk]
def releaseB (s : ByteArray) : Bool := Lib.hasPrefix s.data.toList [49, 46] && numOk (s.extract 2 s.size)
theorem rel_form (s : ByteArray) (h : Lib.hasPrefix s.data.toList [49, 46] = true) : s.data.toList = 49 :: 46 :: s.data.toList.drop 2 ∧ s.extract 2 s.size = toB (s.data.toList.drop 2) := by
  refine ⟨?_, ?_⟩
  · have := List.isPrefixOf_iff_prefix.1 h
    obtain ⟨t, ht⟩ := this
    rw [← ht]; rfl
  · rw [extract_toB, List.take_of_length_le (by rw [← Lib.size_eq]; exact Nat.le_refl _)]
theorem release_eq (s : ByteArray) (hs : s.size ≤ 1099511627770) : P.gomod_Release.f s = some (releaseB s) := by
  unfold P.gomod_Release.f
  have hz : (relText s).size = s.size + 3 := by rw [Lib.size_eq, relText_list, Lib.size_eq]; simp
  rw [if_pos (by omega), if_pos (by rw [ByteArray.size_append]; show 1 + s.size + 2 ≤ _; omega), show P.semver_Parse.f (((⟨#[118]⟩ : ByteArray) ++ s) ++ (⟨#[46, 48]⟩ : ByteArray)) = some _ from pparse_eq (relText s) (by omega), Option.bind_some]
  simp only []
  by_cases hp : Lib.hasPrefix s.data.toList [49, 46] = true
  · obtain ⟨hl, he⟩ := rel_form s hp
    have hcl : s.data.toList.count 46 = 1 + (s.data.toList.drop 2).count 46 := by
      conv => lhs; rw [hl]
      simp [List.count_cons]; omega
    have hR : releaseB s = numOk (toB (s.data.toList.drop 2)) := by unfold releaseB; rw [hp, he, Bool.true_and]
    by_cases hr : (46 : UInt8) ∈ s.data.toList.drop 2
    · have hc : ¬ ((Lib.countByte s.data.toList 46 : Nat) : Int) = 1 := by
        have := List.count_pos_iff.2 hr
        unfold Lib.countByte; omega
      have hn : numOk (toB (s.data.toList.drop 2)) = false := by
        cases hn : numOk (toB (s.data.toList.drop 2)) with
        | false => rfl
        | true => have := (numOk_digits hn).1 46 (by rw [toB_data]; exact hr); exact absurd this (by decide)
      rw [hR, hn]
      by_cases h1 : verErr (relText s) = 0
      · rw [if_pos h1, hasPrefix_eq, Option.bind_some, if_pos hp, show P.strings_Count.f s ⟨#[46]⟩ = some ((Lib.countByte s.data.toList 46 : Nat) : Int) from rfl, Option.bind_some, if_neg hc]
      · rw [if_neg h1]
    · have hok := rel_ok s _ hl hr
      have hc : ((Lib.countByte s.data.toList 46 : Nat) : Int) = 1 := by
        have := List.count_eq_zero.2 hr
        unfold Lib.countByte; omega
      rw [hR]
      cases hn : numOk (toB (s.data.toList.drop 2)) with
      | true =>
        have hv := hok.2 hn
        have hdg := (numOk_digits hn).1
        rw [toB_data] at hdg
        have hasc : P.asciiB s = true := by
          unfold P.asciiB
          rw [hl]
          simp only [List.all_cons, Bool.and_eq_true]
          refine ⟨by decide, by decide, List.all_eq_true.2 (fun b hb => ?_)⟩
          have := hdg b hb
          simp; omega
        have hany : Lib.containsAny s.data.toList [45, 43] = false := by
          unfold Lib.containsAny
          rw [any_none [45, 43] s.data.toList (fun b hb => ?_)]; rfl
          rw [hl] at hb
          simp only [List.mem_cons] at hb
          rcases hb with h | h | h
          · subst h; decide
          · subst h; decide
          · have := hdg b h
            cases hc : ([45, 43] : List UInt8).contains b with
            | false => rfl
            | true =>
              simp at hc
              rcases hc with h | h
              · subst h; exact absurd this (by decide)
              · subst h; exact absurd this (by decide)
        rw [if_pos ((verErr_iff _).2 hv), hasPrefix_eq, Option.bind_some, if_pos hp, show P.strings_Count.f s ⟨#[46]⟩ = some ((Lib.countByte s.data.toList 46 : Nat) : Int) from rfl, Option.bind_some, if_pos hc]
        have hcz : (⟨#[45, 43]⟩ : ByteArray).size < 4294967281 := by decide
        rw [show P.strings_ContainsAny.f s ⟨#[45, 43]⟩ = some (Lib.containsAny s.data.toList [45, 43]) from if_pos ⟨by rw [Lib.size_eq, hl]; have := (numOk_digits hn).2; rw [toB_size] at this; simp at this ⊢; omega, hcz, hasc, by decide⟩, Option.bind_some, hany]
        rfl
      | false =>
        have hv : ¬ verErr (relText s) = 0 := fun h => by
          have := hok.1 ((verErr_iff _).1 h)
          rw [hn] at this; cases this
        rw [if_neg hv]
  · have hR : releaseB s = false := by unfold releaseB; rw [show Lib.hasPrefix s.data.toList [49, 46] = false by simpa using hp]; rfl
    rw [hR]
    by_cases h1 : verErr (relText s) = 0
    · rw [if_pos h1, hasPrefix_eq, Option.bind_some, if_neg hp]
    · rw [if_neg h1]
theorem rrelease_ev (s : ByteArray) (hs : s.size ≤ 1099511627770) : Ev (fun k => P.graftbedref05_Release.f k s) (releaseB s) := by
  unfold P.graftbedref05_Release.f releaseB
  simp only [show P.graftbedref05_begins.f s ⟨#[49, 46]⟩ = some _ from begins_eq s ⟨#[49, 46]⟩, Option.bind_some]
  cases hp : Lib.hasPrefix s.data.toList [49, 46] with
  | true =>
    have hl := hasPrefix_len (a := s) (p := ⟨#[49, 46]⟩) hp
    have h2 : (⟨#[49, 46]⟩ : ByteArray).size = 2 := rfl
    refine Ev.pos rfl (Ev.pos (by omega) ?_)
    refine Ev.bind (f := fun _ t => some (decide (t ≥ 0))) (number_ev _ (by rw [ByteArray.size_extract]; omega)) ?_
    rw [Bool.true_and]
    have : decide (numberB (s.extract 2 s.size) ≥ 0) = numOk (s.extract 2 s.size) := by
      cases hn : numOk (s.extract 2 s.size) with
      | true => exact decide_eq_true (by have := of_decide_eq_false (numberB_ok hn); omega)
      | false => exact decide_eq_false (by have := of_decide_eq_true (numberB_no (x := s.extract 2 s.size) (by rw [hn]; decide)); omega)
    rw [this]; exact Ev.now _
  | false =>
    exact Ev.neg (by decide) (Ev.now _)
end Go.Proofs.YtcdcpcdfcmokkaaGreatDoor
end
section
namespace Go.Proofs.YtcdcpcdfcmokkaaGreatDoor
open Go Go.RowKit Go.Proofs.YtcdcpcdfcmokkaaGreatDoorW.PrintWords
set_option linter.unusedVariables false
set_option linter.unusedSimpArgs false
def knownB (p v : ByteArray) : Int :=
  if v.toList = [] then (if localB p = true then 0 else 10) else if moduleB p = true then (if (canonB v).toList = v.toList then fitsB p v else 30) else 10
def isKnown (p v : ByteArray) : Bool := decide (knownB p v = 0)
def orderM (ap av bp bv : ByteArray) : Int := orI (pathCmp ap bp) (orI (verCmp av bv) (cmpS av bv))
end Go.Proofs.YtcdcpcdfcmokkaaGreatDoor
end
