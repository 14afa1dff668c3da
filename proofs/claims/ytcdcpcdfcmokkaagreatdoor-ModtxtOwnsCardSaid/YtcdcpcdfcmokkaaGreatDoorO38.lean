/- The row of ModtxtOwns and its tied card. -/
import Derived.Test.YtcdcpcdfcmokkaaGreatDoorTie
import Derived.Test.YtcdcpcdfcmokkaaGreatDoorCards
import Derived.Test.YtcdcpcdfcmokkaaGreatDoorO37
import Derived.ProofKit
import Derived.OpenShut
import Derived.LaidMore
import Derived.Lay
import Derived.SevenTiedAt
import Derived.Stop.Joined
import Derived.ChangeOld
import Derived.Below
import Derived.SizedLaws
import Derived.Carry
set_option linter.unusedVariables false
set_option linter.unusedSimpArgs false
namespace Go.Proofs.YtcdcpcdfcmokkaaGreatDoor.RowOwns
open Go.ChangeMaps (open_string shut_string)
open Go Go.ChangeShapes Go.WideShapes Go.ChangeAt Go.RowKit
set_option linter.unusedVariables false
theorem own : ownKnob Tryz.prog.godebug = none := by kernel_rfl
theorem agg_of {v a b : Value} (h : v.cells.toList = [a, b]) : v = .agg #[a, b] := by
  cases v with
  | agg x =>
    have : x.toList = [a, b] := h
    rw [← Array.toArray_toList (xs := x), this]
  | _ => cases h
theorem laidOut : laidOutB Tryz.prog = true := by kernel_rfl
set_option maxRecDepth 100000 in
theorem lifted (os : Os) (started : os.Started) (H : Type) (enc : TypeId × Value → H) :
    ReturnsInHanded {} Tryz.checked os 5 .any (fun w args => (Rows.modtxtOwnsSpec.pre enc Tryz.prog Tryz.f5 Rows.modtxtOwnsRow.domain false w args ∧ laidMetH Tryz.prog Rows.modtxtOwnsRow.laid w) ∧ sizedMet enc Tryz.prog Tryz.f5 (OpenSpec.ofChange Rows.modtxtOwnsSpec) false w args)
      (Rows.modtxtOwnsSpec.post enc Tryz.prog Tryz.f5 false true false false) := by
  refine returnsInHanded_of_change_and (C := Tryz.checked) (X := fun w _ => laidMetH Tryz.prog Rows.modtxtOwnsRow.laid w) (fun _ _ _ hh h => h.of_heap hh) own started (by kernel_rfl) Tryz.func5
    (ChangeSpec.witness_shaped (enc := enc) (C := Tryz.checked) (os := os) (X := fun w _ => laidMetH Tryz.prog Rows.modtxtOwnsRow.laid w) false (World.laidAll Tryz.prog os Rows.modtxtOwnsRow.laid) #[.agg #[.slice none 0 0, .slice none 0 0], .string ⟨#[]⟩] 8 (World.laidAll_os _ _ _)
      (World.shaped_of_ZipB (by kernel_rfl) (by kernel_rfl)) (by kernel_rfl) (by kernel_rfl) (by kernel_rfl)
      (by rw [MakeChecks.laidMetH_plain _ _ _ (by kernel_rfl)]; exact laidMet_laidAll _ (by kernel_rfl) (by kernel_rfl))) ?_
  intro W base args ds gs before hval0 hW hc _ hL _
  have hW' := hW
  obtain ⟨p, q, hA0, hV, rfl, _, _⟩ := hW
  have hA : DataW.TrodAll enc Tryz.prog W 0 (fun _ => true) true Tryz.f5.params.toList args.toList ds p := hA0
  rw [Tryz.params5] at hA
  have hval : ∀ (j : Nat) t v, Tryz.f5.params[j]? = some t → args[j]? = some v → Value.okWide Tryz.prog W .any base t v := hval0
  rw [Tryz.params5] at hval
  obtain ⟨v0, v1, d0, d1, p0, p1, rfl, rfl, rfl, h0, h2⟩ := trodAll_two hA
  obtain ⟨rfl, rfl⟩ := trodVars_none hV
  have hlt : ∀ x ∈ p0 ++ p1, x.block < W.heap.size := DataW.TrodAll.lt hA
  obtain ⟨x, rfl, rfl, rfl, xs⟩ := open_string Tryz.underlying9 (hval 1 9 v1 rfl rfl) h2
  obtain ⟨fuel, h1⟩ := id h0
  obtain ⟨A0, c0, A1, c1, ms, rs, hcells, l0, l1, g0, g1⟩ := opens_list _ _ _ h1
  obtain rfl := agg_of hcells
  refine (owns_any A0 A1 c0 c1 ms rs x W g0 l0 g1 l1).mono fun e W' ⟨he, bel⟩ => ?_
  subst he
  exact ⟨_, rfl, _, _, _, [], _, [], hW', trodAll_mk1 (shut_bool Tryz.underlying4 _), trodAll_mk2 (Below.trod laidOut (by kernel_rfl) (of_decide_eq_true (by kernel_rfl)) h0 bel (fun y hy => hlt y (List.mem_append_left _ hy))) (shut_string Tryz.underlying9 xs), rfl, bel.frame _, fun h => by cases h⟩
set_option maxRecDepth 100000 in
theorem over : Rows.modtxtOwnsRow.holds Tryz.pinned (OpenSpec.ofChange Rows.modtxtOwnsSpec) :=
  OpenClaim.holds_of_wide 5 Tryz.f5 rfl rfl rfl rfl rfl rfl rfl ⟨rfl, rfl, rfl, rfl, rfl⟩ rfl rfl rfl rfl rfl (by kernel_rfl) Tryz.func5 (by kernel_rfl)
    (of_decide_eq_true (by kernel_rfl)) (by unfold Func.isWrapper; first | (rw [if_pos (by decide +kernel)]; kernel_rfl) | (rw [if_neg (by decide +kernel)]; exact ⟨rfl, rfl⟩))
    (fun os started H enc _ => lifted os started H enc)
theorem holds : Rows.ModtxtOwnsSaid := over
theorem card : Rows.ModtxtOwnsCardSaid :=
  Claim7.holds_tied_plain_at .later [] [.data, .data, .data, .sentinel, .sentinel] true (true, "57f5c84f39fe2e3e35d85d564082cfb85cefb55d14f676cf1b3419b7f8659f9b") true
    holds (fun _ h => by cases h) (by kernel_rfl) (fun _ h => by cases h) modtxtOwns_row_tie rfl ⟨rfl, rfl⟩ (by kernel_rfl) rfl
    (fun f fn hf hfn => by
      obtain rfl : f = 5 := Option.some.inj ((show Tryz.prog.funcNamed "graftbed/graftbedlaw19.ModtxtOwns" = some 5 by kernel_rfl).symm.trans hf) |>.symm
      obtain rfl : fn = Tryz.f5 := (Option.some.inj (Tryz.func5.symm.trans hfn)).symm
      exact ⟨by kernel_rfl, fun j t ht => by
        rw [Tryz.params5] at ht
        have hm : t ∈ [25, 9] := by simpa using Array.mem_of_getElem? ht
        have hall : ([25, 9].all fun u => !Tryz.prog.wantsStandIn u) = true := by kernel_rfl
        exact (show Tryz.prog.wantsStandIn t = false by simpa using List.all_eq_true.1 hall t hm)⟩)
    (by kernel_rfl)
#print axioms card
end Go.Proofs.YtcdcpcdfcmokkaaGreatDoor.RowOwns
namespace Go.Proofs.YtcdcpcdfcmokkaaGreatDoor
theorem modtxtOwns_holds : Rows.ModtxtOwnsCardSaid := RowOwns.card
end Go.Proofs.YtcdcpcdfcmokkaaGreatDoor
