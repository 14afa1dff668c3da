/- The row of ModtxtRest and its tied card. -/
import Derived.Test.YtcdcpcdfcmokkaaGreatDoorTie
import Derived.Test.YtcdcpcdfcmokkaaGreatDoorCards
import Derived.Test.YtcdcpcdfcmokkaaGreatDoorR35
import Derived.Test.YtcdcpcdfcmokkaaGreatDoorR36
import Derived.ProofKit
import Derived.OpenShut
import Derived.LaidMore
import Derived.Lay
import Derived.SevenTiedAt
import Derived.Stop.Joined
import Derived.ChangeOld
import Derived.Below
import Derived.SizedLaws
import Derived.Carry
set_option linter.unusedVariables false
set_option linter.unusedSimpArgs false
namespace Go.Proofs.YtcdcpcdfcmokkaaGreatDoor.RowRest
open Go Go.ChangeShapes Go.WideShapes Go.ChangeAt Go.RowKit
set_option linter.unusedVariables false
theorem own : ownKnob Tryz.prog.godebug = none := by kernel_rfl
theorem agg_of {v a b : Value} (h : v.cells.toList = [a, b]) : v = .agg #[a, b] := by
  cases v with
  | agg x =>
    have : x.toList = [a, b] := h
    rw [← Array.toArray_toList (xs := x), this]
  | _ => cases h
theorem laidOut : laidOutB Tryz.prog = true := by kernel_rfl
set_option maxRecDepth 100000 in
theorem lifted (os : Os) (started : os.Started) (H : Type) (enc : TypeId × Value → H) :
    ReturnsInHanded {} Tryz.checked os 3 .any (fun w args => (Rows.modtxtRestSpec.pre enc Tryz.prog Tryz.f3 Rows.modtxtRestRow.domain false w args ∧ laidMetH Tryz.prog Rows.modtxtRestRow.laid w) ∧ sizedMet enc Tryz.prog Tryz.f3 (OpenSpec.ofChange Rows.modtxtRestSpec) false w args)
      (Rows.modtxtRestSpec.post enc Tryz.prog Tryz.f3 false true false false) := by
  refine returnsInHanded_of_change_and (C := Tryz.checked) (X := fun w _ => laidMetH Tryz.prog Rows.modtxtRestRow.laid w) (fun _ _ _ hh h => h.of_heap hh) own started (by kernel_rfl) Tryz.func3
    (ChangeSpec.witness_shaped (enc := enc) (C := Tryz.checked) (os := os) (X := fun w _ => laidMetH Tryz.prog Rows.modtxtRestRow.laid w) false (World.laidAll Tryz.prog os Rows.modtxtRestRow.laid) #[.agg #[.slice none 0 0, .slice none 0 0]] 8 (World.laidAll_os _ _ _)
      (World.shaped_of_ZipB (by kernel_rfl) (by kernel_rfl)) (by kernel_rfl) (by kernel_rfl) (by kernel_rfl)
      (by rw [MakeChecks.laidMetH_plain _ _ _ (by kernel_rfl)]; exact laidMet_laidAll _ (by kernel_rfl) (by kernel_rfl))) ?_
  intro W base args ds gs before hval0 hW hc _ hL _
  have hW' := hW
  obtain ⟨p, q, hA0, hV, rfl, _, _⟩ := hW
  have hA : DataW.TrodAll enc Tryz.prog W 0 (fun _ => true) true Tryz.f3.params.toList args.toList ds p := hA0
  rw [Tryz.params3] at hA
  obtain ⟨v0, d0, rfl, rfl, h0⟩ := trodAll_one hA
  obtain ⟨rfl, rfl⟩ := trodVars_none hV
  have hlt : ∀ x ∈ p, x.block < W.heap.size := DataW.TrodAll.lt hA
  obtain ⟨fuel, h1⟩ := id h0
  obtain ⟨A0, c0, A1, c1, ms, rs, hcells, l0, l1, g0, g1⟩ := opens_list _ _ _ h1
  obtain rfl := agg_of hcells
  refine (rest_any A0 A1 c0 c1 ms rs W g0 l0 g1 l1).mono fun e W' ⟨he, bel⟩ => ?_
  subst he
  exact ⟨_, rfl, _, _, _, [], _, [], hW', trodAll_mk1 (shut_bool Tryz.underlying4 _), trodAll_mk1 (Below.trod laidOut (by kernel_rfl) (of_decide_eq_true (by kernel_rfl)) h0 bel hlt), rfl, bel.frame _, fun h => by cases h⟩
set_option maxRecDepth 100000 in
theorem over : Rows.modtxtRestRow.holds Tryz.pinned (OpenSpec.ofChange Rows.modtxtRestSpec) :=
  OpenClaim.holds_of_wide 3 Tryz.f3 rfl rfl rfl rfl rfl rfl rfl ⟨rfl, rfl, rfl, rfl, rfl⟩ rfl rfl rfl rfl rfl (by kernel_rfl) Tryz.func3 (by kernel_rfl)
    (of_decide_eq_true (by kernel_rfl)) (by unfold Func.isWrapper; first | (rw [if_pos (by decide +kernel)]; kernel_rfl) | (rw [if_neg (by decide +kernel)]; exact ⟨rfl, rfl⟩))
    (fun os started H enc _ => lifted os started H enc)
theorem holds : Rows.ModtxtRestSaid := over
theorem card : Rows.ModtxtRestCardSaid :=
  Claim7.holds_tied_plain_at .later [] [.data, .data, .data, .sentinel, .sentinel] true (true, "57f5c84f39fe2e3e35d85d564082cfb85cefb55d14f676cf1b3419b7f8659f9b") true
    holds (fun _ h => by cases h) (by kernel_rfl) (fun _ h => by cases h) modtxtRest_row_tie rfl ⟨rfl, rfl⟩ (by kernel_rfl) rfl
    (fun f fn hf hfn => by
      obtain rfl : f = 3 := Option.some.inj ((show Tryz.prog.funcNamed "graftbed/graftbedlaw19.ModtxtRest" = some 3 by kernel_rfl).symm.trans hf) |>.symm
      obtain rfl : fn = Tryz.f3 := (Option.some.inj (Tryz.func3.symm.trans hfn)).symm
      exact ⟨by kernel_rfl, fun j t ht => by
        rw [Tryz.params3] at ht
        have hm : t ∈ [25] := by simpa using Array.mem_of_getElem? ht
        have hall : ([25].all fun u => !Tryz.prog.wantsStandIn u) = true := by kernel_rfl
        exact (show Tryz.prog.wantsStandIn t = false by simpa using List.all_eq_true.1 hall t hm)⟩)
    (by kernel_rfl)
#print axioms card
end Go.Proofs.YtcdcpcdfcmokkaaGreatDoor.RowRest
namespace Go.Proofs.YtcdcpcdfcmokkaaGreatDoor
theorem modtxtRest_holds : Rows.ModtxtRestCardSaid := RowRest.card
end Go.Proofs.YtcdcpcdfcmokkaaGreatDoor
