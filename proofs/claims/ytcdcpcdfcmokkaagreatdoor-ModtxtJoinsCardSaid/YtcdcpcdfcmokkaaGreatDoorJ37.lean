/- An argument that is a list (a struct of two slices of structs), opened. -/
import Derived.Test.YtcdcpcdfcmokkaaGreatDoorJ31
import Derived.ChangeArms
import Derived.ChangeSlices
import Derived.SliceStrings
set_option linter.unusedVariables false
set_option linter.unusedSimpArgs false
namespace Go.Proofs.YtcdcpcdfcmokkaaGreatDoor
open Go Go.RowKit Go.ChangeShapes Go.WideShapes Go.Proofs.YtcdcpcdfcmokkaaGreatDoorW.PrintWords
set_option linter.unusedVariables false
section
variable {H : Type} {enc : TypeId × Value → H} {W : World} {base : Nat} {spare : Nat → Bool} {held : Bool}
def Opens {α : Type} (enc : TypeId × Value → H) (W : World) (base : Nat) (spare : Nat → Bool) (held : Bool) (t : TypeId) (d : Kd α) : Prop :=
  ∀ (fuel : Nat) (cs : List Value) (x : DataW H × List MemPlace), DataW.trod enc Tryz.prog W base spare held fuel t cs = some x → ∃ v, d.K W v cs
theorem opens_string : Opens enc W base spare held 9 Kd.string := fun fuel cs x h => by
  obtain ⟨s, rfl, _, _⟩ := DataW.trod_string Tryz.underlying9 h
  exact ⟨s, rfl⟩
theorem opens_bool : Opens enc W base spare held 4 Kd.bool := fun fuel cs x h => by
  obtain ⟨s, rfl, _⟩ := DataW.trod_bool Tryz.underlying4 h
  exact ⟨s, rfl⟩
theorem opens_slice {α : Type} {t e : TypeId} {d : Kd α} (ht : Tryz.prog.underlying t = some (.slice e)) (hc : Tryz.prog.cellsOf e = d.sz) (ho : Opens enc W base spare held e d) : Opens enc W base spare held t (Kd.slice e d) := fun fuel cs x h => by
  rcases DataW.trod_slice ht h with ⟨rfl, _⟩ | ⟨a, len, cap, elems, rest, n, _, rfl, _, _, hl, hm, hlen, hel, _, _⟩
  · exact ⟨[], none, 0, rfl, Nat.le_refl _, rfl, by simp, fun h => absurd h (by simp)⟩
  · have each : ∀ i : Fin len, ∃ v cs, d.K W v cs ∧ cs.length = d.sz ∧ ∀ j u, cs[j]? = some u → W.cell? (a.add (i.1 * d.sz + j)) = some u := fun i => by
      have h1 := hel i.1 i.2
      rw [List.getElem?_eq_getElem (by omega), Option.bind_eq_some_iff, hc] at h1
      obtain ⟨cs, h2, h3⟩ := h1
      obtain ⟨v, hv⟩ := ho _ _ _ h3
      obtain ⟨_, h4, h5⟩ := World.cells?_some h2
      refine ⟨v, cs, hv, h4, fun j u hj => ?_⟩
      have hlt : j < cs.length := (List.getElem?_eq_some_iff.mp hj).1
      rw [← Addr.add_add, h5 j (by omega), hj]
    have hcap : len ≤ 9223372036854775807 := by have : cap ≤ 9223372036854775807 := hm; omega
    refine ⟨List.ofFn fun i => (each i).choose, some a, cap, by rw [List.length_ofFn], by rw [List.length_ofFn]; exact hl, rfl, by rw [List.length_ofFn]; exact hcap, fun _ => ⟨a, rfl, fun j p hp => ?_⟩⟩
    rw [List.getElem?_ofFn] at hp
    split at hp
    · rename_i hj
      injection hp with hp
      obtain ⟨c, h1, h2, h3⟩ := (each ⟨j, hj⟩).choose_spec
      exact ⟨c, h2, hp ▸ h1, h3⟩
    · cases hp
theorem some_of_lt {β : Type} {xs : List β} {i n : Nat} (hl : xs.length = n) (hi : i < n) : ∃ y, xs[i]? = some y := ⟨xs[i], List.getElem?_eq_getElem (by omega)⟩
theorem len2 {cs : List Value} (h : cs.length = 2) : ∃ c0 c1, cs = [c0, c1] := by
  match cs, h with | [c0, c1], _ => exact ⟨c0, c1, rfl⟩
theorem len4 {cs : List Value} (h : cs.length = 4) : ∃ c0 c1 c2 c3, cs = [c0, c1, c2, c3] := by
  match cs, h with | [c0, c1, c2, c3], _ => exact ⟨c0, c1, c2, c3, rfl⟩
theorem len7 {cs : List Value} (h : cs.length = 7) : ∃ c0 c1 c2 c3 c4 c5 c6, cs = [c0, c1, c2, c3, c4, c5, c6] := by
  match cs, h with | [c0, c1, c2, c3, c4, c5, c6], _ => exact ⟨c0, c1, c2, c3, c4, c5, c6, rfl⟩
theorem opens_mod : Opens enc W base spare held 38 P.k38 := fun fuel cs x h => by
  obtain ⟨xs, n, _, _, hl, hx, hf⟩ := DataW.trod_struct Tryz.underlying38 h
  rw [show Tryz.prog.cellsOf 38 = 2 from by kernel_rfl] at hl
  obtain ⟨c0, c1, rfl⟩ := len2 hl
  obtain ⟨y0, e0⟩ := some_of_lt (i := 0) hx (by decide)
  have f0 : DataW.trod enc Tryz.prog W base spare held n 9 (List.take (Tryz.prog.cellsOf 9) (List.drop 0 [c0, c1])) = some y0 := (hf 0 _ rfl).trans e0
  clear e0
  rw [show Tryz.prog.cellsOf 9 = 1 from by kernel_rfl] at f0
  obtain ⟨v0, k0⟩ := opens_string _ _ _ f0
  obtain ⟨y1, e1⟩ := some_of_lt (i := 1) hx (by decide)
  have f1 : DataW.trod enc Tryz.prog W base spare held n 9 (List.take (Tryz.prog.cellsOf 9) (List.drop 1 [c0, c1])) = some y1 := (hf 1 _ rfl).trans e1
  clear e1
  rw [show Tryz.prog.cellsOf 9 = 1 from by kernel_rfl] at f1
  obtain ⟨v1, k1⟩ := opens_string _ _ _ f1
  exact ⟨⟨v0, v1⟩, [c0], [c1], rfl, k0, k1⟩
theorem opens_rep : Opens enc W base spare held 59 P.k59 := fun fuel cs x h => by
  obtain ⟨xs, n, _, _, hl, hx, hf⟩ := DataW.trod_struct Tryz.underlying59 h
  rw [show Tryz.prog.cellsOf 59 = 4 from by kernel_rfl] at hl
  obtain ⟨c0, c1, c2, c3, rfl⟩ := len4 hl
  obtain ⟨y0, e0⟩ := some_of_lt (i := 0) hx (by decide)
  have f0 : DataW.trod enc Tryz.prog W base spare held n 38 (List.take (Tryz.prog.cellsOf 38) (List.drop 0 [c0, c1, c2, c3])) = some y0 := (hf 0 _ rfl).trans e0
  clear e0
  rw [show Tryz.prog.cellsOf 38 = 2 from by kernel_rfl] at f0
  obtain ⟨v0, k0⟩ := opens_mod _ _ _ f0
  obtain ⟨y1, e1⟩ := some_of_lt (i := 1) hx (by decide)
  have f1 : DataW.trod enc Tryz.prog W base spare held n 38 (List.take (Tryz.prog.cellsOf 38) (List.drop 2 [c0, c1, c2, c3])) = some y1 := (hf 1 _ rfl).trans e1
  clear e1
  rw [show Tryz.prog.cellsOf 38 = 2 from by kernel_rfl] at f1
  obtain ⟨v1, k1⟩ := opens_mod _ _ _ f1
  exact ⟨⟨v0, v1⟩, [c0, c1], [c2, c3], rfl, k0, k1⟩
theorem opens_strs : Opens enc W base spare held 39 (Kd.slice 9 Kd.string) := opens_slice Tryz.underlying39 (by kernel_rfl) opens_string
theorem opens_module : Opens enc W base spare held 41 P.k41 := fun fuel cs x h => by
  obtain ⟨xs, n, _, _, hl, hx, hf⟩ := DataW.trod_struct Tryz.underlying41 h
  rw [show Tryz.prog.cellsOf 41 = 7 from by kernel_rfl] at hl
  obtain ⟨c0, c1, c2, c3, c4, c5, c6, rfl⟩ := len7 hl
  obtain ⟨y0, e0⟩ := some_of_lt (i := 0) hx (by decide)
  have f0 : DataW.trod enc Tryz.prog W base spare held n 38 (List.take (Tryz.prog.cellsOf 38) (List.drop 0 [c0, c1, c2, c3, c4, c5, c6])) = some y0 := (hf 0 _ rfl).trans e0
  clear e0
  rw [show Tryz.prog.cellsOf 38 = 2 from by kernel_rfl] at f0
  obtain ⟨v0, k0⟩ := opens_mod _ _ _ f0
  obtain ⟨y1, e1⟩ := some_of_lt (i := 1) hx (by decide)
  have f1 : DataW.trod enc Tryz.prog W base spare held n 4 (List.take (Tryz.prog.cellsOf 4) (List.drop 2 [c0, c1, c2, c3, c4, c5, c6])) = some y1 := (hf 1 _ rfl).trans e1
  clear e1
  rw [show Tryz.prog.cellsOf 4 = 1 from by kernel_rfl] at f1
  obtain ⟨v1, k1⟩ := opens_bool _ _ _ f1
  obtain ⟨y2, e2⟩ := some_of_lt (i := 2) hx (by decide)
  have f2 : DataW.trod enc Tryz.prog W base spare held n 9 (List.take (Tryz.prog.cellsOf 9) (List.drop 3 [c0, c1, c2, c3, c4, c5, c6])) = some y2 := (hf 2 _ rfl).trans e2
  clear e2
  rw [show Tryz.prog.cellsOf 9 = 1 from by kernel_rfl] at f2
  obtain ⟨v2, k2⟩ := opens_string _ _ _ f2
  obtain ⟨y3, e3⟩ := some_of_lt (i := 3) hx (by decide)
  have f3 : DataW.trod enc Tryz.prog W base spare held n 38 (List.take (Tryz.prog.cellsOf 38) (List.drop 4 [c0, c1, c2, c3, c4, c5, c6])) = some y3 := (hf 3 _ rfl).trans e3
  clear e3
  rw [show Tryz.prog.cellsOf 38 = 2 from by kernel_rfl] at f3
  obtain ⟨v3, k3⟩ := opens_mod _ _ _ f3
  obtain ⟨y4, e4⟩ := some_of_lt (i := 4) hx (by decide)
  have f4 : DataW.trod enc Tryz.prog W base spare held n 39 (List.take (Tryz.prog.cellsOf 39) (List.drop 6 [c0, c1, c2, c3, c4, c5, c6])) = some y4 := (hf 4 _ rfl).trans e4
  clear e4
  rw [show Tryz.prog.cellsOf 39 = 1 from by kernel_rfl] at f4
  obtain ⟨v4, k4⟩ := opens_strs _ _ _ f4
  exact ⟨⟨v0, v1, v2, v3, v4⟩, [c0, c1], [c2, c3, c4, c5, c6], rfl, k0, [c2], [c3, c4, c5, c6], rfl, k1, [c3], [c4, c5, c6], rfl, k2, [c4, c5], [c6], rfl, k3, k4⟩
theorem opens_modules : Opens enc W base spare held 22 (Kd.slice 41 P.k41) := opens_slice Tryz.underlying22 (by kernel_rfl) opens_module
theorem opens_reps : Opens enc W base spare held 23 (Kd.slice 59 P.k59) := opens_slice Tryz.underlying23 (by kernel_rfl) opens_rep
theorem opens_list (fuel : Nat) (cs : List Value) (x : DataW H × List MemPlace) (h : DataW.trod enc Tryz.prog W base spare held fuel 25 cs = some x) :
    ∃ A0 c0 A1 c1 ms rs, cs = [.slice A0 (List.length ms) c0, .slice A1 (List.length rs) c1] ∧ ms.length ≤ c0 ∧ rs.length ≤ c1 ∧ Kd.C P.k41 W A0 ms.length ms ∧ Kd.C P.k59 W A1 rs.length rs := by
  obtain ⟨xs, n, _, _, hl, hx, hf⟩ := DataW.trod_struct Tryz.underlying25 h
  rw [show Tryz.prog.cellsOf 25 = 2 from by kernel_rfl] at hl
  obtain ⟨c0, c1, rfl⟩ := len2 hl
  obtain ⟨y0, e0⟩ := some_of_lt (i := 0) hx (by decide)
  obtain ⟨y1, e1⟩ := some_of_lt (i := 1) hx (by decide)
  have f0 : DataW.trod enc Tryz.prog W base spare held n 22 (List.take (Tryz.prog.cellsOf 22) (List.drop 0 [c0, c1])) = some y0 := (hf 0 _ rfl).trans e0
  have f1 : DataW.trod enc Tryz.prog W base spare held n 23 (List.take (Tryz.prog.cellsOf 23) (List.drop 1 [c0, c1])) = some y1 := (hf 1 _ rfl).trans e1
  rw [show Tryz.prog.cellsOf 22 = 1 from by kernel_rfl] at f0
  rw [show Tryz.prog.cellsOf 23 = 1 from by kernel_rfl] at f1
  obtain ⟨ms, A0, d0, k0, l0, g0⟩ := opens_modules _ _ _ f0
  obtain ⟨rs, A1, d1, k1, l1, g1⟩ := opens_reps _ _ _ f1
  obtain rfl : c0 = _ := (List.cons.inj k0).1
  obtain rfl : c1 = _ := (List.cons.inj k1).1
  exact ⟨A0, d0, A1, d1, ms, rs, rfl, l0, l1, g0, g1⟩
end
end Go.Proofs.YtcdcpcdfcmokkaaGreatDoor
