/- Walks of the program's functions, and words that they use -/
import Derived.Test.YtcdcpcdfcmokkaaGreatDoorProg
import Derived.Test.YtcdcpcdfcmokkaaGreatDoorO01
import Derived.Below
import Derived.Deep.Draws
import Derived.Deep.AppendLies
import Derived.Maps.AppendAt
import Derived.OwnWalk
import Derived.Laws.BytesArg
import Derived.Laws.MakeOwn
import Derived.Laws.OwnMore
import Derived.Deep.OwnRows
import Derived.Tactics
import Derived.Lib.ConvBytes
import Derived.Laws.Slices
import Derived.WalkKit
import Derived.KernelRfl
import Derived.RowKit3
import Derived.Deep.LoopGhost
import Derived.Deep.QuietTactic
import Derived.BigQuiet
import Derived.WideLaws
import Derived.Deep.DeepCutAuto
import Derived.Deep.CutBlock
import Derived.Deep.RegionHeld3
import Derived.Laws.Rows
import Derived.Lib.AppendStr
import Derived.ArgAppend
import Derived.Laws.IdiomCopy
import Derived.OrdersHeld
import Derived.Laws.BitsLemmas
import Derived.RowKit
import Derived.Test.YtcdcpcdfcmokkaaGreatDoorO02
import Derived.Test.YtcdcpcdfcmokkaaGreatDoorO03
import Derived.Test.YtcdcpcdfcmokkaaGreatDoorO04
set_option linter.unusedVariables false
set_option linter.unusedSimpArgs false
namespace Go.Proofs.YtcdcpcdfcmokkaaGreatDoor.P
open Go.RowKit Go.Proofs.YtcdcpcdfcmokkaaGreatDoorW.PrintWords Go.Proofs.YtcdcpcdfcmokkaaGreatDoorW.PrintLast Go.Proofs.YtcdcpcdfcmokkaaGreatDoorW.PrintMore
open Go.Proofs.YtcdcpcdfcmokkaaGreatDoor (str_gtr str_leq str_geq bne_empty)
attribute [local go_sem] max2_int min2_int max_two min_two max_three min_three max_four min_four str_gtr str_leq str_geq   -- for this text's walks alone
set_option linter.unusedVariables false
set_option linter.unusedSimpArgs false
def errW : Option Int → Value
  | none => .nilIface
  | some c => .iface 154 (.int .i64 c)
theorem errW_none : errW none = .nilIface := rfl
theorem errW_some (c : Int) : errW (some c) = .iface 154 (.int .i64 c) := rfl
theorem info9 : (Tryz.prog.info? 9).map (fun i => (i.zero, i.size, i.bytes)) = some (some (.string ⟨#[]⟩), 1, 16) := by kernel_rfl
theorem info45 : (Tryz.prog.info? 45).map (fun i => (i.zero, i.size, i.bytes)) = some (some (.agg #[(.string ⟨#[]⟩), (.string ⟨#[]⟩), (.bool false), (.string ⟨#[]⟩), (.string ⟨#[]⟩), (.string ⟨#[]⟩), (.slice none 0 0)]), 7, 112) := by kernel_rfl
theorem info72 : (Tryz.prog.info? 72).map (fun i => (i.zero, i.size, i.bytes)) = some (some (.agg #[(.string ⟨#[]⟩), (.string ⟨#[]⟩), (.string ⟨#[]⟩), (.string ⟨#[]⟩)]), 4, 64) := by kernel_rfl
-- the values' own types
structure S38 where
  f0 : ByteArray
  f1 : ByteArray
def z38 : S38 := ⟨(⟨#[]⟩ : ByteArray), (⟨#[]⟩ : ByteArray)⟩
def k38 : Kd S38 := Kd.iso (Kd.pair Kd.string Kd.string) (fun x : S38 => (x.f0, x.f1))
theorem k38_heap : Kd.Heap k38 := Kd.heap_iso _ (Kd.heap_pair Kd.heap_string Kd.heap_string)
theorem k38_open {w : World} {x : S38} {cs : List Value} (h : k38.K w x cs) : cs = [.string x.f0, .string x.f1] := by
  obtain ⟨_, _, rfl, rfl, rfl⟩ := h
  exact rfl
theorem k38_mk (w : World) (x : S38)  : k38.K w x [.string x.f0, .string x.f1] := ⟨[.string x.f0], [.string x.f1], rfl, rfl, rfl⟩
theorem k38_mkM (w : World) (base : Nat) (ok : Nat → Prop) (x : S38)  : k38.M w base ok x [.string x.f0, .string x.f1] := ⟨[.string x.f0], [.string x.f1], rfl, rfl, rfl⟩
structure S41 where
  f0 : S38
  f1 : Bool
  f2 : ByteArray
  f3 : S38
  f4 : (List ByteArray)
def z41 : S41 := ⟨z38, false, (⟨#[]⟩ : ByteArray), z38, ([] : List ByteArray)⟩
def k41 : Kd S41 := Kd.iso (Kd.pair k38 (Kd.pair Kd.bool (Kd.pair Kd.string (Kd.pair k38 (Kd.slice 9 Kd.string))))) (fun x : S41 => (x.f0, x.f1, x.f2, x.f3, x.f4))
theorem k41_heap : Kd.Heap k41 := Kd.heap_iso _ (Kd.heap_pair k38_heap (Kd.heap_pair Kd.heap_bool (Kd.heap_pair Kd.heap_string (Kd.heap_pair k38_heap (Kd.heap_slice 9 Kd.heap_string)))))
theorem k41_open {w : World} {x : S41} {cs : List Value} (h : k41.K w x cs) : ∃ A6 c6, cs = [.string x.f0.f0, .string x.f0.f1, .bool x.f1, .string x.f2, .string x.f3.f0, .string x.f3.f1, .slice A6 x.f4.length c6] ∧ x.f4.length ≤ c6 ∧ Kd.string.C w A6 x.f4.length x.f4 := by
  obtain ⟨_, _, rfl, s0, ⟨_, _, rfl, rfl, ⟨_, _, rfl, rfl, ⟨_, _, rfl, s4, ⟨A6, c6, rfl, l6, g6⟩⟩⟩⟩⟩ := h
  obtain rfl := k38_open s0
  obtain rfl := k38_open s4
  exact ⟨A6, c6, rfl, l6, g6⟩
theorem k41_mk (w : World) (x : S41) {A6 : Option Addr} {c6 : Nat} (l6 : x.f4.length ≤ c6) (g6 : Kd.string.C w A6 x.f4.length x.f4) : k41.K w x [.string x.f0.f0, .string x.f0.f1, .bool x.f1, .string x.f2, .string x.f3.f0, .string x.f3.f1, .slice A6 x.f4.length c6] := ⟨[.string x.f0.f0, .string x.f0.f1], [.bool x.f1, .string x.f2, .string x.f3.f0, .string x.f3.f1, .slice A6 x.f4.length c6], rfl, (k38_mk w x.f0 ), ⟨[.bool x.f1], [.string x.f2, .string x.f3.f0, .string x.f3.f1, .slice A6 x.f4.length c6], rfl, rfl, ⟨[.string x.f2], [.string x.f3.f0, .string x.f3.f1, .slice A6 x.f4.length c6], rfl, rfl, ⟨[.string x.f3.f0, .string x.f3.f1], [.slice A6 x.f4.length c6], rfl, (k38_mk w x.f3 ), ⟨A6, c6, rfl, l6, g6⟩⟩⟩⟩⟩
theorem k41_mkM (w : World) (base : Nat) (ok : Nat → Prop) (x : S41) {v6 : Value} (g6 : Kd.string.R 9 w base ok v6 x.f4) : k41.M w base ok x [.string x.f0.f0, .string x.f0.f1, .bool x.f1, .string x.f2, .string x.f3.f0, .string x.f3.f1, v6] := ⟨[.string x.f0.f0, .string x.f0.f1], [.bool x.f1, .string x.f2, .string x.f3.f0, .string x.f3.f1, v6], rfl, (k38_mkM w base ok x.f0 ), ⟨[.bool x.f1], [.string x.f2, .string x.f3.f0, .string x.f3.f1, v6], rfl, rfl, ⟨[.string x.f2], [.string x.f3.f0, .string x.f3.f1, v6], rfl, rfl, ⟨[.string x.f3.f0, .string x.f3.f1], [v6], rfl, (k38_mkM w base ok x.f3 ), ⟨v6, rfl, g6⟩⟩⟩⟩⟩
theorem k41_openF {W : World} {ok : Nat → Prop} {x : S41} {cs : List Value} (h : Kd.FK k41 W ok x cs) : ∃ A6 c6, cs = [.string x.f0.f0, .string x.f0.f1, .bool x.f1, .string x.f2, .string x.f3.f0, .string x.f3.f1, .slice A6 x.f4.length c6] ∧ x.f4.length ≤ c6 ∧ Kd.F Kd.string W ok A6 x.f4.length x.f4 := by
  obtain ⟨A6, c6, rfl, l6, _⟩ := k41_open (Kd.FK_now h)
  exact ⟨A6, c6, rfl, l6, (fun W' hW => by obtain ⟨A6_, c6_, he, l6_, g6_⟩ := k41_open (h W' hW); injection (Option.some.inj (show some (Value.slice A6 x.f4.length c6) = some (Value.slice A6_ x.f4.length c6_) from congrArg (fun l => l[6]?) he)) with ha_ _ _; rw [ha_]; exact g6_)⟩
def rd_T41 (xs : List S41) (i : Int) : S41 := xs.getD i.toNat z41
theorem at_T41 {w : World} {A : Option Addr} {n : Nat} {xs : List S41} (h : Kd.C k41 w A n xs) (i : Int) (h0 : 0 ≤ i) (h1 : i < n) : ∃ ad A6 c6, A = some ad ∧ w.cell? (ad.add (i.toNat * 7)) = some (.string (rd_T41 xs i).f0.f0) ∧ w.cell? ⟨(ad.add (i.toNat * 7)).block, (ad.add (i.toNat * 7)).off + 1, none⟩ = some (.string (rd_T41 xs i).f0.f1) ∧ w.cell? ⟨(ad.add (i.toNat * 7)).block, (ad.add (i.toNat * 7)).off + 2, none⟩ = some (.bool (rd_T41 xs i).f1) ∧ w.cell? ⟨(ad.add (i.toNat * 7)).block, (ad.add (i.toNat * 7)).off + 3, none⟩ = some (.string (rd_T41 xs i).f2) ∧ w.cell? ⟨(ad.add (i.toNat * 7)).block, (ad.add (i.toNat * 7)).off + 4, none⟩ = some (.string (rd_T41 xs i).f3.f0) ∧ w.cell? ⟨(ad.add (i.toNat * 7)).block, (ad.add (i.toNat * 7)).off + 5, none⟩ = some (.string (rd_T41 xs i).f3.f1) ∧ w.cell? ⟨(ad.add (i.toNat * 7)).block, (ad.add (i.toNat * 7)).off + 6, none⟩ = some (.slice A6 (rd_T41 xs i).f4.length c6) ∧ (rd_T41 xs i).f4.length ≤ c6 ∧ Kd.string.C w A6 (rd_T41 xs i).f4.length (rd_T41 xs i).f4 := by
  obtain ⟨ad, c, e, _, hK, hc0⟩ := Kd.C_get h z41 i h0 h1
  have hc : ∀ j u, c[j]? = some u → w.cell? (ad.add (i.toNat * 7 + j)) = some u := hc0
  obtain ⟨A6, c6, rfl, l6, g6⟩ := k41_open hK
  exact ⟨ad, A6, c6, e, hc 0 _ rfl, by rw [← add_field _ _ 1 (by omega)]; exact hc 1 _ rfl, by rw [← add_field _ _ 2 (by omega)]; exact hc 2 _ rfl, by rw [← add_field _ _ 3 (by omega)]; exact hc 3 _ rfl, by rw [← add_field _ _ 4 (by omega)]; exact hc 4 _ rfl, by rw [← add_field _ _ 5 (by omega)]; exact hc 5 _ rfl, by rw [← add_field _ _ 6 (by omega)]; exact hc 6 _ rfl, l6, g6⟩
structure S59 where
  f0 : S38
  f1 : S38
def z59 : S59 := ⟨z38, z38⟩
def k59 : Kd S59 := Kd.iso (Kd.pair k38 k38) (fun x : S59 => (x.f0, x.f1))
theorem k59_open {w : World} {x : S59} {cs : List Value} (h : k59.K w x cs) : cs = [.string x.f0.f0, .string x.f0.f1, .string x.f1.f0, .string x.f1.f1] := by
  obtain ⟨_, _, rfl, s0, s2⟩ := h
  obtain rfl := k38_open s0
  obtain rfl := k38_open s2
  exact rfl
def rd_T59 (xs : List S59) (i : Int) : S59 := xs.getD i.toNat z59
theorem at_T59 {w : World} {A : Option Addr} {n : Nat} {xs : List S59} (h : Kd.C k59 w A n xs) (i : Int) (h0 : 0 ≤ i) (h1 : i < n) : ∃ ad , A = some ad ∧ w.cell? (ad.add (i.toNat * 4)) = some (.string (rd_T59 xs i).f0.f0) ∧ w.cell? ⟨(ad.add (i.toNat * 4)).block, (ad.add (i.toNat * 4)).off + 1, none⟩ = some (.string (rd_T59 xs i).f0.f1) ∧ w.cell? ⟨(ad.add (i.toNat * 4)).block, (ad.add (i.toNat * 4)).off + 2, none⟩ = some (.string (rd_T59 xs i).f1.f0) ∧ w.cell? ⟨(ad.add (i.toNat * 4)).block, (ad.add (i.toNat * 4)).off + 3, none⟩ = some (.string (rd_T59 xs i).f1.f1) := by
  obtain ⟨ad, c, e, _, hK, hc0⟩ := Kd.C_get h z59 i h0 h1
  have hc : ∀ j u, c[j]? = some u → w.cell? (ad.add (i.toNat * 4 + j)) = some u := hc0
  obtain rfl := k59_open hK
  exact ⟨ad, e, hc 0 _ rfl, by rw [← add_field _ _ 1 (by omega)]; exact hc 1 _ rfl, by rw [← add_field _ _ 2 (by omega)]; exact hc 2 _ rfl, by rw [← add_field _ _ 3 (by omega)]; exact hc 3 _ rfl⟩
structure S45 where
  f0 : S38
  f1 : Bool
  f2 : ByteArray
  f3 : S38
  f4 : (List ByteArray)
def z45 : S45 := ⟨z38, false, (⟨#[]⟩ : ByteArray), z38, ([] : List ByteArray)⟩
def k45 : Kd S45 := Kd.iso (Kd.pair k38 (Kd.pair Kd.bool (Kd.pair Kd.string (Kd.pair k38 (Kd.slice 9 Kd.string))))) (fun x : S45 => (x.f0, x.f1, x.f2, x.f3, x.f4))
theorem k45_open {w : World} {x : S45} {cs : List Value} (h : k45.K w x cs) : ∃ A6 c6, cs = [.string x.f0.f0, .string x.f0.f1, .bool x.f1, .string x.f2, .string x.f3.f0, .string x.f3.f1, .slice A6 x.f4.length c6] ∧ x.f4.length ≤ c6 ∧ Kd.string.C w A6 x.f4.length x.f4 := by
  obtain ⟨_, _, rfl, s0, ⟨_, _, rfl, rfl, ⟨_, _, rfl, rfl, ⟨_, _, rfl, s4, ⟨A6, c6, rfl, l6, g6⟩⟩⟩⟩⟩ := h
  obtain rfl := k38_open s0
  obtain rfl := k38_open s4
  exact ⟨A6, c6, rfl, l6, g6⟩
theorem k45_mk (w : World) (x : S45) {A6 : Option Addr} {c6 : Nat} (l6 : x.f4.length ≤ c6) (g6 : Kd.string.C w A6 x.f4.length x.f4) : k45.K w x [.string x.f0.f0, .string x.f0.f1, .bool x.f1, .string x.f2, .string x.f3.f0, .string x.f3.f1, .slice A6 x.f4.length c6] := ⟨[.string x.f0.f0, .string x.f0.f1], [.bool x.f1, .string x.f2, .string x.f3.f0, .string x.f3.f1, .slice A6 x.f4.length c6], rfl, (k38_mk w x.f0 ), ⟨[.bool x.f1], [.string x.f2, .string x.f3.f0, .string x.f3.f1, .slice A6 x.f4.length c6], rfl, rfl, ⟨[.string x.f2], [.string x.f3.f0, .string x.f3.f1, .slice A6 x.f4.length c6], rfl, rfl, ⟨[.string x.f3.f0, .string x.f3.f1], [.slice A6 x.f4.length c6], rfl, (k38_mk w x.f3 ), ⟨A6, c6, rfl, l6, g6⟩⟩⟩⟩⟩
theorem k45_mkF (W : World) (ok : Nat → Prop) (x : S45) {A6 : Option Addr} {c6 : Nat} (l6 : x.f4.length ≤ c6) (g6 : Kd.F Kd.string W ok A6 x.f4.length x.f4) : Kd.FK k45 W ok x [.string x.f0.f0, .string x.f0.f1, .bool x.f1, .string x.f2, .string x.f3.f0, .string x.f3.f1, .slice A6 x.f4.length c6] := fun W2 hW => k45_mk W2 x l6 (g6 W2 hW)
def rd_T45 (xs : List S45) (i : Int) : S45 := xs.getD i.toNat z45
theorem at_T45 {w : World} {A : Option Addr} {n : Nat} {xs : List S45} (h : Kd.C k45 w A n xs) (i : Int) (h0 : 0 ≤ i) (h1 : i < n) : ∃ ad A6 c6, A = some ad ∧ w.cell? (ad.add (i.toNat * 7)) = some (.string (rd_T45 xs i).f0.f0) ∧ w.cell? ⟨(ad.add (i.toNat * 7)).block, (ad.add (i.toNat * 7)).off + 1, none⟩ = some (.string (rd_T45 xs i).f0.f1) ∧ w.cell? ⟨(ad.add (i.toNat * 7)).block, (ad.add (i.toNat * 7)).off + 2, none⟩ = some (.bool (rd_T45 xs i).f1) ∧ w.cell? ⟨(ad.add (i.toNat * 7)).block, (ad.add (i.toNat * 7)).off + 3, none⟩ = some (.string (rd_T45 xs i).f2) ∧ w.cell? ⟨(ad.add (i.toNat * 7)).block, (ad.add (i.toNat * 7)).off + 4, none⟩ = some (.string (rd_T45 xs i).f3.f0) ∧ w.cell? ⟨(ad.add (i.toNat * 7)).block, (ad.add (i.toNat * 7)).off + 5, none⟩ = some (.string (rd_T45 xs i).f3.f1) ∧ w.cell? ⟨(ad.add (i.toNat * 7)).block, (ad.add (i.toNat * 7)).off + 6, none⟩ = some (.slice A6 (rd_T45 xs i).f4.length c6) ∧ (rd_T45 xs i).f4.length ≤ c6 ∧ Kd.string.C w A6 (rd_T45 xs i).f4.length (rd_T45 xs i).f4 := by
  obtain ⟨ad, c, e, _, hK, hc0⟩ := Kd.C_get h z45 i h0 h1
  have hc : ∀ j u, c[j]? = some u → w.cell? (ad.add (i.toNat * 7 + j)) = some u := hc0
  obtain ⟨A6, c6, rfl, l6, g6⟩ := k45_open hK
  exact ⟨ad, A6, c6, e, hc 0 _ rfl, by rw [← add_field _ _ 1 (by omega)]; exact hc 1 _ rfl, by rw [← add_field _ _ 2 (by omega)]; exact hc 2 _ rfl, by rw [← add_field _ _ 3 (by omega)]; exact hc 3 _ rfl, by rw [← add_field _ _ 4 (by omega)]; exact hc 4 _ rfl, by rw [← add_field _ _ 5 (by omega)]; exact hc 5 _ rfl, by rw [← add_field _ _ 6 (by omega)]; exact hc 6 _ rfl, l6, g6⟩
structure S72 where
  f0 : S38
  f1 : S38
def z72 : S72 := ⟨z38, z38⟩
def k72 : Kd S72 := Kd.iso (Kd.pair k38 k38) (fun x : S72 => (x.f0, x.f1))
theorem k72_open {w : World} {x : S72} {cs : List Value} (h : k72.K w x cs) : cs = [.string x.f0.f0, .string x.f0.f1, .string x.f1.f0, .string x.f1.f1] := by
  obtain ⟨_, _, rfl, s0, s2⟩ := h
  obtain rfl := k38_open s0
  obtain rfl := k38_open s2
  exact rfl
theorem k72_mkM (w : World) (base : Nat) (ok : Nat → Prop) (x : S72)  : k72.M w base ok x [.string x.f0.f0, .string x.f0.f1, .string x.f1.f0, .string x.f1.f1] := ⟨[.string x.f0.f0, .string x.f0.f1], [.string x.f1.f0, .string x.f1.f1], rfl, (k38_mkM w base ok x.f0 ), (k38_mkM w base ok x.f1 )⟩
def rd_T72 (xs : List S72) (i : Int) : S72 := xs.getD i.toNat z72
theorem at_T72 {w : World} {A : Option Addr} {n : Nat} {xs : List S72} (h : Kd.C k72 w A n xs) (i : Int) (h0 : 0 ≤ i) (h1 : i < n) : ∃ ad , A = some ad ∧ w.cell? (ad.add (i.toNat * 4)) = some (.string (rd_T72 xs i).f0.f0) ∧ w.cell? ⟨(ad.add (i.toNat * 4)).block, (ad.add (i.toNat * 4)).off + 1, none⟩ = some (.string (rd_T72 xs i).f0.f1) ∧ w.cell? ⟨(ad.add (i.toNat * 4)).block, (ad.add (i.toNat * 4)).off + 2, none⟩ = some (.string (rd_T72 xs i).f1.f0) ∧ w.cell? ⟨(ad.add (i.toNat * 4)).block, (ad.add (i.toNat * 4)).off + 3, none⟩ = some (.string (rd_T72 xs i).f1.f1) := by
  obtain ⟨ad, c, e, _, hK, hc0⟩ := Kd.C_get h z72 i h0 h1
  have hc : ∀ j u, c[j]? = some u → w.cell? (ad.add (i.toNat * 4 + j)) = some u := hc0
  obtain rfl := k72_open hK
  exact ⟨ad, e, hc 0 _ rfl, by rw [← add_field _ _ 1 (by omega)]; exact hc 1 _ rfl, by rw [← add_field _ _ 2 (by omega)]; exact hc 2 _ rfl, by rw [← add_field _ _ 3 (by omega)]; exact hc 3 _ rfl⟩
end Go.Proofs.YtcdcpcdfcmokkaaGreatDoor.P
