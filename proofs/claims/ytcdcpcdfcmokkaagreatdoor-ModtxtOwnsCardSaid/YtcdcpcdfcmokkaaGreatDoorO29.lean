/- modtxt.mod: a module as it is written. · strings.Builder.WriteString over this program's numbers: the shelf's walk, with the frame above the builder. · The text of a list (modtxt.Print), and what its walk needs of builders and rows. · A list's beginning: as right as the list, and its text is the beginning of the list's. -/
import Derived.Test.YtcdcpcdfcmokkaaGreatDoorO28
import Derived.Test.YtcdcpcdfcmokkaaGreatDoorO27
import Derived.Test.YtcdcpcdfcmokkaaGreatDoorO06
import Derived.Test.YtcdcpcdfcmokkaaGreatDoorO02
import Derived.Lib.Builder
import Derived.Lib.OthersKept
import Derived.Lib.AppendStr
import Derived.Lib.UnsafeStr
import Derived.Lib.MakeNoZero
import Derived.Lib.Walk
import Derived.WalkKit
import Derived.Laws.Externs
import Derived.Test.YtcdcpcdfcmokkaaGreatDoorO15
import Derived.Deep.DeepCutAuto
import Derived.WalkSpells
set_option linter.unusedVariables false
set_option linter.unusedSimpArgs false
section
namespace Go.Proofs.YtcdcpcdfcmokkaaGreatDoor
open Go Go.RowKit Go.Shelf Go.Proofs.YtcdcpcdfcmokkaaGreatDoorW.PrintWords
attribute [local go_sem high] P.eqA38
set_option linter.unusedVariables false
def modP (p v : ByteArray) : ByteArray := toB (Lib.trimSuffix (p.data.toList ++ [32] ++ v.data.toList) [32])
def arrow : ByteArray := ⟨#[32, 61, 62, 32]⟩
def modW (p v np nv : ByteArray) : ByteArray := if (np.toList.isEmpty && nv.toList.isEmpty) = true then modP p v else modP p v ++ (arrow ++ modP np nv)
theorem modP_size (p v : ByteArray) : (modP p v).size ≤ p.size + 1 + v.size := by
  unfold modP
  rw [toB_size]
  unfold Lib.trimSuffix
  rw [Lib.size_eq p, Lib.size_eq v]
  split
  · rw [List.length_take, List.length_append, List.length_append]; simp only [List.length_cons, List.length_nil]; omega
  · rw [List.length_append, List.length_append]; simp only [List.length_cons, List.length_nil]; omega
theorem trim_mod (p v : ByteArray) (w : World) (hp : p.size ≤ 1099511627770) (hv : v.size ≤ 1099511627770) :
    Calls Tryz.prog 46 #[.string (p ++ (⟨#[32]⟩ : ByteArray) ++ v), .string ⟨#[32]⟩] w fun e w' => e = .returned (.string (modP p v)) ∧ w' = w := by
  have h := Tryz.strings_TrimSuffix (p ++ (⟨#[32]⟩ : ByteArray) ++ v) ⟨#[32]⟩ w (by rw [ByteArray.size_append, ByteArray.size_append]; show p.size + 1 + v.size ≤ _; omega)
  have e : (p ++ (⟨#[32]⟩ : ByteArray) ++ v).data.toList = p.data.toList ++ [32] ++ v.data.toList := by simp [ByteArray.data_append]
  rw [e] at h
  exact h
set_option maxHeartbeats 1000000 in
set_option maxRecDepth 100000 in
theorem mod0_any (p v : ByteArray) (w : World) (hp : p.size ≤ 1099511627770) (hv : v.size ≤ 1099511627770) :
    Calls Tryz.prog 22 #[.agg #[.string p, .string v], .agg #[.string ⟨#[]⟩, .string ⟨#[]⟩]] w fun e w' => e = .returned (.string (modP p v)) ∧ Below w.heap.size w w' := by
  go_enter Tryz.func22, Tryz.ntmps22
  go_wp2_with (go_at_call 46; (with_reducible refine (trim_mod p v _ hp hv).mono ?_); rintro e w' ⟨rfl, rfl⟩)
  go_ret
  exact ⟨rfl, below_alloc (below_alloc (Below.refl _ _) _) _⟩
set_option maxHeartbeats 1000000 in
set_option maxRecDepth 100000 in
theorem mod_any (p v np nv : ByteArray) (w : World) (hp : p.size ≤ 1099511627770) (hv : v.size ≤ 1099511627770) (hnp : np.size ≤ 1099511627770) (hnv : nv.size ≤ 1099511627770) :
    Calls Tryz.prog 22 #[.agg #[.string p, .string v], .agg #[.string np, .string nv]] w fun e w' => e = .returned (.string (modW p v np nv)) ∧ Below w.heap.size w w' := by
  cases n1 : (np.toList.isEmpty && nv.toList.isEmpty) with
  | true =>
    have hr : modW p v np nv = modP p v := if_pos n1
    have Hr := Lib.hid hr; clear hr
    go_enter Tryz.func22, Tryz.ntmps22
    go_wp2_with (go_at_call 46; (with_reducible refine (trim_mod p v _ hp hv).mono ?_); rintro e w' ⟨rfl, rfl⟩)
    go_ret
    exact ⟨by rw [Hr.out]; rfl, below_alloc (below_alloc (Below.refl _ _) _) _⟩
  | false =>
    have hr : modW p v np nv = modP p v ++ (arrow ++ modP np nv) := if_neg (by rw [n1]; decide)
    have Hr := Lib.hid hr; clear hr
    have s1 := modP_size p v
    have s2 := modP_size np nv
    go_enter Tryz.func22, Tryz.ntmps22
    go_wp2_with (first | (go_at_call 46; (with_reducible refine (trim_mod p v _ hp hv).mono ?_); rintro e w' ⟨rfl, rfl⟩) | (go_at_call 22; (with_reducible refine (mod0_any np nv _ hnp hnv).mono ?_); rintro e w2 ⟨rfl, hb2⟩))
    go_ret
    exact ⟨by rw [Hr.out]; rfl, (below_alloc (below_alloc (Below.refl _ _) _) _).trans (hb2.mono (by simp; omega))⟩
end Go.Proofs.YtcdcpcdfcmokkaaGreatDoor
end
section
namespace Go.Proofs.YtcdcpcdfcmokkaaGreatDoor
open Go Go.RowKit Go.Proofs.YtcdcpcdfcmokkaaGreatDoorW.PrintWords
set_option linter.unusedVariables false
theorem sizeBld : (Tryz.prog.info? 63).map (·.size) = some 2 := by kernel_rfl
theorem liesBld : liesAt Tryz.prog Tryz.prog.depth 63 (2 / Tryz.prog.cellsOf 63) 0 63 1 = true := by kernel_rfl
theorem infoByteB : (Tryz.prog.info? 5).map (fun i => (i.zero, i.size, i.bytes)) = some (some (.int .u8 0), 1, 1) := by kernel_rfl
set_option maxHeartbeats 1000000 in
set_option maxRecDepth 100000 in
theorem copyCheck_used (b : Nat) (w : World) (h0 : w.cell? ⟨b, 0, none⟩ = some (.pointer (some ⟨b, 0, none⟩))) :
    Calls Tryz.prog 45 #[.pointer (some ⟨b, 0, none⟩)] w fun e w' => e = .returned (.tuple #[]) ∧ w' = w := by
  obtain ⟨j, hj, _⟩ := Option.map_eq_some_iff.1 sizeBld
  go_enter Tryz.func45, Tryz.ntmps45
  go_wp2
  rw [Lib.run_neq_ptr_same w _ Tryz.underlying60 hj]
  go_wp2
  go_end0
  exact ⟨rfl, rfl⟩
set_option maxHeartbeats 1000000 in
set_option maxRecDepth 100000 in
theorem copyCheck_fresh (b : Nat) (w : World) (h0 : w.cell? ⟨b, 0, none⟩ = some (.pointer none)) (hsh : w.shape? b = some (63, 2)) (hfz : w.frozen? ⟨b, 0, none⟩ = false) :
    Calls Tryz.prog 45 #[.pointer (some ⟨b, 0, none⟩)] w fun e w' => e = .returned (.tuple #[]) ∧ w' = w.setCell ⟨b, 0, none⟩ (.pointer (some ⟨b, 0, none⟩)) := by
  obtain ⟨j, hj, hjs⟩ := Option.map_eq_some_iff.1 sizeBld
  go_enter Tryz.func45, Tryz.ntmps45
  go_wp2
  rw [Lib.run_to_unsafe w ⟨b, 0, none⟩ Tryz.underlying60 Tryz.underlying108 hj (by rw [hjs]; decide) hsh (Nat.zero_lt_succ 1)]
  simp only [Result.andThen]
  rw [Oper.upon_value]
  go_wp2
  rw [run_callFunc_extern Tryz.func76 (by kernel_rfl) (by kernel_rfl) (by kernel_rfl) (e := Extern.AbiNoEscape.same) (by kernel_rfl)]
  rw [Lib.run_noEscape]
  simp only [Result.andThen]
  rw [Oper.upon_value]
  go_wp2
  rw [Lib.run_from_unsafe w ⟨b, 0, none⟩ Tryz.underlying108 Tryz.underlying60 hj hsh liesBld]
  simp only [Result.andThen]
  rw [Oper.upon_value]
  go_wp2
  go_end0
  exact ⟨rfl, rfl⟩
theorem copyCheck_any (B b : Nat) (bs : List Value) (w : World) (h : Lib.IsBuilder 63 5 B b bs w) :
    Calls Tryz.prog 45 #[.pointer (some ⟨b, 0, none⟩)] w fun e w' => e = .returned (.tuple #[]) ∧ Lib.BuilderAt 63 5 B b (.pointer (some ⟨b, 0, none⟩)) bs w' ∧ Below B w w' ∧ Lib.OthersKept 5 (some b) w w' := by
  rcases h with h | h
  · refine (copyCheck_fresh b w h.cell0 h.shape h.frozen0).mono ?_
    rintro e w' ⟨rfl, rfl⟩
    exact ⟨rfl, h.used _, (Below.refl B w).setCell (p := ⟨b, 0, none⟩) h.1 _, (Lib.OthersKept.refl _ _ w).setCell ⟨b, 0, none⟩ rfl _⟩
  · refine (copyCheck_used b w h.cell0).mono ?_
    rintro e w' ⟨rfl, rfl⟩
    exact ⟨rfl, h, Below.refl B _, Lib.OthersKept.refl _ _ _⟩
set_option maxHeartbeats 2000000 in
set_option maxRecDepth 100000 in
theorem writeString_any (B b : Nat) (bs : List Value) (s : ByteArray) (w : World) (h : Lib.IsBuilder 63 5 B b bs w) (hlen : bs.length + s.size ≤ 140737488355328) (hBw : B ≤ w.heap.size) :
    Calls Tryz.prog 21 #[.pointer (some ⟨b, 0, none⟩), .string s] w fun e w' => e = .returned (.tuple #[.int .i64 s.size, .nilIface]) ∧ Lib.IsBuilder 63 5 B b (bs ++ Lib.strCells s) w' ∧ Below B w w' ∧ Lib.OthersKept 5 (some b) w w' := by
  obtain ⟨i0, hi, hz0, hz1, hz2⟩ := info_parts infoByteB
  go_enter Tryz.func21, Tryz.ntmps21
  go_wp2_with (go_at_call 45; refine (copyCheck_any B b bs _ h).mono ?_)
  rintro e w1 ⟨rfl, h1, hb1, ho1⟩
  obtain ⟨hB, v, hbk, hown, hne⟩ := h1
  have c0 : w1.cell? ⟨b, 0, none⟩ = some (.pointer (some ⟨b, 0, none⟩)) := by rw [Lib.cell_of_heap hbk]; rfl
  have c1 : w1.cell? ⟨b, 1, none⟩ = some v := by rw [Lib.cell_of_heap hbk]; rfl
  go_wp2_with (at_builtin; refine Lib.wpList_append_own_string _ rfl _ _ 61 9 rfl B 5 i0 Tryz.underlying61 Tryz.underlying9 hi hz0 hz1 hz2 _ _ _ rfl hown s rfl ?c3 ?c4 ?c5 ?_)
  case c3 => unfold maxLen; omega
  case c4 => omega
  case c5 => have := hb1.size; omega
  intro v' w2 hown' hgrow _
  have hlt : b < w1.heap.size := by
    rcases Nat.lt_or_ge b w1.heap.size with h' | h'
    · exact h'
    · simp [Array.getElem?_eq_none h'] at hbk
  have hb2 : w2.heap[b]? = some (.cells #[.pointer (some ⟨b, 0, none⟩), v] 63 (0, 0)) := by
    rw [hgrow.block b hlt (fun e => hne e.symm)]
    exact hbk
  have d0 : w2.cell? ⟨b, 0, none⟩ = some (.pointer (some ⟨b, 0, none⟩)) := by rw [Lib.cell_of_heap hb2]; rfl
  have d1 : w2.cell? ⟨b, 1, none⟩ = some v := by rw [Lib.cell_of_heap hb2]; rfl
  have f1 : w2.frozen? ⟨b, 1, none⟩ = false := Lib.frozen_of_heap hb2 1
  obtain ⟨ao, n', cap, rfl⟩ : ∃ ao n' cap, v' = .slice ao n' cap := by
    rcases hown'.2 with ⟨hv, _⟩ | ⟨g, cap, cur, hv, _⟩
    · exact ⟨_, _, _, hv⟩
    · exact ⟨_, _, _, hv⟩
  go_wp2
  go_ret2
  refine ⟨rfl, .inr (Lib.BuilderAt.put (T := 63) (e := 5) hB hb2 (bs' := bs ++ Lib.strCells s) (by rw [List.length_append, Lib.strCells_length]; exact hown') (by decide)), ?_, ?_⟩
  · exact (hb1.grown hgrow (by have := hb1.size; omega) (fun k hk => (hown.lt k hk).1)).setCell (p := ⟨b, 1, none⟩) hB _
  · exact (ho1.grown hgrow (fun g hg => by obtain ⟨cells, hc⟩ := own_typed hown g hg; exact ⟨cells, _, hc⟩)).setCell ⟨b, 1, none⟩ rfl _
end Go.Proofs.YtcdcpcdfcmokkaaGreatDoor
end
section
namespace Go.Proofs.YtcdcpcdfcmokkaaGreatDoor
open Go Go.RowKit Go.Shelf Go.Proofs.YtcdcpcdfcmokkaaGreatDoorW.PrintWords
set_option linter.unusedVariables false
set_option linter.unusedSimpArgs false
def explicitB : ByteArray := ⟨#[101, 120, 112, 108, 105, 99, 105, 116]⟩
def goB : ByteArray := ⟨#[103, 111, 32]⟩
def lineL (p v np nv : ByteArray) : List UInt8 := [35, 32] ++ (modW p v np nv).data.toList ++ [10]
def marks1 (m : SM) : List ByteArray := if m.f1 = true then [explicitB] else []
def marksL (m : SM) : List ByteArray := marks1 m ++ (if m.f2.toList.isEmpty = true then [] else [goB ++ m.f2])
def markL (m : SM) : List UInt8 := if (marksL m).isEmpty = true then [] else [35, 35, 32] ++ Lib.join ((marksL m).map (·.data.toList)) [59, 32] ++ [10]
def pkgL (l : List ByteArray) : List UInt8 := l.flatMap fun p => p.data.toList ++ [10]
def modL (m : SM) : List UInt8 := lineL m.f0.f0 m.f0.f1 m.f3.f0 m.f3.f1 ++ markL m ++ pkgL m.f4
def repL (r : SR) : List UInt8 := lineL r.f0.f0 r.f0.f1 r.f1.f0 r.f1.f1
def textL (ms : List SM) (rs : List SR) : List UInt8 := ms.flatMap modL ++ rs.flatMap repL
theorem bld_below {T e B b : Nat} {bs : List Value} {w w' : World} (h : Lib.IsBuilder T e B b bs w) (hb : Below w.heap.size w w') : Lib.IsBuilder T e B b bs w' := by
  have go : ∀ p, Lib.BuilderAt T e B b p bs w → Lib.BuilderAt T e B b p bs w' := fun p hp => by
    have hlt := hp.lt
    obtain ⟨h0, v, h1, h2, h3⟩ := hp
    exact ⟨h0, v, (hb.block b hlt).trans h1, pw_own_below h2 hb, h3⟩
  rcases h with h | h
  · exact .inl (go _ h)
  · exact .inr (go _ h)
theorem bld_lt {T e B b : Nat} {bs : List Value} {w : World} (h : Lib.IsBuilder T e B b bs w) : b < w.heap.size := by
  rcases h with h | h <;> exact h.lt
theorem bytes_str (s : ByteArray) : Lib.strCells s = Lib.byteCells s.data.toList := rfl
theorem bytes_add (t : List UInt8) (s : ByteArray) : Lib.byteCells t ++ Lib.strCells s = Lib.byteCells (t ++ s.data.toList) := by
  rw [bytes_str]; simp [Lib.byteCells]
theorem bytes_len (t : List UInt8) : (Lib.byteCells t).length = t.length := by simp [Lib.byteCells]
theorem write_any (B b : Nat) (t : List UInt8) (s : ByteArray) (w : World) (h : Lib.IsBuilder 63 5 B b (Lib.byteCells t) w) (hlen : t.length + s.size ≤ 140737488355328) (hBw : B ≤ w.heap.size) :
    Calls Tryz.prog 21 #[.pointer (some ⟨b, 0, none⟩), .string s] w fun e w' => e = .returned (.tuple #[.int .i64 s.size, .nilIface]) ∧ Lib.IsBuilder 63 5 B b (Lib.byteCells (t ++ s.data.toList)) w' ∧ Below B w w' ∧ Lib.OthersKept 5 (some b) w w' := by
  have h' := writeString_any B b (Lib.byteCells t) s w h (by rw [bytes_len]; exact hlen) hBw
  rw [bytes_add] at h'
  exact h'
theorem bld_grown {B b t : Nat} {bs : List Value} {w w' : World} {row : Option Nat} (h : Lib.IsBuilder 63 5 B b bs w) (hg : w.grownBy w' row) (hr : ∀ g, row = some g → ∃ cells, w.heap[g]? = some (.cells cells t (0, 0))) (h1 : 63 ≠ t) (h2 : 5 ≠ t) :
    Lib.IsBuilder 63 5 B b bs w' := by
  have go : ∀ p, Lib.BuilderAt 63 5 B b p bs w → Lib.BuilderAt 63 5 B b p bs w' := fun p hp => by
    obtain ⟨h0, v, hv, ho, hn⟩ := hp
    refine ⟨h0, v, blk_grown hv hg (fun e => ?_), own_other ho hg ?_, hn⟩
    · obtain ⟨cells, hc⟩ := hr b e.symm
      rw [hv] at hc; injection hc with hc; injection hc with _ hc; exact h1 hc
    · cases hk : v.ownBlock with
      | none => exact .inl rfl
      | some g =>
        refine .inr (fun e => ?_)
        obtain ⟨cells, hc⟩ := hr g e.symm
        obtain ⟨cells', hc'⟩ := own_typed ho g hk
        rw [hc'] at hc; injection hc with hc; injection hc with _ hc; exact h2 hc
  rcases h with h | h
  · exact .inl (go _ h)
  · exact .inr (go _ h)
theorem kept_blk {b g t : Nat} {cs : Array Value} {fz : Nat × Nat} {w w' : World} (h : Lib.OthersKept 5 (some b) w w') (hg : w.heap[g]? = some (.cells cs t fz)) (hgb : g ≠ b) (ht : t ≠ 5) : w'.heap[g]? = some (.cells cs t fz) :=
  h g _ hg (fun e => hgb (Option.some.inj e)) (fun c z e => ht (by injection e))
theorem neq_nil_strs (w : World) (a : Option Addr) (l c : Nat) : (binOp .neq 39 (.slice a l c) (.slice none 0 0)).run Tryz.prog w = .ok (.bool (!a.isNone)) w :=
  run_neq_slice_nil_any w _ 9 a l c 0 0 Tryz.underlying39
theorem strs_of_R {w : World} {base : Nat} {ok : Nat → Prop} {v : Value} {xs : List ByteArray} (h : Kd.R Kd.string 9 w base ok v xs) (h0 : xs ≠ []) :
    ∃ g c, v = .slice (some ⟨g, 0, none⟩) xs.length c ∧ g < w.heap.size ∧ xs.length ≤ c ∧ ∀ j x, xs[j]? = some x → w.cell? ⟨g, 0 + j, none⟩ = some (.string x) := by
  have hn : 0 < xs.length := List.length_pos_iff.mpr h0
  obtain ⟨A, c, rfl, hle, _⟩ := h.2.reads
  have ho := Kd.own_of_R h
  rcases ho.2 with ⟨_, h2⟩ | ⟨g, cap, cur, hv, _, hb, _, _, _, _⟩
  · omega
  · injection hv with h1 _ _
    subst h1
    refine ⟨g, c, rfl, blk_lt hb, hle, fun j x hj => ?_⟩
    obtain ⟨hlt, hx⟩ := List.getElem?_eq_some_iff.mp hj
    have := (Kd.R_cell ByteArray.empty h (j : Int) (by omega) (by omega)).1
    rw [Int.toNat_natCast] at this
    rw [Nat.zero_add, this]
    congr 2
    show (xs[((j : Int)).toNat]?).getD _ = x
    rw [Int.toNat_natCast, hj]; rfl
theorem marks1_len (m : SM) : ((marks1 m).length + 1) * 16 ≤ 140737488355328 := by unfold marks1; split <;> decide
theorem marksL_len (m : SM) : (marksL m).length ≤ 140737488355328 := by
  have := marks1_len m
  unfold marksL; rw [List.length_append]; split <;> simp <;> omega
def printP (ms : List SM) (rs : List SR) : ByteArray := if listB ms rs = true then toB (textL ms rs) else emp
theorem flat_take {α : Type} (f : α → List UInt8) (l : List α) (k : Nat) : ((l.take k).flatMap f).length ≤ (l.flatMap f).length := by
  conv => rhs; rw [← List.take_append_drop k l, List.flatMap_append, List.length_append]
  omega
theorem flat_succ {α : Type} (f : α → List UInt8) {l : List α} {k : Nat} {z m : α} (h : k < l.length) (hm : l.getD k z = m) : (l.take (k + 1)).flatMap f = (l.take k).flatMap f ++ f m := by
  rw [take_getD h hm, List.flatMap_append]; simp
end Go.Proofs.YtcdcpcdfcmokkaaGreatDoor
end
section
namespace Go.Proofs.YtcdcpcdfcmokkaaGreatDoor
open Go Go.RowKit Go.Proofs.YtcdcpcdfcmokkaaGreatDoorW.PrintWords
set_option linter.unusedVariables false
theorem lineL_size (p v np nv : ByteArray) : (lineL p v np nv).length ≤ p.size + v.size + np.size + nv.size + 12 := by
  have s1 := modP_size p v
  have s2 := modP_size np nv
  have h : (modW p v np nv).size ≤ p.size + v.size + np.size + nv.size + 8 := by
    unfold modW; split
    · omega
    · rw [ByteArray.size_append, ByteArray.size_append]; show _ + (4 + _) ≤ _; omega
  unfold lineL
  rw [Lib.size_eq] at h
  simp only [List.length_append, List.length_cons, List.length_nil]; omega
theorem flat_size {α : Type} (f : α → List UInt8) (B : Nat) : ∀ l : List α, (∀ x ∈ l, (f x).length ≤ B) → (l.flatMap f).length ≤ l.length * B
  | [], _ => by simp
  | x :: l, h => by
    have h1 := h x (List.mem_cons_self ..)
    have h2 := flat_size f B l (fun y hy => h y (List.mem_cons_of_mem _ hy))
    rw [List.flatMap_cons, List.length_append, List.length_cons, Nat.succ_mul]; omega
end Go.Proofs.YtcdcpcdfcmokkaaGreatDoor
end
