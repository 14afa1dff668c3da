/- The law's bound (heavy) by hand: what it lets through is light. -/
import Derived.Test.YtcdcpcdfcmokkaaGreatDoorO28
import Derived.Deep.DeepCutAuto
import Derived.WalkSpells
set_option linter.unusedVariables false
set_option linter.unusedSimpArgs false
namespace Go.Proofs.YtcdcpcdfcmokkaaGreatDoor
open Go Go.RowKit Go.Proofs.YtcdcpcdfcmokkaaGreatDoorW.PrintWords
set_option linter.unusedVariables false
set_option linter.unusedSimpArgs false
def LightM (m : SM) : Prop := m.f4.length ≤ 20 ∧ m.f0.f0.size ≤ 100 ∧ m.f0.f1.size ≤ 100 ∧ m.f3.f0.size ≤ 100 ∧ m.f3.f1.size ≤ 100 ∧ m.f2.size ≤ 100 ∧ ∀ s ∈ m.f4, s.size ≤ 100
def LightR (r : SR) : Prop := r.f0.f0.size ≤ 100 ∧ r.f0.f1.size ≤ 100 ∧ r.f1.f0.size ≤ 100 ∧ r.f1.f1.size ≤ 100
def Light (ms : List SM) (rs : List SR) : Prop := ms.length ≤ 20 ∧ rs.length ≤ 20 ∧ (∀ m ∈ ms, LightM m) ∧ ∀ r ∈ rs, LightR r
theorem lt_of {n k : Nat} (h : decide ((k : Int) < (n : Int)) = false) : n ≤ k := by have := of_decide_eq_false h; omega
theorem all_succ {α : Type} {p : α → Prop} {l : List α} {k : Nat} {z m : α} (h : k < l.length) (hm : l.getD k z = m) (ha : ∀ x ∈ l.take k, p x) (hp : p m) : ∀ x ∈ l.take (k + 1), p x := by
  rw [take_getD h hm]
  intro x hx
  rcases List.mem_append.mp hx with hx | hx
  · exact ha x hx
  · obtain rfl := List.mem_singleton.mp hx; exact hp
set_option maxHeartbeats 16000000 in
set_option maxRecDepth 100000 in
theorem heavy_any (A0 A1 : Option Addr) (c0 c1 : Nat) (ms : List SM) (rs : List SR) (w : World) (h0 : Kd.C P.k41 w A0 ms.length ms) (h1 : Kd.C P.k59 w A1 rs.length rs) :
    Calls Tryz.prog 8 #[.agg #[.slice A0 ms.length c0, .slice A1 rs.length c1]] w fun e w' => ∃ b, e = .returned (.bool b) ∧ (b = false → Light ms rs) ∧ Below w.heap.size w w' := by
  have HP := Lib.hid (blk_new w (.cells #[.slice A0 ms.length c0, .slice A1 rs.length c1] 25))
  have HBn := Lib.hid (below_alloc (Below.refl w.heap.size w) (.cells #[.slice A0 ms.length c0, .slice A1 rs.length c1] 25))
  go_enter Tryz.func8, Tryz.ntmps8
  cases a1 : decide ((20 : Int) < (ms.length : Int)) with
  | true =>
    go_wp2
    go_ret
    exact ⟨true, rfl, nofun, HBn.out⟩
  | false =>
  cases a2 : decide ((20 : Int) < (rs.length : Int)) with
  | true =>
    go_wp2
    go_ret
    exact ⟨true, rfl, nofun, HBn.out⟩
  | false =>
  have lm := lt_of (k := 20) a1
  have lr := lt_of (k := 20) a2
  go_wp2
  go_loopw [3] (fun i wr => ∃ k : Nat, k ≤ ms.length ∧ i = .int .i64 k ∧ Hid (∀ m ∈ ms.take k, LightM m) ∧ Hid (Below w.heap.size w wr) ∧ Hid (wr.heap[w.heap.size]? = some (.cells #[.slice A0 ms.length c0, .slice A1 rs.length c1] 25 (0, 0)))) (fun i wr => ms.length - (intOf i).toNat)
  case atStart => exact ⟨0, Nat.zero_le _, rfl, Lib.hid (fun m hm => by simp at hm), HBn, HP⟩
  case round =>
    clear HBn HP
    obtain ⟨k, hk, rfl, HA, HB, HP⟩ := hrel
    obtain ⟨p0, p1⟩ := blk2 HP.out
    by_cases hlt : k < ms.length
    · obtain ⟨m, Hm⟩ : ∃ m, Hid (ms.getD k zM = m) := ⟨_, rfl⟩
      obtain ⟨ad, A6, c6, hA, e0, e1, e2, e3, e4, e5, e6, l6, g6⟩ := mod_at h0 hlt Hm.out
      subst hA
      replace e0 := pw_cell_below HB.out e0; replace e1 := pw_cell_below HB.out e1; replace e2 := pw_cell_below HB.out e2; replace e3 := pw_cell_below HB.out e3
      replace e4 := pw_cell_below HB.out e4; replace e5 := pw_cell_below HB.out e5; replace e6 := pw_cell_below HB.out e6
      have HN := Lib.hid (blk_new wr (.cells #[.string m.f0.f0, .string m.f0.f1, .bool m.f1, .string m.f2, .string m.f3.f0, .string m.f3.f1, .slice A6 m.f4.length c6] 41))
      have hba := below_alloc (Below.refl _ wr) (.cells #[.string m.f0.f0, .string m.f0.f1, .bool m.f1, .string m.f2, .string m.f3.f0, .string m.f3.f1, .slice A6 m.f4.length c6] 41)
      have HP1 := Lib.hid (blk_at HP.out hba); have HBn := Lib.hid (below_alloc HB.out (.cells #[.string m.f0.f0, .string m.f0.f1, .bool m.f1, .string m.f2, .string m.f3.f0, .string m.f3.f1, .slice A6 m.f4.length c6] 41))
      clear HP HB hba; have HP := HP1; clear HP1
      cases d1 : decide ((20 : Int) < ((m.f4.length : Nat) : Int)) with
      | true =>
        go_wp2
        go_ret
        exact ⟨true, rfl, nofun, HBn.out⟩
      | false =>
      cases d2 : decide ((100 : Int) < ((m.f0.f0.size : Nat) : Int)) with
      | true =>
        go_wp2
        go_ret
        exact ⟨true, rfl, nofun, HBn.out⟩
      | false =>
      cases d3 : decide ((100 : Int) < ((m.f0.f1.size : Nat) : Int)) with
      | true =>
        go_wp2
        go_ret
        exact ⟨true, rfl, nofun, HBn.out⟩
      | false =>
      cases d4 : decide ((100 : Int) < ((m.f3.f0.size : Nat) : Int)) with
      | true =>
        go_wp2
        go_ret
        exact ⟨true, rfl, nofun, HBn.out⟩
      | false =>
      cases d5 : decide ((100 : Int) < ((m.f3.f1.size : Nat) : Int)) with
      | true =>
        go_wp2
        go_ret
        exact ⟨true, rfl, nofun, HBn.out⟩
      | false =>
      cases d6 : decide ((100 : Int) < ((m.f2.size : Nat) : Int)) with
      | true =>
        go_wp2
        go_ret
        exact ⟨true, rfl, nofun, HBn.out⟩
      | false =>
      have hL6 : m.f4.length ≤ 20 := lt_of (k := 20) d1
      have HL := Lib.hid (show m.f0.f0.size ≤ 100 ∧ m.f0.f1.size ≤ 100 ∧ m.f3.f0.size ≤ 100 ∧ m.f3.f1.size ≤ 100 ∧ m.f2.size ≤ 100 from ⟨lt_of (k := 100) d2, lt_of (k := 100) d3, lt_of (k := 100) d4, lt_of (k := 100) d5, lt_of (k := 100) d6⟩)
      go_wp2
      obtain ⟨wo, rfl⟩ : ∃ wo : World, wo = wr := ⟨_, rfl⟩
      obtain ⟨W, HW⟩ : ∃ W, Hid (W = wo.alloc (.cells #[.string m.f0.f0, .string m.f0.f1, .bool m.f1, .string m.f2, .string m.f3.f0, .string m.f3.f1, .slice A6 m.f4.length c6] 41)) := ⟨_, rfl⟩
      rw [← HW.out] at HP HN HBn ⊢
      clear d1 d2 d3 d4 d5 d6 e0 e1 e2 e3 e4 e5 e6 p0 p1
      go_loopw [5] (fun i wr => ∃ n : Nat, n ≤ m.f4.length ∧ i = .int .i64 n ∧ Hid (∀ s ∈ m.f4.take n, s.size ≤ 100) ∧ wr = W) (fun i wr => m.f4.length - (intOf i).toNat)
      case atStart => exact ⟨0, Nat.zero_le _, rfl, Lib.hid (fun m hm => by simp at hm), rfl⟩
      case round =>
        obtain ⟨n, hn, rfl, HS, rfl⟩ := hrel
        obtain ⟨f0, f1, f2, f3, f4, f5, f6⟩ := blk7 HN.out
        by_cases hnl : n < m.f4.length
        · obtain ⟨s, Hs⟩ : ∃ s, Hid (m.f4.getD n emp = s) := ⟨_, rfl⟩
          obtain ⟨a6, ha6, hc6⟩ := strC_cell g6 hnl
          subst ha6
          rw [Hs.out] at hc6
          replace hc6 := pw_cell_below HBn.out hc6
          cases d1 : decide ((100 : Int) < (s.size : Int)) with
          | true =>
            go_wp2
            go_ret
            exact ⟨true, rfl, nofun, HBn.out⟩
          | false =>
            go_wp2
            go_roundw
            case rel => exact ⟨n + 1, by omega, by go_num, Lib.hid (all_succ hnl Hs.out HS.out (lt_of (k := 100) d1)), by first | trivial | rfl⟩
            case measure => simp [intOf]; omega
        · obtain rfl : n = m.f4.length := by omega
          have hS := HS.out
          rw [List.take_length] at hS
          go_wp2
          refine ⟨⟨k + 1, by omega, by go_num, Lib.hid (all_succ hlt Hm.out HA.out ⟨hL6, HL.out.1, HL.out.2.1, HL.out.2.2.1, HL.out.2.2.2.1, HL.out.2.2.2.2, hS⟩), HBn, HP⟩, by simp [intOf]; omega⟩
    · obtain rfl : k = ms.length := by omega
      have hA := HA.out
      rw [List.take_length] at hA
      have HA := Lib.hid hA; clear hA
      go_wp2
      clear p0 p1
      go_loopw [6] (fun i wr => ∃ n : Nat, n ≤ rs.length ∧ i = .int .i64 n ∧ Hid (∀ r ∈ rs.take n, LightR r) ∧ Hid (Below w.heap.size w wr) ∧ Hid (wr.heap[w.heap.size]? = some (.cells #[.slice A0 ms.length c0, .slice A1 rs.length c1] 25 (0, 0)))) (fun i wr => rs.length - (intOf i).toNat)
      case atStart => exact ⟨0, Nat.zero_le _, rfl, Lib.hid (fun m hm => by simp at hm), HB, HP⟩
      case round =>
        clear HB HP
        obtain ⟨n, hn, rfl, HR, HB, HP⟩ := hrel
        obtain ⟨p0, p1⟩ := blk2 HP.out
        by_cases hnl : n < rs.length
        · obtain ⟨r, Hr⟩ : ∃ r, Hid (rs.getD n zR = r) := ⟨_, rfl⟩
          obtain ⟨ad, hA, e0, e1, e2, e3⟩ := rep_at h1 hnl Hr.out
          subst hA
          replace e0 := pw_cell_below HB.out e0; replace e1 := pw_cell_below HB.out e1; replace e2 := pw_cell_below HB.out e2; replace e3 := pw_cell_below HB.out e3
          have HBn := Lib.hid (below_alloc HB.out (.cells #[.string r.f0.f0, .string r.f0.f1, .string r.f1.f0, .string r.f1.f1] 59))
          have HPn := Lib.hid (blk_at HP.out (below_alloc (Below.refl _ wr) (.cells #[.string r.f0.f0, .string r.f0.f1, .string r.f1.f0, .string r.f1.f1] 59)))
          cases d1 : decide ((100 : Int) < ((r.f0.f0.size : Nat) : Int)) with
          | true =>
            go_wp2
            go_ret
            exact ⟨true, rfl, nofun, HBn.out⟩
          | false =>
          cases d2 : decide ((100 : Int) < ((r.f0.f1.size : Nat) : Int)) with
          | true =>
            go_wp2
            go_ret
            exact ⟨true, rfl, nofun, HBn.out⟩
          | false =>
          cases d3 : decide ((100 : Int) < ((r.f1.f0.size : Nat) : Int)) with
          | true =>
            go_wp2
            go_ret
            exact ⟨true, rfl, nofun, HBn.out⟩
          | false =>
          cases d4 : decide ((100 : Int) < ((r.f1.f1.size : Nat) : Int)) with
          | true =>
            go_wp2
            go_ret
            exact ⟨true, rfl, nofun, HBn.out⟩
          | false =>
          go_wp2
          go_roundw
          case rel => exact ⟨n + 1, by omega, by go_num, Lib.hid (all_succ hnl Hr.out HR.out ⟨lt_of (k := 100) d1, lt_of (k := 100) d2, lt_of (k := 100) d3, lt_of (k := 100) d4⟩), HBn, HPn⟩
          case measure => simp [intOf]; omega
        · obtain rfl : n = rs.length := by omega
          have hR := HR.out
          rw [List.take_length] at hR
          go_wp2
          go_ret
          exact ⟨false, rfl, fun _ => ⟨lm, lr, HA.out, hR⟩, HB.out⟩
end Go.Proofs.YtcdcpcdfcmokkaaGreatDoor
