/- A range over a closure that keeps its own state in one captured variable: the iterator's contract, and the law of the caller's walk. · Plain words on bytes: a text cut at a sign, piece by piece. · strings.Cut at one sign; the closures of paths.elems and semver.idents hand on a text's pieces. · paths.elems, paths.fine, paths.Valid: what they compute. -/
import Derived.RangeFuncWrites
import Derived.RangeFuncLeaves
import Derived.RangeFuncCalls
import Derived.WalkKit
import Derived.Deep.Draws
import Derived.Lib.CutLaws
import Derived.Test.YtcdcpcdfcmokkaaGreatDoorO06
import Derived.RangeFuncNested
import Derived.RangeFuncBound
import Derived.Shelf.RegionOpen
import Derived.OwnWalkIn
import Derived.TacticsInMore
import Derived.LoopNIn
import Derived.LoopIn
import Derived.Deep.QuietTactic
import Derived.BigQuiet
import Derived.BigCall
import Derived.BigGuard
import Derived.Lib.Walk
import Derived.Laws.Strings3
import Derived.Test.YtcdcpcdfcmokkaaGreatDoorO02
set_option linter.unusedVariables false
set_option linter.unusedSimpArgs false
section
namespace Go.Proofs.YtcdcpcdfcmokkaaGreatDoor
open Go.RowKit
set_option linter.unusedVariables false
def StaysAt {β : Type} (B : Nat) (J : β → World → Prop) : Prop := ∀ s W W', J s W → W.grownBy W' (some B) → J s W'
def SeqAt {α : Type} (F : Fence) (n : Nat) (P : Program) (g : Nat) (lb : Array Value) (encs : α → Array Value) (B : Nat) (xs : List α) (S0 : World → Prop) : Prop :=
  ∀ (l : Nat) (J Jx : List α → World → Prop) (W : World), S0 W → StaysAt B J → StaysAt B Jx →
    (∀ pre x W1, J pre W1 → pre ++ [x] <+: xs → YieldAt F (n - 1) P l (encs x) W1 fun e W' =>
      (e = .returned (.bool true) ∧ J (pre ++ [x]) W' ∧ W1.heap.size ≤ W'.heap.size ∧ W'.heap[B]? = W1.heap[B]?) ∨ (e = .returned (.bool false) ∧ Jx (pre ++ [x]) W')) →
    J [] W →
    CallsIn F n P g (#[.func (.yield l) #[] #[]] ++ lb) W fun e W' => (∃ v, e = .returned v) ∧ (J xs W' ∨ (∃ pre, pre <+: xs ∧ Jx pre W'))
def OwnAt {β : Type} (D B : Nat) (I : β → World → Prop) : Prop :=
  ∀ s W W' row, I s W → W.grownBy W' row → (∀ r, row = some r → r = B ∨ D ≤ r ∧ ∃ o : Obj, W.heap[r]? = some o ∧ o.isCells = false) → I s W'
def ownPostAt {α : Type} (D B : Nat) (I : List α → World → Prop) (Ix : Code → List α → World → Prop) (xs : List α) (W : World) : Exit → Act → World → Prop
  | .normal, _, W' => KeepsFrom D W W' ∧ W'.heap[B]? = W.heap[B]? ∧ I xs W'
  | .ret, _, W' => KeepsFrom D W W' ∧ Ix .ret xs W'
  | .exit id, _, W' => KeepsFrom D W W' ∧ Ix (.exit id) xs W'
  | .goto t, _, W' => KeepsFrom D W W' ∧ Ix (.goto t) xs W'
  | .panic _, _, _ => False
  | .outgrown, _, _ => False
variable {F : Fence} {n : Nat} {P : Program}
theorem wpIn_rangeAt {α : Type} {g : Operand} {ps : Array Tmp} {assign body : Code} {Q : Exit → Act → World → Prop} {a : Act} {w : World}
    (hro : F.round = none) (h1 : 1 ≤ n) {gf : Nat} {lb : Array Value} (hg : a.eval g = .func (.func gf) #[] lb) (hFg : F.fn gf) (eg : ∀ args w, (callFunc gf args).run P w = .ok (.enter gf args) w)
    {encs : α → Array Value} {B : Nat} {xs : List α} {S0 : World → Prop} (hseq : SeqAt F (n - 1) P gf lb encs B xs S0)
    (hB : B < w.heap.size) (hS0 : ∀ W, Below w.heap.size w W → S0 W) (hps : ∀ x, (encs x).size = ps.size)
    (I : List α → World → Prop) (Ix : Code → List α → World → Prop) (hI : OwnAt w.heap.size B I) (hIx : ∀ c, OwnAt w.heap.size B (Ix c)) (h0 : I [] w) (a₁ : α → Act)
    (hassign : ∀ (l : Nat) (x : α) (W : World) (K : Act → World → Prop), K (a₁ x) W →
      assign.wpIn (F.inRound l) (n - 1 - 1) P (Exit.then K (fun _ _ _ => False)) { tmps := (ps.zip (encs x)).foldl (fun t (p, v) => t.setIfInBounds p v) a.tmps, defers := [] } W)
    (hbody : ∀ (l : Nat) (pre : List α) (x : α) (W : World), I pre W → pre ++ [x] <+: xs → w.heap.size + 2 ≤ W.heap.size → body.wpIn (F.inRound l) (n - 1 - 1) P (ownPostAt w.heap.size B I Ix (pre ++ [x]) W) (a₁ x) W)
    (hdone : ∀ (D : Nat) (W : World), w.heap.size ≤ D → I xs W → W.heap[D]? = some (.deferred (some [])) → Q .normal { a with defers := { target := .collected D, args := #[] } :: a.defers } W)
    (hstop : ∀ (D : Nat) (c : Code) (pre : List α) (W : World), w.heap.size ≤ D → pre <+: xs → Ix c pre W → W.heap[D]? = some (.deferred (some [])) → c.wpIn F n P Q { a with defers := { target := .collected D, args := #[] } :: a.defers } W) :
    (Code.rangeFunc g ps assign body).wpIn F n P Q a w := by
  refine wpIn_rangeFunc ?_
  intro fn hfn
  rw [hro]
  obtain ⟨rec, hrec⟩ : ∃ rec : LoopState → Option Code → Loop, rec = fun st pe => { state := st, pending := pe, fn, tmps := a.tmps, params := ps, assign, body, defers := w.heap.size } := ⟨_, rfl⟩
  obtain ⟨W1, hW1⟩ : ∃ W1, (w.alloc (.deferred (some []))).alloc (.loop (rec .ready none)) = W1 := ⟨_, rfl⟩
  have hL1 : W1.heap[w.heap.size + 1]? = some (.loop (rec .ready none)) := by
    rw [← hW1]; have := World.alloc_heap_new (w.alloc (.deferred (some []))) (.loop (rec .ready none)); rwa [World.size_alloc] at this
  have hK1 : W1.heap[w.heap.size]? = some (.deferred (some [])) := by
    rw [← hW1]; exact (Below.heap_alloc _ _ _ (by simp)).trans (World.alloc_heap_new w _)
  have hput : ∀ {β : Type} {I' : β → World → Prop} (_ : OwnAt w.heap.size B I') {s : β} {W : World} {l : Nat} {o : Obj} (o' : Obj), I' s W → w.heap.size ≤ l → W.heap[l]? = some o → o.isCells = false → I' s (W.putObj l o') :=
    fun h _ _ l o o' hs hB hl ho => h _ _ _ (some l) hs (grownBy_putObj' _ l o') (fun r e => by cases e; exact .inr ⟨hB, o, hl, ho⟩)
  have hI1 : I [] W1 := by
    rw [← hW1]
    have ha : ∀ {W : World} (o : Obj), I [] W → I [] (W.alloc o) := fun o hs => hI [] _ _ none hs (World.grownBy_alloc _ o none) (fun r e => by cases e)
    exact ha _ (ha _ h0)
  have hb1 : Below w.heap.size w W1 := by
    rw [← hW1]; exact ((Below.refl _ w).alloc (Nat.le_refl _) _).alloc (by simp) _
  refine ⟨w.heap.size + 1, [{ target := .collected w.heap.size, args := #[] }], W1, { target := .fn (.func gf) lb, args := #[.func (.yield (w.heap.size + 1)) #[] #[]] }, W1, gf,
    #[.func (.yield (w.heap.size + 1)) #[] #[]] ++ lb, W1, ?_, ?_, ?_, ?_, fun _ => h1, ?_⟩
  · rw [← hW1, hrec]; exact run_enterLoop_outer _ _ _ _ _
  · simp only [resolve, hg]
    simp [go_sem]
  · intro f' hf'; simp [Target.leads] at hf'; subst hf'; exact hFg
  · simp [invoke, go_sem, eg]
  · have keep : ∀ {A C : World} {k : Nat} {o : Obj}, w.heap.size ≤ k → A.grownBy C (some B) → A.heap[k]? = some o → C.heap[k]? = some o := fun hk hg' ho =>
      (hg'.block _ (Array.getElem?_eq_some_iff.1 ho).1 (by intro e; cases e; omega)).trans ho
    refine (hseq (w.heap.size + 1)
      (fun pre W => I pre W ∧ W.heap[w.heap.size + 1]? = some (.loop (rec .ready none)) ∧ W.heap[w.heap.size]? = some (.deferred (some [])))
      (fun pre W => ∃ c, Ix c pre W ∧ W.heap[w.heap.size + 1]? = some (.loop (rec .done (some c))) ∧ W.heap[w.heap.size]? = some (.deferred (some [])))
      W1 (hS0 W1 hb1)
      (fun s A C hs hg' => ⟨hI s A C _ hs.1 hg' (fun r e => by cases e; exact .inl rfl), keep (by omega) hg' hs.2.1, keep (Nat.le_refl _) hg' hs.2.2⟩)
      (fun s A C hs hg' => by
        obtain ⟨c, hc, hl, hk⟩ := hs
        exact ⟨c, hIx c s A C _ hc hg' (fun r e => by cases e; exact .inl rfl), keep (by omega) hg' hl, keep (Nat.le_refl _) hg' hk⟩)
      ?_ ⟨hI1, hL1, hK1⟩).mono ?_
    · rintro pre x W ⟨hi, hl, hk⟩ hlen
      have hlt : w.heap.size + 1 < W.heap.size := (Array.getElem?_eq_some_iff.1 hl).1
      have hy := run_yield (P := P) (args := encs x) hl (by rw [hrec]; exact hps x)
      rw [hrec] at hy
      refine ⟨fn, _, assign, body, hy, roundIn_of_wpIn hfn (hassign _ x W _ ⟨_, run_beginRound hl (by rw [hrec]), ?_⟩)⟩
      have hl2 : (W.putObj (w.heap.size + 1) (.loop { rec .ready none with state := .busy })).heap[w.heap.size + 1]? = some (.loop { rec .ready none with state := .busy }) := World.putObj_heap_same hlt
      have hk2 : (W.putObj (w.heap.size + 1) (.loop { rec .ready none with state := .busy })).heap[w.heap.size]? = some (.deferred (some [])) := (World.putObj_heap_other (by omega)).trans hk
      refine wpIn_mono (hbody _ pre x _ (hput hI _ hi (by omega) hl rfl) hlen (by show w.heap.size + 2 ≤ (W.heap.setIfInBounds _ _).size; simp; omega)) ?_
      have fin : ∀ (jump : Option Code) (W3 : World), KeepsFrom w.heap.size (W.putObj (w.heap.size + 1) (.loop { rec .ready none with state := .busy })) W3 →
          (Instr.endRound (w.heap.size + 1) jump).run P W3 = .ok (.bool jump.isNone) (W3.putObj (w.heap.size + 1) (.loop (rec (if jump.isNone then .ready else .done) jump))) ∧
          W3.heap[w.heap.size + 1]? = some (.loop { rec .ready none with state := .busy }) ∧
          (W3.putObj (w.heap.size + 1) (.loop (rec (if jump.isNone then .ready else .done) jump))).heap[w.heap.size + 1]? = some (.loop (rec (if jump.isNone then .ready else .done) jump)) ∧
          (W3.putObj (w.heap.size + 1) (.loop (rec (if jump.isNone then .ready else .done) jump))).heap[w.heap.size]? = some (.deferred (some [])) := fun jump W3 hk3 => by
        have hl3 := hk3.same _ _ (by omega) hl2 rfl
        have := run_endRound (P := P) jump hl3
        rw [hrec] at this ⊢
        exact ⟨this, by rw [hrec] at hl3; exact hl3, World.putObj_heap_same (Array.getElem?_eq_some_iff.1 hl3).1, (World.putObj_heap_other (by omega)).trans (hk3.same _ _ (Nat.le_refl _) hk2 rfl)⟩
      rintro e a3 W3 hp
      cases e with
      | normal =>
        obtain ⟨hk3, hkp3, hi3⟩ := hp
        obtain ⟨hr, hl3, hl4, hk4⟩ := fin none W3 hk3
        refine ⟨_, _, hr, .inl ⟨rfl, ⟨hput hI _ hi3 (by omega) hl3 rfl, hl4, hk4⟩, ?_, ?_⟩⟩
        · have := hk3.size; simp at this ⊢; exact this
        · rw [World.putObj_heap_other (by omega), hkp3, World.putObj_heap_other (by omega)]
      | ret =>
        obtain ⟨hk3, hi3⟩ := hp
        obtain ⟨hr, hl3, hl4, hk4⟩ := fin (some .ret) W3 hk3
        exact ⟨_, _, hr, .inr ⟨rfl, .ret, hput (hIx _) _ hi3 (by omega) hl3 rfl, hl4, hk4⟩⟩
      | exit id =>
        obtain ⟨hk3, hi3⟩ := hp
        obtain ⟨hr, hl3, hl4, hk4⟩ := fin (some (.exit id)) W3 hk3
        exact ⟨_, _, hr, .inr ⟨rfl, .exit id, hput (hIx _) _ hi3 (by omega) hl3 rfl, hl4, hk4⟩⟩
      | goto t =>
        obtain ⟨hk3, hi3⟩ := hp
        obtain ⟨hr, hl3, hl4, hk4⟩ := fin (some (.goto t)) W3 hk3
        exact ⟨_, _, hr, .inr ⟨rfl, .goto t, hput (hIx _) _ hi3 (by omega) hl3 rfl, hl4, hk4⟩⟩
      | panic ch => exact hp.elim
      | outgrown => exact hp.elim
    · rintro e W2 ⟨⟨v, rfl⟩, (⟨hi, hl, hk⟩ | ⟨pre, hSp, c, hi, hl, hk⟩)⟩
      · exact ⟨none, _, by have := run_endLoop (P := P) hl (by rw [hrec]; simp); rw [hrec] at this; exact this, hdone _ _ (Nat.le_refl _) (hput hI _ hi (by omega) hl rfl) ((World.putObj_heap_other (by omega)).trans hk)⟩
      · exact ⟨some c, _, by have := run_endLoop (P := P) hl (by rw [hrec]; simp); rw [hrec] at this; exact this, hstop _ c pre _ (Nat.le_refl _) hSp (hput (hIx c) _ hi (by omega) hl rfl) ((World.putObj_heap_other (by omega)).trans hk)⟩
theorem OwnAt.and {β : Type} {D B : Nat} {I I' : β → World → Prop} (h : OwnAt D B I) (h' : OwnAt D B I') : OwnAt D B (fun s W => I s W ∧ I' s W) :=
  fun s W W' row hs hg hr => ⟨h s W W' row hs.1 hg hr, h' s W W' row hs.2 hg hr⟩
theorem OwnAt.pure {β : Type} {D B : Nat} {I : β → Prop} : OwnAt D B (fun s (_ : World) => I s) := fun _ _ _ _ hs _ _ => hs
theorem OwnAt.no {β : Type} {D B : Nat} : OwnAt D B (fun (_ : β) (_ : World) => False) := fun _ _ _ _ hs _ _ => hs.elim
theorem OwnAt.ex {β γ : Type} {D B : Nat} {I : γ → β → World → Prop} (h : ∀ c, OwnAt D B (I c)) : OwnAt D B (fun s W => ∃ c, I c s W) :=
  fun s W W' row hs hg hr => by obtain ⟨c, hc⟩ := hs; exact ⟨c, h c s W W' row hc hg hr⟩
theorem OwnAt.below {β : Type} {D B n₀ : Nat} {w₀ : World} (hn : n₀ ≤ w₀.heap.size) (hD : n₀ ≤ D) (hB : n₀ ≤ B) : OwnAt D B (fun (_ : β) W => Below n₀ w₀ W) :=
  fun _ _ _ _ hs hg hr => hs.grown hg (Nat.le_trans hn hs.size) (fun k e => by rcases hr k e with h | h <;> omega)
def VarAt (W : World) (R : Nat) (v : Value) : Prop := W.cell? ⟨R, 0, none⟩ = some v ∧ W.frozen? ⟨R, 0, none⟩ = false
theorem heap_of_cell {W : World} {a : Addr} {v : Value} (h : W.cell? a = some v) : ∃ o : Obj, W.heap[a.block]? = some o ∧ o.isCells = true := by
  unfold World.cell? at h
  cases ho : W.heap[a.block]? with
  | none => simp [ho] at h
  | some o => exact ⟨o, rfl, by cases o <;> simp_all [Obj.isCells]⟩
theorem VarAt.lt {W : World} {R : Nat} {v : Value} (h : VarAt W R v) : R < W.heap.size := World.block_lt_of_cell? W _ h.1
theorem VarAt.same {W W' : World} {R : Nat} {v : Value} (h : VarAt W R v) (hb : W'.heap[R]? = W.heap[R]?) : VarAt W' R v :=
  ⟨(World.cell?_of_block (w := W) hb).trans h.1, (World.frozen?_of_block (w := W) hb).trans h.2⟩
theorem VarAt.grown {W W' : World} {R : Nat} {v : Value} {row : Option Nat} (h : VarAt W R v) (hg : W.grownBy W' row) (hr : row ≠ some R) : VarAt W' R v :=
  h.same (hg.block R h.lt (fun e => hr e.symm))
theorem VarAt.alloc {W : World} {R : Nat} {v : Value} (h : VarAt W R v) (o : Obj) : VarAt (W.alloc o) R v := h.grown (World.grownBy_alloc W o none) (by simp)
theorem VarAt.below {W W' : World} {R : Nat} {v : Value} (h : VarAt W R v) (hb : Below W.heap.size W W') : VarAt W' R v := h.same (hb.block R h.lt)
theorem VarAt.new (W : World) (v : Value) (t : TypeId) : VarAt (W.alloc (.cells #[v] t)) W.heap.size v := by
  have h := World.alloc_heap_new W (.cells #[v] t)
  exact ⟨by unfold World.cell?; rw [h]; rfl, by unfold World.frozen?; rw [h]; rfl⟩
theorem VarAt.set {W : World} {R : Nat} {v : Value} (h : VarAt W R v) (u : Value) : VarAt (W.setCell ⟨R, 0, none⟩ u) R u :=
  ⟨World.cell?_setCell_same' _ _ _ (by rw [h.1]; rfl), by rw [World.frozen?_setCell]; exact h.2⟩
theorem VarAt.drewN {W : World} {R : Nat} {v : Value} (h : VarAt W R v) (n : Nat) : VarAt (W.drewN n) R v := h
theorem VarAt.drew {W : World} {R : Nat} {v : Value} (h : VarAt W R v) : VarAt W.drew R v := h
theorem VarAt.setOther {W : World} {R R' : Nat} {v : Value} (h : VarAt W R v) (hne : R ≠ R') (u : Value) : VarAt (W.setCell ⟨R', 0, none⟩ u) R v :=
  h.same (Below.heap_setCell _ _ _ _ hne)
theorem VarAt.put {W : World} {R D : Nat} {v : Value} (h : VarAt W R v) (hne : R ≠ D) (o : Obj) : VarAt (W.putObj D o) R v := h.same (World.putObj_heap_other hne)
theorem below_put {B : Nat} {w W : World} (h : Below B w W) {D : Nat} (hD : B ≤ D) (hw : B ≤ w.heap.size) (o : Obj) : Below B w (W.putObj D o) :=
  h.grown (grownBy_putObj' W D o) (Nat.le_trans hw h.size) (fun k e => by cases e; exact hD)
theorem OwnAt.var {β : Type} {D B R : Nat} (v : β → Value) (hRB : R ≠ B) : OwnAt D B (fun s W => VarAt W R (v s)) := fun s W W' row hs hg hr => by
  refine hs.grown hg (fun e => ?_)
  rcases hr R e with h | ⟨_, o, ho, hn⟩
  · exact hRB h
  · obtain ⟨o', ho', hc⟩ := heap_of_cell hs.1
    rw [ho] at ho'; cases ho'; rw [hn] at hc; cases hc
end Go.Proofs.YtcdcpcdfcmokkaaGreatDoor
end
section
namespace Go.Proofs.YtcdcpcdfcmokkaaGreatDoor
open Go
def toB (l : List UInt8) : ByteArray := ⟨l.toArray⟩
theorem toB_data (l : List UInt8) : (toB l).data.toList = l := by simp [toB]
theorem toB_mk (s : ByteArray) : toB s.data.toList = s := Lib.mk_data s
theorem toB_size (l : List UInt8) : (toB l).size = l.length := by rw [Lib.size_eq, toB_data]
def pieces (c : UInt8) : List UInt8 → List (List UInt8)
  | [] => [[]]
  | b :: l => if b = c then [] :: pieces c l else
    match pieces c l with
    | [] => [[b]]
    | p :: ps => (b :: p) :: ps
theorem pieces_ne (c : UInt8) (l : List UInt8) : pieces c l ≠ [] := by
  cases l with
  | nil => simp [pieces]
  | cons b l => unfold pieces; split; · simp
                split <;> simp
theorem pieces_le (c : UInt8) : ∀ l : List UInt8, (pieces c l).length ≤ l.length + 1
  | [] => Nat.le_refl _
  | b :: l => by
    have ih := pieces_le c l
    unfold pieces
    split
    · simp; omega
    · split
      · simp
      · rename_i p ps e; rw [e] at ih; simp at ih ⊢; omega
theorem cut_nil (c : UInt8) : Lib.cut [] [c] = ([], [], false) := by simp [Lib.cut, Lib.index]
theorem cut_same (c : UInt8) (l : List UInt8) : Lib.cut (c :: l) [c] = ([], l, true) := by
  have h : Lib.index (c :: l) [c] = 0 := by rw [Lib.index_one]; simp [Lib.indexByte]
  simp [Lib.cut, h]
theorem cut_other {b c : UInt8} (h : b ≠ c) (l : List UInt8) : Lib.cut (b :: l) [c] = (b :: (Lib.cut l [c]).1, (Lib.cut l [c]).2.1, (Lib.cut l [c]).2.2) := by
  have hb : (b == c) = false := by simpa using h
  have hg := Lib.indexByte_ge l c
  by_cases e : Lib.indexByte l c = -1
  · have h1 : Lib.index (b :: l) [c] = -1 := by rw [Lib.index_one]; simp [Lib.indexByte, hb, e]
    have h2 : Lib.index l [c] = -1 := by rw [Lib.index_one]; exact e
    simp [Lib.cut, h1, h2]
  · have h1 : Lib.index (b :: l) [c] = Lib.indexByte l c + 1 := by rw [Lib.index_one]; simp [Lib.indexByte, hb, e]
    have h2 : Lib.index l [c] = Lib.indexByte l c := Lib.index_one l c
    obtain ⟨i, hi⟩ : ∃ i : Nat, Lib.indexByte l c = i := ⟨(Lib.indexByte l c).toNat, by omega⟩
    rw [hi] at h1 h2
    have h3 : ((i : Int) + 1).toNat = i + 1 := by omega
    have h0 : (0 : Int) ≤ (i : Int) + 1 := by omega
    simp [Lib.cut, h1, h2, h3, h0]
theorem pieces_cut (c : UInt8) : ∀ l : List UInt8, pieces c l = (Lib.cut l [c]).1 :: (if (Lib.cut l [c]).2.2 = true then pieces c (Lib.cut l [c]).2.1 else [])
  | [] => by rw [cut_nil]; rfl
  | b :: l => by
    by_cases h : b = c
    · subst h; rw [cut_same]; simp [pieces]
    · rw [cut_other h]
      have ih := pieces_cut c l
      conv => lhs; unfold pieces
      rw [if_neg h, ih]
theorem cut_rest_lt (c : UInt8) : ∀ l : List UInt8, (Lib.cut l [c]).2.2 = true → (Lib.cut l [c]).2.1.length < l.length
  | [], h => by rw [cut_nil] at h; cases h
  | b :: l, h => by
    by_cases e : b = c
    · subst e; rw [cut_same]; simp
    · rw [cut_other e] at h ⊢
      have := cut_rest_lt c l h
      simp; omega
def piecesB (c : UInt8) (s : ByteArray) : List ByteArray := (pieces c s.data.toList).map toB
def elemsB (s : ByteArray) : List ByteArray := if s.data.toList = [] then [] else piecesB 47 s
def cutB (c : UInt8) (s : ByteArray) : ByteArray × ByteArray × Bool := (toB (Lib.cut s.data.toList [c]).1, toB (Lib.cut s.data.toList [c]).2.1, (Lib.cut s.data.toList [c]).2.2)
theorem piecesB_cut (c : UInt8) (s : ByteArray) : piecesB c s = (cutB c s).1 :: (if (cutB c s).2.2 = true then piecesB c (cutB c s).2.1 else []) := by
  unfold piecesB cutB
  rw [pieces_cut]
  simp only [List.map_cons, toB_data]
  split <;> rfl
end Go.Proofs.YtcdcpcdfcmokkaaGreatDoor
end
section
namespace Go.Proofs.YtcdcpcdfcmokkaaGreatDoor
open Go.RowKit Go.Shelf
attribute [local go_sem] Oper.semAt_some
set_option linter.unusedVariables false
set_option maxHeartbeats 2000000 in
set_option maxRecDepth 100000 in
theorem liteCut_one (c : UInt8) (s : ByteArray) (w : World) (hs : s.size ≤ 9223372036854775807) :
    Calls Tryz.prog 71 #[.string s, .string ⟨#[c]⟩] w fun e w' => e = .returned (.tuple #[.string (cutB c s).1, .string (cutB c s).2.1, .bool (cutB c s).2.2]) ∧ ∃ n, w' = w.drewN n := by
  have h1 : Lib.indexB s ⟨#[c]⟩ = Lib.indexByte s.data.toList c := Lib.index_one s.data.toList c
  have hsz1 : (⟨#[c]⟩ : ByteArray).size = 1 := rfl
  rcases Lib.indexB_cases s ⟨#[c]⟩ with hix | ⟨i, hix, hroom⟩
  · obtain ⟨e1, e2, e3⟩ := Lib.cutB_miss s ⟨#[c]⟩ hix
    rw [show (cutB c s).1 = s from e1, show (cutB c s).2.1 = ByteArray.empty from e2, show (cutB c s).2.2 = false from e3]
    rw [h1] at hix
    go_enter Tryz.func71, Tryz.ntmps71
    go_wp2_with (go_at_call 105; refine (Tryz.stringslite_Index_one _ _ _).mono ?_; rintro e w' ⟨rfl, rfl⟩; rw [hix])
    go_ret3
    exact ⟨rfl, 0, rfl⟩
  · obtain ⟨e1, e2, e3⟩ := Lib.cutB_hit s ⟨#[c]⟩ i hix
    rw [show (cutB c s).1 = s.extract 0 i from e1, show (cutB c s).2.1 = s.extract (i + 1) s.size from e2, show (cutB c s).2.2 = true from e3]
    rw [h1] at hix
    rw [hsz1] at hroom
    have c1 : (0 : Int) ≤ ↑i := by omega
    have c2 : (↑i : Int) ≤ ↑s.size := by omega
    have c3 : (0 : Int) ≤ ↑i + 1 := by omega
    have c4 : (↑i + 1 : Int) ≤ ↑s.size := by omega
    clear h1 hsz1 e1 e2 e3
    go_enter Tryz.func71, Tryz.ntmps71
    go_wp2_with (go_at_call 105; refine (Tryz.stringslite_Index_one _ _ _).mono ?_; rintro e w' ⟨rfl, rfl⟩; rw [hix])
    go_quiet (fail)
    go_wp2
    go_ret3
    exact ⟨rfl, _, rfl⟩
set_option maxHeartbeats 1000000 in
theorem cut_one (c : UInt8) (s : ByteArray) (w : World) (hs : s.size ≤ 9223372036854775807) :
    Calls Tryz.prog 38 #[.string s, .string ⟨#[c]⟩] w fun e w' => e = .returned (.tuple #[.string (cutB c s).1, .string (cutB c s).2.1, .bool (cutB c s).2.2]) ∧ ∃ n, w' = w.drewN n := by
  go_enter Tryz.func38, Tryz.ntmps38
  go_wp2_with (go_at_call 71; refine (liteCut_one _ _ _ hs).mono ?_; rintro e w' ⟨rfl, n, rfl⟩)
  go_ret3
  exact ⟨rfl, n, rfl⟩
theorem grown_drewN (w : World) (n : Nat) (row : Option Nat) : w.grownBy (w.drewN n) row := ⟨rfl, rfl, rfl, Nat.le_refl _, fun _ _ _ => rfl⟩
theorem grown_set (w : World) (B : Nat) (v : Value) : w.grownBy (w.setCell ⟨B, 0, none⟩ v) (some B) :=
  ⟨rfl, rfl, rfl, by simp [World.setCell], fun k hk hne => Below.heap_setCell _ _ _ _ (by intro e; exact hne (by rw [e]))⟩
theorem grown_trans {a b c : World} {r : Option Nat} (h : a.grownBy b r) (k : b.grownBy c r) : a.grownBy c r := ⟨k.os.trans h.os, k.tape.trans h.tape, k.output.trans h.output, Nat.le_trans h.size k.size, fun i hi hne => (k.block i (Nat.lt_of_lt_of_le hi h.size) hne).trans (h.block i hi hne)⟩
def leftB (c : UInt8) (more : Bool) (s : ByteArray) : List ByteArray := if more = true then piecesB c s else []
def measAt (B : Nat) (m : Value) (wr : World) : Nat := match m with
  | .bool true => (match wr.cell? ⟨B, 0, none⟩ with | some (.string r) => r.size + 1 | _ => 0)
  | _ => 0
theorem leftB_go {c : UInt8} {rest : ByteArray} : leftB c true rest = (cutB c rest).1 :: leftB c (cutB c rest).2.2 (cutB c rest).2.1 := by
  unfold leftB
  rw [if_pos rfl, piecesB_cut]
theorem cutB_lt (c : UInt8) (s : ByteArray) (h : (cutB c s).2.2 = true) : (cutB c s).2.1.size < s.size := by
  unfold cutB at h ⊢
  have := cut_rest_lt c s.data.toList h
  rw [toB_size, Lib.size_eq]; exact this
theorem cutB_le (c : UInt8) (s : ByteArray) : (cutB c s).2.1.size ≤ s.size := by
  unfold cutB
  rw [toB_size, Lib.size_eq]
  unfold Lib.cut; split <;> simp
set_option maxHeartbeats 4000000 in
set_option maxRecDepth 100000 in
theorem elems1_seq (n B : Nat) (hn : 1 ≤ n) (s0 : ByteArray) (hs0 : s0.size ≤ 9223372036854775807) :
    SeqAt Fence.wide n Tryz.prog 90 #[.pointer (some ⟨B, 0, none⟩)] (fun x : ByteArray => #[.string x]) B (elemsB s0)
      (fun W => W.cell? ⟨B, 0, none⟩ = some (.string s0) ∧ W.frozen? ⟨B, 0, none⟩ = false) := by
  rintro l J Jx W ⟨hc, hf⟩ hJ hJx hY h0
  refine callsIn_of_wp Tryz.func90 rfl trivial ?_ rfl
  simp only [Tryz.ntmps90, List.size_toArray, List.length_cons, List.length_nil, Nat.reduceAdd, Nat.reduceSub, Array.replicate_succ, Array.replicate_zero, List.push_toArray, List.append_toArray, List.nil_append, List.cons_append]
  have hstart : elemsB s0 = [] ++ leftB 47 (!s0.toList.isEmpty) s0 := by
    unfold elemsB leftB
    rw [Lib.toList_data]
    cases h : s0.data.toList <;> simp
  gi_wp2
  gi_loopw [3] (fun m wr => ∃ (pre : List ByteArray) (rest : ByteArray) (more : Bool), m = .bool more ∧ Hid (elemsB s0 = pre ++ leftB 47 more rest) ∧ J pre wr ∧ wr.cell? ⟨B, 0, none⟩ = some (.string rest) ∧ wr.frozen? ⟨B, 0, none⟩ = false ∧ rest.size ≤ 9223372036854775807)
    (fun m wr => measAt B m wr)
  case atStart => exact ⟨[], s0, _, rfl, hstart, h0, hc, hf, hs0⟩
  case round =>
    clear hstart hc hf
    obtain ⟨pre, rest, more, rfl, hH, hJs, hc, hf, hr⟩ := hrel
    cases more with
    | false =>
      gi_wp2
      go_end0
      exact ⟨⟨_, rfl⟩, .inl (by have := hH.out; rw [show leftB _ false rest = [] from rfl, List.append_nil] at this; rw [this]; exact hJs)⟩
    | true =>
      have hlen : pre ++ [(cutB 47 rest).1] <+: elemsB s0 := ⟨leftB 47 (cutB 47 rest).2.2 (cutB 47 rest).2.1, by rw [hH.out, leftB_go]; simp⟩
      gi_wp2_with (refine ⟨trivial, ?_⟩; gi_at_call 38; refine (callsIn_wide.2 (cut_one 47 _ _ hr)).mono ?_; rintro e w' ⟨rfl, m, rfl⟩; obtain ⟨fn, tmps, assign, body, hy, hR⟩ := hY pre (cutB 47 rest).1 ((wr.drewN m).setCell ⟨B, 0, none⟩ (.string (cutB 47 rest).2.1)) (hJ _ _ _ hJs (grown_trans (grown_drewN _ _ _) (grown_set _ B _))) hlen)
      refine hR.mono ?_
      rintro e W3 (⟨rfl, hJ3, hz3, hk3⟩ | ⟨rfl, hJx3⟩)
      · have hc3 : W3.cell? ⟨B, 0, none⟩ = some (.string (cutB 47 rest).2.1) := (World.cell?_of_block (w := (wr.drewN m).setCell ⟨B, 0, none⟩ (.string (cutB 47 rest).2.1)) hk3).trans (World.cell?_setCell_same' _ _ _ (by rw [World.cell?_drewN, hc]; rfl))
        have hf3 : W3.frozen? ⟨B, 0, none⟩ = false := (World.frozen?_of_block (w := (wr.drewN m).setCell ⟨B, 0, none⟩ (.string (cutB 47 rest).2.1)) hk3).trans (by rw [World.frozen?_setCell, World.frozen?_drewN]; exact hf)
        clear hk3 hz3
        have hH' : Hid (elemsB s0 = (pre ++ [(cutB 47 rest).1]) ++ leftB 47 (cutB 47 rest).2.2 (cutB 47 rest).2.1) := (show elemsB s0 = _ from by rw [hH.out, leftB_go]; simp)
        gi_wp2
        go_roundw
        case rel => exact ⟨pre ++ [(cutB 47 rest).1], _, _, rfl, hH', hJ3, hc3, hf3, Nat.le_trans (cutB_le 47 rest) hr⟩
        case measure =>
          show measAt B (.bool (cutB 47 rest).2.2) W3 < measAt B (.bool true) wr
          have hlt := cutB_lt 47 rest
          cases h : (cutB 47 rest).2.2 with
          | false => simp only [measAt]; rw [hc]; simp
          | true => simp only [measAt]; rw [hc, hc3]; simp only []; have := hlt h; omega
      · gi_wp2
        refine bodyPost_ret (results_none rfl _ _ _) rfl ?_
        exact ⟨⟨_, rfl⟩, .inr ⟨_, hlen, hJx3⟩⟩
set_option maxHeartbeats 4000000 in
set_option maxRecDepth 100000 in
theorem idents1_seq (n B : Nat) (hn : 1 ≤ n) (s0 : ByteArray) (hs0 : s0.size ≤ 9223372036854775807) :
    SeqAt Fence.wide n Tryz.prog 134 #[.pointer (some ⟨B, 0, none⟩)] (fun x : ByteArray => #[.string x]) B (piecesB 46 s0)
      (fun W => W.cell? ⟨B, 0, none⟩ = some (.string s0) ∧ W.frozen? ⟨B, 0, none⟩ = false) := by
  rintro l J Jx W ⟨hc, hf⟩ hJ hJx hY h0
  refine callsIn_of_wp Tryz.func134 rfl trivial ?_ rfl
  simp only [Tryz.ntmps134, List.size_toArray, List.length_cons, List.length_nil, Nat.reduceAdd, Nat.reduceSub, Array.replicate_succ, Array.replicate_zero, List.push_toArray, List.append_toArray, List.nil_append, List.cons_append]
  have hstart : piecesB 46 s0 = [] ++ leftB 46 true s0 := by simp [leftB]
  gi_wp2
  gi_loopw [3] (fun m wr => ∃ (pre : List ByteArray) (rest : ByteArray) (more : Bool), m = .bool more ∧ Hid (piecesB 46 s0 = pre ++ leftB 46 more rest) ∧ J pre wr ∧ wr.cell? ⟨B, 0, none⟩ = some (.string rest) ∧ wr.frozen? ⟨B, 0, none⟩ = false ∧ rest.size ≤ 9223372036854775807)
    (fun m wr => measAt B m wr)
  case atStart => exact ⟨[], s0, _, rfl, hstart, h0, hc, hf, hs0⟩
  case round =>
    clear hstart hc hf
    obtain ⟨pre, rest, more, rfl, hH, hJs, hc, hf, hr⟩ := hrel
    cases more with
    | false =>
      gi_wp2
      go_end0
      exact ⟨⟨_, rfl⟩, .inl (by have := hH.out; rw [show leftB _ false rest = [] from rfl, List.append_nil] at this; rw [this]; exact hJs)⟩
    | true =>
      have hlen : pre ++ [(cutB 46 rest).1] <+: piecesB 46 s0 := ⟨leftB 46 (cutB 46 rest).2.2 (cutB 46 rest).2.1, by rw [hH.out, leftB_go]; simp⟩
      gi_wp2_with (refine ⟨trivial, ?_⟩; gi_at_call 38; refine (callsIn_wide.2 (cut_one 46 _ _ hr)).mono ?_; rintro e w' ⟨rfl, m, rfl⟩; obtain ⟨fn, tmps, assign, body, hy, hR⟩ := hY pre (cutB 46 rest).1 ((wr.drewN m).setCell ⟨B, 0, none⟩ (.string (cutB 46 rest).2.1)) (hJ _ _ _ hJs (grown_trans (grown_drewN _ _ _) (grown_set _ B _))) hlen)
      refine hR.mono ?_
      rintro e W3 (⟨rfl, hJ3, hz3, hk3⟩ | ⟨rfl, hJx3⟩)
      · have hc3 : W3.cell? ⟨B, 0, none⟩ = some (.string (cutB 46 rest).2.1) := (World.cell?_of_block (w := (wr.drewN m).setCell ⟨B, 0, none⟩ (.string (cutB 46 rest).2.1)) hk3).trans (World.cell?_setCell_same' _ _ _ (by rw [World.cell?_drewN, hc]; rfl))
        have hf3 : W3.frozen? ⟨B, 0, none⟩ = false := (World.frozen?_of_block (w := (wr.drewN m).setCell ⟨B, 0, none⟩ (.string (cutB 46 rest).2.1)) hk3).trans (by rw [World.frozen?_setCell, World.frozen?_drewN]; exact hf)
        clear hk3 hz3
        have hH' : Hid (piecesB 46 s0 = (pre ++ [(cutB 46 rest).1]) ++ leftB 46 (cutB 46 rest).2.2 (cutB 46 rest).2.1) := (show piecesB 46 s0 = _ from by rw [hH.out, leftB_go]; simp)
        gi_wp2
        go_roundw
        case rel => exact ⟨pre ++ [(cutB 46 rest).1], _, _, rfl, hH', hJ3, hc3, hf3, Nat.le_trans (cutB_le 46 rest) hr⟩
        case measure =>
          show measAt B (.bool (cutB 46 rest).2.2) W3 < measAt B (.bool true) wr
          have hlt := cutB_lt 46 rest
          cases h : (cutB 46 rest).2.2 with
          | false => simp only [measAt]; rw [hc]; simp
          | true => simp only [measAt]; rw [hc, hc3]; simp only []; have := hlt h; omega
      · gi_wp2
        refine bodyPost_ret (results_none rfl _ _ _) rfl ?_
        exact ⟨⟨_, rfl⟩, .inr ⟨_, hlen, hJx3⟩⟩
end Go.Proofs.YtcdcpcdfcmokkaaGreatDoor
end
section
namespace Go.Proofs.YtcdcpcdfcmokkaaGreatDoor
open Go.RowKit Go.Shelf Go.Proofs.YtcdcpcdfcmokkaaGreatDoorW.PrintWords
attribute [local go_sem] Oper.semAt_some
set_option linter.unusedVariables false
set_option maxHeartbeats 1000000 in
theorem elems_any (s : ByteArray) (w : World) :
  Calls Tryz.prog 59 #[.string s] w fun e w' => e = .returned (.func (.func 90) #[] #[.pointer (some ⟨w.heap.size, 0, none⟩)]) ∧ w' = w.alloc (.cells #[.string s] 9) := by
 go_enter Tryz.func59, Tryz.ntmps59
 go_wp2
 go_ret
 exact ⟨rfl, rfl⟩
def oddSigns : List UInt8 := [34, 42, 58, 60, 62, 63, 92, 124, 96]
def fineB (c : Int) : Bool := decide (32 < c) && (decide (c < 127) && decide (Lib.indexByte oddSigns c.toNat.toUInt8 < 0))
set_option maxHeartbeats 1000000 in
theorem fine_any (c : Int) (w : World) :
  Calls Tryz.prog 88 #[.int .u8 c] w fun e w' => e = .returned (.bool (fineB c)) ∧ w' = w := by
 go_enter Tryz.func88, Tryz.ntmps88
 go_wp2_with (go_at_call 58; refine (Tryz.strings_IndexByte _ _ _).mono ?_; rintro e w' ⟨rfl, rfl⟩)
 ·have h1 : 32 < c := by assumption
  have h2 : c < 127 := by assumption
  go_ret
  exact ⟨by simp [fineB, oddSigns, h1, h2], rfl⟩
 ·have h1 : 32 < c := by assumption
  have h2 : 127 ≤ c := by assumption
  go_ret
  exact ⟨by simp [fineB, h1]; omega, rfl⟩
 ·have h1 : c ≤ 32 := by assumption
  go_ret
  exact ⟨by simp [fineB]; omega, rfl⟩
def fineAll (s : ByteArray) : Nat → Bool
 | 0 => true
 | k + 1 => fineAll s k && fineB (bt s k)
theorem fineAll_no (s : ByteArray) (k : Nat) (h : fineB (bt s k) = false) : ∀ n, k < n → fineAll s n = false
 | 0, hk => by omega
 | n + 1, hk => by
  rcases Nat.lt_or_ge k n with h' | h'
  ·simp [fineAll, fineAll_no s k h n h']
  ·obtain rfl : k = n := by omega
   simp [fineAll, h]
def elemOk (e : ByteArray) : Bool := !(e.toList == []) && (decide (e.size ≤ 30) && (!(e.toList == [46]) && (!(e.toList == [46, 46]) && fineAll e e.size)))
def validB (s : ByteArray) : Bool := !(s.toList == []) && (decide (s.size ≤ 60) && (elemsB s).all elemOk)
set_option maxHeartbeats 4000000 in
set_option maxRecDepth 100000 in
theorem valid_any (s : ByteArray) (w : World) (hs : s.size ≤ 9223372036854775807) :
  Calls Tryz.prog 56 #[.string s] w fun e w' => e = .returned (.bool (validB s)) ∧ Below w.heap.size w w' := by
 by_cases h0 : s.toList = []
 ·go_enter Tryz.func56, Tryz.ntmps56
  go_wp2
  refine bodyPost_ret (v := .bool false) (by simp [results, Tryz.results56, go_sem]) rfl ⟨by simp [validB, h0], (Below.refl _ _).alloc (Nat.le_refl _) _⟩
 have h0' : s.toList.isEmpty = false := by simpa using h0
 by_cases h1 : 60 < s.size
 ·have h1' : (60 : Int) < (s.size : Int) := by omega
  go_enter Tryz.func56, Tryz.ntmps56
  go_wp2
  refine bodyPost_ret (v := .bool false) (by simp [results, Tryz.results56, go_sem]) rfl ⟨by simp [validB]; omega, (Below.refl _ _).alloc (Nat.le_refl _) _⟩
 have h1' : decide ((60 : Int) < (s.size : Int)) = false := decide_eq_false (by omega)
 have h1'' : decide (60 < s.size) = false := decide_eq_false h1
 refine (callsIn_wide (n := 5)).1 ?_
 refine callsIn_of_wp_marks Tryz.func56 rfl trivial ?_ rfl
 simp only [Tryz.ntmps56, List.size_toArray, List.length_cons, List.length_nil, Nat.reduceAdd, Nat.reduceSub, Array.replicate_succ, Array.replicate_zero, List.push_toArray, List.append_toArray, List.nil_append, List.cons_append]
 gi_wp2_with (refine ⟨trivial, ?_⟩; gi_at_call 59; refine (callsIn_wide.2 (elems_any _ _)).mono ?_; rintro e w' ⟨rfl, rfl⟩)
 have hv0 : VarAt ((w.alloc (.cells #[.bool false] 4)).alloc (.cells #[.string s] 9)) w.heap.size (.bool false) := (VarAt.new w _ _).alloc _
 have hv1 : VarAt ((w.alloc (.cells #[.bool false] 4)).alloc (.cells #[.string s] 9)) (w.heap.size + 1) (.string s) := by
  have h := VarAt.new (w.alloc (.cells #[.bool false] 4)) (.string s) 9
  rwa [World.size_alloc] at h
 have hb0 : Below w.heap.size w ((w.alloc (.cells #[.bool false] 4)).alloc (.cells #[.string s] 9)) := ((Below.refl _ w).alloc (Nat.le_refl _) _).alloc (by simp) _
 refine wpIn_rangeAt (B := w.heap.size + 1) rfl (by omega) (gf := 90) (lb := #[.pointer (some ⟨w.heap.size + 1, 0, none⟩)]) rfl trivial (enters_of Tryz.func90 (by kernel_rfl) rfl)
  (elems1_seq 4 (w.heap.size + 1) (by omega) s hs) (by simp) (fun W hW => hv1.below hW) (fun _ => rfl)
  (fun pre W => VarAt W w.heap.size (.bool false) ∧ Below w.heap.size w W ∧ Hid (pre.all elemOk = true))
  (fun c pre W => VarAt W w.heap.size (.bool false) ∧ Below w.heap.size w W ∧ Hid (pre.all elemOk = false ∧ c = .ret))
  (OwnAt.and (OwnAt.var _ (by omega)) (OwnAt.and (OwnAt.below (Nat.le_refl _) (by simp; omega) (by omega)) OwnAt.pure))
  (fun c => OwnAt.and (OwnAt.var _ (by omega)) (OwnAt.and (OwnAt.below (Nat.le_refl _) (by simp; omega) (by omega)) OwnAt.pure))
  ⟨hv0, hb0, rfl⟩
  (fun x => { tmps := #[.string s, undef, .pointer (some ⟨w.heap.size, 0, none⟩), .string x, undef, .string s, .bool false, .bool false, .string s, .int .i64 s.size, .bool false, .bool false, .string s, .func (.func 90) #[] #[.pointer (some ⟨w.heap.size + 1, 0, none⟩)], .string x, undef, undef, undef, undef, undef, undef, undef, undef, undef, undef, undef, undef, undef, undef, undef, undef, undef, undef, undef, undef, undef, undef, undef, undef, undef, undef], defers := [] }) ?assign ?body ?done ?stop
 case assign =>
  intro l x W K hK
  gi_wp2
  exact hK
 case body =>
  rintro l pre x W ⟨hv, hb, hp⟩ hlen hsz
  have hvc := hv.1
  have hvf := hv.2
  have bad : elemOk x = false → ownPostAt ((w.alloc (.cells #[.bool false] 4)).alloc (.cells #[.string s] 9)).heap.size (w.heap.size + 1)
    (fun pre W => VarAt W w.heap.size (.bool false) ∧ Below w.heap.size w W ∧ Hid (pre.all elemOk = true))
    (fun c pre W => VarAt W w.heap.size (.bool false) ∧ Below w.heap.size w W ∧ Hid (pre.all elemOk = false ∧ c = .ret)) (pre ++ [x]) W .ret { tmps := #[], defers := [] } (W.setCell ⟨w.heap.size, 0, none⟩ (.bool false)) := fun hx =>
   ⟨(KeepsOthers.setCell _ _ _).from _, hv.set _, hb.setCell (p := ⟨w.heap.size, 0, none⟩) (Nat.le_refl _) _, by show _ ∧ _; simp [hx]⟩
  by_cases e0 : x.toList = []
  ·gi_wp2
   exact bad (by simp [elemOk, e0])
  have e0' : x.toList.isEmpty = false := by simpa using e0
  by_cases e1 : 30 < x.size
  ·have e1' : (30 : Int) < (x.size : Int) := by omega
   gi_wp2
   exact bad (by simp [elemOk]; omega)
  have e1' : decide ((30 : Int) < (x.size : Int)) = false := decide_eq_false (by omega)
  have e1'' : decide (30 < x.size) = false := decide_eq_false e1
  by_cases e2 : x.toList = [46]
  ·have e2' : (x.toList == [46]) = true := by simpa using e2
   gi_wp2
   exact bad (by simp [elemOk, e2])
  have e2' : (x.toList == [46]) = false := by simpa using e2
  by_cases e3 : x.toList = [46, 46]
  ·have e3' : (x.toList == [46, 46]) = true := by simpa using e3
   gi_wp2
   exact bad (by simp [elemOk, e3])
  have e3' : (x.toList == [46, 46]) = false := by simpa using e3
  gi_wp2
  gi_loopw [32] (fun i wr => ∃ k : Nat, k ≤ x.size ∧ i = .int .i64 k ∧ Hid (fineAll x k = true) ∧ wr = W) (fun i wr => x.size - (intOf i).toNat)
  case atStart => exact ⟨0, Nat.zero_le _, rfl, rfl, rfl⟩
  case round =>
   obtain ⟨k, hk, rfl, hfa, rfl⟩ := hrel
   by_cases hlt : k < x.size
   ·have hbt : ((x[k]'hlt).toNat : Int) = bt x k := bt_at x (k : Int) hlt
    gi_wp2_with (refine ⟨trivial, ?_⟩; gi_at_call 88; refine (callsIn_wide.2 (fine_any _ _)).mono ?_; rintro e w' ⟨rfl, rfl⟩)
    ·have hf : (!fineB (bt x k)) = true := by assumption
     exact bad (by simp only [elemOk, fineAll_no x k (by simpa using hf) _ hlt]; simp)
    ·have hf : (!fineB (bt x k)) = false := by assumption
     exact ⟨⟨k + 1, by omega, by go_num, (show fineAll x (k + 1) = true from by simp only [fineAll, hfa.out]; simpa using hf), trivial⟩, by simp [intOf]; omega⟩
   ·obtain rfl : k = x.size := by omega
    gi_wp2
    exact ⟨KeepsFrom.refl _ _, rfl, hv, hb, (show _ = true from by rw [List.all_append, hp.out]; simp [elemOk, e0, e1, e2', e3', hfa.out]; omega)⟩
 case done =>
  rintro D W hD ⟨hv, hb, hp⟩ hK
  have hvc := hv.1
  have hvf := hv.2
  gi_wp2
  refine ⟨by simp, .inl ⟨_, _, rfl, run_takeDeferred ((Below.heap_setCell _ _ _ _ (by simp at hD; show D ≠ w.heap.size; omega)).trans hK), ?_⟩⟩
  have hv2 := (hv.set (.bool true)).put (D := D) (by simp at hD; omega) (.deferred none)
  have hvc2 := hv2.1
  exact ⟨.bool true, by simp [results, Tryz.results56, go_sem, hvc2], by have := hp.out; simp [validB, h0, this]; omega, below_put (hb.setCell (p := ⟨w.heap.size, 0, none⟩) (Nat.le_refl _) _) (by simp at hD; omega) (Nat.le_refl _) _⟩
 case stop =>
  rintro D c pre W hD hpre ⟨hv, hb, hp⟩ hK
  obtain rfl := hp.out.2
  have hvc := hv.1
  have hvf := hv.2
  gi_wp2
  refine ⟨by simp, .inl ⟨_, _, rfl, run_takeDeferred hK, ?_⟩⟩
  have hv2 := hv.put (D := D) (by simp at hD; omega) (.deferred none)
  have hvc2 := hv2.1
  refine ⟨.bool false, by simp [results, Tryz.results56, go_sem, hvc2], ?_, below_put hb (by simp at hD; omega) (Nat.le_refl _) _⟩
  obtain ⟨r, hr⟩ := hpre
  have := hp.out.1
  simp [validB, ← hr, this]
end Go.Proofs.YtcdcpcdfcmokkaaGreatDoor
end
