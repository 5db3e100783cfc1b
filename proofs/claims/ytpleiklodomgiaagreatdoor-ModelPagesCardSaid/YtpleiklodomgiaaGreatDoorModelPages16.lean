import Derived.RangeFuncNested
import Derived.RangeFuncBound
import Derived.RangeFuncCalls
import Derived.RangeFuncLeaves
import Derived.OwnWalkIn
import Derived.TacticsInMore
import Derived.LoopIn
import Derived.WalkKit
set_option linter.unusedVariables false
section
namespace Go.Proofs.YtpleiklodomgiaaGreatDoor.It
open Go.RowKit
variable {F : Fence} {n : Nat} {P : Program}
def Seq {α : Type} (F : Fence) (n : Nat) (P : Program) (g : Nat) (lb : Array Value) (encs : α → Array Value) (Kp : World → World → Prop) (Φ : World → Prop) (S Sp : List α → Prop) (w : World) (n₀ : Nat) : Prop :=
 ∀ (l : Nat) (J Jx : List α → World → Prop) (W : World), Below w.heap.size w W → n₀ ≤ W.heap.size → OwnFrom W.heap.size J → OwnFrom W.heap.size Jx → (∀ pre W1, J pre W1 → Φ W1) →
  (∀ pre x W1, J pre W1 → Sp (pre ++ [x]) → YieldAt F (n - 1) P l (encs x) W1 fun e W' =>
   (e = .returned (.bool true) ∧ J (pre ++ [x]) W' ∧ Kp W1 W') ∨ (e = .returned (.bool false) ∧ Jx (pre ++ [x]) W' ∧ KeepsFrom n₀ W1 W')) →
  J [] W →
  CallsIn F n P g (#[.func (.yield l) #[] #[]] ++ lb) W fun e W' => (∃ v, e = .returned v) ∧ ((∃ xs, S xs ∧ J xs W') ∨ (∃ pre, Sp pre ∧ Jx pre W'))
theorem ownFrom_block {β : Type} {B k : Nat} {o : Obj} (hk : k < B) : OwnFrom B (fun (_ : β) W => W.heap[k]? = some o) :=
 fun _ A _ row hs hg hr => (hg.block k (Array.getElem?_eq_some_iff.1 hs).1 (fun e => by have := (hr k e.symm).1; omega)).trans hs
theorem ownFrom_later {β : Type} {B B' : Nat} {I : β → World → Prop} (h : OwnFrom B I) (hB : B ≤ B') : OwnFrom B' I :=
 fun s A C row hs hg hr => h s A C row hs hg (fun r e => ⟨Nat.le_trans hB (hr r e).1, (hr r e).2⟩)
theorem ownFrom_some {β γ : Type} {B : Nat} {I : γ → β → World → Prop} (h : ∀ c, OwnFrom B (I c)) : OwnFrom B (fun s W => ∃ c, I c s W) :=
 fun s A C row hs hg hr => by obtain ⟨c, hc⟩ := hs; exact ⟨c, h c s A C row hc hg hr⟩
theorem keepsFrom_later {B B' : Nat} {W W' : World} (h : KeepsFrom B W W') (hB : B ≤ B') : KeepsFrom B' W W' := ⟨h.size, fun k o hk => h.same k o (Nat.le_trans hB hk)⟩
theorem keepsFrom_put {B : Nat} (W : World) (l : Nat) (o' : Obj) (hl : l < B) : KeepsFrom B W (W.putObj l o') := ⟨by simp, fun k o hB hk _ => (World.putObj_heap_other (by omega)).trans hk⟩
theorem range_law {α : Type} {g : Operand} {ps : Array Tmp} {assign body : Code} {Q : Exit → Act → World → Prop} {a : Act} {w : World}
  (hro : F.round = none) (h1 : 1 ≤ n) {gf : Nat} {lb : Array Value} (hg : a.eval g = .func (.func gf) #[] lb) (hFg : F.fn gf) (eg : ∀ args w, (callFunc gf args).run P w = .ok (.enter gf args) w)
  {encs : α → Array Value} {Kp : World → World → Prop} {Φ : World → Prop} {S Sp : List α → Prop} {w0 : World} (hseq : Seq F (n - 1) P gf lb encs Kp Φ S Sp w0 (w.heap.size + 2))
  (hKt : ∀ {A B C : World}, Kp A B → Kp B C → Kp A C) (hKb : ∀ (W : World) (l : Nat) (o o' : Obj), w.heap.size ≤ l → l < w.heap.size + 2 → W.heap[l]? = some o → o.isCells = false → o.isWalk = false → Kp W (W.putObj l o')) (hb0 : Below w0.heap.size w0 w) (hps : ∀ x, (encs x).size = ps.size)
  (I : List α → World → Prop) (Ix : Code → List α → World → Prop) (hI : OwnFrom w.heap.size I) (hIx : ∀ c, OwnFrom w.heap.size (Ix c)) (hΦ : ∀ pre W, I pre W → Φ W) (h0 : I [] w) (Ax : α → Act → World → Prop) (hAx : ∀ x a', OwnFrom w.heap.size (fun (_ : Unit) W => Ax x a' W))
  (hassign : ∀ (l : Nat) (pre : List α) (x : α) (W : World) (K : Act → World → Prop), I pre W → (∀ a' W', KeepsFrom w.heap.size W W' → Kp W W' → I pre W' → Ax x a' W' → K a' W') →
   assign.wpIn (F.inRound l) (n - 1 - 1) P (Exit.then K (fun _ _ _ => False)) { tmps := (ps.zip (encs x)).foldl (fun t (p, v) => t.setIfInBounds p v) a.tmps, defers := [] } W)
  (hbody : ∀ (l : Nat) (pre : List α) (x : α) (a' : Act) (W : World), w.heap.size ≤ l → (∃ r, W.heap[l]? = some (.loop r)) → I pre W → Ax x a' W → Sp (pre ++ [x]) → body.wpIn (F.inRound l) (n - 1 - 1) P (ownPostG w.heap.size Kp I Ix (pre ++ [x]) W) a' W)
  (hdone : ∀ (D : Nat) (xs : List α) (W : World), w.heap.size ≤ D → S xs → I xs W → W.heap[D]? = some (.deferred (some [])) → Q .normal { a with defers := { target := .collected D, args := #[] } :: a.defers } W)
  (hstop : ∀ (D : Nat) (c : Code) (pre : List α) (W : World), w.heap.size ≤ D → Sp pre → Ix c pre W → W.heap[D]? = some (.deferred (some [])) → c.wpIn F n P Q { a with defers := { target := .collected D, args := #[] } :: a.defers } W) :
  (Code.rangeFunc g ps assign body).wpIn F n P Q a w := by
 refine wpIn_rangeFunc fun fn hfn => ?_
 rw [hro]
 obtain ⟨rec, hrec⟩ : ∃ rec : LoopState → Option Code → Loop, rec = fun st pe => { state := st, pending := pe, fn, tmps := a.tmps, params := ps, assign, body, defers := w.heap.size } := ⟨_, rfl⟩
 obtain ⟨l, hl_⟩ : ∃ l, l = w.heap.size + 1 := ⟨_, rfl⟩
 obtain ⟨W1, hW1⟩ : ∃ W1, W1 = (w.alloc (.deferred (some []))).alloc (.loop (rec .ready none)) := ⟨_, rfl⟩
 have hs1 : W1.heap.size = w.heap.size + 2 := by rw [hW1]; simp
 have hL1 : W1.heap[l]? = some (.loop (rec .ready none)) := by
  rw [hW1, hl_]; have := World.alloc_heap_new (w.alloc (.deferred (some []))) (.loop (rec .ready none)); rwa [World.size_alloc] at this
 have hK1 : W1.heap[w.heap.size]? = some (.deferred (some [])) := by
  rw [hW1]; exact (Below.heap_alloc _ _ _ (by simp)).trans (World.alloc_heap_new w _)
 have hI1 : I [] W1 := by rw [hW1]; exact hI.alloc _ (hI.alloc _ h0)
 have hb1 : Below w0.heap.size w0 W1 := by
  rw [hW1]; exact hb0.trans ((((Below.refl _ w).alloc (Nat.le_refl _) _).alloc (by simp) _).mono hb0.size)
 refine ⟨l, [{ target := .collected w.heap.size, args := #[] }], W1, { target := .fn (.func gf) lb, args := #[.func (.yield l) #[] #[]] }, W1, gf, #[.func (.yield l) #[] #[]] ++ lb, W1, ?_, ?_, ?_, ?_, fun _ => h1, ?_⟩
 ·rw [hW1, hrec, hl_]; exact run_enterLoop_outer _ _ _ _ _
 ·simp only [resolve, hg]
  simp [go_sem]
 ·intro f' hf'; simp [Target.leads] at hf'; subst hf'; exact hFg
 ·simp [invoke, go_sem, eg]
 have hlate : w.heap.size ≤ W1.heap.size := by omega
 have hbook : ∀ o, OwnFrom W1.heap.size (fun (_ : List α) W => W.heap[l]? = some o) := fun o => ownFrom_block (by omega)
 have hdef : OwnFrom W1.heap.size (fun (_ : List α) W => W.heap[w.heap.size]? = some (.deferred (some []))) := ownFrom_block (by omega)
 refine (hseq l
  (fun pre W => I pre W ∧ W.heap[l]? = some (.loop (rec .ready none)) ∧ W.heap[w.heap.size]? = some (.deferred (some [])))
  (fun pre W => ∃ c, Ix c pre W ∧ W.heap[l]? = some (.loop (rec .done (some c))) ∧ W.heap[w.heap.size]? = some (.deferred (some [])))
  W1 hb1 (by omega) (OwnFrom.and (ownFrom_later hI hlate) (OwnFrom.and (hbook _) hdef)) (ownFrom_some fun c => OwnFrom.and (ownFrom_later (hIx c) hlate) (OwnFrom.and (hbook _) hdef)) (fun pre W h => hΦ pre W h.1) ?_ ⟨hI1, hL1, hK1⟩).mono ?_
 ·rintro pre x W ⟨hi, hl, hk⟩ hlen
  have hy := run_yield (P := P) (args := encs x) hl (by rw [hrec]; exact hps x)
  rw [hrec] at hy
  refine ⟨fn, _, assign, body, hy, roundIn_of_wpIn hfn (hassign _ pre x W _ hi fun a' Wa hkf hkp hia hax => ?_)⟩
  clear hy
  have hla := hkf.same _ _ (by omega) hl rfl
  have hka := hkf.same _ _ (Nat.le_refl _) hk rfl
  have hlt : l < Wa.heap.size := (Array.getElem?_eq_some_iff.1 hla).1
  refine ⟨_, run_beginRound hla (by rw [hrec]), ?_⟩
  obtain ⟨Wb, hWb⟩ : ∃ Wb, Wb = Wa.putObj l (.loop { rec .ready none with state := .busy }) := ⟨_, rfl⟩
  have hlb : Wb.heap[l]? = some (.loop { rec .ready none with state := .busy }) := by rw [hWb]; exact World.putObj_heap_same hlt
  have hkb : Wb.heap[w.heap.size]? = some (.deferred (some [])) := by rw [hWb]; exact (World.putObj_heap_other (by omega)).trans hka
  have hwk : KeepsFrom (w.heap.size + 2) Wa Wb := by rw [hWb]; exact keepsFrom_put _ _ _ (by omega)
  have hwb : Kp Wa Wb := by rw [hWb]; exact hKb _ _ _ _ (by omega) (by omega) hla rfl rfl
  have hib : I pre Wb := by rw [hWb]; exact hI.putObj _ hia (by omega) hla rfl
  have hxb : Ax x a' Wb := by rw [hWb]; exact (hAx x a').putObj (s := ()) _ hax (by omega) hla rfl
  rw [← hWb]
  refine wpIn_mono (hbody _ pre x a' _ (by omega) ⟨_, hlb⟩ hib hxb hlen) ?_
  have fin : ∀ (jump : Option Code) (W3 : World), KeepsFrom w.heap.size Wb W3 →
    (Instr.endRound l jump).run P W3 = .ok (.bool jump.isNone) (W3.putObj l (.loop (rec (if jump.isNone then .ready else .done) jump))) ∧
    W3.heap[l]? = some (.loop { rec .ready none with state := .busy }) ∧
    (W3.putObj l (.loop (rec (if jump.isNone then .ready else .done) jump))).heap[l]? = some (.loop (rec (if jump.isNone then .ready else .done) jump)) ∧
    (W3.putObj l (.loop (rec (if jump.isNone then .ready else .done) jump))).heap[w.heap.size]? = some (.deferred (some [])) := fun jump W3 hk3 => by
   have hl3 := hk3.same _ _ (by omega) hlb rfl
   have he := run_endRound (P := P) jump hl3
   rw [hrec] at he ⊢
   exact ⟨he, by rw [hrec] at hl3; exact hl3, World.putObj_heap_same (Array.getElem?_eq_some_iff.1 hl3).1, (World.putObj_heap_other (by omega)).trans (hk3.same _ _ (Nat.le_refl _) hkb rfl)⟩
  have out : ∀ (c : Code) (W3 : World), KeepsFrom w.heap.size Wb W3 → Ix c (pre ++ [x]) W3 → (Instr.endRound l (some c)).run P W3 = .ok (.bool false) (W3.putObj l (.loop (rec .done (some c)))) ∧
    (∃ c', Ix c' (pre ++ [x]) (W3.putObj l (.loop (rec .done (some c)))) ∧ (W3.putObj l (.loop (rec .done (some c)))).heap[l]? = some (.loop (rec .done (some c'))) ∧ (W3.putObj l (.loop (rec .done (some c)))).heap[w.heap.size]? = some (.deferred (some []))) ∧ KeepsFrom (w.heap.size + 2) W (W3.putObj l (.loop (rec .done (some c)))) := fun c W3 hk3 hi3 => by
   obtain ⟨hr, hl3, hl4, hk4⟩ := fin (some c) W3 hk3
   exact ⟨hr, ⟨c, (hIx _).putObj _ hi3 (by omega) hl3 rfl, hl4, hk4⟩, ((keepsFrom_later hkf (by omega)).trans (hwk.trans (keepsFrom_later hk3 (by omega)))).trans (keepsFrom_put _ _ _ (by omega))⟩
  rintro e a3 W3 hp
  cases e with
  | normal =>
   obtain ⟨hk3, hkp3, hi3⟩ := hp
   obtain ⟨hr, hl3, hl4, hk4⟩ := fin none W3 hk3
   exact ⟨_, _, hr, .inl ⟨rfl, ⟨hI.putObj _ hi3 (by omega) hl3 rfl, hl4, hk4⟩, hKt hkp (hKt (hKt hwb hkp3) (hKb _ _ _ _ (by omega) (by omega) hl3 rfl rfl))⟩⟩
  | ret => obtain ⟨hr, ho⟩ := out .ret W3 hp.1 hp.2; exact ⟨_, _, hr, .inr ⟨rfl, ho⟩⟩
  | exit id => obtain ⟨hr, ho⟩ := out (.exit id) W3 hp.1 hp.2; exact ⟨_, _, hr, .inr ⟨rfl, ho⟩⟩
  | goto t => obtain ⟨hr, ho⟩ := out (.goto t) W3 hp.1 hp.2; exact ⟨_, _, hr, .inr ⟨rfl, ho⟩⟩
  | panic ch => exact hp.elim
  | outgrown => exact hp.elim
 ·rintro e W2 ⟨⟨v, rfl⟩, (⟨xs, hS, hi, hl, hk⟩ | ⟨pre, hSp, c, hi, hl, hk⟩)⟩
  ·have he := run_endLoop (P := P) hl (by rw [hrec]; simp)
   rw [hrec] at he
   exact ⟨none, _, he, hdone _ xs _ (Nat.le_refl _) hS (hI.putObj _ hi (by omega) hl rfl) ((World.putObj_heap_other (by omega)).trans hk)⟩
  ·have he := run_endLoop (P := P) hl (by rw [hrec]; simp)
   rw [hrec] at he
   exact ⟨some c, _, he, hstop _ c pre _ (Nat.le_refl _) hSp ((hIx c).putObj _ hi (by omega) hl rfl) ((World.putObj_heap_other (by omega)).trans hk)⟩
end Go.Proofs.YtpleiklodomgiaaGreatDoor.It
end
section
namespace Go.Proofs.YtpleiklodomgiaaGreatDoor.It
open Go.RowKit
variable {F : Fence} {n : Nat} {P : Program}
def SeqP {α : Type} (F : Fence) (n : Nat) (P : Program) (g : Nat) (lb : Array Value) (encs : α → Array Value) (Kp : World → World → Prop) (Φ : World → Prop) (S Sp : List α → Prop) (Px : Nat → α → World → Prop) (w : World) (n₀ : Nat) : Prop :=
 ∀ (l : Nat) (J Jx : List α → World → Prop) (W : World), Below w.heap.size w W → n₀ ≤ W.heap.size → OwnFrom W.heap.size J → OwnFrom W.heap.size Jx → (∀ pre W1, J pre W1 → Φ W1) → (∀ pre A C, J pre A → A.grownBy C (some W.heap.size) → J pre C) →
  (∀ pre x W1, J pre W1 → Sp (pre ++ [x]) → Px W.heap.size x W1 → YieldAt F (n - 1) P l (encs x) W1 fun e W' =>
   (e = .returned (.bool true) ∧ J (pre ++ [x]) W' ∧ Kp W1 W') ∨ (e = .returned (.bool false) ∧ Jx (pre ++ [x]) W' ∧ KeepsFrom n₀ W1 W')) →
  J [] W →
  CallsIn F n P g (#[.func (.yield l) #[] #[]] ++ lb) W fun e W' => (∃ v, e = .returned v) ∧ ((∃ xs, S xs ∧ J xs W') ∨ (∃ pre, Sp pre ∧ Jx pre W'))
theorem range_lawP {α : Type} {g : Operand} {ps : Array Tmp} {assign body : Code} {Q : Exit → Act → World → Prop} {a : Act} {w : World}
  (hro : F.round = none) (h1 : 1 ≤ n) {gf : Nat} {lb : Array Value} (hg : a.eval g = .func (.func gf) #[] lb) (hFg : F.fn gf) (eg : ∀ args w, (callFunc gf args).run P w = .ok (.enter gf args) w)
  {encs : α → Array Value} {Kp : World → World → Prop} {Φ : World → Prop} {S Sp : List α → Prop} {Px : Nat → α → World → Prop} {w0 : World} (hseq : SeqP F (n - 1) P gf lb encs Kp Φ S Sp Px w0 (w.heap.size + 2))
  (hKt : ∀ {A B C : World}, Kp A B → Kp B C → Kp A C) (hKb : ∀ (W : World) (l : Nat) (o o' : Obj), w.heap.size ≤ l → l < w.heap.size + 2 → W.heap[l]? = some o → o.isCells = false → o.isWalk = false → Kp W (W.putObj l o')) (hb0 : Below w0.heap.size w0 w) (hps : ∀ x, (encs x).size = ps.size)
  (I : List α → World → Prop) (Ix : Code → List α → World → Prop) (hI : OwnFrom w.heap.size I) (hIx : ∀ c, OwnFrom w.heap.size (Ix c)) (hΦ : ∀ pre W, I pre W → Φ W) (hIb : ∀ pre A C, I pre A → A.grownBy C (some (w.heap.size + 2)) → I pre C) (h0 : I [] w) (Ax : α → Act → World → Prop) (hAx : ∀ x a', OwnFrom w.heap.size (fun (_ : Unit) W => Ax x a' W))
  (hassign : ∀ (l : Nat) (pre : List α) (x : α) (W : World) (K : Act → World → Prop), I pre W → Px (w.heap.size + 2) x W → (∀ a' W', KeepsFrom w.heap.size W W' → Kp W W' → I pre W' → Ax x a' W' → K a' W') →
   assign.wpIn (F.inRound l) (n - 1 - 1) P (Exit.then K (fun _ _ _ => False)) { tmps := (ps.zip (encs x)).foldl (fun t (p, v) => t.setIfInBounds p v) a.tmps, defers := [] } W)
  (hbody : ∀ (l : Nat) (pre : List α) (x : α) (a' : Act) (W : World), w.heap.size ≤ l → (∃ r, W.heap[l]? = some (.loop r)) → I pre W → Ax x a' W → Sp (pre ++ [x]) → body.wpIn (F.inRound l) (n - 1 - 1) P (ownPostG w.heap.size Kp I Ix (pre ++ [x]) W) a' W)
  (hdone : ∀ (D : Nat) (xs : List α) (W : World), w.heap.size ≤ D → S xs → I xs W → W.heap[D]? = some (.deferred (some [])) → Q .normal { a with defers := { target := .collected D, args := #[] } :: a.defers } W)
  (hstop : ∀ (D : Nat) (c : Code) (pre : List α) (W : World), w.heap.size ≤ D → Sp pre → Ix c pre W → W.heap[D]? = some (.deferred (some [])) → c.wpIn F n P Q { a with defers := { target := .collected D, args := #[] } :: a.defers } W) :
  (Code.rangeFunc g ps assign body).wpIn F n P Q a w := by
 refine wpIn_rangeFunc fun fn hfn => ?_
 rw [hro]
 obtain ⟨rec, hrec⟩ : ∃ rec : LoopState → Option Code → Loop, rec = fun st pe => { state := st, pending := pe, fn, tmps := a.tmps, params := ps, assign, body, defers := w.heap.size } := ⟨_, rfl⟩
 obtain ⟨l, hl_⟩ : ∃ l, l = w.heap.size + 1 := ⟨_, rfl⟩
 obtain ⟨W1, hW1⟩ : ∃ W1, W1 = (w.alloc (.deferred (some []))).alloc (.loop (rec .ready none)) := ⟨_, rfl⟩
 have hs1 : W1.heap.size = w.heap.size + 2 := by rw [hW1]; simp
 have hL1 : W1.heap[l]? = some (.loop (rec .ready none)) := by
  rw [hW1, hl_]; have := World.alloc_heap_new (w.alloc (.deferred (some []))) (.loop (rec .ready none)); rwa [World.size_alloc] at this
 have hK1 : W1.heap[w.heap.size]? = some (.deferred (some [])) := by
  rw [hW1]; exact (Below.heap_alloc _ _ _ (by simp)).trans (World.alloc_heap_new w _)
 have hI1 : I [] W1 := by rw [hW1]; exact hI.alloc _ (hI.alloc _ h0)
 have hb1 : Below w0.heap.size w0 W1 := by
  rw [hW1]; exact hb0.trans ((((Below.refl _ w).alloc (Nat.le_refl _) _).alloc (by simp) _).mono hb0.size)
 refine ⟨l, [{ target := .collected w.heap.size, args := #[] }], W1, { target := .fn (.func gf) lb, args := #[.func (.yield l) #[] #[]] }, W1, gf, #[.func (.yield l) #[] #[]] ++ lb, W1, ?_, ?_, ?_, ?_, fun _ => h1, ?_⟩
 ·rw [hW1, hrec, hl_]; exact run_enterLoop_outer _ _ _ _ _
 ·simp only [resolve, hg]
  simp [go_sem]
 ·intro f' hf'; simp [Target.leads] at hf'; subst hf'; exact hFg
 ·simp [invoke, go_sem, eg]
 have hlate : w.heap.size ≤ W1.heap.size := by omega
 have hbook : ∀ o, OwnFrom W1.heap.size (fun (_ : List α) W => W.heap[l]? = some o) := fun o => ownFrom_block (by omega)
 have hdef : OwnFrom W1.heap.size (fun (_ : List α) W => W.heap[w.heap.size]? = some (.deferred (some []))) := ownFrom_block (by omega)
 refine (hseq l
  (fun pre W => I pre W ∧ W.heap[l]? = some (.loop (rec .ready none)) ∧ W.heap[w.heap.size]? = some (.deferred (some [])))
  (fun pre W => ∃ c, Ix c pre W ∧ W.heap[l]? = some (.loop (rec .done (some c))) ∧ W.heap[w.heap.size]? = some (.deferred (some [])))
  W1 hb1 (by omega) (OwnFrom.and (ownFrom_later hI hlate) (OwnFrom.and (hbook _) hdef)) (ownFrom_some fun c => OwnFrom.and (ownFrom_later (hIx c) hlate) (OwnFrom.and (hbook _) hdef)) (fun pre W h => hΦ pre W h.1) ?_ ?_ ⟨hI1, hL1, hK1⟩).mono ?_
 ·rintro pre A C ⟨hi, hl, hk⟩ hg
  rw [hs1] at hg
  exact ⟨hIb pre A C hi hg, (hg.block l (Array.getElem?_eq_some_iff.1 hl).1 (fun e => by injection e with e; omega)).trans hl, (hg.block _ (Array.getElem?_eq_some_iff.1 hk).1 (fun e => by injection e with e; omega)).trans hk⟩
 ·rintro pre x W ⟨hi, hl, hk⟩ hlen hpx
  rw [hs1] at hpx
  have hy := run_yield (P := P) (args := encs x) hl (by rw [hrec]; exact hps x)
  rw [hrec] at hy
  refine ⟨fn, _, assign, body, hy, roundIn_of_wpIn hfn (hassign _ pre x W _ hi hpx fun a' Wa hkf hkp hia hax => ?_)⟩
  clear hy
  have hla := hkf.same _ _ (by omega) hl rfl
  have hka := hkf.same _ _ (Nat.le_refl _) hk rfl
  have hlt : l < Wa.heap.size := (Array.getElem?_eq_some_iff.1 hla).1
  refine ⟨_, run_beginRound hla (by rw [hrec]), ?_⟩
  obtain ⟨Wb, hWb⟩ : ∃ Wb, Wb = Wa.putObj l (.loop { rec .ready none with state := .busy }) := ⟨_, rfl⟩
  have hlb : Wb.heap[l]? = some (.loop { rec .ready none with state := .busy }) := by rw [hWb]; exact World.putObj_heap_same hlt
  have hkb : Wb.heap[w.heap.size]? = some (.deferred (some [])) := by rw [hWb]; exact (World.putObj_heap_other (by omega)).trans hka
  have hwk : KeepsFrom (w.heap.size + 2) Wa Wb := by rw [hWb]; exact keepsFrom_put _ _ _ (by omega)
  have hwb : Kp Wa Wb := by rw [hWb]; exact hKb _ _ _ _ (by omega) (by omega) hla rfl rfl
  have hib : I pre Wb := by rw [hWb]; exact hI.putObj _ hia (by omega) hla rfl
  have hxb : Ax x a' Wb := by rw [hWb]; exact (hAx x a').putObj (s := ()) _ hax (by omega) hla rfl
  rw [← hWb]
  refine wpIn_mono (hbody _ pre x a' _ (by omega) ⟨_, hlb⟩ hib hxb hlen) ?_
  have fin : ∀ (jump : Option Code) (W3 : World), KeepsFrom w.heap.size Wb W3 →
    (Instr.endRound l jump).run P W3 = .ok (.bool jump.isNone) (W3.putObj l (.loop (rec (if jump.isNone then .ready else .done) jump))) ∧
    W3.heap[l]? = some (.loop { rec .ready none with state := .busy }) ∧
    (W3.putObj l (.loop (rec (if jump.isNone then .ready else .done) jump))).heap[l]? = some (.loop (rec (if jump.isNone then .ready else .done) jump)) ∧
    (W3.putObj l (.loop (rec (if jump.isNone then .ready else .done) jump))).heap[w.heap.size]? = some (.deferred (some [])) := fun jump W3 hk3 => by
   have hl3 := hk3.same _ _ (by omega) hlb rfl
   have he := run_endRound (P := P) jump hl3
   rw [hrec] at he ⊢
   exact ⟨he, by rw [hrec] at hl3; exact hl3, World.putObj_heap_same (Array.getElem?_eq_some_iff.1 hl3).1, (World.putObj_heap_other (by omega)).trans (hk3.same _ _ (Nat.le_refl _) hkb rfl)⟩
  have out : ∀ (c : Code) (W3 : World), KeepsFrom w.heap.size Wb W3 → Ix c (pre ++ [x]) W3 → (Instr.endRound l (some c)).run P W3 = .ok (.bool false) (W3.putObj l (.loop (rec .done (some c)))) ∧
    (∃ c', Ix c' (pre ++ [x]) (W3.putObj l (.loop (rec .done (some c)))) ∧ (W3.putObj l (.loop (rec .done (some c)))).heap[l]? = some (.loop (rec .done (some c'))) ∧ (W3.putObj l (.loop (rec .done (some c)))).heap[w.heap.size]? = some (.deferred (some []))) ∧ KeepsFrom (w.heap.size + 2) W (W3.putObj l (.loop (rec .done (some c)))) := fun c W3 hk3 hi3 => by
   obtain ⟨hr, hl3, hl4, hk4⟩ := fin (some c) W3 hk3
   exact ⟨hr, ⟨c, (hIx _).putObj _ hi3 (by omega) hl3 rfl, hl4, hk4⟩, ((keepsFrom_later hkf (by omega)).trans (hwk.trans (keepsFrom_later hk3 (by omega)))).trans (keepsFrom_put _ _ _ (by omega))⟩
  rintro e a3 W3 hp
  cases e with
  | normal =>
   obtain ⟨hk3, hkp3, hi3⟩ := hp
   obtain ⟨hr, hl3, hl4, hk4⟩ := fin none W3 hk3
   exact ⟨_, _, hr, .inl ⟨rfl, ⟨hI.putObj _ hi3 (by omega) hl3 rfl, hl4, hk4⟩, hKt hkp (hKt (hKt hwb hkp3) (hKb _ _ _ _ (by omega) (by omega) hl3 rfl rfl))⟩⟩
  | ret => obtain ⟨hr, ho⟩ := out .ret W3 hp.1 hp.2; exact ⟨_, _, hr, .inr ⟨rfl, ho⟩⟩
  | exit id => obtain ⟨hr, ho⟩ := out (.exit id) W3 hp.1 hp.2; exact ⟨_, _, hr, .inr ⟨rfl, ho⟩⟩
  | goto t => obtain ⟨hr, ho⟩ := out (.goto t) W3 hp.1 hp.2; exact ⟨_, _, hr, .inr ⟨rfl, ho⟩⟩
  | panic ch => exact hp.elim
  | outgrown => exact hp.elim
 ·rintro e W2 ⟨⟨v, rfl⟩, (⟨xs, hS, hi, hl, hk⟩ | ⟨pre, hSp, c, hi, hl, hk⟩)⟩
  ·have he := run_endLoop (P := P) hl (by rw [hrec]; simp)
   rw [hrec] at he
   exact ⟨none, _, he, hdone _ xs _ (Nat.le_refl _) hS (hI.putObj _ hi (by omega) hl rfl) ((World.putObj_heap_other (by omega)).trans hk)⟩
  ·have he := run_endLoop (P := P) hl (by rw [hrec]; simp)
   rw [hrec] at he
   exact ⟨some c, _, he, hstop _ c pre _ (Nat.le_refl _) hSp ((hIx c).putObj _ hi (by omega) hl rfl) ((World.putObj_heap_other (by omega)).trans hk)⟩
end Go.Proofs.YtpleiklodomgiaaGreatDoor.It
end
