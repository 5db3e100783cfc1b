import Derived.Test.YtpleiklodomgiaaGreatDoorModelPages17
import Derived.Test.YtpleiklodomgiaaGreatDoorModelPages23
set_option linter.unusedVariables false
set_option linter.unusedSimpArgs false
section
namespace Go.Proofs.YtpleiklodomgiaaGreatDoor.B
end Go.Proofs.YtpleiklodomgiaaGreatDoor.B
namespace Go.Proofs.YtpleiklodomgiaaGreatDoor.It
end Go.Proofs.YtpleiklodomgiaaGreatDoor.It
namespace Go.Proofs.YtpleiklodomgiaaGreatDoor.W
open Go.RowKit Go.Shelf Go.Proofs.YtpleiklodomgiaaGreatDoorW.PrintWords Go.Proofs.YtpleiklodomgiaaGreatDoorW.PrintLast Go.Proofs.YtpleiklodomgiaaGreatDoor.B Go.Proofs.YtpleiklodomgiaaGreatDoor.It
attribute [local go_sem] Oper.semAt_some
theorem roundIn_any {F : Fence} (hd : F.depth = none) {m : Nat} (m' l' : Nat) {P : Program} {l : Nat} {args : Array Value} {W : World} {R : Ending → World → Prop} (h : YieldAt F m P l args W R) : YieldAt (F.inRound l') m' P l args W R := by
 obtain ⟨fn, tmps, assign, body, hy, hR⟩ := h
 exact ⟨fn, tmps, assign, body, hy, hR.1, fun c cs _ => hR.2 c cs (fun d h => by rw [hd] at h; cases h)⟩
structure Told (G : World → Prop) (M : World → Nat → Prop) : Prop where
 own : ∀ A B row, G A → A.grownBy B row → (∀ r, row = some r → ∃ o : Obj, A.heap[r]? = some o ∧ o.isCells = false) → G B ∧ ∀ k, M B k → M A k
 cells : ∀ A k, G A → M A k → ∃ o : Obj, A.heap[k]? = some o ∧ o.isCells = true
theorem Told.lt {G : World → Prop} {M : World → Nat → Prop} (h : Told G M) {A : World} {k : Nat} (hg : G A) (hm : M A k) : k < A.heap.size := by
 obtain ⟨o, ho, _⟩ := h.cells A k hg hm
 exact (Array.getElem?_eq_some_iff.1 ho).1
theorem Told.alloc {G : World → Prop} {M : World → Nat → Prop} (h : Told G M) {A : World} (o : Obj) (hg : G A) : G (A.alloc o) ∧ ∀ k, M (A.alloc o) k → M A k := h.own A _ none hg (World.grownBy_alloc A o none) (fun r e => by cases e)
theorem Told.drew {G : World → Prop} {M : World → Nat → Prop} (h : Told G M) {A : World} (hg : G A) : G A.drew ∧ ∀ k, M A.drew k → M A k := h.own A _ none hg (grown_drewN (grown_refl A none) 1) (fun r e => by cases e)
structure KpB (M : World → Nat → Prop) (n₀ : Nat) (A B : World) : Prop where
 size : A.heap.size ≤ B.heap.size
 same : ∀ (k : Nat) (o : Obj), A.heap[k]? = some o → ¬ M A k → (o.isCells = true ∨ o.isWalk = true ∨ n₀ ≤ k) → B.heap[k]? = some o
 mine : ∀ k, M B k → M A k ∨ A.heap.size ≤ k
def KpM (G : World → Prop) (M : World → Nat → Prop) (n₀ : Nat) (A B : World) : Prop := G A → G B ∧ KpB M n₀ A B
theorem KpB.trans {M : World → Nat → Prop} {n₀ : Nat} {A B C : World} (h : KpB M n₀ A B) (k : KpB M n₀ B C) : KpB M n₀ A C :=
 ⟨Nat.le_trans h.size k.size, fun i o hi hm hc => k.same i o (h.same i o hi hm hc) (fun hb => by
  have hlt := (Array.getElem?_eq_some_iff.1 hi).1
  rcases h.mine i hb with h1 | h1
  ·exact hm h1
  ·omega) hc, fun i hm => by
  rcases k.mine i hm with h1 | h1
  ·exact h.mine i h1
  ·exact .inr (Nat.le_trans h.size h1)⟩
theorem KpM.trans {G : World → Prop} {M : World → Nat → Prop} {n₀ : Nat} {A B C : World} (h : KpM G M n₀ A B) (k : KpM G M n₀ B C) : KpM G M n₀ A C := fun hg =>
 ⟨(k (h hg).1).1, (h hg).2.trans (k (h hg).1).2⟩
theorem KpM.book {G : World → Prop} {M : World → Nat → Prop} (hM : Told G M) {n₀ : Nat} (W : World) (l : Nat) (o o' : Obj) (hl : l < n₀) (h : W.heap[l]? = some o) (hc : o.isCells = false) (hw : o.isWalk = false) : KpM G M n₀ W (W.putObj l o') := fun hg =>
 have hown := hM.own W _ (some l) hg (grownBy_putObj' W l o') (fun r e => by cases e; exact ⟨o, h, hc⟩)
 ⟨hown.1, by simp, fun k o2 hk hm hcc => (World.putObj_heap_other (fun e => by
  subst e
  rw [h] at hk
  cases hk
  rcases hcc with h1 | h1 | h1
  ·rw [hc] at h1; cases h1
  ·rw [hw] at h1; cases h1
  ·omega)).trans hk, fun k hm => .inl (hown.2 k hm)⟩
theorem KpM.still {G : World → Prop} {M : World → Nat → Prop} (hM : Told G M) {n₀ : Nat} {A B : World} (h : A.grownBy B none) : KpM G M n₀ A B := fun hg =>
 have hown := hM.own A _ none hg h (fun r e => by cases e)
 ⟨hown.1, h.size, fun k o2 hk _ _ => (h.block k (Array.getElem?_eq_some_iff.1 hk).1 (fun e => by cases e)).trans hk, fun k hm => .inl (hown.2 k hm)⟩
theorem KpM.alloc {G : World → Prop} {M : World → Nat → Prop} (hM : Told G M) {n₀ : Nat} (W : World) (o : Obj) : KpM G M n₀ W (W.alloc o) := KpM.still hM (World.grownBy_alloc W o none)
theorem KpM.drew {G : World → Prop} {M : World → Nat → Prop} (hM : Told G M) {n₀ : Nat} (W : World) : KpM G M n₀ W W.drew := KpM.still hM (grown_drewN (grown_refl W none) 1)
theorem KpB.later {M : World → Nat → Prop} {n₀ n₁ : Nat} {A B : World} (h : KpB M n₀ A B) (hn : n₀ ≤ n₁) : KpB M n₁ A B :=
 ⟨h.size, fun k o hk hm hc => h.same k o hk hm (hc.imp id (fun h1 => h1.imp id (Nat.le_trans hn))), h.mine⟩
theorem KpM.later {G : World → Prop} {M : World → Nat → Prop} {n₀ n₁ : Nat} {A B : World} (h : KpM G M n₀ A B) (hn : n₀ ≤ n₁) : KpM G M n₁ A B := fun hg => ⟨(h hg).1, (h hg).2.later hn⟩
theorem KpB.walks {G : World → Prop} {M : World → Nat → Prop} (hM : Told G M) {n₀ : Nat} {A B : World} (h : KpB M n₀ A B) (hg : G A) : KeepsWalks A B :=
 ⟨h.size, fun k o hk hw => h.same k o hk (fun hm => by
  obtain ⟨o2, h2, h3⟩ := hM.cells A k hg hm
  rw [hk] at h2
  cases h2
  rw [Obj.not_cells_of_walk hw] at h3
  cases h3) (.inr (.inl hw))⟩
theorem KpB.from {G : World → Prop} {M : World → Nat → Prop} (hM : Told G M) {n₀ B₀ : Nat} {A B : World} (h : KpB M n₀ A B) (hg : G A) (hn : n₀ ≤ B₀) : KeepsFrom B₀ A B :=
 ⟨h.size, fun k o hB hk hc => h.same k o hk (fun hm => by
  obtain ⟨o2, h2, h3⟩ := hM.cells A k hg hm
  rw [hk] at h2
  cases h2
  rw [hc] at h3
  cases h3) (.inr (.inr (Nat.le_trans hn hB)))⟩
theorem KpB.box {M : World → Nat → Prop} {n₀ : Nat} {A B : World} (h : KpB M n₀ A B) {b : Nat} {t : TypeId} {v : Value} (hb : Boxed A b t v) (hm : ¬ M A b) : Boxed B b t v := h.same b _ hb hm (.inl rfl)
theorem KpB.not {M : World → Nat → Prop} {n₀ : Nat} {A B : World} (h : KpB M n₀ A B) {b : Nat} (hlt : b < A.heap.size) (hm : ¬ M A b) : ¬ M B b := fun hb => by
 rcases h.mine b hb with h1 | h1
 ·exact hm h1
 ·omega
theorem words_any (s : ByteArray) (w : World) : Calls Tryz.prog 65 #[.string s] w fun e w' => e = .returned (.func (.func 83) #[] #[.pointer (some ⟨w.heap.size, 0, none⟩)]) ∧ w' = w.alloc (.cells #[.string s] 9) := by
 go_enter Tryz.func65, Tryz.ntmps65
 go_wp2
 go_ret
 exact ⟨rfl, rfl⟩
end Go.Proofs.YtpleiklodomgiaaGreatDoor.W
end
