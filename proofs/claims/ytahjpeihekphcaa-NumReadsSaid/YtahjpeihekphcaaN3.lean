/- A reader in memory: its state, what From makes, what fail leaves. -/
import Derived.Test.YtahjpeihekphcaaN2
set_option linter.unusedVariables false
set_option linter.unusedSimpArgs false
namespace Go.Proofs.Ytahjpeihekphcaa.N
open Go.RowKit Go.Proofs.YtahjpeihekphcaaW.PrintWords Go.Proofs.YtahjpeihekphcaaW.PrintLast Go.Proofs.Ytahjpeihekphcaa.Bt Go.Proofs.Ytahjpeihekphcaa.B Go.Proofs.Ytahjpeihekphcaa.Vi

/-- A reader's struct at block g. -/
def At (w : World) (g : Nat) (a b : Value) : Prop := w.heap[g]? = some (.cells #[a, b] 66 (0, 0))
/-- The state of a reader at block g, whose bytes lie in block b: what is left to read, or that something is wrong. -/
def RS (w : World) (g b : Nat) : Option (List UInt8) → Prop
  | some l => ∃ off c, At w g (.slice (some ⟨b, off, none⟩) l.length c) (.bool false) ∧ (∀ j (h : j < l.length), w.cell? ⟨b, off + j, none⟩ = some (bv l[j])) ∧ l.length ≤ c ∧ b ≠ g ∧ l.length ≤ 4611686018427
  | none => At w g (.slice none 0 0) (.bool true)
theorem At.cell0 {w : World} {g : Nat} {a b : Value} (h : At w g a b) : w.cell? ⟨g, 0, none⟩ = some a := by rw [blk_cell h]; rfl
theorem At.cell1 {w : World} {g : Nat} {a b : Value} (h : At w g a b) : w.cell? ⟨g, 1, none⟩ = some b := by rw [blk_cell h]; rfl
theorem At.free {w : World} {g : Nat} {a b : Value} (h : At w g a b) (i : Nat) : w.frozen? ⟨g, i, none⟩ = false := blk_frozen h i
theorem At.lt {w : World} {g : Nat} {a b : Value} (h : At w g a b) : g < w.heap.size := blk_lt h
theorem At.set0 {w : World} {g : Nat} {a b : Value} (h : At w g a b) (u : Value) : At (w.setCell ⟨g, 0, none⟩ u) g u b := blk_set h 0 u
theorem At.set1 {w : World} {g : Nat} {a b : Value} (h : At w g a b) (u : Value) : At (w.setCell ⟨g, 1, none⟩ u) g a u := blk_set h 1 u
theorem grown_set (w : World) (g i : Nat) (u : Value) : w.grownBy (w.setCell ⟨g, i, none⟩ u) (some g) :=
  ⟨rfl, rfl, rfl, by simp [World.setCell], fun k hk hr => Below.heap_setCell w ⟨g, i, none⟩ u k (fun e => hr (by rw [e]))⟩
/-- What is written elsewhere leaves a reader as it is. -/
theorem RS.kept {w w' : World} {g b : Nat} {st : Option (List UInt8)} {row : Option Nat} (h : RS w g b st) (hg : w.grownBy w' row) (h1 : some g ≠ row) (h2 : some b ≠ row) : RS w' g b st := by
  cases st with
  | none => exact blk_grown h hg h1
  | some l =>
    obtain ⟨off, c, ha, hc, r⟩ := h
    exact ⟨off, c, blk_grown ha hg h1, fun j hj => hg.cell (hc j hj) h2, r⟩
theorem RS.lt {w : World} {g b : Nat} {st : Option (List UInt8)} (h : RS w g b st) : g < w.heap.size := by
  cases st with
  | none => exact At.lt h
  | some l => obtain ⟨off, c, ha, _⟩ := h; exact At.lt ha

set_option maxHeartbeats 400000 in
theorem fail_any (g : Nat) (a b : Value) (w : World) (h : At w g a b) : Calls Try.prog 44 #[.pointer (some ⟨g, 0, none⟩)] w fun e w' => e = .returned (.tuple #[]) ∧ At w' g (.slice none 0 0) (.bool true) ∧ w.grownBy w' (some g) := by
  have hA := Aside0.mk h
  have c1 := h.cell1
  have f1 := h.free 1
  have c0 := (h.set1 (.bool true)).cell0
  have f0 := (h.set1 (.bool true)).free 0
  clear h
  go_enter Try.func44, Try.ntmps44
  go_wp2
  go_end0
  exact ⟨rfl, (hA.out.set1 _).set0 _, World.grownBy.trans (grown_set w g 1 _) (grown_set _ g 0 _)⟩
set_option maxHeartbeats 400000 in
/-- From: a new reader of a string's bytes; nothing that was there has turned. -/
theorem from_any (s : ByteArray) (w : World) (hs : s.size ≤ 4611686018427) : Calls Try.prog 23 #[.string s] w fun e w' => ∃ g b, e = .returned (.pointer (some ⟨g, 0, none⟩)) ∧ RS w' g b (some s.data.toList) ∧ Below w.heap.size w w' ∧ w.heap.size ≤ g ∧ w.heap.size ≤ b ∧ b < g := by
  have kb := fun W => print_bytes (P := Try.prog) 9 27 5 Try.underlying9 Try.underlying27 Try.underlying5 s W
  have hss := Aside0.mk hs
  clear hs
  go_enter Try.func23, Try.ntmps23
  go_wp2
  go_ret
  refine ⟨(Lib.bytesWorld w 5 s).heap.size, w.heap.size, rfl, ?_, below_alloc (conv_below w _ s) _, by rw [Lib.bytesWorld_size]; omega, Nat.le_refl _, by rw [Lib.bytesWorld_size]; omega⟩
  refine ⟨0, grownCap w s.size 0 5, by rw [data_length]; exact Go.heap_alloc_new _ _, fun j hj => ?_, by rw [data_length]; exact grownCap_ge w s.size 0 _, by rw [Lib.bytesWorld_size]; omega, by rw [data_length]; exact hss.out⟩
  rw [data_length] at hj
  have h := pw_cell_below (below_alloc (Below.refl _ (Lib.bytesWorld w 5 s)) (.cells #[.slice (some ⟨w.heap.size, 0, none⟩) s.size (grownCap w s.size 0 5), .bool false] 66)) (Lib.bytesWorld_cell w 5 s j hj)
  rw [Nat.zero_add]
  refine h.trans ?_
  have hj' : j < s.data.toList.length := by rw [data_length]; exact hj
  simp [bv, List.getD_eq_getElem?_getD, List.getElem?_eq_getElem hj']
/-- 's[m:]', the address told. -/
theorem cut_any {P : Program} (t e : TypeId) (kl : IntKind) {i : TypeInfo} (ht : P.underlying t = some (.slice e)) (hi : P.info? e = some i) (hsz : i.size = 1) (b off n c m : Nat) (hm : m ≤ n) (hc : n ≤ c) :
    ∃ off', (∀ W : World, (Instr.slice t (.slice (some ⟨b, off, none⟩) n c) (some (.int kl (m : Int))) none none).run P W = .ok (.slice (some ⟨b, off', none⟩) (n - m) (c - m)) W) ∧ (m < n → off' = off + m) := by
  refine ⟨if c = m then off else off + m, fun W => ?_, fun h => if_neg (by omega)⟩
  have hel : P.elem t = e := by simp [Program.elem, ht]
  have hu : P.underlying t = some (.slice (P.elem t)) := by rw [hel]; exact ht
  rw [run_slice_l W t (some ⟨b, off, none⟩) n c hu kl (m : Int) (Int.natCast_nonneg _) (by omega), hel]
  by_cases hcm : c = m
  · simp [sizeOf, typeInfo, hi, hsz, sliced, Result.andThen, hcm]
  · have ha : (⟨b, off, none⟩ : Addr).add m = ⟨b, off + m, none⟩ := by unfold Addr.add; split <;> simp_all
    simp [sizeOf, typeInfo, hi, hsz, sliced, Result.andThen, hcm, ha]
end Go.Proofs.Ytahjpeihekphcaa.N
