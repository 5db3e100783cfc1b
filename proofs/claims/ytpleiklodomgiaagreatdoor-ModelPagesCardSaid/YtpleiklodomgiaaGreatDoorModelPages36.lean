import Derived.Laws.AppendOwn
import Derived.Test.YtpleiklodomgiaaGreatDoorModelPages35
import Derived.Test.YtpleiklodomgiaaGreatDoorModelPages21
import Derived.Test.YtpleiklodomgiaaGreatDoorModelPages7
set_option linter.unusedVariables false
set_option linter.unusedSimpArgs false
section
namespace Go.Proofs.YtpleiklodomgiaaGreatDoor.B
end Go.Proofs.YtpleiklodomgiaaGreatDoor.B
namespace Go.Proofs.YtpleiklodomgiaaGreatDoor.Bt
end Go.Proofs.YtpleiklodomgiaaGreatDoor.Bt
namespace Go.Proofs.YtpleiklodomgiaaGreatDoor.CQ
end Go.Proofs.YtpleiklodomgiaaGreatDoor.CQ
namespace Go.Proofs.YtpleiklodomgiaaGreatDoor.N
end Go.Proofs.YtpleiklodomgiaaGreatDoor.N
namespace Go.Proofs.YtpleiklodomgiaaGreatDoor.PModelIs
end Go.Proofs.YtpleiklodomgiaaGreatDoor.PModelIs
namespace Go.Proofs.YtpleiklodomgiaaGreatDoor.Reg
end Go.Proofs.YtpleiklodomgiaaGreatDoor.Reg
namespace Go.Proofs.YtpleiklodomgiaaGreatDoor.Vi
end Go.Proofs.YtpleiklodomgiaaGreatDoor.Vi
namespace Go.Proofs.YtpleiklodomgiaaGreatDoor.C
open Go.RowKit Go.Proofs.YtpleiklodomgiaaGreatDoorW.PrintWords Go.Proofs.YtpleiklodomgiaaGreatDoorW.PrintLast Go.Proofs.YtpleiklodomgiaaGreatDoorW.PrintMore Go.Proofs.YtpleiklodomgiaaGreatDoor.B Go.Proofs.YtpleiklodomgiaaGreatDoor.Reg Go.Proofs.YtpleiklodomgiaaGreatDoor.PModelIs Go.Proofs.YtpleiklodomgiaaGreatDoor.CQ Go.Proofs.YtpleiklodomgiaaGreatDoor.Vi Go.Proofs.YtpleiklodomgiaaGreatDoor.N Go.Proofs.YtpleiklodomgiaaGreatDoor.Bt
theorem owns_block {w : World} {base : Nat} {e : TypeId} {size : Nat} {v : Value} {n : Nat} {xs : List Value} (h : w.ownsRow base e size v n xs) : ∀ k, v.ownBlock = some k → base ≤ k := by
 intro k hk
 rcases h.2 with ⟨rfl, _⟩ | ⟨g, cap, cur, rfl, hb, _⟩
 ·cases hk
 ·cases hk; exact hb
end Go.Proofs.YtpleiklodomgiaaGreatDoor.C
end
section
namespace Go.Proofs.YtpleiklodomgiaaGreatDoor.C
open Go.RowKit Go.Sort Go.Proofs.YtpleiklodomgiaaGreatDoorW.PrintWords Go.Proofs.YtpleiklodomgiaaGreatDoorW.PrintLast Go.Proofs.YtpleiklodomgiaaGreatDoorW.PrintMore Go.Proofs.YtpleiklodomgiaaGreatDoor.B Go.Proofs.YtpleiklodomgiaaGreatDoor.PModelIs Go.Proofs.YtpleiklodomgiaaGreatDoor.CQ
def entC (xs : List Ent) : List Value := xs.flatMap Ent.cells
theorem entC_len : ∀ xs : List Ent, (entC xs).length = xs.length * 3
 | [] => rfl
 | x :: xs => by
  have ih := entC_len xs
  unfold entC at *
  rw [List.flatMap_cons, List.length_append, ih, List.length_cons]
  show 3 + _ = _
  omega
theorem entC_app (xs ys : List Ent) : entC (xs ++ ys) = entC xs ++ entC ys := by unfold entC; rw [List.flatMap_append]
theorem entC_cons (x : Ent) (xs : List Ent) : entC (x :: xs) = x.cells ++ entC xs := by unfold entC; rw [List.flatMap_cons]
theorem entC_get : ∀ (xs : List Ent) (i r : Nat) (x : Ent), r < 3 → xs[i]? = some x → (entC xs)[i * 3 + r]? = x.cells[r]?
 | [], _, _, _, _, h => by simp at h
 | y :: xs, 0, r, x, hr, h => by
  simp only [List.getElem?_cons_zero, Option.some.injEq] at h
  subst h
  rw [entC_cons, List.getElem?_append_left (by show _ < 3; omega)]
  congr 1
  omega
 | y :: xs, i + 1, r, x, hr, h => by
  have ih := entC_get xs i r x hr (by simpa using h)
  rw [entC_cons, List.getElem?_append_right (by show 3 ≤ _; omega), show (i + 1) * 3 + r - y.cells.length = i * 3 + r by show (i + 1) * 3 + r - 3 = _; omega]
  exact ih
theorem entC_inv (xs : List Ent) (j : Nat) (u : Value) (h : (entC xs)[j]? = some u) : ∃ x, xs[j / 3]? = some x ∧ x.cells[j % 3]? = some u := by
 have hj : j < xs.length * 3 := by
  rw [← entC_len]
  rcases Nat.lt_or_ge j (entC xs).length with h1 | h1
  ·exact h1
  ·rw [List.getElem?_eq_none h1] at h; cases h
 have hi : j / 3 < xs.length := by omega
 refine ⟨xs[j / 3], List.getElem?_eq_getElem hi, ?_⟩
 have h2 := entC_get xs (j / 3) (j % 3) xs[j / 3] (by omega) (List.getElem?_eq_getElem hi)
 rw [show j / 3 * 3 + j % 3 = j by omega, h] at h2
 exact h2.symm
theorem cells_one (x : Ent) : ∀ v ∈ x.cells, v.oneCell' = true := by
 intro v hv
 unfold Ent.cells at hv
 simp only [List.mem_cons, List.not_mem_nil, or_false] at hv
 rcases hv with rfl | rfl | rfl <;> rfl
theorem entC_one (xs : List Ent) : ∀ u ∈ entC xs, u.oneCell' = true := by
 intro u hu
 unfold entC at hu
 obtain ⟨x, _, hx⟩ := List.mem_flatMap.1 hu
 exact cells_one x u hx
theorem add_next (a : Addr) (k : Nat) (r : Nat) (hr : 0 < r) : a.add (k + r) = ⟨(a.add k).block, (a.add k).off + r, none⟩ := by
 unfold Addr.add
 rw [if_neg (by omega)]
 by_cases h : k = 0
 ·rw [if_pos h, h, Nat.zero_add]
 ·rw [if_neg h]; simp; omega
structure RowV (w : World) (A : Option Addr) (xs : List Ent) : Prop where
 nil : A = none → xs = []
 cells : ∀ a, A = some a → ∀ j u, (entC xs)[j]? = some u → w.cell? (a.add j) = some u
theorem RowV.below {w w' : World} {A : Option Addr} {xs : List Ent} (h : RowV w A xs) (hb : Below w.heap.size w w') : RowV w' A xs := ⟨h.nil, fun a ha j u hu => pw_cell_below hb (h.cells a ha j u hu)⟩
theorem RowV.grown {w w' : World} {A : Option Addr} {xs : List Ent} {row : Option Nat} (h : RowV w A xs) (hg : w.grownBy w' row) (hne : ∀ a, A = some a → some a.block ≠ row) : RowV w' A xs :=
 ⟨h.nil, fun a ha j u hu => hg.cell (h.cells a ha j u hu) (by rw [add_block]; exact hne a ha)⟩
theorem RowV.get {w : World} {A : Option Addr} {xs : List Ent} (h : RowV w A xs) (i : Nat) (hi : i < xs.length) :
  ∃ a, A = some a ∧ w.cell? (a.add (i * 3)) = some (.int .i64 xs[i].at_) ∧ w.cell? ⟨(a.add (i * 3)).block, (a.add (i * 3)).off + 1, none⟩ = some (.slice xs[i].A xs[i].ls.length xs[i].c) ∧ w.cell? ⟨(a.add (i * 3)).block, (a.add (i * 3)).off + 2, none⟩ = some (.string xs[i].line) := by
 cases A with
 | none => rw [h.nil rfl] at hi; simp at hi
 | some a =>
  have g := fun r hr => entC_get xs i r xs[i] hr (List.getElem?_eq_getElem hi)
  refine ⟨a, rfl, ?_, ?_, ?_⟩
  ·exact h.cells a rfl (i * 3) _ (g 0 (by omega))
  ·rw [← add_next a (i * 3) 1 (by omega)]; exact h.cells a rfl (i * 3 + 1) _ (g 1 (by omega))
  ·rw [← add_next a (i * 3) 2 (by omega)]; exact h.cells a rfl (i * 3 + 2) _ (g 2 (by omega))
theorem Ents.row {w : World} {A : Option Addr} {cap : Nat} {xs : List Ent} (h : Ents w A cap xs) : RowV w A xs := by
 refine ⟨h.nil, fun a ha j u hu => ?_⟩
 obtain ⟨x, hx, hc⟩ := entC_inv xs j u hu
 have hi : j / 3 < xs.length := by
  rcases Nat.lt_or_ge (j / 3) xs.length with h1 | h1
  ·exact h1
  ·rw [List.getElem?_eq_none h1] at hx; cases hx
 have e := h.at_ a ha (j / 3) hi
 rw [List.getElem?_eq_getElem hi] at hx
 rw [Option.some.inj hx] at e
 have hj : j = j / 3 * 3 + j % 3 := by omega
 have h3 : j % 3 = 0 ∨ j % 3 = 1 ∨ j % 3 = 2 := by omega
 rcases h3 with h3 | h3 | h3
 ·rw [h3] at hc hj
  rw [hj]; rw [show j / 3 * 3 + 0 = j / 3 * 3 by omega]
  rw [e.c0]; exact hc
 ·rw [h3] at hc hj
  rw [hj, add_next _ _ 1 (by omega), e.c1]; exact hc
 ·rw [h3] at hc hj
  rw [hj, add_next _ _ 2 (by omega), e.c2]; exact hc
theorem add_add' (a : Addr) (k j : Nat) : (a.add k).add j = a.add (k + j) := Go.Addr.add_add a k j
theorem RowV.drop {w : World} {a : Addr} {xs : List Ent} (h : RowV w (some a) xs) (k : Nat) : RowV w (some (a.add (k * 3))) (xs.drop k) := by
 refine ⟨fun e => (by cases e), fun b hb j u hu => ?_⟩
 cases hb
 rw [add_add']
 refine h.cells a rfl _ u ?_
 obtain ⟨x, hx, hc⟩ := entC_inv _ j u hu
 rw [List.getElem?_drop] at hx
 have := entC_get xs (k + j / 3) (j % 3) x (by omega) hx
 rw [show (k + j / 3) * 3 + j % 3 = k * 3 + j by omega] at this
 rw [this]; exact hc
theorem RowV.take {w : World} {A : Option Addr} {xs : List Ent} (h : RowV w A xs) (k : Nat) : RowV w A (xs.take k) := by
 refine ⟨fun e => by rw [h.nil e]; simp, fun a ha j u hu => h.cells a ha j u ?_⟩
 obtain ⟨x, hx, hc⟩ := entC_inv _ j u hu
 have hx2 : xs[j / 3]? = some x := by
  rw [List.getElem?_take] at hx
  split at hx
  ·exact hx
  ·cases hx
 have := entC_get xs (j / 3) (j % 3) x (by omega) hx2
 rw [show j / 3 * 3 + j % 3 = j by omega] at this
 rw [this]; exact hc
def OwnE (w : World) (base : Nat) (v : Value) (xs : List Ent) : Prop := w.ownsRow base 26 3 v xs.length (entC xs)
theorem OwnE.row {w : World} {base : Nat} {v : Value} {xs : List Ent} (h : OwnE w base v xs) : ∃ A c, v = .slice A xs.length c ∧ xs.length ≤ c ∧ RowV w A xs ∧ (∀ a, A = some a → base ≤ a.block ∧ a.block < w.heap.size ∧ a.off = 0 ∧ a.spot = none) := by
 rcases h.2 with ⟨rfl, h0⟩ | ⟨g, cap, cur, rfl, hb, hg, h1, h2, h3, h4⟩
 ·exact ⟨none, 0, by rw [h0], by omega, ⟨fun _ => List.eq_nil_of_length_eq_zero h0, fun a ha => (by cases ha)⟩, fun a ha => (by cases ha)⟩
 ·refine ⟨_, cap, rfl, h1, ⟨fun e => (by cases e), fun a ha j u hu => ?_⟩, fun a ha => ?_⟩
  ·cases ha
   exact h.cells (g := g) rfl j u hu
  ·cases ha
   exact ⟨hb, blk_lt hg, rfl, rfl⟩
theorem OwnE.nil (w : World) (base : Nat) : OwnE w base (.slice none 0 0) [] := ⟨rfl, .inl ⟨rfl, rfl⟩⟩
theorem OwnE.kept {w w' : World} {base : Nat} {v : Value} {xs : List Ent} {row : Option Nat} (h : OwnE w base v xs) (hg : w.grownBy w' row) (hr : v.ownBlock = none ∨ v.ownBlock ≠ row) : OwnE w' base v xs := World.ownsRow.kept h hg hr
theorem OwnE.below {w w' : World} {base : Nat} {v : Value} {xs : List Ent} (h : OwnE w base v xs) (hb : Below w.heap.size w w') : OwnE w' base v xs := by
 refine h.kept (grown_of_below hb none) ?_
 cases h' : v.ownBlock with
 | none => exact .inl rfl
 | some k => exact .inr (by simp)
theorem infoE3 : ∃ i0, Tryz.prog.info? 26 = some i0 ∧ i0.zero = some (.agg #[.int .i64 0, .slice none 0 0, .string ⟨#[]⟩]) ∧ i0.size = 3 ∧ i0.bytes = 48 := by
 obtain ⟨i0, hi, hp⟩ := Option.map_eq_some_iff.1 infoE
 have hp2 := (Prod.mk.injEq .. ▸ hp).2
 exact ⟨i0, hi, (Prod.mk.injEq .. ▸ hp).1, (Prod.mk.injEq .. ▸ hp2).1, (Prod.mk.injEq .. ▸ hp2).2⟩
theorem app_own (base : Nat) (w : World) (v : Value) (xs : List Ent) (A : Option Addr) (ys : List Ent) (c : Nat) (h : OwnE w base v xs) (hR : RowV w A ys) (hb : base ≤ w.heap.size) (hl : xs.length + ys.length ≤ 100000) :
  ∃ v' w', (∀ ty, (Builtin.append_ #[39, 39] ty #[v, .slice A ys.length c]).run Tryz.prog w = .ok v' w') ∧ OwnE w' base v' (xs ++ ys) ∧ w.grownBy w' v.ownBlock ∧ (v ≠ .slice none 0 0 → v' ≠ .slice none 0 0) ∧ (v'.ownBlock = v.ownBlock ∨ v'.ownBlock = some w.heap.size) := by
 obtain ⟨i0, hi, hz0, hz1, hz2⟩ := infoE3
 have ht : ∀ t1 t2 (y : Value), Builtin.append_ #[39, 39] t1 #[v, y] = Builtin.append_ #[39, 39] t2 #[v, y] := fun _ _ _ => rfl
 cases A with
 | none =>
  have hy := hR.nil rfl
  subst hy
  refine ⟨v, w, fun ty => ?_, by rw [List.append_nil]; exact h, grown_refl _ _, fun e => e, .inl rfl⟩
  rw [ht ty 0]
  rcases h.2 with ⟨rfl, h0⟩ | ⟨g, cap, cur, rfl, hb, hg, h1, h2, h3, h4⟩
  ·simp [Builtin.append_, run_underlying Tryz.underlying39, sizeOf, typeInfo, hi, Builtin.lenOf, Builtin.firstCells, loadCells, loadCellsFrom]
  ·simp [Builtin.append_, run_underlying Tryz.underlying39, sizeOf, typeInfo, hi, Builtin.lenOf, Builtin.firstCells, loadCells, loadCellsFrom, h1, storeCells]
 | some a =>
  obtain ⟨v', w', h1, h2, h3, h4, h5⟩ := run_append_own_at (P := Tryz.prog) w base 39 0 26 i0 _ 3 48 Tryz.underlying39 hi hz0 hz1 hz2 rfl (by omega) v xs.length (entC xs) h a ys.length c (entC ys) (entC_len ys) (hR.cells a rfl) (entC_one ys) (by unfold maxLen; omega) (by omega) hb
  refine ⟨v', w', fun ty => (by rw [ht ty 0]; exact h1), ?_, h3, fun e e2 => e (h4.1 e2).1, h5⟩
  unfold OwnE
  rw [entC_app, List.length_append]; exact h2
theorem app_new (base : Nat) (w : World) (B : Option Addr) (xs : List Ent) (a : Addr) (ys : List Ent) (c : Nat) (hB : RowV w B xs) (hR : RowV w (some a) ys) (hy : 0 < ys.length) (hb : base ≤ w.heap.size) (hl : xs.length + ys.length ≤ 100000) :
  ∃ cap w', (∀ ty, (Builtin.append_ #[39, 39] ty #[.slice B xs.length xs.length, .slice (some a) ys.length c]).run Tryz.prog w = .ok (.slice (some ⟨w.heap.size, 0, none⟩) (xs ++ ys).length cap) w') ∧ OwnE w' base (.slice (some ⟨w.heap.size, 0, none⟩) (xs ++ ys).length cap) (xs ++ ys) ∧ w.grownBy w' none := by
 obtain ⟨i0, hi, hz0, hz1, hz2⟩ := infoE3
 have hzs : (Value.agg #[.int .i64 0, .slice none 0 0, .string ⟨#[]⟩]).cells.size = 3 := rfl
 have ht : ∀ t1 t2 (x y : Value), Builtin.append_ #[39, 39] t1 #[x, y] = Builtin.append_ #[39, 39] t2 #[x, y] := fun _ _ _ _ => rfl
 have grown : ∀ (old : Nat), old < xs.length + ys.length →
   OwnE (w.drew.alloc (.cells ((entC xs).toArray ++ (entC ys).toArray ++ Builtin.zeroCells (Value.agg #[.int .i64 0, .slice none 0 0, .string ⟨#[]⟩]).cells (grownCap w (xs.length + ys.length) old 26 - (xs.length + ys.length))) 26)) base
    (.slice (some ⟨w.heap.size, 0, none⟩) (xs ++ ys).length (grownCap w (xs.length + ys.length) old 26)) (xs ++ ys) ∧
   w.grownBy (w.drew.alloc (.cells ((entC xs).toArray ++ (entC ys).toArray ++ Builtin.zeroCells (Value.agg #[.int .i64 0, .slice none 0 0, .string ⟨#[]⟩]).cells (grownCap w (xs.length + ys.length) old 26 - (xs.length + ys.length))) 26)) none := by
  intro old ho
  have hge := grownCap_ge w (xs.length + ys.length) old 26
  have hcm : grownCap w (xs.length + ys.length) old 26 ≤ maxLen := grownCap_le_maxLen w (xs.length + ys.length) old 26 (by unfold maxLen; omega)
  refine ⟨⟨entC_len _, .inr ⟨w.heap.size, _, _, rfl, hb, heap_alloc_new w.drew _, by rw [List.length_append]; exact hge, hcm, ?_, ?_⟩⟩, ⟨rfl, rfl, rfl, by simp, fun k hk _ => Go.heap_alloc_old w.drew _ hk⟩⟩
  ·simp only [Array.size_append, List.size_toArray, size_zeroCells, hzs, entC_len]
   omega
  ·simp only [Array.toList_append, List.append_assoc]
   rw [← List.append_assoc, ← entC_app, ← entC_len]
   exact List.take_left
 cases B with
 | none =>
  have hx := hB.nil rfl
  subst hx
  have hr := run_append_nil (P := Tryz.prog) w 39 0 26 i0 _ Tryz.underlying39 hi hz0 a ys.length c (entC ys) (by rw [hz1]; exact entC_len ys) (hR.cells a rfl) hy (by have := hl; simp at this; omega) (by rw [hz2]; have := hl; simp at this; omega)
  have hg := grown 0 (by simpa using hy)
  simp only [List.length_nil, Nat.zero_add, List.nil_append, show entC [] = [] from rfl, Array.empty_append] at hg ⊢
  exact ⟨_, _, fun ty => (by rw [ht ty 0]; exact hr), hg.1, hg.2⟩
 | some b =>
  have hr := run_append_grow (P := Tryz.prog) w 39 0 26 i0 _ Tryz.underlying39 hi hz0 b xs.length xs.length (entC xs) (by rw [hz1]; exact entC_len xs) (hB.cells b rfl) a ys.length c (entC ys) (by rw [hz1]; exact entC_len ys) (hR.cells a rfl) (by omega) (by omega) (by rw [hz2]; exact growslice_fits (by omega) (by omega))
  have hg := grown xs.length (by omega)
  refine ⟨_, _, fun ty => (by rw [ht ty 0, List.length_append]; exact hr), hg.1, hg.2⟩
end Go.Proofs.YtpleiklodomgiaaGreatDoor.C
end
section
namespace Go.Proofs.YtpleiklodomgiaaGreatDoor.C
end Go.Proofs.YtpleiklodomgiaaGreatDoor.C
namespace Go.Proofs.YtpleiklodomgiaaGreatDoor.Y
open Go.RowKit Go.ChangeShapes Go.WideShapes Go.Deep Go.Proofs.YtpleiklodomgiaaGreatDoorW.PrintWords Go.Proofs.YtpleiklodomgiaaGreatDoorW.PrintLast Go.Proofs.YtpleiklodomgiaaGreatDoorW.PrintMore Go.Proofs.YtpleiklodomgiaaGreatDoor.B Go.Proofs.YtpleiklodomgiaaGreatDoor.C
structure Rw where
 A : Option Addr
 c : Nat
 xs : List Ent
instance : Inhabited Rw := ⟨⟨none, 0, []⟩⟩
structure Rws (w : World) (A : Option Addr) (cap : Nat) (rs : List Rw) : Prop where
 room : rs.length ≤ cap
 most : cap ≤ maxLen
 nil : A = none → rs = []
 at_ : ∀ a, A = some a → ∀ i (hi : i < rs.length), w.cell? (a.add i) = some (.slice rs[i].A rs[i].xs.length rs[i].c) ∧ Ents w rs[i].A rs[i].c rs[i].xs
theorem Rws.below {w w' : World} {A : Option Addr} {cap : Nat} {rs : List Rw} (h : Rws w A cap rs) (hb : Below w.heap.size w w') : Rws w' A cap rs := ⟨h.room, h.most, h.nil, fun a ha i hi => ⟨pw_cell_below hb (h.at_ a ha i hi).1, (h.at_ a ha i hi).2.below hb⟩⟩
theorem Rws.some {w : World} {A : Option Addr} {cap : Nat} {rs : List Rw} {i : Nat} (h : Rws w A cap rs) (hi : i < rs.length) : ∃ a, A = some a := by
 cases A with
 | none => rw [h.nil rfl] at hi; simp at hi
 | some a => exact ⟨a, rfl⟩
section
variable {H : Type} {enc : TypeId × Value → H} {w : World} {base : Nat} {spare : Nat → Bool} {held : Bool}
theorem open_rowsE {fuel : Nat} {cs : List Value} {x : DataW H × List MemPlace} (h : DataW.trod enc Tryz.prog w base spare held fuel 23 cs = some x) :
  ∃ (A : Option Addr) (cap : Nat) (rs : List Rw), cs = [.slice A rs.length cap] ∧ Rws w A cap rs := by
 have hC : Tryz.prog.cellsOf 39 = 1 := by kernel_rfl
 rcases open_slice Tryz.underlying23 h with ⟨rfl, rfl⟩ | ⟨a, len, cap, m, n, D, Pl, rfl, hb, hl, hm, hmm, hx, hi⟩
 ·exact ⟨none, 0, [], rfl, Nat.le_refl _, Nat.zero_le _, fun _ => rfl, fun a h => (by cases h)⟩
 ·obtain ⟨rs, rfl, hrs⟩ := Op.list_of (α := Rw) (n := len) (p := fun i r => w.cell? (a.add i) = some (.slice r.A r.xs.length r.c) ∧ Ents w r.A r.c r.xs) (fun i hil => by
   have him : i < m := by rw [hmm]; split <;> omega
   obtain ⟨cs', hc, hd⟩ := hi i him
   rw [hC] at hc
   obtain ⟨B, cp, xs, rfl, hE⟩ := open_entries hd
   obtain ⟨_, _, hat⟩ := World.cells?_some hc
   have h0 := hat 0 (by decide)
   rw [Go.Addr.add_add, Nat.mul_one, Nat.add_zero] at h0
   exact ⟨⟨B, cp, xs⟩, h0, hE⟩)
  refine ⟨some a, cap, rs, rfl, hl, hm, fun h => (by cases h), fun a' h i hi => ?_⟩
  cases h
  exact hrs i hi
end
def greatR (n : Nat) (rs : List Rw) : Bool := decide ((300 : Int) < (n : Int)) || (decide ((6 : Int) < (rs.length : Int)) || rs.any fun r => manyB r.xs 60)
theorem w64y (n : Int) (h : 0 ≤ n ∧ n ≤ 9223372036854775807) : wrap64 n = n := by unfold wrap64; omega
set_option maxRecDepth 20000 in
set_option maxHeartbeats 2000000 in
theorem great_m (A0 : Option Addr) (n c0 : Nat) (A : Option Addr) (cap : Nat) (rs : List Rw) (w : World) (hR : Rws w A cap rs) :
  Calls Tryz.prog 6 #[.slice A0 n c0, .slice A rs.length cap] w fun e w' => e = .returned (.bool (greatR n rs)) ∧ Below w.heap.size w w' := by
 have HR := Aside0.mk hR
 clear hR
 unfold greatR
 by_cases h1 : (300 : Int) < (n : Int)
 ·rw [decide_eq_true h1, Bool.true_or]
  have d1 : decide ((300 : Int) < (n : Int)) = true := decide_eq_true h1
  clear h1
  go_enter Tryz.func6, Tryz.ntmps6
  go_wp2
  go_ret
  exact ⟨rfl, Below.refl _ _⟩
 have d1 : decide ((300 : Int) < (n : Int)) = false := decide_eq_false h1
 rw [d1, Bool.false_or]
 by_cases h2 : (6 : Int) < (rs.length : Int)
 ·rw [decide_eq_true h2, Bool.true_or]
  have d2 : decide ((6 : Int) < (rs.length : Int)) = true := decide_eq_true h2
  clear h1 h2
  go_enter Tryz.func6, Tryz.ntmps6
  go_wp2
  go_ret
  exact ⟨rfl, Below.refl _ _⟩
 have d2 : decide ((6 : Int) < (rs.length : Int)) = false := decide_eq_false h2
 rw [d2, Bool.false_or]
 have HN : Aside0 (rs.length ≤ 6) := ⟨by omega⟩
 clear h1 h2
 go_enter Tryz.func6, Tryz.ntmps6
 go_wp2
 clear d1 d2
 go_loopw [17] (fun t17 wr => ∃ (i : Nat), i ≤ rs.length ∧ t17 = .int .i64 (i : Int) ∧ Aside0 (Below w.heap.size w wr) ∧ Aside0 ((rs.any fun r => manyB r.xs 60) = ((rs.drop i).any fun r => manyB r.xs 60))) (fun t17 _ => rs.length - (intOf t17).toNat)
 case atStart => exact ⟨0, Nat.zero_le _, rfl, ⟨Below.refl _ _⟩, ⟨rfl⟩⟩
 case round =>
  obtain ⟨i, hi, rfl, HB, HD⟩ := hrel
  by_cases hlt : i < rs.length
  ·obtain ⟨a, rfl⟩ := HR.out.some hlt
   obtain ⟨k0, hE⟩ := (HR.out.below HB.out).at_ a rfl i hlt
   obtain ⟨r, hr⟩ : ∃ r, r = rs[i] := ⟨_, rfl⟩
   rw [← hr] at k0 hE
   have HD2 : Aside0 ((rs.any fun r => manyB r.xs 60) = (manyB r.xs 60 || (rs.drop (i + 1)).any fun r => manyB r.xs 60)) := ⟨by rw [HD.out, List.drop_eq_getElem_cons hlt, List.any_cons, hr]⟩
   obtain ⟨g, hg⟩ : ∃ g, g = manyB r.xs 60 := ⟨_, rfl⟩
   have HM : Aside0 (Calls Tryz.prog 17 #[.slice r.A r.xs.length r.c, .int .i64 60] wr fun e w' => e = .returned (.bool g) ∧ Below wr.heap.size wr w') := ⟨by rw [hg]; exact many_any r.A r.c r.xs 60 wr hE⟩
   rw [← hg] at HD2
   have Hlt := Aside0.mk hlt
   clear hr hg hE HD
   go_wp2_with fail
   ((refine (HM.out).mono ?_); rintro e w2 ⟨rfl, hb2⟩)
   have HB := Aside0.mk (below_step HB.out hb2)
   clear hb2 HM k0
   cases g with
   | true =>
    go_wp2
    go_ret
    exact ⟨by rw [HD2.out]; rfl, HB.out⟩
   | false =>
    rw [Bool.false_or] at HD2
    go_wp2
    go_roundw
    case rel => exact ⟨i + 1, by have := Hlt.out; omega, by rw [w64y _ (by have := Hlt.out; have := HN.out; omega)]; rfl, HB, HD2⟩
    case measure => have h1 := Hlt.out; have h2 := HN.out; rw [w64y _ (by omega)]; simp [intOf]; omega
  ·obtain rfl : i = rs.length := by omega
   go_wp2
   go_ret
   exact ⟨by rw [HD.out, List.drop_length]; rfl, HB.out⟩
structure RowsV (w : World) (A : Option Addr) (rs : List Rw) : Prop where
 nil : A = none → rs = []
 cells : ∀ a, A = some a → ∀ i (hi : i < rs.length), w.cell? (a.add i) = some (.slice rs[i].A rs[i].xs.length rs[i].c)
 rows : ∀ r ∈ rs, RowV w r.A r.xs ∧ ∀ y ∈ r.xs, y.In w ∧ y.line.size ≤ 1000
 few : rs.length ≤ 10 ∧ ∀ r ∈ rs, r.xs.length ≤ 1000
theorem RowsV.below {w w' : World} {A : Option Addr} {rs : List Rw} (h : RowsV w A rs) (hb : Below w.heap.size w w') : RowsV w' A rs :=
 ⟨h.nil, fun a ha i hi => pw_cell_below hb (h.cells a ha i hi), fun r hr => ⟨(h.rows r hr).1.below hb, fun y hy => ⟨⟨Kd.C_below ((h.rows r hr).2 y hy).1.lies hb, ((h.rows r hr).2 y hy).1.cap, ((h.rows r hr).2 y hy).1.few⟩, ((h.rows r hr).2 y hy).2⟩⟩, h.few⟩
theorem RowsV.some {w : World} {A : Option Addr} {rs : List Rw} {i : Nat} (h : RowsV w A rs) (hi : i < rs.length) : ∃ a, A = some a := by
 cases A with
 | none => rw [h.nil rfl] at hi; simp at hi
 | some a => exact ⟨a, rfl⟩
theorem Rws.read {w : World} {A : Option Addr} {cap n : Nat} {rs : List Rw} (h : Rws w A cap rs) (hg : greatR n rs = false) : n ≤ 300 ∧ rs.length ≤ 6 ∧ RowsV w A rs ∧ ∀ r ∈ rs, r.xs.length ≤ 60 := by
 unfold greatR at hg
 rw [Bool.or_eq_false_iff, Bool.or_eq_false_iff, decide_eq_false_iff_not, decide_eq_false_iff_not] at hg
 obtain ⟨h1, h2, h3⟩ := hg
 have hm : ∀ r ∈ rs, r.xs.length ≤ 60 ∧ ∀ y ∈ r.xs, greatB y.key = false := fun r hr => by
  have h4 := List.any_eq_false.1 h3 r hr
  unfold manyB at h4
  rw [Bool.not_eq_true, Bool.or_eq_false_iff, decide_eq_false_iff_not] at h4
  exact ⟨by omega, fun y hy => by have := List.any_eq_false.1 h4.2 y hy; simpa using this⟩
 refine ⟨by omega, by omega, ⟨h.nil, fun a ha i hi => (h.at_ a ha i hi).1, fun r hr => ?_, by omega, fun r hr => by have := (hm r hr).1; omega⟩, fun r hr => (hm r hr).1⟩
 obtain ⟨i, hi, rfl⟩ := List.getElem_of_mem hr
 obtain ⟨a, ha⟩ := h.some hi
 have hE := (h.at_ a ha i hi).2
 refine ⟨hE.row, fun y hy => ?_⟩
 obtain ⟨j, hj, rfl⟩ := List.getElem_of_mem hy
 obtain ⟨a2, ha2⟩ := hE.some hj
 have hf := great_few ((hm _ hr).2 _ hy)
 exact ⟨(hE.at_ a2 ha2 j hj).raw.in_ (Nat.le_trans hf.1 (by decide)), hf.2.1⟩
end Go.Proofs.YtpleiklodomgiaaGreatDoor.Y
end
section
namespace Go.Proofs.YtpleiklodomgiaaGreatDoor.C
open Go.RowKit Go.Shelf Go.Sort Go.Proofs.YtpleiklodomgiaaGreatDoorW.PrintWords Go.Proofs.YtpleiklodomgiaaGreatDoorW.PrintLast Go.Proofs.YtpleiklodomgiaaGreatDoorW.PrintMore Go.Proofs.YtpleiklodomgiaaGreatDoor.B Go.Proofs.YtpleiklodomgiaaGreatDoor.PModelIs Go.Proofs.YtpleiklodomgiaaGreatDoor.CQ
theorem clone_row (w : World) (a : Addr) (xs : List Ent) (c : Nat) (hR : RowV w (some a) xs) (hl : xs.length ≤ 100000) :
  Calls Tryz.prog 27 #[.slice (some a) xs.length c] w fun e w' => ∃ v', e = .returned v' ∧ OwnE w' w.heap.size v' xs ∧ v' ≠ .slice none 0 0 ∧ Below w.heap.size w w' := by
 obtain ⟨i0, hi, hz0, hz1, hz2⟩ := infoE3
 have q22 : ∀ (w : World) (a : Option Addr) (n c n' c' : Nat), (binOp .eql 39 (.slice a n c) (.slice none n' c')).run Tryz.prog w = .ok (.bool a.isNone) w := fun w a n c n' c' => Lib.run_eql_slice_nil w _ _ a n c n' c' Tryz.underlying39
 have HR := Aside0.mk hR
 clear hR
 go_enter Tryz.func27, Tryz.ntmps27
 go_wp2_with (at_builtin; refine wpList_append_own _ rfl _ _ 39 rfl w.heap.size 26 i0 _ 3 48 Tryz.underlying39 hi hz0 hz1 hz2 rfl (by omega) _ _ _ rfl (World.ownsRow_made w #[] 0 (Nat.le_refl _) (Nat.zero_le _) (by simp)) a xs.length c (entC xs) rfl ?qc1 ?qc2 ?qc3 ?qc4 ?qc5 ?qc6 ?_)
 case qc1 => exact entC_len xs
 case qc2 =>
  intro j u hj
  exact Lib.cell?_alloc_some _ (HR.out.cells a rfl j u hj)
 case qc3 => exact entC_one xs
 case qc4 => rw [Nat.zero_add]; unfold maxLen; omega
 case qc5 => rw [Nat.zero_add]; omega
 case qc6 => simp
 intro v' w1 hown hgrow hnil
 go_wp2
 go_ret
 refine ⟨v', rfl, by unfold OwnE; simpa using hown, ?_, ?_⟩
 ·exact hnil
 ·exact ((Below.refl _ w).alloc (Nat.le_refl _) _).grown hgrow (by simp) (by intro k hk; simp [Value.ownBlock] at hk; omega)
def valOf {w : World} (x : EntIn w) : Ent := x.1
theorem lift_in {w : World} : ∀ {xs : List Ent}, (∀ x ∈ xs, x.In w) → ∃ l : List (EntIn w), l.map valOf = xs
 | [], _ => ⟨[], rfl⟩
 | x :: xs, h => by
  obtain ⟨l, hl⟩ := lift_in (xs := xs) (fun y hy => h y (List.mem_cons_of_mem _ hy))
  exact ⟨(⟨x, h x (List.mem_cons_self ..)⟩ : EntIn w) :: l, congrArg (x :: ·) hl⟩
theorem entC_flat {w : World} : ∀ l : List (EntIn w), entC (l.map valOf) = flatE l
 | [] => rfl
 | x :: l => by
  have ih := entC_flat l
  unfold entC flatE at *
  rw [List.map_cons, List.flatMap_cons, List.flatMap_cons, ih]; rfl
theorem keys_flat {w : World} (l : List (EntIn w)) : l.map keyOf = (l.map valOf).map Ent.key := by rw [List.map_map]; rfl
theorem own_holds {w0 w' : World} {v' : Value} (l : List (EntIn w0)) (hown : OwnE w' w0.heap.size v' (l.map valOf)) (hne : v' ≠ .slice none 0 0) :
  ∃ g cap, v' = .slice (some ⟨g, 0, none⟩) l.length cap ∧ w0.heap.size ≤ g ∧ g < w'.heap.size ∧ l.length ≤ cap ∧ HoldsK enc 3 w' g 0 l.toArray := by
 unfold OwnE at hown
 rw [List.length_map, entC_flat] at hown
 obtain ⟨hl, hv | ⟨g, cap, cur, rfl, hg0, hg, hc1, hc2, hsz, htk⟩⟩ := hown
 ·exact absurd hv.1 hne
 ·have hown : w'.ownsRow w0.heap.size 26 3 (.slice (some ⟨g, 0, none⟩) l.length cap) l.length (flatE l) := ⟨hl, Or.inr ⟨g, cap, cur, rfl, hg0, hg, hc1, hc2, hsz, htk⟩⟩
  refine ⟨g, cap, rfl, hg0, blk_lt hg, hc1, fun t ht => ?_⟩
  rw [size_flatK, List.size_toArray] at ht
  rw [Nat.zero_add, hown.cellAt t ht, get_flatK _ _ _ _ (by rw [List.size_toArray]; exact ht)]
  refine ⟨?_, hown.frozenAt t⟩
  have h2 := flatE_get l (t / 3) (t % 3) l[t / 3] (by omega) (List.getElem?_eq_getElem (by omega))
  rw [show t / 3 * 3 + t % 3 = t by omega] at h2
  rw [h2]
  have e : l.toArray[t / 3]! = l[t / 3] := by rw [getElem!_pos l.toArray (t / 3) (by rw [List.size_toArray]; omega)]; rfl
  rw [e]
  rfl
theorem rowE_row {w0 W : World} (g : Nat) (r : List (EntIn w0)) (h : RowE W g 0 r) : RowV W (some ⟨g, 0, none⟩) (r.map valOf) := by
 refine ⟨fun e => (by cases e), fun a ha j u hu => ?_⟩
 cases ha
 rw [entC_flat] at hu
 obtain ⟨x, hx, rfl⟩ := flatE_inv r j u hu
 obtain ⟨h0, h1, h2⟩ := h _ x hx
 rw [add_at, Nat.zero_add]
 have h3 : j % 3 = 0 ∨ j % 3 = 1 ∨ j % 3 = 2 := by omega
 rcases h3 with h3 | h3 | h3
 ·rw [h3]; rw [show 0 + j / 3 * 3 = j by omega] at h0; exact h0
 ·rw [h3]; rw [show 0 + j / 3 * 3 + 1 = j by omega] at h1; exact h1
 ·rw [h3]; rw [show 0 + j / 3 * 3 + 2 = j by omega] at h2; exact h2
theorem len0 (w : World) : Calls Tryz.prog 55 #[.int .u64 0] w fun e w' => e = .returned (.int .i64 0) ∧ w' = w := by
 have h := Any.bits_Len (Go.Proofs.SlLaysF0.n15.bits (P := Tryz.prog) (ρ := Tryz.sortEnt_ren) { Tryz.sortEnt with }) 0 w (by omega) (by omega)
 exact h
theorem ins0 (A : Option Addr) (c : Nat) (f : Value) (w : World) : Calls Tryz.prog 70 #[.slice A 0 c, .int .i64 0, .int .i64 0, f] w fun e w' => e = .returned (.tuple #[]) ∧ w' = w := by
 go_enter Tryz.func70, Tryz.ntmps70
 go_wp2
 go_loopw [8] (fun t8 wr => t8 = .int .i64 1 ∧ wr = w) (fun _ _ => 0)
 case atStart => exact ⟨rfl, rfl⟩
 case round =>
  obtain ⟨rfl, rfl⟩ := hrel
  go_wp2
  go_end0
  exact ⟨rfl, rfl⟩
theorem pdq0 (A : Option Addr) (c : Nat) (f : Value) (w : World) : Calls Tryz.prog 54 #[.slice A 0 c, .int .i64 0, .int .i64 0, .int .i64 0, f] w fun e w' => e = .returned (.tuple #[]) ∧ w' = w := by
 go_enter Tryz.func54, Tryz.ntmps54
 go_wp2
 go_loopw [1, 2] (fun t1 t2 wr => t1 = .int .i64 0 ∧ t2 = .int .i64 0 ∧ wr = w) (fun _ _ _ => 0)
 case atStart => exact ⟨rfl, rfl, rfl⟩
 case round =>
  obtain ⟨rfl, rfl, rfl⟩ := hrel
  go_wp2_with fail
  ((refine (ins0 A c f _).mono ?_); rintro e w1 ⟨rfl, rfl⟩)
  go_wp2
  refine bodyPost_ret (results_none rfl _ _ _) rfl ?_
  exact ⟨rfl, rfl⟩
theorem sortfunc0 (A : Option Addr) (c : Nat) (f : Value) (w : World) : Calls Tryz.prog 36 #[.slice A 0 c, f] w fun e w' => e = .returned (.tuple #[]) ∧ w' = w := by
 go_enter Tryz.func36, Tryz.ntmps36
 go_wp2_with fail
 ((refine (len0 _).mono ?_); rintro e w1 ⟨rfl, rfl⟩)
 go_wp2_with fail
 ((refine (pdq0 A c f _).mono ?_); rintro e w1 ⟨rfl, rfl⟩)
 go_wp2
 go_end0
 exact ⟨rfl, rfl⟩
theorem compact0 (A : Option Addr) (c : Nat) (f : Value) (w : World) : Calls Tryz.prog 37 #[.slice A 0 c, f] w fun e w' => e = .returned (.slice A 0 c) ∧ w' = w := by
 go_enter Tryz.func37, Tryz.ntmps37
 go_wp2
 go_ret
 exact ⟨rfl, rfl⟩
theorem sort_nil {w : World} (desc : Bool) (c : Nat) :
  Calls Tryz.prog 24 #[.bool desc, .slice none 0 c] w fun e w' => e = .returned (.slice none 0 0) ∧ Below w.heap.size w w' := by
 have HCl : Aside0 (Calls Tryz.prog 27 #[.slice none 0 c] w fun e w' => e = .returned (.slice none 0 0) ∧ w' = w) := ⟨AnyE.slices_Clone_nil Tryz.cloneEnt 0 c w⟩
 go_enter Tryz.func24, Tryz.ntmps24
 go_wp2_with fail
 ((refine (HCl.out).mono ?_); rintro e w1 ⟨rfl, rfl⟩)
 go_wp2_with fail
 ((refine (order_any desc _).mono ?_); rintro e w2 ⟨rfl, rfl⟩)
 go_wp2_with fail
 ((refine (sortfunc0 none 0 _ _).mono ?_); rintro e w3 ⟨rfl, rfl⟩)
 go_wp2_with fail
 ((refine (compact0 none 0 _ _).mono ?_); rintro e w4 ⟨rfl, rfl⟩)
 go_wp2
 go_ret
 exact ⟨rfl, Below.refl _ _⟩
theorem once_in {α : Type} [Inhabited α] (eq : α → α → Bool) (d : Array α) : ∀ (m : Nat) (x : α), x ∈ once eq d m → ∃ i, i < m ∧ x = d[i]!
 | 0, x, h => by simp [once] at h
 | m + 1, x, h => by
  simp only [once] at h
  split at h
  ·obtain ⟨i, hi, e⟩ := once_in eq d m x h
   exact ⟨i, by omega, e⟩
  ·rcases List.mem_append.1 h with h | h
   ·obtain ⟨i, hi, e⟩ := once_in eq d m x h
    exact ⟨i, by omega, e⟩
   ·exact ⟨m, by omega, List.mem_singleton.1 h⟩
set_option maxRecDepth 20000 in
theorem sort_some {w0 : World} (desc : Bool) (l : List (EntIn w0)) (a : Addr) (c : Nat) (hrow : RowV w0 (some a) (l.map valOf)) (hm : l.length ≤ 100000) :
  Calls Tryz.prog 24 #[.bool desc, .slice (some a) l.length c] w0 fun e w' => ∃ g cap, ∃ r : List (EntIn w0), e = .returned (.slice (some ⟨g, 0, none⟩) r.length cap) ∧ w0.heap.size ≤ g ∧ r.length ≤ cap ∧ r.length ≤ l.length ∧ RowE w' g 0 r ∧ Below w0.heap.size w0 w' ∧ Up (cmpO desc) (r.map keyOf) ∧ (∀ k, k ∈ r.map keyOf ↔ k ∈ l.map keyOf) ∧ ∀ x ∈ r, x ∈ l := by
 have HCl : Aside0 (Calls Tryz.prog 27 #[.slice (some a) l.length c] w0 fun e w' => ∃ g cap, e = .returned (.slice (some ⟨g, 0, none⟩) l.length cap) ∧ w0.heap.size ≤ g ∧ g < w'.heap.size ∧ l.length ≤ cap ∧ HoldsK enc 3 w' g 0 l.toArray ∧ Below w0.heap.size w0 w') := ⟨by
  have h := clone_row w0 a (l.map valOf) c hrow (by rw [List.length_map]; exact hm)
  rw [List.length_map] at h
  refine h.mono fun e w' ⟨v', h1, h2, h3, h4⟩ => ?_
  obtain ⟨g, cap, rfl, k1, k2, k3, k4⟩ := own_holds l h2 h3
  exact ⟨g, cap, h1, k1, k2, k3, k4, h4⟩⟩
 have HM := Aside0.mk hm
 clear hrow hm
 go_enter Tryz.func24, Tryz.ntmps24
 go_wp2_with fail
 ((refine (HCl.out).mono ?_); rintro e w1 ⟨g, cap, rfl, hg0, hg1, hcap, hH, hB⟩)
 have HG0 := Aside0.mk hg0
 have HG1 := Aside0.mk hg1
 have HCap := Aside0.mk hcap
 have HH := Aside0.mk hH
 have HB := Aside0.mk hB
 clear hg0 hg1 hcap hH hB HCl
 go_wp2_with fail
 ((refine (order_any desc _).mono ?_); rintro e w2 ⟨rfl, rfl⟩)
 go_wp2_with fail
 ((refine (sortfunc_any desc l g cap HM.out HB.out HG0.out HG1.out HH.out).mono ?_); rintro e w3 ⟨rfl, d, hsz, hp, hs, hH3, hB3, hg3⟩)
 have HS := Aside0.mk hsz
 have HP := Aside0.mk hp
 have HSo := Aside0.mk hs
 have HC := compact_any (w := w3) g 0 cap d hB3 HG0.out hg3 hH3 (by rw [hsz]; have := HM.out; omega) (by rw [hsz]; exact HCap.out)
 rw [hsz] at HC
 have HC := Aside0.mk HC
 clear hsz hp hs hH3 hB3 hg3 HH HB HG1
 go_wp2_with fail
 ((refine HC.out.mono ?_); rintro e w4 ⟨rfl, hB4, hrow4⟩)
 have HB4 := Aside0.mk hB4
 have HR4 := Aside0.mk hrow4
 clear hB4 hrow4
 go_wp2_with fail
 go_ret
 have hl := once_len eqE d l.length
 have hs := HS.out
 refine ⟨g, cap, once eqE d l.length, rfl, HG0.out, Nat.le_trans hl HCap.out, hl, HR4.out, HB4.out, once_up d (cmpO_c desc) (fun i j h1 h2 => Int.not_lt.2 (HSo.out i j h1 h2)) _ (by omega), (fun k => ?_), (fun x hx => ?_)⟩
 rotate_left
 ·obtain ⟨i, hi, rfl⟩ := once_in eqE d _ x hx
  exact HP.out.mem_iff.1 (by rw [getElem!_pos d i (by omega)]; exact Array.mem_toList_iff.2 (Array.getElem_mem (by omega)))
 rw [once_mem d _ (by omega)]
 rw [List.mem_map]
 constructor
 ·rintro ⟨i, hi, rfl⟩
  refine ⟨d[i]!, HP.out.mem_iff.1 ?_, rfl⟩
  rw [getElem!_pos d i (by omega)]
  exact Array.mem_toList_iff.2 (Array.getElem_mem (by omega))
 ·rintro ⟨x, hx, rfl⟩
  have hx2 := HP.out.mem_iff.2 hx
  obtain ⟨i, hi, rfl⟩ := Array.mem_iff_getElem.1 (Array.mem_toList_iff.1 hx2)
  exact ⟨i, by omega, by rw [getElem!_pos d i hi]⟩
def SortsTo (w : World) (desc : Bool) (xs : List Ent) (e : Ending) (w' : World) : Prop :=
 ∃ A' c' ys, e = .returned (.slice A' (List.length ys) c') ∧ ys.length ≤ c' ∧ RowV w' A' ys ∧ (∀ y ∈ ys, y ∈ xs) ∧ Below w.heap.size w w' ∧ ys.length ≤ xs.length ∧ Up (cmpO desc) (ys.map Ent.key) ∧ ∀ k, k ∈ ys.map Ent.key ↔ k ∈ xs.map Ent.key
theorem sort_gen {w : World} (desc : Bool) (A : Option Addr) (xs : List Ent) (c : Nat) (hR : RowV w A xs) (hI : ∀ x ∈ xs, x.In w) (hl : xs.length ≤ 100000) :
  Calls Tryz.prog 24 #[.bool desc, .slice A xs.length c] w (SortsTo w desc xs) := by
 cases A with
 | none =>
  obtain rfl := hR.nil rfl
  exact (sort_nil desc c).mono fun e w' ⟨h1, h2⟩ => ⟨none, 0, [], h1, Nat.le_refl _, ⟨fun _ => rfl, fun a ha => (by cases ha)⟩, by simp, h2, Nat.le_refl _, List.Pairwise.nil, fun k => Iff.rfl⟩
 | some a =>
  obtain ⟨l, rfl⟩ := lift_in hI
  rw [List.length_map] at hl
  have h := sort_some desc l a c hR hl
  rw [List.length_map]
  refine h.mono fun e w' ⟨g, cap, r, h1, h2, h3, h4, h5, h6, h7, h8, h9⟩ => ⟨some ⟨g, 0, none⟩, cap, r.map valOf, by rw [List.length_map]; exact h1, by rw [List.length_map]; exact h3, rowE_row g r h5, fun y hy => ?_, h6, by rw [List.length_map, List.length_map]; exact h4, by rw [← keys_flat]; exact h7, fun k => by rw [← keys_flat, ← keys_flat]; exact h8 k⟩
  obtain ⟨z, hz, rfl⟩ := List.mem_map.1 hy
  exact List.mem_map_of_mem (h9 z hz)
end Go.Proofs.YtpleiklodomgiaaGreatDoor.C
end
section
namespace Go.Proofs.YtpleiklodomgiaaGreatDoor.C
open Go.RowKit Go.Proofs.YtpleiklodomgiaaGreatDoorW.PrintWords Go.Proofs.YtpleiklodomgiaaGreatDoorW.PrintLast Go.Proofs.YtpleiklodomgiaaGreatDoorW.PrintMore Go.Proofs.YtpleiklodomgiaaGreatDoor.B Go.Proofs.YtpleiklodomgiaaGreatDoor.Reg Go.Proofs.YtpleiklodomgiaaGreatDoor.PModelIs Go.Proofs.YtpleiklodomgiaaGreatDoor.CQ Go.Proofs.YtpleiklodomgiaaGreatDoor.Vi Go.Proofs.YtpleiklodomgiaaGreatDoor.N Go.Proofs.YtpleiklodomgiaaGreatDoor.Bt
theorem append_run {ρ : Operand → Value} {dst : Option Tmp} {s x : Operand} {t ty : TypeId} {pos : String} {after : Array Edge} {guard : Option (Nat × Bool)} {v y v1 : Value} {W w1 : World} (hrun : ∀ ty, (Builtin.append_ #[t, t] ty #[v, y]).run Tryz.prog W = .ok v1 w1) (hs : ρ s = v) (hx : ρ x = y) :
  (execOp ρ { dst, op := .call { callee := .builtin .append, args := #[s, x], argTypes := #[t, t] }, type := ty, pos, after, guard }).run Tryz.prog W = .ok (.value v1) w1 := by
 unfold execOp
 simp only [resolve, invoke, builtin, Sem.run_bind, Sem.run_pure, Result.andThen_ok, List.map_toArray, List.map_cons, List.map_nil, hs, hx, hrun]
end Go.Proofs.YtpleiklodomgiaaGreatDoor.C
end
