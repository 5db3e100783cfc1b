/- Texts of this claim (printed ones, too), put together by a program that left out what the claim does not use. -/
import Derived.Laws.AppendOwn
import Derived.Test.YtfejjfbhlmjkeaaRecordSorts17
import Derived.Test.YtfejjfbhlmjkeaaRecordSorts9
import Derived.Test.YtfejjfbhlmjkeaaRecordSorts5
section
set_option linter.unusedVariables false
set_option linter.unusedSimpArgs false
namespace Go.Proofs.Ytfejjfbhlmjkeaa.C
open Go.RowKit Go.Proofs.YtfejjfbhlmjkeaaW.PrintWords Go.Proofs.YtfejjfbhlmjkeaaW.PrintLast Go.Proofs.YtfejjfbhlmjkeaaW.PrintMore Go.Proofs.Ytfejjfbhlmjkeaa.B Go.Proofs.Ytfejjfbhlmjkeaa.Reg Go.Proofs.Ytfejjfbhlmjkeaa.PRecordIs Go.Proofs.Ytfejjfbhlmjkeaa.CQ Go.Proofs.Ytfejjfbhlmjkeaa.Vi Go.Proofs.Ytfejjfbhlmjkeaa.N Go.Proofs.Ytfejjfbhlmjkeaa.Bt
abbrev St := Option (List UInt8)
/-- The cells of labels. -/
def labC (xs : List S47) : List Value := xs.flatMap fun x => [.string x.f0, .string x.f1]
theorem grown_new {w a b : World} {r r' : Option Nat} (h : w.grownBy a r) (k : a.grownBy b r') (hr : ∀ k, r' = some k → w.heap.size ≤ k) : w.grownBy b r :=
  ⟨k.os.trans h.os, k.tape.trans h.tape, k.output.trans h.output, Nat.le_trans h.size k.size, fun i hi hne => (k.block i (Nat.lt_of_lt_of_le hi h.size) (fun e => by have := hr i e.symm; omega)).trans (h.block i hi hne)⟩
theorem owns_kept {w w' : World} {base : Nat} {e : TypeId} {size : Nat} {v : Value} {n : Nat} {xs : List Value} {row : Option Nat} (h : w.ownsRow base e size v n xs) (hg : w.grownBy w' row) (hr : ∀ k, row = some k → k < base) : w'.ownsRow base e size v n xs := by
  refine ⟨h.1, h.2.imp id ?_⟩
  rintro ⟨g, cap, cur, rfl, hb, hgg, rest⟩
  exact ⟨g, cap, cur, rfl, hb, (hg.block g (Array.getElem?_eq_some_iff.1 hgg).1 (fun e => by have := hr g e.symm; omega)).trans hgg, rest⟩
theorem owns_block {w : World} {base : Nat} {e : TypeId} {size : Nat} {v : Value} {n : Nat} {xs : List Value} (h : w.ownsRow base e size v n xs) : ∀ k, v.ownBlock = some k → base ≤ k := by
  intro k hk
  rcases h.2 with ⟨rfl, _⟩ | ⟨g, cap, cur, rfl, hb, _⟩
  · cases hk
  · cases hk; exact hb
end Go.Proofs.Ytfejjfbhlmjkeaa.C
end
section
set_option linter.unusedVariables false
set_option linter.unusedSimpArgs false
namespace Go.Proofs.Ytfejjfbhlmjkeaa.C
open Go.RowKit Go.Sort Go.Proofs.YtfejjfbhlmjkeaaW.PrintWords Go.Proofs.YtfejjfbhlmjkeaaW.PrintLast Go.Proofs.YtfejjfbhlmjkeaaW.PrintMore Go.Proofs.Ytfejjfbhlmjkeaa.B Go.Proofs.Ytfejjfbhlmjkeaa.PRecordIs Go.Proofs.Ytfejjfbhlmjkeaa.CQ
/-- Entries as cells. -/
def entC (xs : List Ent) : List Value := xs.flatMap Ent.cells
theorem entC_len : ∀ xs : List Ent, (entC xs).length = xs.length * 3
  | [] => rfl
  | x :: xs => by
    have ih := entC_len xs
    unfold entC at *
    rw [List.flatMap_cons, List.length_append, ih, List.length_cons]
    show 3 + _ = _
    omega
theorem entC_app (xs ys : List Ent) : entC (xs ++ ys) = entC xs ++ entC ys := by unfold entC; rw [List.flatMap_append]
theorem entC_cons (x : Ent) (xs : List Ent) : entC (x :: xs) = x.cells ++ entC xs := by unfold entC; rw [List.flatMap_cons]
theorem entC_get : ∀ (xs : List Ent) (i r : Nat) (x : Ent), r < 3 → xs[i]? = some x → (entC xs)[i * 3 + r]? = x.cells[r]?
  | [], _, _, _, _, h => by simp at h
  | y :: xs, 0, r, x, hr, h => by
    simp only [List.getElem?_cons_zero, Option.some.injEq] at h
    subst h
    rw [entC_cons, List.getElem?_append_left (by show _ < 3; omega)]
    congr 1
    omega
  | y :: xs, i + 1, r, x, hr, h => by
    have ih := entC_get xs i r x hr (by simpa using h)
    rw [entC_cons, List.getElem?_append_right (by show 3 ≤ _; omega), show (i + 1) * 3 + r - y.cells.length = i * 3 + r by show (i + 1) * 3 + r - 3 = _; omega]
    exact ih
theorem entC_inv (xs : List Ent) (j : Nat) (u : Value) (h : (entC xs)[j]? = some u) : ∃ x, xs[j / 3]? = some x ∧ x.cells[j % 3]? = some u := by
  have hj : j < xs.length * 3 := by
    rw [← entC_len]
    rcases Nat.lt_or_ge j (entC xs).length with h1 | h1
    · exact h1
    · rw [List.getElem?_eq_none h1] at h; cases h
  have hi : j / 3 < xs.length := by omega
  refine ⟨xs[j / 3], List.getElem?_eq_getElem hi, ?_⟩
  have h2 := entC_get xs (j / 3) (j % 3) xs[j / 3] (by omega) (List.getElem?_eq_getElem hi)
  rw [show j / 3 * 3 + j % 3 = j by omega, h] at h2
  exact h2.symm
theorem cells_one (x : Ent) : ∀ v ∈ x.cells, v.oneCell' = true := by
  intro v hv
  unfold Ent.cells at hv
  simp only [List.mem_cons, List.not_mem_nil, or_false] at hv
  rcases hv with rfl | rfl | rfl <;> rfl
theorem entC_one (xs : List Ent) : ∀ u ∈ entC xs, u.oneCell' = true := by
  intro u hu
  unfold entC at hu
  obtain ⟨x, _, hx⟩ := List.mem_flatMap.1 hu
  exact cells_one x u hx
theorem add_next (a : Addr) (k : Nat) (r : Nat) (hr : 0 < r) : a.add (k + r) = ⟨(a.add k).block, (a.add k).off + r, none⟩ := by
  unfold Addr.add
  rw [if_neg (by omega)]
  by_cases h : k = 0
  · rw [if_pos h, h, Nat.zero_add]
  · rw [if_neg h]; simp; omega
/-- A row of entries, as it is read. -/
structure RowV (w : World) (A : Option Addr) (xs : List Ent) : Prop where
  nil : A = none → xs = []
  cells : ∀ a, A = some a → ∀ j u, (entC xs)[j]? = some u → w.cell? (a.add j) = some u
theorem RowV.below {w w' : World} {A : Option Addr} {xs : List Ent} (h : RowV w A xs) (hb : Below w.heap.size w w') : RowV w' A xs := ⟨h.nil, fun a ha j u hu => pw_cell_below hb (h.cells a ha j u hu)⟩
theorem RowV.grown {w w' : World} {A : Option Addr} {xs : List Ent} {row : Option Nat} (h : RowV w A xs) (hg : w.grownBy w' row) (hne : ∀ a, A = some a → some a.block ≠ row) : RowV w' A xs :=
  ⟨h.nil, fun a ha j u hu => hg.cell (h.cells a ha j u hu) (by rw [add_block]; exact hne a ha)⟩
theorem RowV.get {w : World} {A : Option Addr} {xs : List Ent} (h : RowV w A xs) (i : Nat) (hi : i < xs.length) :
    ∃ a, A = some a ∧ w.cell? (a.add (i * 3)) = some (.int .i64 xs[i].at_) ∧ w.cell? ⟨(a.add (i * 3)).block, (a.add (i * 3)).off + 1, none⟩ = some (.slice xs[i].A xs[i].ls.length xs[i].c) ∧ w.cell? ⟨(a.add (i * 3)).block, (a.add (i * 3)).off + 2, none⟩ = some (.string xs[i].line) := by
  cases A with
  | none => rw [h.nil rfl] at hi; simp at hi
  | some a =>
    have g := fun r hr => entC_get xs i r xs[i] hr (List.getElem?_eq_getElem hi)
    refine ⟨a, rfl, ?_, ?_, ?_⟩
    · exact h.cells a rfl (i * 3) _ (g 0 (by omega))
    · rw [← add_next a (i * 3) 1 (by omega)]; exact h.cells a rfl (i * 3 + 1) _ (g 1 (by omega))
    · rw [← add_next a (i * 3) 2 (by omega)]; exact h.cells a rfl (i * 3 + 2) _ (g 2 (by omega))
theorem Ents.row {w : World} {A : Option Addr} {cap : Nat} {xs : List Ent} (h : Ents w A cap xs) : RowV w A xs := by
  refine ⟨h.nil, fun a ha j u hu => ?_⟩
  obtain ⟨x, hx, hc⟩ := entC_inv xs j u hu
  have hi : j / 3 < xs.length := by
    rcases Nat.lt_or_ge (j / 3) xs.length with h1 | h1
    · exact h1
    · rw [List.getElem?_eq_none h1] at hx; cases hx
  have e := h.at_ a ha (j / 3) hi
  rw [List.getElem?_eq_getElem hi] at hx
  rw [Option.some.inj hx] at e
  have hj : j = j / 3 * 3 + j % 3 := by omega
  have h3 : j % 3 = 0 ∨ j % 3 = 1 ∨ j % 3 = 2 := by omega
  rcases h3 with h3 | h3 | h3
  · rw [h3] at hc hj
    rw [hj]; rw [show j / 3 * 3 + 0 = j / 3 * 3 by omega]
    rw [e.c0]; exact hc
  · rw [h3] at hc hj
    rw [hj, add_next _ _ 1 (by omega), e.c1]; exact hc
  · rw [h3] at hc hj
    rw [hj, add_next _ _ 2 (by omega), e.c2]; exact hc
theorem add_add' (a : Addr) (k j : Nat) : (a.add k).add j = a.add (k + j) := Go.Addr.add_add a k j
theorem RowV.drop {w : World} {a : Addr} {xs : List Ent} (h : RowV w (some a) xs) (k : Nat) : RowV w (some (a.add (k * 3))) (xs.drop k) := by
  refine ⟨fun e => (by cases e), fun b hb j u hu => ?_⟩
  cases hb
  rw [add_add']
  refine h.cells a rfl _ u ?_
  obtain ⟨x, hx, hc⟩ := entC_inv _ j u hu
  rw [List.getElem?_drop] at hx
  have := entC_get xs (k + j / 3) (j % 3) x (by omega) hx
  rw [show (k + j / 3) * 3 + j % 3 = k * 3 + j by omega] at this
  rw [this]; exact hc
theorem RowV.take {w : World} {A : Option Addr} {xs : List Ent} (h : RowV w A xs) (k : Nat) : RowV w A (xs.take k) := by
  refine ⟨fun e => by rw [h.nil e]; simp, fun a ha j u hu => h.cells a ha j u ?_⟩
  obtain ⟨x, hx, hc⟩ := entC_inv _ j u hu
  have hx2 : xs[j / 3]? = some x := by
    rw [List.getElem?_take] at hx
    split at hx
    · exact hx
    · cases hx
  have := entC_get xs (j / 3) (j % 3) x (by omega) hx2
  rw [show j / 3 * 3 + j % 3 = j by omega] at this
  rw [this]; exact hc
/-- An owned row of entries. -/
def OwnE (w : World) (base : Nat) (v : Value) (xs : List Ent) : Prop := w.ownsRow base 34 3 v xs.length (entC xs)
theorem OwnE.row {w : World} {base : Nat} {v : Value} {xs : List Ent} (h : OwnE w base v xs) : ∃ A c, v = .slice A xs.length c ∧ xs.length ≤ c ∧ RowV w A xs ∧ (∀ a, A = some a → base ≤ a.block ∧ a.block < w.heap.size ∧ a.off = 0 ∧ a.spot = none) := by
  rcases h.2 with ⟨rfl, h0⟩ | ⟨g, cap, cur, rfl, hb, hg, h1, h2, h3, h4⟩
  · exact ⟨none, 0, by rw [h0], by omega, ⟨fun _ => List.eq_nil_of_length_eq_zero h0, fun a ha => (by cases ha)⟩, fun a ha => (by cases ha)⟩
  · refine ⟨_, cap, rfl, h1, ⟨fun e => (by cases e), fun a ha j u hu => ?_⟩, fun a ha => ?_⟩
    · cases ha
      exact h.cells (g := g) rfl j u hu
    · cases ha
      exact ⟨hb, blk_lt hg, rfl, rfl⟩
theorem OwnE.nil (w : World) (base : Nat) : OwnE w base (.slice none 0 0) [] := ⟨rfl, .inl ⟨rfl, rfl⟩⟩
theorem OwnE.kept {w w' : World} {base : Nat} {v : Value} {xs : List Ent} {row : Option Nat} (h : OwnE w base v xs) (hg : w.grownBy w' row) (hr : v.ownBlock = none ∨ v.ownBlock ≠ row) : OwnE w' base v xs := World.ownsRow.kept h hg hr
theorem OwnE.below {w w' : World} {base : Nat} {v : Value} {xs : List Ent} (h : OwnE w base v xs) (hb : Below w.heap.size w w') : OwnE w' base v xs := by
  refine h.kept (grown_of_below hb none) ?_
  cases h' : v.ownBlock with
  | none => exact .inl rfl
  | some k => exact .inr (by simp)
theorem infoE3 : ∃ i0, Try.prog.info? 34 = some i0 ∧ i0.zero = some (.agg #[.int .i64 0, .slice none 0 0, .string ⟨#[]⟩]) ∧ i0.size = 3 ∧ i0.bytes = 48 := by
  obtain ⟨i0, hi, hp⟩ := Option.map_eq_some_iff.1 infoE
  have hp2 := (Prod.mk.injEq .. ▸ hp).2
  exact ⟨i0, hi, (Prod.mk.injEq .. ▸ hp).1, (Prod.mk.injEq .. ▸ hp2).1, (Prod.mk.injEq .. ▸ hp2).2⟩
/-- A row is appended to an owned one. -/
theorem app_own (base : Nat) (w : World) (v : Value) (xs : List Ent) (A : Option Addr) (ys : List Ent) (c : Nat) (h : OwnE w base v xs) (hR : RowV w A ys) (hb : base ≤ w.heap.size) (hl : xs.length + ys.length ≤ 100000) :
    ∃ v' w', (∀ ty, (Builtin.append_ #[40, 40] ty #[v, .slice A ys.length c]).run Try.prog w = .ok v' w') ∧ OwnE w' base v' (xs ++ ys) ∧ w.grownBy w' v.ownBlock ∧ (v ≠ .slice none 0 0 → v' ≠ .slice none 0 0) ∧ (v'.ownBlock = v.ownBlock ∨ v'.ownBlock = some w.heap.size) := by
  obtain ⟨i0, hi, hz0, hz1, hz2⟩ := infoE3
  have ht : ∀ t1 t2 (y : Value), Builtin.append_ #[40, 40] t1 #[v, y] = Builtin.append_ #[40, 40] t2 #[v, y] := fun _ _ _ => rfl
  cases A with
  | none =>
    have hy := hR.nil rfl
    subst hy
    refine ⟨v, w, fun ty => ?_, by rw [List.append_nil]; exact h, grown_refl _ _, fun e => e, .inl rfl⟩
    rw [ht ty 0]
    rcases h.2 with ⟨rfl, h0⟩ | ⟨g, cap, cur, rfl, hb, hg, h1, h2, h3, h4⟩
    · simp [Builtin.append_, run_underlying Try.underlying40, sizeOf, typeInfo, hi, Builtin.lenOf, Builtin.firstCells, loadCells, loadCellsFrom]
    · simp [Builtin.append_, run_underlying Try.underlying40, sizeOf, typeInfo, hi, Builtin.lenOf, Builtin.firstCells, loadCells, loadCellsFrom, h1, storeCells]
  | some a =>
    obtain ⟨v', w', h1, h2, h3, h4, h5⟩ := run_append_own_at (P := Try.prog) w base 40 0 34 i0 _ 3 48 Try.underlying40 hi hz0 hz1 hz2 rfl (by omega) v xs.length (entC xs) h a ys.length c (entC ys) (entC_len ys) (hR.cells a rfl) (entC_one ys) (by unfold maxLen; omega) (by omega) hb
    refine ⟨v', w', fun ty => (by rw [ht ty 0]; exact h1), ?_, h3, fun e e2 => e (h4.1 e2).1, h5⟩
    unfold OwnE
    rw [entC_app, List.length_append]; exact h2
/-- A row is appended to one without room: a new one is laid. -/
theorem app_new (base : Nat) (w : World) (B : Option Addr) (xs : List Ent) (a : Addr) (ys : List Ent) (c : Nat) (hB : RowV w B xs) (hR : RowV w (some a) ys) (hy : 0 < ys.length) (hb : base ≤ w.heap.size) (hl : xs.length + ys.length ≤ 100000) :
    ∃ cap w', (∀ ty, (Builtin.append_ #[40, 40] ty #[.slice B xs.length xs.length, .slice (some a) ys.length c]).run Try.prog w = .ok (.slice (some ⟨w.heap.size, 0, none⟩) (xs ++ ys).length cap) w') ∧ OwnE w' base (.slice (some ⟨w.heap.size, 0, none⟩) (xs ++ ys).length cap) (xs ++ ys) ∧ w.grownBy w' none := by
  obtain ⟨i0, hi, hz0, hz1, hz2⟩ := infoE3
  have hzs : (Value.agg #[.int .i64 0, .slice none 0 0, .string ⟨#[]⟩]).cells.size = 3 := rfl
  have ht : ∀ t1 t2 (x y : Value), Builtin.append_ #[40, 40] t1 #[x, y] = Builtin.append_ #[40, 40] t2 #[x, y] := fun _ _ _ _ => rfl
  have grown : ∀ (old : Nat), old < xs.length + ys.length →
      OwnE (w.drew.alloc (.cells ((entC xs).toArray ++ (entC ys).toArray ++ Builtin.zeroCells (Value.agg #[.int .i64 0, .slice none 0 0, .string ⟨#[]⟩]).cells (grownCap w (xs.length + ys.length) old 34 - (xs.length + ys.length))) 34)) base
        (.slice (some ⟨w.heap.size, 0, none⟩) (xs ++ ys).length (grownCap w (xs.length + ys.length) old 34)) (xs ++ ys) ∧
      w.grownBy (w.drew.alloc (.cells ((entC xs).toArray ++ (entC ys).toArray ++ Builtin.zeroCells (Value.agg #[.int .i64 0, .slice none 0 0, .string ⟨#[]⟩]).cells (grownCap w (xs.length + ys.length) old 34 - (xs.length + ys.length))) 34)) none := by
    intro old ho
    have hge := grownCap_ge w (xs.length + ys.length) old 34
    have hcm : grownCap w (xs.length + ys.length) old 34 ≤ maxLen := grownCap_le_maxLen w (xs.length + ys.length) old 34 (by unfold maxLen; omega)
    refine ⟨⟨entC_len _, .inr ⟨w.heap.size, _, _, rfl, hb, heap_alloc_new w.drew _, by rw [List.length_append]; exact hge, hcm, ?_, ?_⟩⟩, ⟨rfl, rfl, rfl, by simp, fun k hk _ => Go.heap_alloc_old w.drew _ hk⟩⟩
    · simp only [Array.size_append, List.size_toArray, size_zeroCells, hzs, entC_len]
      omega
    · simp only [Array.toList_append, List.append_assoc]
      rw [← List.append_assoc, ← entC_app, ← entC_len]
      exact List.take_left
  cases B with
  | none =>
    have hx := hB.nil rfl
    subst hx
    have hr := run_append_nil (P := Try.prog) w 40 0 34 i0 _ Try.underlying40 hi hz0 a ys.length c (entC ys) (by rw [hz1]; exact entC_len ys) (hR.cells a rfl) hy (by have := hl; simp at this; omega) (by rw [hz2]; have := hl; simp at this; omega)
    have hg := grown 0 (by simpa using hy)
    simp only [List.length_nil, Nat.zero_add, List.nil_append, show entC [] = [] from rfl, Array.empty_append] at hg ⊢
    exact ⟨_, _, fun ty => (by rw [ht ty 0]; exact hr), hg.1, hg.2⟩
  | some b =>
    have hr := run_append_grow (P := Try.prog) w 40 0 34 i0 _ Try.underlying40 hi hz0 b xs.length xs.length (entC xs) (by rw [hz1]; exact entC_len xs) (hB.cells b rfl) a ys.length c (entC ys) (by rw [hz1]; exact entC_len ys) (hR.cells a rfl) (by omega) (by omega) (by rw [hz2]; exact growslice_fits (by omega) (by omega))
    have hg := grown xs.length (by omega)
    refine ⟨_, _, fun ty => (by rw [ht ty 0, List.length_append]; exact hr), hg.1, hg.2⟩
end Go.Proofs.Ytfejjfbhlmjkeaa.C
end
section
set_option linter.unusedVariables false
set_option linter.unusedSimpArgs false
namespace Go.Proofs.Ytfejjfbhlmjkeaa.C
open Go.RowKit Go.Shelf Go.Sort Go.Proofs.YtfejjfbhlmjkeaaW.PrintWords Go.Proofs.YtfejjfbhlmjkeaaW.PrintLast Go.Proofs.YtfejjfbhlmjkeaaW.PrintMore Go.Proofs.Ytfejjfbhlmjkeaa.B Go.Proofs.Ytfejjfbhlmjkeaa.PRecordIs Go.Proofs.Ytfejjfbhlmjkeaa.CQ
theorem clone_row (w : World) (a : Addr) (xs : List Ent) (c : Nat) (hR : RowV w (some a) xs) (hl : xs.length ≤ 100000) :
    Calls Try.prog 55 #[.slice (some a) xs.length c] w fun e w' => ∃ v', e = .returned v' ∧ OwnE w' w.heap.size v' xs ∧ v' ≠ .slice none 0 0 ∧ Below w.heap.size w w' := by
  obtain ⟨i0, hi, hz0, hz1, hz2⟩ := infoE3
  have q22 : ∀ (w : World) (a : Option Addr) (n c n' c' : Nat), (binOp .eql 40 (.slice a n c) (.slice none n' c')).run Try.prog w = .ok (.bool a.isNone) w := fun w a n c n' c' => Lib.run_eql_slice_nil w _ _ a n c n' c' Try.underlying40
  have HR := Aside0.mk hR
  clear hR
  go_enter Try.func55, Try.ntmps55
  go_wp2_with (at_builtin; refine wpList_append_own _ rfl _ _ 40 rfl w.heap.size 34 i0 _ 3 48 Try.underlying40 hi hz0 hz1 hz2 rfl (by omega) _ _ _ rfl (World.ownsRow_made w #[] 0 (Nat.le_refl _) (Nat.zero_le _) (by simp)) a xs.length c (entC xs) rfl ?qc1 ?qc2 ?qc3 ?qc4 ?qc5 ?qc6 ?_)
  case qc1 => exact entC_len xs
  case qc2 =>
    intro j u hj
    exact Lib.cell?_alloc_some _ (HR.out.cells a rfl j u hj)
  case qc3 => exact entC_one xs
  case qc4 => rw [Nat.zero_add]; unfold maxLen; omega
  case qc5 => rw [Nat.zero_add]; omega
  case qc6 => simp
  intro v' w1 hown hgrow hnil
  go_wp2
  go_ret
  refine ⟨v', rfl, by unfold OwnE; simpa using hown, ?_, ?_⟩
  · exact hnil
  · exact ((Below.refl _ w).alloc (Nat.le_refl _) _).grown hgrow (by simp) (by intro k hk; simp [Value.ownBlock] at hk; omega)
/-- The entry of one that lies in a world. -/
def valOf {w : World} (x : EntIn w) : Ent := x.1
/-- Entries that lie in a world. -/
theorem lift_in {w : World} : ∀ {xs : List Ent}, (∀ x ∈ xs, x.In w) → ∃ l : List (EntIn w), l.map valOf = xs
  | [], _ => ⟨[], rfl⟩
  | x :: xs, h => by
    obtain ⟨l, hl⟩ := lift_in (xs := xs) (fun y hy => h y (List.mem_cons_of_mem _ hy))
    exact ⟨(⟨x, h x (List.mem_cons_self ..)⟩ : EntIn w) :: l, congrArg (x :: ·) hl⟩
theorem entC_flat {w : World} : ∀ l : List (EntIn w), entC (l.map valOf) = flatE l
  | [] => rfl
  | x :: l => by
    have ih := entC_flat l
    unfold entC flatE at *
    rw [List.map_cons, List.flatMap_cons, List.flatMap_cons, ih]; rfl
theorem keys_flat {w : World} (l : List (EntIn w)) : l.map keyOf = (l.map valOf).map Ent.key := by rw [List.map_map]; rfl
theorem own_holds {w0 w' : World} {v' : Value} (l : List (EntIn w0)) (hown : OwnE w' w0.heap.size v' (l.map valOf)) (hne : v' ≠ .slice none 0 0) :
    ∃ g cap, v' = .slice (some ⟨g, 0, none⟩) l.length cap ∧ w0.heap.size ≤ g ∧ g < w'.heap.size ∧ l.length ≤ cap ∧ HoldsK enc 3 w' g 0 l.toArray := by
  unfold OwnE at hown
  rw [List.length_map, entC_flat] at hown
  obtain ⟨hl, hv | ⟨g, cap, cur, rfl, hg0, hg, hc1, hc2, hsz, htk⟩⟩ := hown
  · exact absurd hv.1 hne
  · have hown : w'.ownsRow w0.heap.size 34 3 (.slice (some ⟨g, 0, none⟩) l.length cap) l.length (flatE l) := ⟨hl, Or.inr ⟨g, cap, cur, rfl, hg0, hg, hc1, hc2, hsz, htk⟩⟩
    refine ⟨g, cap, rfl, hg0, blk_lt hg, hc1, fun t ht => ?_⟩
    rw [size_flatK, List.size_toArray] at ht
    rw [Nat.zero_add, hown.cellAt t ht, get_flatK _ _ _ _ (by rw [List.size_toArray]; exact ht)]
    refine ⟨?_, hown.frozenAt t⟩
    have h2 := flatE_get l (t / 3) (t % 3) l[t / 3] (by omega) (List.getElem?_eq_getElem (by omega))
    rw [show t / 3 * 3 + t % 3 = t by omega] at h2
    rw [h2]
    have e : l.toArray[t / 3]! = l[t / 3] := by rw [getElem!_pos l.toArray (t / 3) (by rw [List.size_toArray]; omega)]; rfl
    rw [e]
    rfl
theorem rowE_row {w0 W : World} (g : Nat) (r : List (EntIn w0)) (h : RowE W g 0 r) : RowV W (some ⟨g, 0, none⟩) (r.map valOf) := by
  refine ⟨fun e => (by cases e), fun a ha j u hu => ?_⟩
  cases ha
  rw [entC_flat] at hu
  obtain ⟨x, hx, rfl⟩ := flatE_inv r j u hu
  obtain ⟨h0, h1, h2⟩ := h _ x hx
  rw [add_at, Nat.zero_add]
  have h3 : j % 3 = 0 ∨ j % 3 = 1 ∨ j % 3 = 2 := by omega
  rcases h3 with h3 | h3 | h3
  · rw [h3]; rw [show 0 + j / 3 * 3 = j by omega] at h0; exact h0
  · rw [h3]; rw [show 0 + j / 3 * 3 + 1 = j by omega] at h1; exact h1
  · rw [h3]; rw [show 0 + j / 3 * 3 + 2 = j by omega] at h2; exact h2
theorem len0 (w : World) : Calls Try.prog 80 #[.int .u64 0] w fun e w' => e = .returned (.int .i64 0) ∧ w' = w := by
  have h := Any.bits_Len (Go.Proofs.SlLaysF0.n15.bits (P := Try.prog) (ρ := Try.sortEnt_ren) { Try.sortEnt with }) 0 w (by omega) (by omega)
  exact h
theorem ins0 (A : Option Addr) (c : Nat) (f : Value) (w : World) : Calls Try.prog 85 #[.slice A 0 c, .int .i64 0, .int .i64 0, f] w fun e w' => e = .returned (.tuple #[]) ∧ w' = w := by
  go_enter Try.func85, Try.ntmps85
  go_wp2
  go_loopw [8] (fun t8 wr => t8 = .int .i64 1 ∧ wr = w) (fun _ _ => 0)
  case atStart => exact ⟨rfl, rfl⟩
  case round =>
    obtain ⟨rfl, rfl⟩ := hrel
    go_wp2
    go_end0
    exact ⟨rfl, rfl⟩
theorem pdq0 (A : Option Addr) (c : Nat) (f : Value) (w : World) : Calls Try.prog 79 #[.slice A 0 c, .int .i64 0, .int .i64 0, .int .i64 0, f] w fun e w' => e = .returned (.tuple #[]) ∧ w' = w := by
  go_enter Try.func79, Try.ntmps79
  go_wp2
  go_loopw [1, 2] (fun t1 t2 wr => t1 = .int .i64 0 ∧ t2 = .int .i64 0 ∧ wr = w) (fun _ _ _ => 0)
  case atStart => exact ⟨rfl, rfl, rfl⟩
  case round =>
    obtain ⟨rfl, rfl, rfl⟩ := hrel
    go_wp2_with fail
    ((refine (ins0 A c f _).mono ?_); rintro e w1 ⟨rfl, rfl⟩)
    go_wp2
    refine bodyPost_ret (results_none rfl _ _ _) rfl ?_
    exact ⟨rfl, rfl⟩
theorem sortfunc0 (A : Option Addr) (c : Nat) (f : Value) (w : World) : Calls Try.prog 56 #[.slice A 0 c, f] w fun e w' => e = .returned (.tuple #[]) ∧ w' = w := by
  go_enter Try.func56, Try.ntmps56
  go_wp2_with fail
  ((refine (len0 _).mono ?_); rintro e w1 ⟨rfl, rfl⟩)
  go_wp2_with fail
  ((refine (pdq0 A c f _).mono ?_); rintro e w1 ⟨rfl, rfl⟩)
  go_wp2
  go_end0
  exact ⟨rfl, rfl⟩
theorem compact0 (A : Option Addr) (c : Nat) (f : Value) (w : World) : Calls Try.prog 57 #[.slice A 0 c, f] w fun e w' => e = .returned (.slice A 0 c) ∧ w' = w := by
  go_enter Try.func57, Try.ntmps57
  go_wp2
  go_ret
  exact ⟨rfl, rfl⟩
theorem sort_nil {w : World} (desc : Bool) (c : Nat) :
    Calls Try.prog 25 #[.bool desc, .slice none 0 c] w fun e w' => e = .returned (.slice none 0 0) ∧ Below w.heap.size w w' := by
  have HCl : Aside0 (Calls Try.prog 55 #[.slice none 0 c] w fun e w' => e = .returned (.slice none 0 0) ∧ w' = w) := ⟨AnyE.slices_Clone_nil Try.cloneEnt 0 c w⟩
  go_enter Try.func25, Try.ntmps25
  go_wp2_with fail
  ((refine (HCl.out).mono ?_); rintro e w1 ⟨rfl, rfl⟩)
  go_wp2_with fail
  ((refine (order_any desc _).mono ?_); rintro e w2 ⟨rfl, rfl⟩)
  go_wp2_with fail
  ((refine (sortfunc0 none 0 _ _).mono ?_); rintro e w3 ⟨rfl, rfl⟩)
  go_wp2_with fail
  ((refine (compact0 none 0 _ _).mono ?_); rintro e w4 ⟨rfl, rfl⟩)
  go_wp2
  go_ret
  exact ⟨rfl, Below.refl _ _⟩
set_option maxRecDepth 20000 in
theorem sort_some {w0 : World} (desc : Bool) (l : List (EntIn w0)) (a : Addr) (c : Nat) (hrow : RowV w0 (some a) (l.map valOf)) (hm : l.length ≤ 100000) :
    Calls Try.prog 25 #[.bool desc, .slice (some a) l.length c] w0 fun e w' => ∃ g cap, ∃ r : List (EntIn w0), e = .returned (.slice (some ⟨g, 0, none⟩) r.length cap) ∧ w0.heap.size ≤ g ∧ r.length ≤ cap ∧ r.length ≤ l.length ∧ RowE w' g 0 r ∧ Below w0.heap.size w0 w' ∧ Up (cmpO desc) (r.map keyOf) ∧ ∀ k, k ∈ r.map keyOf ↔ k ∈ l.map keyOf := by
  have HCl : Aside0 (Calls Try.prog 55 #[.slice (some a) l.length c] w0 fun e w' => ∃ g cap, e = .returned (.slice (some ⟨g, 0, none⟩) l.length cap) ∧ w0.heap.size ≤ g ∧ g < w'.heap.size ∧ l.length ≤ cap ∧ HoldsK enc 3 w' g 0 l.toArray ∧ Below w0.heap.size w0 w') := ⟨by
    have h := clone_row w0 a (l.map valOf) c hrow (by rw [List.length_map]; exact hm)
    rw [List.length_map] at h
    refine h.mono fun e w' ⟨v', h1, h2, h3, h4⟩ => ?_
    obtain ⟨g, cap, rfl, k1, k2, k3, k4⟩ := own_holds l h2 h3
    exact ⟨g, cap, h1, k1, k2, k3, k4, h4⟩⟩
  have HM := Aside0.mk hm
  clear hrow hm
  go_enter Try.func25, Try.ntmps25
  go_wp2_with fail
  ((refine (HCl.out).mono ?_); rintro e w1 ⟨g, cap, rfl, hg0, hg1, hcap, hH, hB⟩)
  have HG0 := Aside0.mk hg0
  have HG1 := Aside0.mk hg1
  have HCap := Aside0.mk hcap
  have HH := Aside0.mk hH
  have HB := Aside0.mk hB
  clear hg0 hg1 hcap hH hB HCl
  go_wp2_with fail
  ((refine (order_any desc _).mono ?_); rintro e w2 ⟨rfl, rfl⟩)
  go_wp2_with fail
  ((refine (sortfunc_any desc l g cap HM.out HB.out HG0.out HG1.out HH.out).mono ?_); rintro e w3 ⟨rfl, d, hsz, hp, hs, hH3, hB3, hg3⟩)
  have HS := Aside0.mk hsz
  have HP := Aside0.mk hp
  have HSo := Aside0.mk hs
  have HC := compact_any (w := w3) g 0 cap d hB3 HG0.out hg3 hH3 (by rw [hsz]; have := HM.out; omega) (by rw [hsz]; exact HCap.out)
  rw [hsz] at HC
  have HC := Aside0.mk HC
  clear hsz hp hs hH3 hB3 hg3 HH HB HG1
  go_wp2_with fail
  ((refine HC.out.mono ?_); rintro e w4 ⟨rfl, hB4, hrow4⟩)
  have HB4 := Aside0.mk hB4
  have HR4 := Aside0.mk hrow4
  clear hB4 hrow4
  go_wp2_with fail
  go_ret
  have hl := once_len eqE d l.length
  have hs := HS.out
  refine ⟨g, cap, once eqE d l.length, rfl, HG0.out, Nat.le_trans hl HCap.out, hl, HR4.out, HB4.out, once_up d (cmpO_c desc) (fun i j h1 h2 => Int.not_lt.2 (HSo.out i j h1 h2)) _ (by omega), fun k => ?_⟩
  rw [once_mem d _ (by omega)]
  rw [List.mem_map]
  constructor
  · rintro ⟨i, hi, rfl⟩
    refine ⟨d[i]!, HP.out.mem_iff.1 ?_, rfl⟩
    rw [getElem!_pos d i (by omega)]
    exact Array.mem_toList_iff.2 (Array.getElem_mem (by omega))
  · rintro ⟨x, hx, rfl⟩
    have hx2 := HP.out.mem_iff.2 hx
    obtain ⟨i, hi, rfl⟩ := Array.mem_iff_getElem.1 (Array.mem_toList_iff.1 hx2)
    exact ⟨i, by omega, by rw [getElem!_pos d i hi]⟩
/-- What record.Sort answers of any row. -/
def SortsTo (w : World) (desc : Bool) (xs : List Ent) (e : Ending) (w' : World) : Prop :=
  ∃ A' c' ys, e = .returned (.slice A' (List.length ys) c') ∧ ys.length ≤ c' ∧ RowV w' A' ys ∧ (∀ y ∈ ys, Ent.In y w) ∧ Below w.heap.size w w' ∧ ys.length ≤ xs.length ∧ Up (cmpO desc) (ys.map Ent.key) ∧ ∀ k, k ∈ ys.map Ent.key ↔ k ∈ xs.map Ent.key
theorem sort_gen {w : World} (desc : Bool) (A : Option Addr) (xs : List Ent) (c : Nat) (hR : RowV w A xs) (hI : ∀ x ∈ xs, x.In w) (hl : xs.length ≤ 100000) :
    Calls Try.prog 25 #[.bool desc, .slice A xs.length c] w (SortsTo w desc xs) := by
  cases A with
  | none =>
    obtain rfl := hR.nil rfl
    exact (sort_nil desc c).mono fun e w' ⟨h1, h2⟩ => ⟨none, 0, [], h1, Nat.le_refl _, ⟨fun _ => rfl, fun a ha => (by cases ha)⟩, by simp, h2, Nat.le_refl _, List.Pairwise.nil, fun k => Iff.rfl⟩
  | some a =>
    obtain ⟨l, rfl⟩ := lift_in hI
    rw [List.length_map] at hl
    have h := sort_some desc l a c hR hl
    rw [List.length_map]
    refine h.mono fun e w' ⟨g, cap, r, h1, h2, h3, h4, h5, h6, h7, h8⟩ => ⟨some ⟨g, 0, none⟩, cap, r.map valOf, by rw [List.length_map]; exact h1, by rw [List.length_map]; exact h3, rowE_row g r h5, fun y hy => ?_, h6, by rw [List.length_map, List.length_map]; exact h4, by rw [← keys_flat]; exact h7, fun k => by rw [← keys_flat, ← keys_flat]; exact h8 k⟩
    obtain ⟨z, _, rfl⟩ := List.mem_map.1 hy
    exact z.2
end Go.Proofs.Ytfejjfbhlmjkeaa.C
end
section
set_option linter.unusedVariables false
set_option linter.unusedSimpArgs false
namespace Go.Proofs.Ytfejjfbhlmjkeaa.C
open Go.RowKit Go.Proofs.YtfejjfbhlmjkeaaW.PrintWords Go.Proofs.YtfejjfbhlmjkeaaW.PrintLast Go.Proofs.YtfejjfbhlmjkeaaW.PrintMore Go.Proofs.Ytfejjfbhlmjkeaa.B Go.Proofs.Ytfejjfbhlmjkeaa.Reg Go.Proofs.Ytfejjfbhlmjkeaa.PRecordIs Go.Proofs.Ytfejjfbhlmjkeaa.CQ Go.Proofs.Ytfejjfbhlmjkeaa.Vi Go.Proofs.Ytfejjfbhlmjkeaa.N Go.Proofs.Ytfejjfbhlmjkeaa.Bt
/-- One cell of a block. -/
theorem blk_set3 {w : World} {j : Nat} {a b c : Value} {t : TypeId} (h : w.heap[j]? = some (.cells #[a, b, c] t)) (u : Value) : (w.setCell ⟨j, 1, none⟩ u).heap[j]? = some (.cells #[a, u, c] t) := blk_set h 1 u
theorem blk_set3c {w : World} {j : Nat} {a b c : Value} {t : TypeId} (h : w.heap[j]? = some (.cells #[a, b, c] t)) (u : Value) : (w.setCell ⟨j, 2, none⟩ u).heap[j]? = some (.cells #[a, b, u] t) := blk_set h 2 u
/-- What may turn: all but a block. -/
structure Bj (j : Nat) (w w' : World) : Prop where
  box : w'.heap[j]? = w.heap[j]?
theorem Bj.refl {j : Nat} (w : World) : Bj j w w := ⟨rfl⟩
theorem Bj.trans {j : Nat} {a b c : World} (h : Bj j a b) (k : Bj j b c) : Bj j a c := ⟨k.box.trans h.box⟩
theorem Bj.drew {j : Nat} {a b : World} (h : Bj j a b) : Bj j a (b.drewN 1) := ⟨h.box⟩
theorem Bj.of {j : Nat} {a b : World} {row : Option Nat} (h : a.grownBy b row) (hj : j < a.heap.size) (hne : row ≠ some j) : Bj j a b := ⟨h.block j hj (Ne.symm hne)⟩
/-- All that is known in a round of Get: the reader; the box of the entry that is made, of the result; the labels' row. -/
structure InGet (w0 w : World) (g b j0 j : Nat) (st : St) (at_ : Int) (v : Value) (line : ByteArray) (xs : List S47) : Prop where
  rs : RS w g b st
  box : w.heap[j]? = some (.cells #[.int .i64 at_, v, .string line] 34)
  res : w.heap[j0]? = some (.cells #[.int .i64 0, .slice none 0 0, .string ⟨#[]⟩] 34)
  own : w.ownsRow (j + 1) 47 2 v xs.length (labC xs)
  grown : w0.grownBy w (some g)
  lt : g < w0.heap.size ∧ b < w0.heap.size ∧ w0.heap.size ≤ j0 ∧ j0 < j ∧ j < w.heap.size
theorem InGet.drew {w0 w : World} {g b j0 j : Nat} {st : St} {at_ : Int} {v : Value} {line : ByteArray} {xs : List S47} (h : InGet w0 w g b j0 j st at_ v line xs) : InGet w0 w.drew g b j0 j st at_ v line xs :=
  ⟨h.rs.kept (row := none) ⟨rfl, rfl, rfl, Nat.le_refl _, fun _ _ _ => rfl⟩ (by simp) (by simp), h.box, h.res, h.own, grown_drewN h.grown 1, h.lt⟩
theorem InGet.read {w0 w w' : World} {g b j0 j : Nat} {st st' : St} {at_ : Int} {v : Value} {line : ByteArray} {xs : List S47} (h : InGet w0 w g b j0 j st at_ v line xs) (hr : RS w' g b st') (hg : w.grownBy w' (some g)) : InGet w0 w' g b j0 j st' at_ v line xs := by
  obtain ⟨l1, l2, l3, l4, l5⟩ := h.lt
  exact ⟨hr, (hg.block j l5 (by simp; omega)).trans h.box, (hg.block j0 (by omega) (by simp; omega)).trans h.res, owns_kept h.own hg (fun k hk => by cases hk; omega), h.grown.trans hg, l1, l2, l3, l4, Nat.lt_of_lt_of_le l5 hg.size⟩
theorem InGet.alloc {w0 w : World} {g b j0 j : Nat} {st : St} {at_ : Int} {v : Value} {line : ByteArray} {xs : List S47} (h : InGet w0 w g b j0 j st at_ v line xs) (o : Obj) : InGet w0 (w.alloc o) g b j0 j st at_ v line xs := by
  obtain ⟨l1, l2, l3, l4, l5⟩ := h.lt
  have hg := World.grownBy_alloc w o none
  exact ⟨h.rs.kept hg (by simp) (by simp), (hg.block j l5 (by simp)).trans h.box, (hg.block j0 (by omega) (by simp)).trans h.res, h.own.alloc o, grown_alloc h.grown o, l1, l2, l3, l4, Nat.lt_of_lt_of_le l5 hg.size⟩
theorem InGet.below {w0 w w' : World} {g b j0 j : Nat} {st : St} {at_ : Int} {v : Value} {line : ByteArray} {xs : List S47} (h : InGet w0 w g b j0 j st at_ v line xs) (hb : Below w.heap.size w w') : InGet w0 w' g b j0 j st at_ v line xs := by
  obtain ⟨l1, l2, l3, l4, l5⟩ := h.lt
  have hg := grown_of_below hb none
  exact ⟨h.rs.kept hg (by simp) (by simp), (hg.block j l5 (by simp)).trans h.box, (hg.block j0 (by omega) (by simp)).trans h.res, owns_kept h.own hg (fun k hk => by cases hk), grown_new h.grown hg (fun k hk => by cases hk), l1, l2, l3, l4, Nat.lt_of_lt_of_le l5 hg.size⟩
/-- Behind an append, and the store of what it answers. -/
theorem InGet.more {w0 w w' : World} {g b j0 j : Nat} {st : St} {at_ : Int} {v v' : Value} {line : ByteArray} {xs ys : List S47} (h : InGet w0 w g b j0 j st at_ v line xs) (hg : w.grownBy w' v.ownBlock) (hown : w'.ownsRow (j + 1) 47 2 v' ys.length (labC ys)) :
    InGet w0 (w'.setCell ⟨j, 1, none⟩ v') g b j0 j st at_ v' line ys := by
  obtain ⟨l1, l2, l3, l4, l5⟩ := h.lt
  have hv := owns_block h.own
  have n : ∀ i, i ≤ j → v.ownBlock ≠ some i := fun i hi e => by have := hv i e; omega
  have hb : w'.heap[j]? = some (.cells #[.int .i64 at_, v, .string line] 34) := (hg.block j l5 (Ne.symm (n j (Nat.le_refl _)))).trans h.box
  have hs := grown_set w' j 1 v'
  refine ⟨(h.rs.kept hg (Ne.symm (n g (by omega))) (Ne.symm (n b (by omega)))).kept hs (by simp; omega) (by simp; omega), blk_set3 hb v', ?_, ownsRow_setCell_below hown (Nat.lt_succ_self j) v', ?_, l1, l2, l3, l4, Nat.lt_of_lt_of_le l5 (Nat.le_trans hg.size hs.size)⟩
  · exact (hs.block j0 (by have := hg.size; omega) (by simp; omega)).trans ((hg.block j0 (by omega) (Ne.symm (n j0 (by omega)))).trans h.res)
  · exact grown_new (grown_new h.grown hg (fun k hk => by have := hv k hk; omega)) hs (fun k hk => by cases hk; omega)
theorem InGet.line {w0 w : World} {g b j0 j : Nat} {st : St} {at_ : Int} {v : Value} {line : ByteArray} {xs : List S47} (h : InGet w0 w g b j0 j st at_ v line xs) (s : ByteArray) : InGet w0 (w.setCell ⟨j, 2, none⟩ (.string s)) g b j0 j st at_ v s xs := by
  obtain ⟨l1, l2, l3, l4, l5⟩ := h.lt
  have hs := grown_set w j 2 (.string s)
  exact ⟨h.rs.kept hs (by simp; omega) (by simp; omega), blk_set3c h.box _, (hs.block j0 (by omega) (by simp; omega)).trans h.res, ownsRow_setCell_below h.own (Nat.lt_succ_self j) _, grown_new h.grown hs (fun k hk => by cases hk; omega), l1, l2, l3, l4, Nat.lt_of_lt_of_le l5 hs.size⟩
end Go.Proofs.Ytfejjfbhlmjkeaa.C
end
section
set_option linter.unusedVariables false
set_option linter.unusedSimpArgs false
namespace Go.Proofs.Ytfejjfbhlmjkeaa.C
open Go.RowKit Go.Proofs.YtfejjfbhlmjkeaaW.PrintWords Go.Proofs.YtfejjfbhlmjkeaaW.PrintLast Go.Proofs.YtfejjfbhlmjkeaaW.PrintMore Go.Proofs.Ytfejjfbhlmjkeaa.B Go.Proofs.Ytfejjfbhlmjkeaa.Reg Go.Proofs.Ytfejjfbhlmjkeaa.PRecordIs Go.Proofs.Ytfejjfbhlmjkeaa.CQ Go.Proofs.Ytfejjfbhlmjkeaa.Vi Go.Proofs.Ytfejjfbhlmjkeaa.N Go.Proofs.Ytfejjfbhlmjkeaa.Bt
theorem append_run {ρ : Operand → Value} {dst : Option Tmp} {s x : Operand} {t ty : TypeId} {pos : String} {after : Array Edge} {guard : Option (Nat × Bool)} {v y v1 : Value} {W w1 : World} (hrun : ∀ ty, (Builtin.append_ #[t, t] ty #[v, y]).run Try.prog W = .ok v1 w1) (hs : ρ s = v) (hx : ρ x = y) :
    (execOp ρ { dst, op := .call { callee := .builtin .append, args := #[s, x], argTypes := #[t, t] }, type := ty, pos, after, guard }).run Try.prog W = .ok (.value v1) w1 := by
  unfold execOp
  simp only [resolve, invoke, builtin, Sem.run_bind, Sem.run_pure, Result.andThen_ok, List.map_toArray, List.map_cons, List.map_nil, hs, hx, hrun]
end Go.Proofs.Ytfejjfbhlmjkeaa.C
end
