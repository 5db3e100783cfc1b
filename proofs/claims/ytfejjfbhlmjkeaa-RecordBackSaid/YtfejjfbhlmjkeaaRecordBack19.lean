/- Texts of this claim (printed ones, too), put together by a program that left out what the claim does not use. -/
import Derived.Laws.AppendOwn
import Derived.Test.YtfejjfbhlmjkeaaRecordBack18
import Derived.Test.YtfejjfbhlmjkeaaRecordBack9
import Derived.Test.YtfejjfbhlmjkeaaRecordBack5
section
set_option linter.unusedVariables false
set_option linter.unusedSimpArgs false
namespace Go.Proofs.Ytfejjfbhlmjkeaa.C
open Go.RowKit Go.Proofs.YtfejjfbhlmjkeaaW.PrintWords Go.Proofs.YtfejjfbhlmjkeaaW.PrintLast Go.Proofs.YtfejjfbhlmjkeaaW.PrintMore Go.Proofs.Ytfejjfbhlmjkeaa.B Go.Proofs.Ytfejjfbhlmjkeaa.Reg Go.Proofs.Ytfejjfbhlmjkeaa.PRecordIs Go.Proofs.Ytfejjfbhlmjkeaa.CQ Go.Proofs.Ytfejjfbhlmjkeaa.Vi Go.Proofs.Ytfejjfbhlmjkeaa.N Go.Proofs.Ytfejjfbhlmjkeaa.Bt
abbrev St := Option (List UInt8)
/-- So many labels. -/
noncomputable def getLabs : Nat → St → List S47 × St
  | 0, st => ([], st)
  | n + 1, st =>
    let a := N.txt 20 st
    let c := N.txt 20 a.2
    let r := getLabs n c.2
    (⟨str a.1, str c.1⟩ :: r.1, r.2)
/-- What is read: the entry, and what is left. -/
noncomputable def getRaw (st : St) : Key × St :=
  let i := nxt 18446744073709551615 st
  let n := nxt 4 i.2
  let l := getLabs n.1 n.2
  let t := N.txt 200 l.2
  (⟨unzig i.1, l.1, str t.1⟩, t.2)
noncomputable def getOk (st : St) : Bool := (getRaw st).2.isSome && goodE (getRaw st).1
def noKey : Key := ⟨0, [], ⟨#[]⟩⟩
noncomputable def getKey (st : St) : Key := if getOk st = true then (getRaw st).1 else noKey
/-- The cells of labels. -/
def labC (xs : List S47) : List Value := xs.flatMap fun x => [.string x.f0, .string x.f1]
theorem labC_get : ∀ (xs : List S47) (i : Nat) (x : S47), xs[i]? = some x → (labC xs)[i * 2]? = some (.string x.f0) ∧ (labC xs)[i * 2 + 1]? = some (.string x.f1)
  | [], _, _, h => by simp at h
  | y :: xs, 0, x, h => by
    simp only [List.getElem?_cons_zero, Option.some.injEq] at h
    subst h
    exact ⟨rfl, rfl⟩
  | y :: xs, i + 1, x, h => by
    have ih := labC_get xs i x (by simpa using h)
    unfold labC at *
    rw [List.flatMap_cons]
    constructor
    · rw [List.getElem?_append_right (by show 2 ≤ _; omega), show (i + 1) * 2 - [Value.string y.f0, Value.string y.f1].length = i * 2 by show (i + 1) * 2 - 2 = _; omega]; exact ih.1
    · rw [List.getElem?_append_right (by show 2 ≤ _; omega), show (i + 1) * 2 + 1 - [Value.string y.f0, Value.string y.f1].length = i * 2 + 1 by show (i + 1) * 2 + 1 - 2 = _; omega]; exact ih.2
/-- A row of labels that is owned, read. -/
theorem own_labels {w : World} {base : Nat} {v : Value} {xs : List S47} (h : w.ownsRow base 47 2 v xs.length (labC xs)) : ∃ A c, v = .slice A xs.length c ∧ Kd.C k47 w A xs.length xs ∧ xs.length ≤ c := by
  rcases h.2 with ⟨rfl, h0⟩ | ⟨g, cap, cur, rfl, hb, hg, h1, h2, h3, h4⟩
  · refine ⟨none, 0, by rw [h0], ⟨rfl, by omega, fun hp => by omega⟩, by omega⟩
  · refine ⟨_, cap, rfl, ⟨rfl, Nat.le_trans h1 h2, fun _ => ⟨_, rfl, fun j x hx => ⟨_, rfl, k47_mk w x, fun i u hu => ?_⟩⟩⟩, h1⟩
    have e : (⟨g, 0, none⟩ : Addr).add (j * k47.sz + i) = ⟨g, j * 2 + i, none⟩ := by
      show (⟨g, 0, none⟩ : Addr).add (j * 2 + i) = _
      rw [add_at, Nat.zero_add]
    have hj : j < xs.length := by
      rcases Nat.lt_or_ge j xs.length with h5 | h5
      · exact h5
      · rw [List.getElem?_eq_none h5] at hx; cases hx
    have hl := labC_get xs j x hx
    rw [e]
    match i, hu with
    | 0, hu => rw [← hu, h.cellAt (j * 2 + 0) (by omega)]; exact hl.1
    | 1, hu => rw [← hu, h.cellAt (j * 2 + 1) (by omega)]; exact hl.2
theorem grown_new {w a b : World} {r r' : Option Nat} (h : w.grownBy a r) (k : a.grownBy b r') (hr : ∀ k, r' = some k → w.heap.size ≤ k) : w.grownBy b r :=
  ⟨k.os.trans h.os, k.tape.trans h.tape, k.output.trans h.output, Nat.le_trans h.size k.size, fun i hi hne => (k.block i (Nat.lt_of_lt_of_le hi h.size) (fun e => by have := hr i e.symm; omega)).trans (h.block i hi hne)⟩
theorem owns_kept {w w' : World} {base : Nat} {e : TypeId} {size : Nat} {v : Value} {n : Nat} {xs : List Value} {row : Option Nat} (h : w.ownsRow base e size v n xs) (hg : w.grownBy w' row) (hr : ∀ k, row = some k → k < base) : w'.ownsRow base e size v n xs := by
  refine ⟨h.1, h.2.imp id ?_⟩
  rintro ⟨g, cap, cur, rfl, hb, hgg, rest⟩
  exact ⟨g, cap, cur, rfl, hb, (hg.block g (Array.getElem?_eq_some_iff.1 hgg).1 (fun e => by have := hr g e.symm; omega)).trans hgg, rest⟩
theorem owns_block {w : World} {base : Nat} {e : TypeId} {size : Nat} {v : Value} {n : Nat} {xs : List Value} (h : w.ownsRow base e size v n xs) : ∀ k, v.ownBlock = some k → base ≤ k := by
  intro k hk
  rcases h.2 with ⟨rfl, _⟩ | ⟨g, cap, cur, rfl, hb, _⟩
  · cases hk
  · cases hk; exact hb
theorem infoL : (Try.prog.info? 47).map (fun i => (i.zero, i.size, i.bytes)) = some (some (.agg #[.string ⟨#[]⟩, .string ⟨#[]⟩]), 2, 32) := by kernel_rfl
/-- One label more. -/
theorem append_label (base : Nat) (w : World) (v : Value) (xs : List S47) (y : S47) (h : w.ownsRow base 47 2 v xs.length (labC xs)) (hb : base ≤ w.heap.size) (hl : xs.length ≤ 1000) :
    ∃ v' w', (∀ ty, (Builtin.append_ #[32, 32] ty #[v, .slice (some ⟨w.heap.size, 0, none⟩) 1 1]).run Try.prog (w.alloc (.cells #[.string y.f0, .string y.f1] 47)) = .ok v' w') ∧
      w'.ownsRow base 47 2 v' (xs ++ [y]).length (labC (xs ++ [y])) ∧ (w.alloc (.cells #[.string y.f0, .string y.f1] 47)).grownBy w' v.ownBlock := by
  obtain ⟨i0, hi, hp⟩ := Option.map_eq_some_iff.1 infoL
  have hz0 : i0.zero = some (.agg #[.string ⟨#[]⟩, .string ⟨#[]⟩]) := (Prod.mk.injEq .. ▸ hp).1
  have hp2 := (Prod.mk.injEq .. ▸ hp).2
  have hz1 : i0.size = 2 := (Prod.mk.injEq .. ▸ hp2).1
  have hz2 : i0.bytes = 32 := (Prod.mk.injEq .. ▸ hp2).2
  have hown : (w.alloc (.cells #[.string y.f0, .string y.f1] 47)).ownsRow base 47 2 v xs.length (labC xs) := h.alloc _
  have hr := fun ty => run_append_own (P := Try.prog) (w.alloc (.cells #[.string y.f0, .string y.f1] 47)) base 32 ty 47 i0 _ 2 32 Try.underlying32 hi hz0 hz1 hz2 rfl (by omega) v xs.length (labC xs) hown ⟨w.heap.size, 0, none⟩ 1 1 [.string y.f0, .string y.f1] rfl (fun j u hj => by
      rw [add_at, Nat.zero_add, blk_cell (Go.heap_alloc_new w _)]
      match j, hj with
      | 0, hj => rw [← hj]; rfl
      | 1, hj => rw [← hj]; rfl) (fun u hu => by
      simp only [List.mem_cons, List.not_mem_nil, or_false] at hu
      rcases hu with rfl | rfl <;> rfl) (by unfold maxLen; omega) (by omega) (by simp; omega)
  have e : labC (xs ++ [y]) = labC xs ++ [.string y.f0, .string y.f1] := by
    unfold labC; rw [List.flatMap_append]; rfl
  obtain ⟨v', w', h1, h2, h3, -⟩ := hr 0
  refine ⟨v', w', fun ty => ?_, by rw [e, List.length_append]; exact h2, h3⟩
  have : ∀ t1 t2, Builtin.append_ #[32, 32] t1 #[v, .slice (some ⟨w.heap.size, 0, none⟩) 1 1] = Builtin.append_ #[32, 32] t2 #[v, .slice (some ⟨w.heap.size, 0, none⟩) 1 1] := fun _ _ => rfl
  rw [this ty 0]
  exact h1
end Go.Proofs.Ytfejjfbhlmjkeaa.C
end
section
set_option linter.unusedVariables false
set_option linter.unusedSimpArgs false
namespace Go.Proofs.Ytfejjfbhlmjkeaa.C
open Go.RowKit Go.Proofs.YtfejjfbhlmjkeaaW.PrintWords Go.Proofs.YtfejjfbhlmjkeaaW.PrintLast Go.Proofs.YtfejjfbhlmjkeaaW.PrintMore Go.Proofs.Ytfejjfbhlmjkeaa.B Go.Proofs.Ytfejjfbhlmjkeaa.Reg Go.Proofs.Ytfejjfbhlmjkeaa.PRecordIs Go.Proofs.Ytfejjfbhlmjkeaa.CQ Go.Proofs.Ytfejjfbhlmjkeaa.Vi Go.Proofs.Ytfejjfbhlmjkeaa.N Go.Proofs.Ytfejjfbhlmjkeaa.Bt
theorem txt_le (m : Nat) (st : St) : (N.txt m st).1.length ≤ m := by
  have h := (nxt_lt m st).2
  unfold N.txt
  cases h2 : (nxt m st).2 with
  | none => simp
  | some r =>
    simp only
    split
    · simp
    · rw [List.length_take]; omega
theorem getLabs_len : ∀ n st, (getLabs n st).1.length = n
  | 0, _ => rfl
  | n + 1, st => by simp only [getLabs, List.length_cons]; rw [getLabs_len n]
theorem getLabs_small : ∀ n st, ∀ x ∈ (getLabs n st).1, x.f0.size ≤ 20 ∧ x.f1.size ≤ 20
  | 0, _, x, h => by simp [getLabs] at h
  | n + 1, st, x, h => by
    simp only [getLabs, List.mem_cons] at h
    rcases h with rfl | h
    · dsimp only
      rw [str_size, str_size]
      exact ⟨txt_le 20 _, txt_le 20 _⟩
    · exact getLabs_small n _ x h
/-- One cell of a block. -/
theorem blk_set3 {w : World} {j : Nat} {a b c : Value} {t : TypeId} (h : w.heap[j]? = some (.cells #[a, b, c] t)) (u : Value) : (w.setCell ⟨j, 1, none⟩ u).heap[j]? = some (.cells #[a, u, c] t) := blk_set h 1 u
theorem blk_set3c {w : World} {j : Nat} {a b c : Value} {t : TypeId} (h : w.heap[j]? = some (.cells #[a, b, c] t)) (u : Value) : (w.setCell ⟨j, 2, none⟩ u).heap[j]? = some (.cells #[a, b, u] t) := blk_set h 2 u
/-- What may turn: all but a block. -/
structure Bj (j : Nat) (w w' : World) : Prop where
  box : w'.heap[j]? = w.heap[j]?
theorem Bj.refl {j : Nat} (w : World) : Bj j w w := ⟨rfl⟩
theorem Bj.trans {j : Nat} {a b c : World} (h : Bj j a b) (k : Bj j b c) : Bj j a c := ⟨k.box.trans h.box⟩
theorem Bj.drew {j : Nat} {a b : World} (h : Bj j a b) : Bj j a (b.drewN 1) := ⟨h.box⟩
theorem Bj.of {j : Nat} {a b : World} {row : Option Nat} (h : a.grownBy b row) (hj : j < a.heap.size) (hne : row ≠ some j) : Bj j a b := ⟨h.block j hj (Ne.symm hne)⟩
/-- All that is known in a round of Get: the reader; the box of the entry that is made, of the result; the labels' row. -/
structure InGet (w0 w : World) (g b j0 j : Nat) (st : St) (at_ : Int) (v : Value) (line : ByteArray) (xs : List S47) : Prop where
  rs : RS w g b st
  box : w.heap[j]? = some (.cells #[.int .i64 at_, v, .string line] 34)
  res : w.heap[j0]? = some (.cells #[.int .i64 0, .slice none 0 0, .string ⟨#[]⟩] 34)
  own : w.ownsRow (j + 1) 47 2 v xs.length (labC xs)
  grown : w0.grownBy w (some g)
  lt : g < w0.heap.size ∧ b < w0.heap.size ∧ w0.heap.size ≤ j0 ∧ j0 < j ∧ j < w.heap.size
theorem InGet.drew {w0 w : World} {g b j0 j : Nat} {st : St} {at_ : Int} {v : Value} {line : ByteArray} {xs : List S47} (h : InGet w0 w g b j0 j st at_ v line xs) : InGet w0 w.drew g b j0 j st at_ v line xs :=
  ⟨h.rs.kept (row := none) ⟨rfl, rfl, rfl, Nat.le_refl _, fun _ _ _ => rfl⟩ (by simp) (by simp), h.box, h.res, h.own, grown_drewN h.grown 1, h.lt⟩
theorem InGet.read {w0 w w' : World} {g b j0 j : Nat} {st st' : St} {at_ : Int} {v : Value} {line : ByteArray} {xs : List S47} (h : InGet w0 w g b j0 j st at_ v line xs) (hr : RS w' g b st') (hg : w.grownBy w' (some g)) : InGet w0 w' g b j0 j st' at_ v line xs := by
  obtain ⟨l1, l2, l3, l4, l5⟩ := h.lt
  exact ⟨hr, (hg.block j l5 (by simp; omega)).trans h.box, (hg.block j0 (by omega) (by simp; omega)).trans h.res, owns_kept h.own hg (fun k hk => by cases hk; omega), h.grown.trans hg, l1, l2, l3, l4, Nat.lt_of_lt_of_le l5 hg.size⟩
theorem InGet.alloc {w0 w : World} {g b j0 j : Nat} {st : St} {at_ : Int} {v : Value} {line : ByteArray} {xs : List S47} (h : InGet w0 w g b j0 j st at_ v line xs) (o : Obj) : InGet w0 (w.alloc o) g b j0 j st at_ v line xs := by
  obtain ⟨l1, l2, l3, l4, l5⟩ := h.lt
  have hg := World.grownBy_alloc w o none
  exact ⟨h.rs.kept hg (by simp) (by simp), (hg.block j l5 (by simp)).trans h.box, (hg.block j0 (by omega) (by simp)).trans h.res, h.own.alloc o, grown_alloc h.grown o, l1, l2, l3, l4, Nat.lt_of_lt_of_le l5 hg.size⟩
theorem InGet.below {w0 w w' : World} {g b j0 j : Nat} {st : St} {at_ : Int} {v : Value} {line : ByteArray} {xs : List S47} (h : InGet w0 w g b j0 j st at_ v line xs) (hb : Below w.heap.size w w') : InGet w0 w' g b j0 j st at_ v line xs := by
  obtain ⟨l1, l2, l3, l4, l5⟩ := h.lt
  have hg := grown_of_below hb none
  exact ⟨h.rs.kept hg (by simp) (by simp), (hg.block j l5 (by simp)).trans h.box, (hg.block j0 (by omega) (by simp)).trans h.res, owns_kept h.own hg (fun k hk => by cases hk), grown_new h.grown hg (fun k hk => by cases hk), l1, l2, l3, l4, Nat.lt_of_lt_of_le l5 hg.size⟩
/-- Behind an append, and the store of what it answers. -/
theorem InGet.more {w0 w w' : World} {g b j0 j : Nat} {st : St} {at_ : Int} {v v' : Value} {line : ByteArray} {xs ys : List S47} (h : InGet w0 w g b j0 j st at_ v line xs) (hg : w.grownBy w' v.ownBlock) (hown : w'.ownsRow (j + 1) 47 2 v' ys.length (labC ys)) :
    InGet w0 (w'.setCell ⟨j, 1, none⟩ v') g b j0 j st at_ v' line ys := by
  obtain ⟨l1, l2, l3, l4, l5⟩ := h.lt
  have hv := owns_block h.own
  have n : ∀ i, i ≤ j → v.ownBlock ≠ some i := fun i hi e => by have := hv i e; omega
  have hb : w'.heap[j]? = some (.cells #[.int .i64 at_, v, .string line] 34) := (hg.block j l5 (Ne.symm (n j (Nat.le_refl _)))).trans h.box
  have hs := grown_set w' j 1 v'
  refine ⟨(h.rs.kept hg (Ne.symm (n g (by omega))) (Ne.symm (n b (by omega)))).kept hs (by simp; omega) (by simp; omega), blk_set3 hb v', ?_, ownsRow_setCell_below hown (Nat.lt_succ_self j) v', ?_, l1, l2, l3, l4, Nat.lt_of_lt_of_le l5 (Nat.le_trans hg.size hs.size)⟩
  · exact (hs.block j0 (by have := hg.size; omega) (by simp; omega)).trans ((hg.block j0 (by omega) (Ne.symm (n j0 (by omega)))).trans h.res)
  · exact grown_new (grown_new h.grown hg (fun k hk => by have := hv k hk; omega)) hs (fun k hk => by cases hk; omega)
theorem InGet.line {w0 w : World} {g b j0 j : Nat} {st : St} {at_ : Int} {v : Value} {line : ByteArray} {xs : List S47} (h : InGet w0 w g b j0 j st at_ v line xs) (s : ByteArray) : InGet w0 (w.setCell ⟨j, 2, none⟩ (.string s)) g b j0 j st at_ v s xs := by
  obtain ⟨l1, l2, l3, l4, l5⟩ := h.lt
  have hs := grown_set w j 2 (.string s)
  exact ⟨h.rs.kept hs (by simp; omega) (by simp; omega), blk_set3c h.box _, (hs.block j0 (by omega) (by simp; omega)).trans h.res, ownsRow_setCell_below h.own (Nat.lt_succ_self j) _, grown_new h.grown hs (fun k hk => by cases hk; omega), l1, l2, l3, l4, Nat.lt_of_lt_of_le l5 hs.size⟩
end Go.Proofs.Ytfejjfbhlmjkeaa.C
end
section
set_option linter.unusedVariables false
set_option linter.unusedSimpArgs false
namespace Go.Proofs.Ytfejjfbhlmjkeaa.C
open Go.RowKit Go.Proofs.YtfejjfbhlmjkeaaW.PrintWords Go.Proofs.YtfejjfbhlmjkeaaW.PrintLast Go.Proofs.YtfejjfbhlmjkeaaW.PrintMore Go.Proofs.Ytfejjfbhlmjkeaa.B Go.Proofs.Ytfejjfbhlmjkeaa.PRecordIs Go.Proofs.Ytfejjfbhlmjkeaa.CQ Go.Proofs.Ytfejjfbhlmjkeaa.Vi Go.Proofs.Ytfejjfbhlmjkeaa.N Go.Proofs.Ytfejjfbhlmjkeaa.Bt
theorem size_eq (s : ByteArray) : s.data.toList.length = s.size := Array.length_toList
theorem txt_read (s : ByteArray) (m : Nat) (r : List UInt8) (h : s.size ≤ m) (hm : m ≤ 4611686018427) : N.txt m (some (C.txt s ++ r)) = (s.data.toList, some r) := by
  have hn : nxt m (some (C.txt s ++ r)) = (s.size, some (s.data.toList ++ r)) := by
    unfold C.txt
    rw [List.append_assoc]
    exact nxt_yes (by omega) h
  unfold N.txt
  rw [hn]
  have := size_eq s
  simp only
  rw [if_neg (by rw [List.length_append]; omega), ← this, List.take_left, List.drop_left]
theorem labs_read : ∀ (xs : List S47) (r : List UInt8), (∀ x ∈ xs, x.f0.size ≤ 20 ∧ x.f1.size ≤ 20) → getLabs xs.length (some (labB xs ++ r)) = (xs, some r)
  | [], r, _ => rfl
  | x :: xs, r, h => by
    have h1 := h x (List.mem_cons_self ..)
    have ih := labs_read xs r (fun y hy => h y (List.mem_cons_of_mem _ hy))
    have e : labB (x :: xs) ++ r = C.txt x.f0 ++ (C.txt x.f1 ++ (labB xs ++ r)) := by
      unfold labB
      rw [List.flatMap_cons, List.append_assoc, List.append_assoc]
    simp only [List.length_cons, getLabs]
    rw [e, txt_read x.f0 20 _ h1.1 (by decide)]
    simp only
    rw [txt_read x.f1 20 _ h1.2 (by decide)]
    simp only
    rw [ih]
    simp only [str_data]
theorem labsOk_at {xs : List S47} : ∀ n, labsOk xs n = true → ∀ i, i < n → labAt xs i = true
  | 0, _, i, hi => by omega
  | n + 1, h, i, hi => by
    simp only [labsOk, Bool.and_eq_true] at h
    rcases Nat.lt_or_ge i n with h1 | h1
    · exact labsOk_at n h.1 i h1
    · rw [show i = n by omega]; exact h.2
/-- How large a good entry is at most. -/
theorem good_few {k : Key} (h : goodE k = true) : (-1099511627776 ≤ k.at_ ∧ k.at_ ≤ 1099511627776) ∧ k.ls.length ≤ 4 ∧ (∀ x ∈ k.ls, x.f0.size ≤ 20 ∧ x.f1.size ≤ 20) ∧ k.line.size ≤ 200 := by
  unfold goodE timeOk goodL lineOk at h
  simp only [Bool.and_eq_true, decide_eq_true_eq] at h
  obtain ⟨⟨h1, h2⟩, ⟨h3, h4⟩, h5, h6⟩ := h
  refine ⟨⟨h1, h2⟩, h4, fun x hx => ?_, h5⟩
  obtain ⟨i, hi, rfl⟩ := List.mem_iff_getElem.1 hx
  have h7 := labsOk_at _ h3 i hi
  unfold labAt nameB at h7
  rw [getD47 hi] at h7
  simp only [Bool.and_eq_true, decide_eq_true_eq] at h7
  exact ⟨h7.1.2.1, h7.2.1⟩
theorem short_good {k : Key} (h : goodE k = true) : Short k.ls := by
  obtain ⟨_, h2, h3, _⟩ := good_few h
  exact ⟨by omega, fun x hx => by have := h3 x hx; omega⟩
theorem raw_read {k : Key} (r : List UInt8) (h : goodE k = true) : getRaw (some (entB k ++ r)) = (k, some r) := by
  obtain ⟨h1, h2, h3, h4⟩ := good_few h
  have e : entB k ++ r = vint (zig k.at_) ++ (vint k.ls.length ++ (labB k.ls ++ (C.txt k.line ++ r))) := by
    unfold entB putB
    simp only [List.append_assoc]
  have hz := zig_lt (k := k.at_) (by omega) (by omega)
  have n1 : nxt 18446744073709551615 (some (entB k ++ r)) = (zig k.at_, some (vint k.ls.length ++ (labB k.ls ++ (C.txt k.line ++ r)))) := by
    rw [e]; exact nxt_yes hz (by omega)
  have n2 : nxt 4 (some (vint k.ls.length ++ (labB k.ls ++ (C.txt k.line ++ r)))) = (k.ls.length, some (labB k.ls ++ (C.txt k.line ++ r))) := nxt_yes (by omega) h2
  unfold getRaw
  simp only [n1, n2, labs_read k.ls _ h3, txt_read k.line 200 r h4 (by decide), unzig_zig, str_data]
theorem ok_read {k : Key} (r : List UInt8) (h : goodE k = true) : getOk (some (entB k ++ r)) = true ∧ getKey (some (entB k ++ r)) = k ∧ (getRaw (some (entB k ++ r))).2 = some r := by
  have e := raw_read r h
  have o : getOk (some (entB k ++ r)) = true := by unfold getOk; rw [e]; simpa using h
  refine ⟨o, ?_, by rw [e]⟩
  unfold getKey
  rw [if_pos o, e]
theorem entB_inj {k m : Key} (h : entB k = entB m) : k = m := by
  unfold entB at h
  obtain ⟨h1, h2⟩ := vint_inj h
  obtain ⟨h3, h4⟩ := putB_inj h2
  have h5 := (txt_inj (s := k.line) (t := m.line) (r := []) (q := []) (by rw [h4])).1
  have h6 : k.at_ = m.at_ := by rw [← unzig_zig (k := k.at_), h1, unzig_zig]
  cases k; cases m
  cases h3; cases h5; cases h6
  rfl
theorem txt_small {s : ByteArray} {m : Nat} (h : s.size ≤ m) (hm : m ≤ 1000) : (C.txt s).length ≤ m + 10 := by
  unfold C.txt
  have h1 := vint_le10 (n := s.size) (by omega)
  have h2 := size_eq s
  rw [List.length_append]
  omega
theorem labB_small : ∀ (xs : List S47), (∀ x ∈ xs, x.f0.size ≤ 20 ∧ x.f1.size ≤ 20) → (labB xs).length ≤ xs.length * 60
  | [], _ => by simp [labB]
  | x :: xs, h => by
    have h1 := h x (List.mem_cons_self ..)
    have ih := labB_small xs (fun y hy => h y (List.mem_cons_of_mem _ hy))
    have a := txt_small h1.1 (by decide)
    have b := txt_small h1.2 (by decide)
    have e : labB (x :: xs) = C.txt x.f0 ++ C.txt x.f1 ++ labB xs := by unfold labB; rw [List.flatMap_cons]
    rw [e, List.length_append, List.length_append, List.length_cons]
    omega
theorem entB_small {k : Key} (h : goodE k = true) : (entB k).length ≤ 1000 := by
  obtain ⟨h1, h2, h3, h4⟩ := good_few h
  have a := vint_le10 (zig_lt (k := k.at_) (by omega) (by omega))
  have b := vint_le10 (n := k.ls.length) (by omega)
  have c := labB_small k.ls h3
  have d := txt_small h4 (by decide)
  unfold entB putB
  rw [List.length_append, List.length_append, List.length_append]
  omega
/-- The bytes of many. -/
def allB (xs : List Key) : List UInt8 := xs.flatMap entB
theorem allB_small : ∀ (xs : List Key), (∀ x ∈ xs, goodE x = true) → (allB xs).length ≤ xs.length * 1000
  | [], _ => by simp [allB]
  | x :: xs, h => by
    have ih := allB_small xs (fun y hy => h y (List.mem_cons_of_mem _ hy))
    have a := entB_small (h x (List.mem_cons_self ..))
    have e : allB (x :: xs) = entB x ++ allB xs := by unfold allB; rw [List.flatMap_cons]
    rw [e, List.length_append, List.length_cons]
    omega
theorem allB_snoc (xs : List Key) (x : Key) : allB (xs ++ [x]) = allB xs ++ entB x := by unfold allB; simp
theorem allB_cons (x : Key) (xs : List Key) : allB (x :: xs) = entB x ++ allB xs := by unfold allB; rw [List.flatMap_cons]
end Go.Proofs.Ytfejjfbhlmjkeaa.C
end
section
set_option linter.unusedVariables false
set_option linter.unusedSimpArgs false
namespace Go.Proofs.Ytfejjfbhlmjkeaa.C
open Go.RowKit Go.Proofs.YtfejjfbhlmjkeaaW.PrintWords Go.Proofs.YtfejjfbhlmjkeaaW.PrintLast Go.Proofs.YtfejjfbhlmjkeaaW.PrintMore Go.Proofs.Ytfejjfbhlmjkeaa.B Go.Proofs.Ytfejjfbhlmjkeaa.Reg Go.Proofs.Ytfejjfbhlmjkeaa.PRecordIs Go.Proofs.Ytfejjfbhlmjkeaa.CQ Go.Proofs.Ytfejjfbhlmjkeaa.Vi Go.Proofs.Ytfejjfbhlmjkeaa.N Go.Proofs.Ytfejjfbhlmjkeaa.Bt
/-- Three cells of a block, stored one after the other. -/
theorem put3 {w : World} {j : Nat} {a b c : Value} {t : TypeId} (h : w.heap[j]? = some (.cells #[a, b, c] t)) (x y z : Value) :
    (((w.setCell ⟨j, 0, none⟩ x).setCell ⟨j, 1, none⟩ y).setCell ⟨j, 2, none⟩ z).heap[j]? = some (.cells #[x, y, z] t) := blk_set (blk_set (blk_set h 0 x) 1 y) 2 z
theorem grown_put3 (w : World) (j : Nat) (x y z : Value) : w.grownBy (((w.setCell ⟨j, 0, none⟩ x).setCell ⟨j, 1, none⟩ y).setCell ⟨j, 2, none⟩ z) (some j) :=
  World.grownBy.trans (World.grownBy.trans (grown_set w j 0 x) (grown_set _ j 1 y)) (grown_set _ j 2 z)
theorem append_run {ρ : Operand → Value} {dst : Option Tmp} {s x : Operand} {t ty : TypeId} {pos : String} {after : Array Edge} {guard : Option (Nat × Bool)} {v y v1 : Value} {W w1 : World} (hrun : ∀ ty, (Builtin.append_ #[t, t] ty #[v, y]).run Try.prog W = .ok v1 w1) (hs : ρ s = v) (hx : ρ x = y) :
    (execOp ρ { dst, op := .call { callee := .builtin .append, args := #[s, x], argTypes := #[t, t] }, type := ty, pos, after, guard }).run Try.prog W = .ok (.value v1) w1 := by
  unfold execOp
  simp only [resolve, invoke, builtin, Sem.run_bind, Sem.run_pure, Result.andThen_ok, List.map_toArray, List.map_cons, List.map_nil, hs, hx, hrun]
def T_record_Get_5 : Bool × List (List Nat × List Nat) := (true, [([], []), ([0], [0]), ([], []), ([2], [2]), ([], []), ([4, 3], [4]), ([3, 5], [3, 5]), ([6], [6]), ([1, 7, 5], [1, 7]), ([0, 1, 2, 3, 4, 5, 6, 7, 8], []), ([9, 8, 8, 0, 1, 2, 3, 4, 5, 6, 7, 8], [8, 9])])
def B_record_Get_5 : List Nat := [0, 1, 0, 4, 0, 28, 60, 124, 255, 511, 1023]
theorem tab_record_Get_5 : rtab .any (opsOf Try.f40 5) = T_record_Get_5 := by kernel_rfl
theorem bits_record_Get_5 : waitsOk T_record_Get_5.2 B_record_Get_5 = true := by kernel_rfl
set_option maxRecDepth 20000 in
set_option maxHeartbeats 8000000 in
theorem get_any {wC : World} (g b : Nat) (st : St) (w : World) (hR : RS w g b st) (hb : b < w.heap.size) (hC : Con wC) (hw : Below wC.heap.size wC w) (hg : wC.heap.size ≤ g) :
    Calls Try.prog 40 #[.pointer (some ⟨g, 0, none⟩)] w fun e w' => ∃ x : Ent, e = .returned (.tuple #[x.val, .bool (getOk st)]) ∧ x.In w' ∧ x.key = getKey st ∧ RS w' g b (getRaw st).2 ∧ w.grownBy w' (some g) := by
  have hlt := hR.lt
  have hCw : wC.heap.size ≤ w.heap.size := hw.size
  have HCon : Aside0 (∀ V, w.grownBy V (some g) → Con V) := ⟨fun V h => hC.below (hw.grown h hCw (fun k hk => by cases hk; exact hg))⟩
  obtain ⟨i1, hi1⟩ : ∃ i, i = nxt 18446744073709551615 st := ⟨_, rfl⟩
  obtain ⟨i2, hi2⟩ : ∃ i, i = nxt 4 i1.2 := ⟨_, rfl⟩
  obtain ⟨L, hL⟩ : ∃ l, l = getLabs i2.1 i2.2 := ⟨_, rfl⟩
  obtain ⟨t, ht⟩ : ∃ t, t = N.txt 200 L.2 := ⟨_, rfl⟩
  have HRaw : Aside0 (getRaw st = (⟨unzig i1.1, L.1, str t.1⟩, t.2)) := ⟨by rw [ht, hL, hi2, hi1]; rfl⟩
  have H2n : Aside0 (i2.1 ≤ 4) := ⟨by rw [hi2]; exact (nxt_lt 4 _).2⟩
  have HLs : Aside0 (L.1.length ≤ 4 ∧ ∀ x ∈ L.1, x.f0.size ≤ 20 ∧ x.f1.size ≤ 20) := ⟨by rw [hL]; exact ⟨by rw [getLabs_len]; exact H2n.out, getLabs_small _ _⟩⟩
  have HTs : Aside0 ((str t.1).size ≤ 200) := ⟨by rw [ht, str_size]; exact txt_le 200 _⟩
  obtain ⟨W0, hW0⟩ : ∃ V, V = w.alloc (.cells #[.int .i64 0, .slice none 0 0, .string ⟨#[]⟩] 34) := ⟨_, rfl⟩
  obtain ⟨j0, hj0⟩ : ∃ j, j = w.heap.size := ⟨_, rfl⟩
  have hg0 : w.grownBy W0 none := by rw [hW0]; exact World.grownBy_alloc w _ none
  have HR := Aside0.mk (hR.kept hg0 (by simp) (by simp))
  have HG0 : Aside0 (w.grownBy W0 (some g)) := ⟨by rw [hW0]; exact grown_alloc (grown_refl _ _) _⟩
  have HJ0 : Aside0 (W0.heap[j0]? = some (.cells #[.int .i64 0, .slice none 0 0, .string ⟨#[]⟩] 34)) := ⟨by rw [hW0, hj0]; exact Go.heap_alloc_new w _⟩
  have Hlt : Aside0 (g < w.heap.size ∧ b < w.heap.size ∧ w.heap.size = j0) := ⟨⟨hlt, hb, hj0.symm⟩⟩
  have H1 : Aside0 (Calls Try.prog 68 #[.pointer (some ⟨g, 0, none⟩)] W0 fun e w' => e = .returned (.int .i64 (unzig i1.1)) ∧ RS w' g b i1.2 ∧ W0.grownBy w' (some g)) := ⟨by rw [hi1]; exact ri g b st W0 HR.out⟩
  have H2 : Aside0 (∀ V, RS V g b i1.2 → Calls Try.prog 69 #[.pointer (some ⟨g, 0, none⟩), .int .u64 4] V fun e w' => e = .returned (.int .u64 (i2.1 : Int)) ∧ RS w' g b i2.2 ∧ V.grownBy w' (some g)) := ⟨fun V h => by rw [hi2]; exact ru g b i1.2 4 V (by decide) h⟩
  have HT : Aside0 (∀ V, RS V g b L.2 → Calls Try.prog 70 #[.pointer (some ⟨g, 0, none⟩), .int .i64 200] V fun e w' => e = .returned (.string (str t.1)) ∧ RS w' g b t.2 ∧ V.grownBy w' (some g)) := ⟨fun V h => by rw [ht]; exact rt g b L.2 200 200 V (by decide) (by decide) h⟩
  have HL := Aside0.mk hL
  obtain ⟨at_, hat⟩ : ∃ a, a = unzig i1.1 := ⟨_, rfl⟩
  obtain ⟨n, hn⟩ : ∃ n, n = i2.1 := ⟨_, rfl⟩
  rw [← hat] at H1 HRaw
  rw [← hn] at H2 H2n HL
  have HWd := Aside0.mk hW0
  have HJd := Aside0.mk hj0
  clear hR hb hC hw hg hlt hCw hi1 hi2 hL ht hW0 hj0 hg0 hat hn HR
  go_enter Try.func40, Try.ntmps40
  go_wp2_with fail
  try rw [← HWd.out]
  try rw [← HJd.out]
  clear HWd HJd
  ((refine H1.out.mono ?_); rintro e w1 ⟨rfl, hr1, hg1⟩)
  obtain ⟨j, hj⟩ : ∃ j, j = w1.heap.size := ⟨_, rfl⟩
  obtain ⟨W1, hW1⟩ : ∃ V, V = w1.alloc (.cells #[.int .i64 at_, .slice none 0 0, .string ⟨#[]⟩] 34) := ⟨_, rfl⟩
  have HI : Aside0 (InGet w W1 g b j0 j i1.2 at_ (.slice none 0 0) ⟨#[]⟩ []) := ⟨by
    have e := Hlt.out
    have l0 : j0 < W0.heap.size := blk_lt HJ0.out
    have l1 := hg1.size
    refine ⟨?_, ?_, ?_, ⟨rfl, .inl ⟨rfl, rfl⟩⟩, ?_, e.1, e.2.1, by omega, by omega, ?_⟩
    · rw [hW1]; exact hr1.kept (World.grownBy_alloc w1 _ none) (by simp) (by simp)
    · rw [hW1, hj]; exact Go.heap_alloc_new _ _
    · rw [hW1]; exact blk_alloc ((hg1.block j0 l0 (by simp; omega)).trans HJ0.out) _
    · rw [hW1]; exact grown_alloc (HG0.out.trans hg1) _
    · rw [hW1, hj]; simp⟩
  have HWd := Aside0.mk hW1
  have HJd := Aside0.mk hj
  clear hr1 hg1 hW1 hj H1 HG0 HJ0
  go_wp2_with fail
  try rw [← HWd.out]
  try rw [← HJd.out]
  clear HWd HJd
  ((refine (H2.out _ HI.out.rs).mono ?_); rintro e w2 ⟨rfl, hr2, hg2⟩)
  have HI := Aside0.mk (HI.out.read hr2 hg2)
  clear hr2 hg2 H2
  go_wp2
  go_loopw [5] (fun t5 wr => ∃ (m : Nat) (s : St) (v : Value) (acc : List S47), t5 = .int .u64 (m : Int) ∧ Aside0 (acc.length + m ≤ 4) ∧ Aside0 (InGet w wr g b j0 j s at_ v ⟨#[]⟩ acc) ∧ Aside0 (acc ++ (getLabs m s).1 = L.1 ∧ (getLabs m s).2 = L.2)) (fun t5 _ => (intOf t5).toNat)
  case atStart => exact ⟨n, i2.2, _, [], rfl, ⟨by have := H2n.out; simpa using this⟩, HI, ⟨by rw [HL.out]; exact ⟨rfl, rfl⟩⟩⟩
  case round =>
    clear HI
    obtain ⟨m, s, v, acc, rfl, Hm, HI, HA⟩ := hrel
    obtain ⟨Av, cv, rfl, -, -⟩ := own_labels HI.out.own
    by_cases hm0 : m = 0
    · have HA2 : Aside0 (acc = L.1 ∧ s = L.2) := ⟨by have := HA.out; rw [hm0] at this; simpa [getLabs] using this⟩
      have d1 : decide (0 < m) = false := decide_eq_false (by omega)
      have d2 : decide ((0 : Int) < (m : Int)) = false := decide_eq_false (by omega)
      clear hm0 HA
      have HI : Aside0 (InGet w wr g b j0 j L.2 at_ (.slice Av acc.length cv) ⟨#[]⟩ acc) := ⟨by rw [← HA2.out.2]; exact HI.out⟩
      go_wp2_with fail
      ((refine (HT.out _ HI.out.rs).mono ?_); rintro e w6 ⟨rfl, hr6, hg6⟩)
      have HI := Aside0.mk (HI.out.read hr6 hg6)
      clear hr6 hg6
      have x2 : w6.cell? ⟨j, 2, none⟩ = some (.string ⟨#[]⟩) := blk_cell HI.out.box 2
      have y2 : w6.frozen? ⟨j, 2, none⟩ = false := blk_frozen HI.out.box 2
      obtain ⟨V, hV⟩ : ∃ V, V = w6.setCell ⟨j, 2, none⟩ (.string (str t.1)) := ⟨_, rfl⟩
      have HV : Aside0 (InGet w V g b j0 j t.2 at_ (.slice Av acc.length cv) (str t.1) acc) := ⟨by rw [hV]; exact HI.out.line _⟩
      have HWd := Aside0.mk hV
      clear hV
      go_wp2_with fail
      try rw [← HWd.out]
      clear HWd x2 y2 HI
      ((refine (rbad g b t.2 V HV.out.rs).mono ?_); rintro e w7 ⟨rfl, hw7⟩)
      subst hw7
      cases hbad : t.2 with
      | none =>
        have HNo : Aside0 (getOk st = false) := ⟨by unfold getOk; rw [HRaw.out, hbad]; rfl⟩
        have Hbad := Aside0.mk hbad
        clear hbad
        simp only [Option.isNone_none]
        have r0 : V.cell? ⟨j0, 0, none⟩ = some (.int .i64 0) := blk_cell HV.out.res 0
        have f0 : V.frozen? ⟨j0, 0, none⟩ = false := blk_frozen HV.out.res 0
        have r1 : ∀ x, (V.setCell ⟨j0, 0, none⟩ x).cell? ⟨j0, 1, none⟩ = some (.slice none 0 0) := fun x => blk_cell (blk_set HV.out.res 0 x) 1
        have f1 : ∀ x, (V.setCell ⟨j0, 0, none⟩ x).frozen? ⟨j0, 1, none⟩ = false := fun x => blk_frozen (blk_set HV.out.res 0 x) 1
        have r2 : ∀ x y, ((V.setCell ⟨j0, 0, none⟩ x).setCell ⟨j0, 1, none⟩ y).cell? ⟨j0, 2, none⟩ = some (.string ⟨#[]⟩) := fun x y => blk_cell (blk_set (blk_set HV.out.res 0 x) 1 y) 2
        have f2 : ∀ x y, ((V.setCell ⟨j0, 0, none⟩ x).setCell ⟨j0, 1, none⟩ y).frozen? ⟨j0, 2, none⟩ = false := fun x y => blk_frozen (blk_set (blk_set HV.out.res 0 x) 1 y) 2
        go_wp2
        clear r0 f0 r1 f1 r2 f2
        refine bodyPost_ret (results_ct rfl _ _ j0 34 #[.int .i64 0, .slice none 0 0, .string ⟨#[]⟩] (0, 0) _ rfl (put3 HV.out.res (.int .i64 0) (.slice none 0 0) (.string ⟨#[]⟩)) Try.underlying34 rfl (by kernel_rfl)) rfl ?_
        have hlt := HV.out.lt
        have hgp := grown_put3 V j0 (.int .i64 0) (.slice none 0 0) (.string ⟨#[]⟩)
        refine ⟨Ent.zero, ?_, ?_, ?_, ?_, grown_new HV.out.grown hgp (fun k hk => by cases hk; omega)⟩
        · rw [HNo.out]; rfl
        · exact zero_in _
        · unfold getKey; rw [HNo.out]; rfl
        · rw [HRaw.out]; exact HV.out.rs.kept hgp (by simp; omega) (by simp; omega)
      | some rest =>
        have Hbad := Aside0.mk hbad
        clear hbad
        simp only [Option.isNone_some]
        have hOK : Aside0 (getOk st = goodE ⟨at_, L.1, str t.1⟩) := ⟨by unfold getOk; rw [HRaw.out, Hbad.out]; rfl⟩
        obtain ⟨gd, hgd⟩ : ∃ g, g = goodE ⟨at_, L.1, str t.1⟩ := ⟨_, rfl⟩
        rw [← hgd] at hOK
        have HX : Aside0 ((⟨at_, Av, cv, acc, str t.1⟩ : Ent).In V) := ⟨by
          obtain ⟨A', c', e', h1, h2⟩ := own_labels HV.out.own
          injection e' with e1 e2 e3
          subst e1 e3
          exact ⟨h1, h2, by rw [HA2.out.1]; exact Nat.le_trans HLs.out.1 (by decide)⟩⟩
        have HGd : Aside0 (Calls Try.prog 32 #[.agg #[.int .i64 at_, .slice Av acc.length cv, .string (str t.1)]] V fun e w' => e = .returned (.bool gd) ∧ Below V.heap.size V w') := ⟨by
          have h := good_any ⟨at_, Av, cv, acc, str t.1⟩ V HX.out (fun y hy => by
            have := HLs.out.2 y (by rw [← HA2.out.1]; exact hy)
            exact Nat.le_trans this.1 (by decide)) (Nat.lt_of_le_of_lt HTs.out (by decide)) (HCon.out V HV.out.grown)
          have e : goodE (Ent.key ⟨at_, Av, cv, acc, str t.1⟩) = gd := by rw [hgd, ← HA2.out.1]; rfl
          rw [e] at h
          exact h⟩
        clear hgd
        have c0 : V.cell? ⟨j, 0, none⟩ = some (.int .i64 at_) := blk_cell HV.out.box 0
        have c1 : V.cell? ⟨j, 1, none⟩ = some (.slice Av acc.length cv) := blk_cell HV.out.box 1
        have c2 : V.cell? ⟨j, 2, none⟩ = some (.string (str t.1)) := blk_cell HV.out.box 2
        go_wp2_with fail
        clear c0 c1 c2
        ((refine HGd.out.mono ?_); rintro e w8 ⟨rfl, hb8⟩)
        have HV := Aside0.mk (HV.out.below hb8)
        have HX := Aside0.mk (HX.out.below hb8)
        clear hb8 HGd
        cases gd with
        | false =>
          have HNo := hOK
          have r0 : w8.cell? ⟨j0, 0, none⟩ = some (.int .i64 0) := blk_cell HV.out.res 0
          have f0 : w8.frozen? ⟨j0, 0, none⟩ = false := blk_frozen HV.out.res 0
          have r1 : ∀ x, (w8.setCell ⟨j0, 0, none⟩ x).cell? ⟨j0, 1, none⟩ = some (.slice none 0 0) := fun x => blk_cell (blk_set HV.out.res 0 x) 1
          have f1 : ∀ x, (w8.setCell ⟨j0, 0, none⟩ x).frozen? ⟨j0, 1, none⟩ = false := fun x => blk_frozen (blk_set HV.out.res 0 x) 1
          have r2 : ∀ x y, ((w8.setCell ⟨j0, 0, none⟩ x).setCell ⟨j0, 1, none⟩ y).cell? ⟨j0, 2, none⟩ = some (.string ⟨#[]⟩) := fun x y => blk_cell (blk_set (blk_set HV.out.res 0 x) 1 y) 2
          have f2 : ∀ x y, ((w8.setCell ⟨j0, 0, none⟩ x).setCell ⟨j0, 1, none⟩ y).frozen? ⟨j0, 2, none⟩ = false := fun x y => blk_frozen (blk_set (blk_set HV.out.res 0 x) 1 y) 2
          go_wp2
          clear r0 f0 r1 f1 r2 f2
          refine bodyPost_ret (results_ct rfl _ _ j0 34 #[.int .i64 0, .slice none 0 0, .string ⟨#[]⟩] (0, 0) _ rfl (put3 HV.out.res (.int .i64 0) (.slice none 0 0) (.string ⟨#[]⟩)) Try.underlying34 rfl (by kernel_rfl)) rfl ?_
          have hlt := HV.out.lt
          have hgp := grown_put3 w8 j0 (.int .i64 0) (.slice none 0 0) (.string ⟨#[]⟩)
          refine ⟨Ent.zero, ?_, ?_, ?_, ?_, grown_new HV.out.grown hgp (fun k hk => by cases hk; omega)⟩
          · rw [HNo.out]; rfl
          · exact zero_in _
          · unfold getKey; rw [HNo.out]; rfl
          · rw [HRaw.out]; exact HV.out.rs.kept hgp (by simp; omega) (by simp; omega)
        | true =>
          have c0 : w8.cell? ⟨j, 0, none⟩ = some (.int .i64 at_) := blk_cell HV.out.box 0
          have c1 : w8.cell? ⟨j, 1, none⟩ = some (.slice Av acc.length cv) := blk_cell HV.out.box 1
          have c2 : w8.cell? ⟨j, 2, none⟩ = some (.string (str t.1)) := blk_cell HV.out.box 2
          have r0 : w8.cell? ⟨j0, 0, none⟩ = some (.int .i64 0) := blk_cell HV.out.res 0
          have f0 : w8.frozen? ⟨j0, 0, none⟩ = false := blk_frozen HV.out.res 0
          have r1 : ∀ x, (w8.setCell ⟨j0, 0, none⟩ x).cell? ⟨j0, 1, none⟩ = some (.slice none 0 0) := fun x => blk_cell (blk_set HV.out.res 0 x) 1
          have f1 : ∀ x, (w8.setCell ⟨j0, 0, none⟩ x).frozen? ⟨j0, 1, none⟩ = false := fun x => blk_frozen (blk_set HV.out.res 0 x) 1
          have r2 : ∀ x y, ((w8.setCell ⟨j0, 0, none⟩ x).setCell ⟨j0, 1, none⟩ y).cell? ⟨j0, 2, none⟩ = some (.string ⟨#[]⟩) := fun x y => blk_cell (blk_set (blk_set HV.out.res 0 x) 1 y) 2
          have f2 : ∀ x y, ((w8.setCell ⟨j0, 0, none⟩ x).setCell ⟨j0, 1, none⟩ y).frozen? ⟨j0, 2, none⟩ = false := fun x y => blk_frozen (blk_set (blk_set HV.out.res 0 x) 1 y) 2
          go_wp2
          clear c0 c1 c2 r0 f0 r1 f1 r2 f2
          refine bodyPost_ret (results_ct rfl _ _ j0 34 #[.int .i64 at_, .slice Av acc.length cv, .string (str t.1)] (0, 0) _ rfl (put3 HV.out.res (.int .i64 at_) (.slice Av acc.length cv) (.string (str t.1))) Try.underlying34 rfl (by kernel_rfl)) rfl ?_
          have hlt := HV.out.lt
          have hgp := grown_put3 w8 j0 (.int .i64 at_) (.slice Av acc.length cv) (.string (str t.1))
          refine ⟨⟨at_, Av, cv, acc, str t.1⟩, ?_, ?_, ?_, ?_, grown_new HV.out.grown hgp (fun k hk => by cases hk; omega)⟩
          · rw [hOK.out]; rfl
          · obtain ⟨A', c', e', h1, h2⟩ := own_labels (owns_kept HV.out.own hgp (fun k hk => by cases hk; omega))
            injection e' with e1 e2 e3
            subst e1 e3
            exact ⟨h1, h2, HX.out.few⟩
          · unfold getKey; rw [if_pos hOK.out, HRaw.out]; unfold Ent.key; rw [HA2.out.1]
          · rw [HRaw.out]; exact HV.out.rs.kept hgp (by simp; omega) (by simp; omega)
    · obtain ⟨k, rfl⟩ : ∃ k, m = k + 1 := ⟨m - 1, by omega⟩
      obtain ⟨a1, ha1⟩ : ∃ a, a = N.txt 20 s := ⟨_, rfl⟩
      obtain ⟨a2, ha2⟩ : ∃ a, a = N.txt 20 a1.2 := ⟨_, rfl⟩
      obtain ⟨p, hp⟩ : ∃ p, p = str a1.1 := ⟨_, rfl⟩
      obtain ⟨q, hq⟩ : ∃ q, q = str a2.1 := ⟨_, rfl⟩
      have HA2 : Aside0 ((acc ++ [⟨p, q⟩]) ++ (getLabs k a2.2).1 = L.1 ∧ (getLabs k a2.2).2 = L.2) := ⟨by
        have := HA.out
        simp only [getLabs] at this
        rw [← ha1, ← ha2, ← hp, ← hq] at this
        rw [List.append_assoc]
        exact this⟩
      have H3 : Aside0 (∀ V, RS V g b s → Calls Try.prog 70 #[.pointer (some ⟨g, 0, none⟩), .int .i64 20] V fun e w' => e = .returned (.string p) ∧ RS w' g b a1.2 ∧ V.grownBy w' (some g)) := ⟨fun V h => by rw [hp, ha1]; exact rt g b s 20 20 V (by decide) (by decide) h⟩
      have H5 : Aside0 (∀ V, RS V g b a1.2 → Calls Try.prog 70 #[.pointer (some ⟨g, 0, none⟩), .int .i64 20] V fun e w' => e = .returned (.string q) ∧ RS w' g b a2.2 ∧ V.grownBy w' (some g)) := ⟨fun V h => by rw [hq, ha2]; exact rt g b a1.2 20 20 V (by decide) (by decide) h⟩
      have hk4 : Aside0 (k ≤ 3 ∧ acc.length ≤ 3) := ⟨by have := Hm.out; omega⟩
      clear ha1 ha2 hp hq HA hm0
      have HB : Aside0 (Bj j wr wr) := ⟨Bj.refl _⟩
      have HI0 := HI
      go_wp2_with fail
      refine start_ (n := 11) (S := fun x_ => Bj j wr x_) (ds := [10]) #[false, false, false, false, false, false, false, false, false, false, false] (by kernel_rfl) rfl rfl (Bj.drew (Bj.refl _)) (fun hHeld => ?_)
      refine with_tabW tab_record_Get_5 bits_record_Get_5 (fun HT_ HW_ => ?_)
      have HB := Aside0.mk (Bj.drew HB.out)
      change Aside0 (Bj j _ (World.drew wr)) at HB
      change Bj j _ (World.drew wr) at hHeld
      have hSz : (World.drew wr).heap.size = wr.heap.size := rfl
      have HI := Aside0.mk (show InGet w (World.drew wr) g b j0 j s at_ _ ⟨#[]⟩ acc from HI.out.drew)
      clear hSz
      have HS := Aside0.mk hHeld
      clear hHeld
      generalize World.drew wr = wrd at *
      refine pure_ (i := 0) (N := (some 15)) (v := ?_) (a' := ?_) #[true, false, false, false, false, false, false, false, false, false, false] rfl rfl (any_of HT_.out (by kernel_rfl)) (fun _ _ _ h => h) (Or.inl ⟨by rfl, ?_⟩) ?_ ?_
      rotate_left
      · intro w_
        go_simp
        try with_reducible rfl
      rotate_left
      · simp only [Act.put, List.setIfInBounds_toArray, List.set_cons_zero, List.set_cons_succ, i64_w, i32_w]
        rfl
      refine pure_ (i := 2) (N := (some 17)) (v := ?_) (a' := ?_) #[true, false, true, false, false, false, false, false, false, false, false] rfl rfl (any_of HT_.out (by kernel_rfl)) (fun _ _ _ h => h) (Or.inl ⟨by rfl, ?_⟩) ?_ ?_
      rotate_left
      · intro w_
        go_simp
        try with_reducible rfl
      rotate_left
      · simp only [Act.put, List.setIfInBounds_toArray, List.set_cons_zero, List.set_cons_succ, i64_w, i32_w]
        rfl
      refine pure_ (i := 4) (N := (some 19)) (v := ?_) (a' := ?_) #[true, false, true, false, true, false, false, false, false, false, false] rfl rfl (any_of HT_.out (by kernel_rfl)) (fun _ _ _ h => h) (Or.inl ⟨by rfl, ?_⟩) ?_ ?_
      rotate_left
      · intro w_
        go_simp
        try with_reducible rfl
      rotate_left
      · simp only [Act.put, List.setIfInBounds_toArray, List.set_cons_zero, List.set_cons_succ, i64_w, i32_w]
        rfl
      refine take_ (i := 1) (N := (some 16)) (v := ?_) (a' := ?_) #[true, true, true, false, true, false, false, false, false, false, false] rfl rfl (take_ofW HT_.out HW_.out (by kernel_rfl)) (fun _ _ _ h => h) (Or.inl ⟨by rfl, ?_⟩) HS.out ?_ ?_
      rotate_left
      · intro Wx hWx
        have hc := (blk_cell (hWx.box.trans HI0.out.box) 1).trans rfl
        go_simp
        try with_reducible rfl
      rotate_left
      · simp only [Act.put, List.setIfInBounds_toArray, List.set_cons_zero, List.set_cons_succ, i64_w, i32_w]
        rfl
      refine one_ (i := 3) (N := (some 18)) #[true, true, true, true, true, false, false, false, false, false, false] rfl rfl (one_of HT_.out (by kernel_rfl)) (by decide) (fun K hK => ?_)
      refine goes_ Try.func70 (by kernel_rfl) rfl #[.pointer (some ⟨g, 0, none⟩), .int .i64 20] (by rfl) rfl rfl (by (try simp only [List.map_toArray, List.map_cons, List.map_nil]); first | done | rfl) ?_
      refine (H3.out _ HI.out.rs).mono ?_
      rintro e w5_3 ⟨rfl, hr_, hg_⟩
      refine ⟨_, rfl, ?_⟩
      have HI3 := Aside0.mk (HI.out.read hr_ hg_)
      have hb_ : Bj j wr w5_3 := HS.out.trans (Bj.of hg_ HI.out.lt.2.2.2.2 (by have := HI.out.lt; simp; omega))
      refine hK.out _ _ hb_ (fun hHeld => ?_)
      clear hK K
      clear hHeld
      (try clear hb)
      have HS := Aside0.mk hb_
      clear hb_
      refine norm_ (a' := ?_) ?_ ?_
      rotate_left
      · show Act.put _ (some 18) _ = _
        simp only [Act.put, List.setIfInBounds_toArray, List.set_cons_zero, List.set_cons_succ, i64_w, i32_w]
        rfl
      refine one_ (i := 5) (N := (some 20)) #[true, true, true, true, true, true, false, false, false, false, false] rfl rfl (one_of HT_.out (by kernel_rfl)) (by decide) (fun K hK => ?_)
      refine goes_ Try.func70 (by kernel_rfl) rfl #[.pointer (some ⟨g, 0, none⟩), .int .i64 20] (by rfl) rfl rfl (by (try simp only [List.map_toArray, List.map_cons, List.map_nil]); first | done | rfl) ?_
      refine (H5.out _ HI3.out.rs).mono ?_
      rintro e w5_5 ⟨rfl, hr_, hg_⟩
      refine ⟨_, rfl, ?_⟩
      have HI5 := Aside0.mk (HI3.out.read hr_ hg_)
      have hb_ : Bj j wr w5_5 := HS.out.trans (Bj.of hg_ HI3.out.lt.2.2.2.2 (by have := HI3.out.lt; simp; omega))
      refine hK.out _ _ hb_ (fun hHeld => ?_)
      clear hK K
      clear hHeld
      (try clear hb)
      have HS := Aside0.mk hb_
      clear hb_
      refine norm_ (a' := ?_) ?_ ?_
      rotate_left
      · show Act.put _ (some 20) _ = _
        simp only [Act.put, List.setIfInBounds_toArray, List.set_cons_zero, List.set_cons_succ, i64_w, i32_w]
        rfl
      refine pure_ (i := 6) (N := (some 21)) (v := ?_) (a' := ?_) #[true, true, true, true, true, true, true, false, false, false, false] rfl rfl (any_of HT_.out (by kernel_rfl)) (fun _ _ _ h => h) (Or.inl ⟨by rfl, ?_⟩) ?_ ?_
      rotate_left
      · intro w_
        go_simp
        try with_reducible rfl
      rotate_left
      · simp only [Act.put, List.setIfInBounds_toArray, List.set_cons_zero, List.set_cons_succ, i64_w, i32_w]
        rfl
      refine one_ (i := 7) (N := (some 22)) #[true, true, true, true, true, true, true, true, false, false, false] rfl rfl (one_of HT_.out (by kernel_rfl)) (by decide) (fun K hK => ?_)
      refine value_ (w1 := ?_) (v := ?_) (by rfl) rfl ?_ ?_
      rotate_left 2
      · go_simp
        constructor
        · rfl
        · rfl
      have hb : Bj j wr (w5_5.alloc (.cells #[.string p, .string q] 47)) := HS.out.trans (Bj.of (World.grownBy_alloc w5_5 _ none) HI5.out.lt.2.2.2.2 (by simp))
      obtain ⟨v8, w8x, hrun, hown8, hg8⟩ := append_label (j + 1) w5_5 (.slice Av acc.length cv) acc ⟨p, q⟩ HI5.out.own (by have := HI5.out.lt; omega) (by have := hk4.out; omega)
      obtain ⟨A8, c8, rfl, -, -⟩ := own_labels hown8
      have HI7 := Aside0.mk (HI5.out.alloc (.cells #[.string p, .string q] 47))
      dsimp only at hrun hg8
      have hrun := Aside0.mk hrun
      have hown8 := Aside0.mk hown8
      have hg8 := Aside0.mk hg8
      have hb_ : Bj j wr (w5_5.alloc (.cells #[.string p, .string q] 47)) := hb
      refine hK.out _ _ hb_ (fun hHeld => ?_)
      clear hK K
      clear hHeld
      (try clear hb)
      generalize (w5_5.alloc (.cells #[.string p, .string q] 47)) = w5_7 at *
      have HS := Aside0.mk hb_
      clear hb_
      refine norm_ (a' := ?_) ?_ ?_
      rotate_left
      · show Act.put _ (some 22) _ = _
        simp only [Act.put, List.setIfInBounds_toArray, List.set_cons_zero, List.set_cons_succ, i64_w, i32_w]
        rfl
      refine one_ (i := 8) (N := (some 23)) #[true, true, true, true, true, true, true, true, true, false, false] rfl rfl (one_of HT_.out (by kernel_rfl)) (by decide) (fun K hK => ?_)
      refine value_ (w1 := ?_) (v := ?_) (by rfl) rfl ?_ ?_
      rotate_left 2
      · refine (append_run (v := Value.slice Av acc.length cv) (y := Value.slice (some ⟨w5_5.heap.size, 0, none⟩) 1 1) hrun.out rfl rfl).trans ?_; simp only [Result.ok.injEq, Next.value.injEq]; constructor <;> rfl
      have hb : Bj j wr (w8x) := HS.out.trans (Bj.of hg8.out HI7.out.lt.2.2.2.2 (fun e => by have := owns_block HI7.out.own j e; omega))
      have HI8 := Aside0.mk (HI7.out.more hg8.out hown8.out)
      have hbx : w8x.heap[j]? = some (.cells #[.int .i64 at_, .slice Av acc.length cv, .string ⟨#[]⟩] 34) := (hg8.out.block j HI7.out.lt.2.2.2.2 (fun e => by have := owns_block HI7.out.own j e.symm; omega)).trans HI7.out.box
      have hc8 : w8x.cell? ⟨j, 1, none⟩ = some (.slice Av acc.length cv) := blk_cell hbx 1
      have hf8 : w8x.frozen? ⟨j, 1, none⟩ = false := blk_frozen hbx 1
      clear hbx
      have hb_ : Bj j wr (w8x) := hb
      refine hK.out _ _ hb_ (fun hHeld => ?_)
      clear hK K
      clear hHeld
      (try clear hb)
      generalize (w8x) = w5_8 at *
      have HS := Aside0.mk hb_
      clear hb_
      refine norm_ (a' := ?_) ?_ ?_
      rotate_left
      · show Act.put _ (some 23) _ = _
        simp only [Act.put, List.setIfInBounds_toArray, List.set_cons_zero, List.set_cons_succ, i64_w, i32_w]
        rfl
      refine pure_ (i := 9) (N := (some 24)) (v := ?_) (a' := ?_) #[true, true, true, true, true, true, true, true, true, true, false] rfl rfl (any_of HT_.out (by kernel_rfl)) (fun _ _ _ h => h) (Or.inl ⟨by rfl, ?_⟩) ?_ ?_
      rotate_left
      · intro w_
        go_simp
        try with_reducible rfl
      rotate_left
      · simp only [Act.put, List.setIfInBounds_toArray, List.set_cons_zero, List.set_cons_succ, i64_w, i32_w]
        rfl
      refine last_ (i := 10) (N := none) #[true, true, true, true, true, true, true, true, true, true, true] rfl rfl (one_of HT_.out (by kernel_rfl)) (by decide) (fun K hK => ?_)
      refine skip_ (w1 := w5_8.setCell ⟨j, 1, none⟩ (.slice A8 (acc ++ [(⟨p, q⟩ : S47)]).length c8)) (by rfl) rfl ?_ ?_
      · go_simp
        try first | done | rfl | (constructor <;> rfl)
      refine hK.out _ _ ?_
      clear hK K
      generalize w5_8.setCell ⟨j, 1, none⟩ (.slice A8 (acc ++ [(⟨p, q⟩ : S47)]).length c8) = w5_10 at *
      refine norm_ (a' := ?_) ?_ ?_
      rotate_left
      · rfl
      refine done_ (done_of HT_.out (by kernel_rfl)) ?_
      go_wp2_with fail
      go_roundw
      case rel => exact ⟨k, a2.2, _, acc ++ [⟨p, q⟩], by rw [u64_wrap, show (k : Int) % 18446744073709551616 = k by have := hk4.out.1; omega], ⟨by have := Hm.out; rw [List.length_append]; simp only [List.length_cons, List.length_nil]; omega⟩, HI8, HA2⟩
      case measure => have := hk4.out.1; rw [u64_wrap, show (k : Int) % 18446744073709551616 = k by omega]; simp [intOf]
end Go.Proofs.Ytfejjfbhlmjkeaa.C
end
