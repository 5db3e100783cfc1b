import Derived.Laws.BytesArg
import Derived.Lib.AppendStr
import Derived.Lib.ConvBytes
import Derived.Lib.SlBytesConst
import Derived.Maps.AppendAt
import Derived.Deep.AppendLies
import Derived.OwnWalk
import Derived.Test.YtpleiklodomgiaaGreatDoorModelPages1
set_option linter.unusedVariables false
set_option linter.unusedSimpArgs false
section
namespace Go.Proofs.YtpleiklodomgiaaGreatDoor.B
open Go.RowKit Go.Proofs.YtpleiklodomgiaaGreatDoorW.PrintWords
def bv (b : UInt8) : Value := .int .u8 (b.toNat : Int)
def cs (l : List UInt8) : List Value := l.map bv
def str (l : List UInt8) : ByteArray := ⟨l.toArray⟩
theorem cs_length (l : List UInt8) : (cs l).length = l.length := by simp [cs]
theorem data_str (l : List UInt8) : (str l).data.toList = l := by simp [str]
def Own (w : World) (base : Nat) (e : TypeId) (v : Value) (xs : List Value) : Prop :=
 (v = .slice none 0 0 ∧ xs = []) ∨
 ∃ g cap cur fz, v = .slice (some ⟨g, 0, none⟩) xs.length cap ∧ base ≤ g ∧ w.heap[g]? = some (.cells cur e fz) ∧ (cap ≤ fz.1 ∨ fz.2 = 0) ∧ xs.length ≤ cap ∧ cap ≤ maxLen ∧ cur.size = cap ∧ cur.toList.take xs.length = xs
theorem Own.nil (w : World) (base : Nat) (e : TypeId) : Own w base e (.slice none 0 0) [] := .inl ⟨rfl, rfl⟩
theorem Own.of_row {w : World} {base : Nat} {e : TypeId} {v : Value} {n : Nat} {xs : List Value} (h : w.ownsRow base e 1 v n xs) : Own w base e v xs := by
 have hl : xs.length = n := by have := h.1; simpa using this
 rcases h.2 with ⟨rfl, h0⟩ | ⟨g, cap, cur, rfl, hb, hg, h1, h2, h3, h4⟩
 ·exact .inl ⟨rfl, List.eq_nil_of_length_eq_zero (by omega)⟩
 ·exact .inr ⟨g, cap, cur, (0, 0), by rw [hl], hb, hg, .inr rfl, by omega, h2, by simpa using h3, by rw [hl]; simpa using h4⟩
theorem Own.kept {w w' : World} {base : Nat} {e : TypeId} {v : Value} {xs : List Value} {row : Option Nat} (h : Own w base e v xs) (hg : w.grownBy w' row) (hne : v.ownBlock = none ∨ v.ownBlock ≠ row) : Own w' base e v xs := by
 rcases h with h | ⟨g, cap, cur, fz, rfl, hb, hgg, rest⟩
 ·exact .inl h
 ·refine .inr ⟨g, cap, cur, fz, rfl, hb, ?_, rest⟩
  rw [hg.block g (Array.getElem?_eq_some_iff.1 hgg).1 (by simpa [Value.ownBlock] using hne)]
  exact hgg
theorem Own.lt {w : World} {base : Nat} {e : TypeId} {v : Value} {xs : List Value} (h : Own w base e v xs) : ∀ k, v.ownBlock = some k → base ≤ k ∧ k < w.heap.size := by
 intro k hk
 rcases h with ⟨rfl, _⟩ | ⟨g, cap, cur, fz, rfl, hb, hg, _⟩
 ·simp [Value.ownBlock] at hk
 ·simp [Value.ownBlock] at hk
  subst hk
  exact ⟨hb, (Array.getElem?_eq_some_iff.1 hg).1⟩
theorem Own.alloc {w : World} {base : Nat} {e : TypeId} {v : Value} {xs : List Value} (h : Own w base e v xs) (o : Obj) : Own (w.alloc o) base e v xs :=
 h.kept (World.grownBy_alloc w o none) (by cases v.ownBlock <;> simp)
theorem Own.below {w w' : World} {base : Nat} {e : TypeId} {v : Value} {xs : List Value} (h : Own w base e v xs) (hb : Below w.heap.size w w') : Own w' base e v xs :=
 h.kept (grown_of_below hb none) (by cases v.ownBlock <;> simp)
theorem Own.drewN {w : World} {base : Nat} {e : TypeId} {v : Value} {xs : List Value} (h : Own w base e v xs) (n : Nat) : Own (w.drewN n) base e v xs := h
theorem Own.drew {w : World} {base : Nat} {e : TypeId} {v : Value} {xs : List Value} (h : Own w base e v xs) : Own w.drew base e v xs := h
theorem Own.weaken {w : World} {base base' : Nat} {e : TypeId} {v : Value} {xs : List Value} (h : Own w base e v xs) (hb : base' ≤ base) : Own w base' e v xs := by
 rcases h with h | ⟨g, cap, cur, fz, rfl, hg, r⟩
 ·exact .inl h
 ·exact .inr ⟨g, cap, cur, fz, rfl, Nat.le_trans hb hg, r⟩
theorem Own.cells {w : World} {base : Nat} {e : TypeId} {v : Value} {xs : List Value} (h : Own w base e v xs) {g : Nat} (hg : v.ownBlock = some g) : ∀ j u, xs[j]? = some u → w.cell? ((⟨g, 0, none⟩ : Addr).add j) = some u := by
 intro j u hu
 rcases h with ⟨rfl, _⟩ | ⟨g', cap, cur, fz, rfl, _, hgg, _, _, _, _, htake⟩
 ·simp [Value.ownBlock] at hg
 ·simp [Value.ownBlock] at hg
  subst hg
  rw [add_plain, cell_of_row w g' j cur e fz hgg]
  rw [← htake, List.getElem?_take] at hu
  split at hu
  ·simpa using hu
  ·cases hu
theorem Own.shape {w : World} {base : Nat} {e : TypeId} {v : Value} {xs : List Value} (h : Own w base e v xs) : ∃ A c, v = .slice A xs.length c ∧ xs.length ≤ c ∧ xs.length ≤ 9223372036854775807 := by
 rcases h with ⟨rfl, rfl⟩ | ⟨g, cap, cur, fz, rfl, _, _, _, h1, h2, _⟩
 ·exact ⟨none, 0, rfl, by simp, by simp⟩
 ·exact ⟨_, cap, rfl, h1, by simp only [maxLen] at h2; omega⟩
theorem Own.at_ {w : World} {base g n cap : Nat} {e : TypeId} {xs : List Value} (h : Own w base e (.slice (some ⟨g, 0, none⟩) n cap) xs) (i : Nat) (hi : i < xs.length) :
  w.cell? ⟨g, i, none⟩ = some xs[i] ∧ w.frozen? ⟨g, i, none⟩ = false := by
 constructor
 ·have := h.cells rfl i xs[i] (by simp [hi])
  rwa [add_plain] at this
 ·rcases h with ⟨h, _⟩ | ⟨g', cap', cur, fz, h, _, hg, hfz, hn, _, hc, _⟩
  ·cases h
  ·cases h
   obtain ⟨lo, hi'⟩ := fz
   simp only [World.frozen?, hg, Bool.and_eq_false_iff, decide_eq_false_iff_not]
   simp only at hfz
   omega
theorem Own.store {w : World} {base g n cap : Nat} {e : TypeId} {xs : List Value} (h : Own w base e (.slice (some ⟨g, 0, none⟩) n cap) xs) (i : Nat) (hi : i < xs.length) (u : Value) :
  Own (w.setCell ⟨g, i, none⟩ u) base e (.slice (some ⟨g, 0, none⟩) n cap) (xs.set i u) ∧ w.grownBy (w.setCell ⟨g, i, none⟩ u) (some g) := by
 rcases h with ⟨h, _⟩ | ⟨g', cap', cur, fz, h, hb, hg, hfz, hn, hm, hc, ht⟩
 ·cases h
 ·cases h
  rw [setCell_eq_setRow w g i cur e fz u hg]
  refine ⟨.inr ⟨g, cap, cur.setIfInBounds i u, fz, by simp, hb, setRow_heap w g cur _ e fz hg, hfz, by simpa using hn, hm, by simpa using hc, ?_⟩, ⟨rfl, rfl, rfl, by simp, fun k _ hk => setRow_other w g k _ (fun e => hk (by rw [e]))⟩⟩
  rw [Array.toList_setIfInBounds, List.length_set, List.take_set, ht]
theorem run_storeCells_atG (P : Program) (g o cap : Nat) (t : TypeId) (fz : Nat × Nat) (hfz : cap ≤ fz.1 ∨ fz.2 = 0) : ∀ (vs : List Value) (i : Nat) (cur : Array Value) (w : World), w.heap[g]? = some (.cells cur t fz) → o + i + vs.length ≤ cap → cur.size = cap → (∀ v ∈ vs, v.oneCell' = true) →
  (storeCells ⟨g, o, none⟩ vs i).run P w = .ok () (w.setRow g (cur.toList.take (o + i) ++ vs ++ cur.toList.drop (o + i + vs.length)).toArray)
 | [], i, cur, w, hg, _, _, _ => by
  simp only [storeCells, List.append_nil, List.length_nil, Nat.add_zero, List.take_append_drop, Array.toArray_toList]
  rw [setRow_self w g cur t fz hg]
  rfl
 | v :: rest, i, cur, w, hg, hl, hcap, h1 => by
  have hi : o + i < cur.size := by simp at hl; omega
  have hcell : w.cell? ⟨g, o + i, none⟩ = some cur[o + i] := by simp [World.cell?, hg, hi]
  have hfro : w.frozen? ⟨g, o + i, none⟩ = false := by
   obtain ⟨lo, hi'⟩ := fz
   simp only [World.frozen?, hg, Bool.and_eq_false_iff, decide_eq_false_iff_not]
   simp only at hfz
   omega
  have hst : (store ((⟨g, o, none⟩ : Addr).add i) v).run P w = .ok () (w.setRow g (cur.setIfInBounds (o + i) v)) := by
   have hadd : (⟨g, o, none⟩ : Addr).add i = ⟨g, o + i, none⟩ := by unfold Addr.add; split <;> simp_all
   rw [hadd, run_store P w _ v _ (h1 v (by simp)), hcell]
   simp [hfro, setCell_eq_setRow w g (o + i) cur t fz v hg]
  have ih := run_storeCells_atG P g o cap t fz hfz rest (i + 1) (cur.setIfInBounds (o + i) v) (w.setRow g (cur.setIfInBounds (o + i) v)) (setRow_heap w g cur _ t _ hg) (by simp at hl; omega) (by simpa using hcap) (fun x hx => h1 x (by simp [hx]))
  simp only [storeCells, Sem.run_bind, hst, Result.andThen_ok, ih, setRow_setRow]
  congr 3
  have e := list_seg_step cur.toList (o + i) v rest (by simp at hl ⊢; omega)
  simpa [Array.toList_setIfInBounds, Nat.add_assoc] using e
section
variable {P : Program} (w : World)
theorem run_append_b (base : Nat) (t ty e : TypeId) (i : TypeInfo) (z : Value) (bytes : Nat) (ht : P.underlying t = some (.slice e)) (hi : P.info? e = some i) (hz : i.zero = some z)
  (hsize : i.size = 1) (hby : i.bytes = bytes) (hzs : z.cells.size = 1) (hb0 : 0 < bytes)
  (v : Value) (xs : List Value) (hown : Own w base e v xs)
  (a : Option Addr) (c : Nat) (news : List Value) (hnews : ∀ ad, a = some ad → ∀ j u, news[j]? = some u → w.cell? (ad.add j) = some u) (hnil : a = none → news = []) (h1 : ∀ u ∈ news, u.oneCell' = true)
  (hbytes : (xs.length + news.length) * bytes ≤ 140737488355328) (hbase : base ≤ w.heap.size) :
  ∃ v' w', (Builtin.append_ #[t, t] ty #[v, .slice a news.length c]).run P w = .ok v' w' ∧ Own w' base e v' (xs ++ news) ∧ w.grownBy w' v.ownBlock ∧ (v'.ownBlock = v.ownBlock ∨ v'.ownBlock = some w.heap.size) := by
 subst hby
 have hlen : xs.length + news.length ≤ 140737488355328 := Nat.le_trans (Nat.le_mul_of_pos_right _ hb0) hbytes
 have hmax : xs.length + news.length ≤ maxLen := by simp only [maxLen]; omega
 rcases hown with ⟨rfl, rfl⟩ | ⟨g, cap, cur, fz, rfl, hbg, hg, hfz, hnc, hcm, hcs, htake⟩
 ·cases a with
  | none =>
   obtain rfl := hnil rfl
   refine ⟨.slice none 0 0, w, ?_, .inl ⟨rfl, rfl⟩, ⟨rfl, rfl, rfl, Nat.le_refl _, fun _ _ _ => rfl⟩, .inl rfl⟩
   simp [Builtin.append_, run_underlying ht, sizeOf, typeInfo, hi, Builtin.lenOf, Builtin.firstCells]
  | some ad =>
   obtain ⟨v', w', hr, h2, h3, _, h5⟩ := run_append_own_at (P := P) w base t ty e i z 1 i.bytes ht hi hz hsize rfl hzs (by omega) (.slice none 0 0) 0 [] (World.ownsRow_nil w base e 1) ad news.length c news (by simp) (hnews ad rfl) h1 (by simpa using hmax) (by simpa using hbytes) hbase
   exact ⟨v', w', hr, Own.of_row h2, h3, h5⟩
 ·cases a with
  | none =>
   obtain rfl := hnil rfl
   refine ⟨.slice (some ⟨g, 0, none⟩) xs.length cap, w, ?_, .inr ⟨g, cap, cur, fz, by simp, hbg, hg, hfz, by simpa using hnc, hcm, hcs, by simpa using htake⟩, ⟨rfl, rfl, rfl, Nat.le_refl _, fun _ _ _ => rfl⟩, .inl rfl⟩
   simp [Builtin.append_, run_underlying ht, sizeOf, typeInfo, hi, hsize, Builtin.lenOf, Builtin.firstCells, hnc, storeCells]
  | some ad =>
   by_cases hroom : xs.length + news.length ≤ cap
   ·have hf := run_firstCells_some (P := P) w i.size news.length ad news.length c news (by simp [hsize]) (hnews ad rfl)
    have hst := run_storeCells_atG P g xs.length cap e fz hfz news 0 cur w hg (by simpa using hroom) hcs h1
    simp only [Nat.add_zero] at hst
    refine ⟨.slice (some ⟨g, 0, none⟩) (xs.length + news.length) cap, w.setRow g (cur.toList.take xs.length ++ news ++ cur.toList.drop (xs.length + news.length)).toArray, ?_, .inr ⟨g, cap, _, fz, by simp, hbg, setRow_heap w g cur _ e _ hg, hfz, by simpa using hroom, hcm, ?_, ?_⟩, ⟨rfl, rfl, rfl, by simp, fun k _ hk => setRow_other w g k _ (fun e => hk (by simp [Value.ownBlock, e]))⟩, .inl rfl⟩
    ·rw [hsize] at hf
     simp [Builtin.append_, run_underlying ht, sizeOf, typeInfo, hi, hsize, Builtin.lenOf, hroom, hf, Addr.add_lit, hst]
    ·simp only [List.size_toArray, List.length_append, List.length_take, List.length_drop, Array.length_toList]
     omega
    ·rw [htake, List.length_append, ← List.length_append]
     exact List.take_left
   ·have holds : ∀ j u, xs[j]? = some u → w.cell? ((⟨g, 0, none⟩ : Addr).add j) = some u := by
     intro j u hu
     rw [add_plain, cell_of_row w g j cur e fz hg]
     rw [← htake, List.getElem?_take] at hu
     split at hu
     ·simpa using hu
     ·cases hu
    have hr := run_append_grow (P := P) w t ty e i z ht hi hz ⟨g, 0, none⟩ xs.length cap xs (by simp [hsize]) holds ad news.length c news (by simp [hsize]) (hnews ad rfl) (by omega) (by simp only [maxLen] at hmax; omega) (growslice_fits (by omega) hbytes)
    have hge := grownCap_ge w (xs.length + news.length) cap e
    have hgm : grownCap w (xs.length + news.length) cap e ≤ maxLen := grownCap_le_maxLen w _ cap e hmax
    refine ⟨_, _, hr, .inr ⟨w.heap.size, _, _, (0, 0), by simp, hbase, heap_alloc_new w.drew _, .inr rfl, by simpa using hge, hgm, ?_, ?_⟩, ⟨rfl, rfl, rfl, by simp, fun k hk _ => Below.heap_alloc w.drew _ k hk⟩, .inr rfl⟩
    ·simp only [Array.size_append, List.size_toArray, size_zeroCells, hzs]
     omega
    ·simp only [Array.toList_append, List.append_assoc]
     rw [← List.append_assoc]
     exact List.take_left
end
section
variable {P : Program} {w : World} {ops : Array Oper} {rest : List Oper} {o : Oper} {a : Act} {Q : Exit → Act → World → Prop}
theorem wpList_append_b (base : Nat) (hgd : o.guard = none) (s x : Operand) (t e : TypeId) (z : Value) (bytes : Nat)
  (ho : o.op = .call { callee := .builtin .append, args := #[s, x], argTypes := #[t, t] })
  (ht : P.underlying t = some (.slice e)) (hinfo : (P.info? e).map (fun i => (i.zero, i.size, i.bytes)) = some (some z, 1, bytes)) (hz : z.cells.size = 1) (hb0 : 0 < bytes)
  (v : Value) (xs : List Value) (hs : a.eval s = v) (hown : Own w base e v xs)
  (A : Option Addr) (m c : Nat) (news : List Value) (hx : a.eval x = .slice A m c) (hm : news.length = m) (hnews : ∀ ad, A = some ad → ∀ j u, news[j]? = some u → w.cell? (ad.add j) = some u) (hnil : A = none → news = []) (h1 : ∀ u ∈ news, u.oneCell' = true)
  (hbytes : (xs.length + m) * bytes ≤ 140737488355328) (hbase : base ≤ w.heap.size)
  (h : ∀ v' w', Own w' base e v' (xs ++ news) → w.grownBy w' v.ownBlock → (v'.ownBlock = v.ownBlock ∨ v'.ownBlock = some w.heap.size) → wpList P ops Q rest (a.put o.dst v') w') : wpList P ops Q (o :: rest) a w := by
 obtain ⟨i0, hi, hzz⟩ := Option.map_eq_some_iff.1 hinfo
 simp only [Prod.mk.injEq] at hzz
 obtain ⟨hz0, hz1, hz2⟩ := hzz
 subst hm
 refine wpList_plain hgd fun K hK => ?_
 obtain ⟨v', w', hr, h2, h3, h4⟩ := run_append_b (P := P) w base t o.type e i0 z bytes ht hi hz0 hz1 hz2 hz hb0 v xs hown A c news hnews hnil h1 hbytes hbase
 unfold Oper.wp execOp
 simp only [ho, resolve, invoke, builtin, Sem.run_bind, Sem.run_pure, Result.andThen_ok, List.map_toArray, List.map_cons, List.map_nil, hs, hx, hr]
 exact hK _ _ (h v' w' h2 h3 h4)
end
theorem news_row (w : World) (xs : List Value) (t : TypeId) : ∀ ad, some (⟨w.heap.size, 0, none⟩ : Addr) = some ad → ∀ j u, xs[j]? = some u → (w.alloc (.cells xs.toArray t)).cell? (ad.add j) = some u := by
 intro ad h j u hu
 cases h
 exact World.news_of_block (cs := xs.toArray) (t := t) (fr := (0, 0)) (Go.heap_alloc_new w _) j u (by simpa using hu)
theorem grown_refl (w : World) (row : Option Nat) : w.grownBy w row := World.grownBy.refl w row
theorem grown_drewN {w w1 : World} {row : Option Nat} (h : w.grownBy w1 row) (n : Nat) : w.grownBy (w1.drewN n) row := ⟨h.os, h.tape, h.output, h.size, h.block⟩
def Reads (w : World) (A : Option Addr) (l : List UInt8) : Prop := (A = none → l = []) ∧ ∀ ad, A = some ad → ∀ j (h : j < l.length), w.cell? (ad.add j) = some (bv l[j])
theorem Reads.below {w w' : World} {A : Option Addr} {l : List UInt8} (h : Reads w A l) (hb : Below w.heap.size w w') : Reads w' A l :=
 ⟨h.1, fun ad e j hj => pw_cell_below hb (h.2 ad e j hj)⟩
theorem Own.reads {w : World} {base : Nat} {e : TypeId} {v : Value} {l : List UInt8} (h : Own w base e v (cs l)) : ∃ A c, v = .slice A l.length c ∧ Reads w A l ∧ l.length ≤ c ∧ l.length ≤ 9223372036854775807 := by
 have h' := h
 rcases h with ⟨rfl, h0⟩ | ⟨g, cap, cur, fz, rfl, hbg, hg, hfz, hnc, hcm, hcs, htake⟩
 ·have : l = [] := by simpa [cs] using h0
  subst this
  exact ⟨none, 0, rfl, ⟨fun _ => rfl, fun _ e => (by cases e)⟩, by simp, by simp⟩
 ·refine ⟨_, cap, by rw [cs_length], ⟨fun e => (by cases e), fun ad e j hj => ?_⟩, by simpa [cs_length] using hnc, by rw [cs_length] at hnc; simp only [maxLen] at hcm; omega⟩
  cases e
  exact h'.cells rfl j _ (by simp [cs, hj])
theorem Reads.take {w : World} {A : Option Addr} {l : List UInt8} (h : Reads w A l) (i : Nat) : Reads w A (l.take i) :=
 ⟨fun e => by rw [h.1 e]; simp, fun ad e j hj => by
  rw [List.length_take] at hj
  rw [h.2 ad e j (by omega)]
  simp⟩
theorem Reads.drop {w : World} {A : Option Addr} {l : List UInt8} {c : Nat} (h : Reads w A l) (i : Nat) (hi : i ≤ l.length) (hc : l.length ≤ c) : Reads w (if c = i then A else A.map (·.add i)) (l.drop i) := by
 by_cases e : c = i
 ·have : l.drop i = [] := by rw [List.drop_eq_nil_iff]; omega
  rw [if_pos e, this]
  exact ⟨fun _ => rfl, fun _ _ j hj => by simp at hj⟩
 ·rw [if_neg e]
  refine ⟨fun h0 => ?_, fun ad h0 j hj => ?_⟩
  ·cases A with
   | none => rw [h.1 rfl]; simp
   | some x => cases h0
  ·cases A with
   | none => cases h0
   | some x =>
    cases h0
    rw [List.length_drop] at hj
    have ha : (x.add i).add j = x.add (i + j) := by
     unfold Addr.add
     by_cases h1 : i = 0 <;> by_cases h2 : j = 0 <;> simp [h1, h2, Nat.add_assoc]
    rw [ha, h.2 x rfl (i + j) (by omega)]
    simp
end Go.Proofs.YtpleiklodomgiaaGreatDoor.B
end
