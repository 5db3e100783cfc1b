import Derived.Test.YtpleiklodomgiaaGreatDoorModelPages26
import Derived.Test.YtpleiklodomgiaaGreatDoorModelPages9
import Derived.Test.YtpleiklodomgiaaGreatDoorModelPages22
set_option linter.unusedVariables false
set_option linter.unusedSimpArgs false
section
namespace Go.Proofs.YtpleiklodomgiaaGreatDoor.B
end Go.Proofs.YtpleiklodomgiaaGreatDoor.B
namespace Go.Proofs.YtpleiklodomgiaaGreatDoor.It
end Go.Proofs.YtpleiklodomgiaaGreatDoor.It
namespace Go.Proofs.YtpleiklodomgiaaGreatDoor.PModelIs
end Go.Proofs.YtpleiklodomgiaaGreatDoor.PModelIs
namespace Go.Proofs.YtpleiklodomgiaaGreatDoor.W
open Go.RowKit Go.Shelf Go.Proofs.YtpleiklodomgiaaGreatDoorW.PrintWords Go.Proofs.YtpleiklodomgiaaGreatDoorW.PrintLast Go.Proofs.YtpleiklodomgiaaGreatDoor.B Go.Proofs.YtpleiklodomgiaaGreatDoor.It Go.Proofs.YtpleiklodomgiaaGreatDoor.PModelIs
attribute [local go_sem] Oper.semAt_some
theorem w64_in (n : Int) (h : 0 ≤ n ∧ n ≤ 9223372036854775807) : wrap64 n = n := by unfold wrap64; omega
theorem rdOf_at (xs : List ByteArray) (i : Nat) (h : i < xs.length) : rdOf ByteArray.empty xs (i : Int) = xs[i] := by
 unfold rdOf
 rw [Int.toNat_natCast, List.getD_eq_getElem?_getD, List.getElem?_eq_getElem h]
 rfl
def ReadsS (w : World) (v : Value) (xs : List ByteArray) : Prop := ∃ A c, v = .slice A xs.length c ∧ xs.length ≤ c ∧ xs.length ≤ 9223372036854775807 ∧ (0 < xs.length → ∃ ad, A = some ad ∧ ∀ j, j < xs.length → w.cell? (ad.add j) = some (.string (xs.getD j ByteArray.empty)))
theorem ReadsS.below {w w' : World} {v : Value} {xs : List ByteArray} (h : ReadsS w v xs) (hb : Below w.heap.size w w') : ReadsS w' v xs := by
 obtain ⟨A, c, h1, h2, h3, h4⟩ := h
 exact ⟨A, c, h1, h2, h3, fun h0 => by obtain ⟨ad, ha, hc⟩ := h4 h0; exact ⟨ad, ha, fun j hj => pw_cell_below hb (hc j hj)⟩⟩
theorem getD_map (xs : List ByteArray) (j : Nat) (hj : j < xs.length) : (xs.map Value.string)[j]? = some (.string (xs.getD j ByteArray.empty)) := by
 rw [List.getElem?_map, List.getD_eq_getElem?_getD, List.getElem?_eq_getElem hj]
 rfl
theorem readsS_own {w : World} {base : Nat} {e : TypeId} {v : Value} {xs : List ByteArray} (h : B.Own w base e v (xs.map .string)) : ReadsS w v xs := by
 obtain ⟨A, c, hv, h1, h2⟩ := h.shape
 rw [List.length_map] at hv h1 h2
 refine ⟨A, c, hv, h1, h2, fun h0 => ?_⟩
 rcases h with ⟨rfl, h3⟩ | ⟨g, cap, cur, fz, h3, h4⟩
 ·rw [List.map_eq_nil_iff] at h3
  subst h3
  cases h0
 ·rw [hv] at h3
  obtain rfl : A = some ⟨g, 0, none⟩ := by injection h3
  refine ⟨_, rfl, fun j hj => ?_⟩
  have ho : B.Own w base e (.slice (some ⟨g, 0, none⟩) (xs.map Value.string).length cap) (xs.map .string) := .inr ⟨g, cap, cur, fz, rfl, h4⟩
  exact ho.cells rfl j _ (getD_map xs j hj)
theorem readsS_new (w : World) (t : TypeId) (xs : List ByteArray) (hl : xs.length ≤ 9223372036854775807) : ReadsS (w.alloc (.cells (xs.map Value.string).toArray t)) (.slice (some ⟨w.heap.size, 0, none⟩) xs.length xs.length) xs :=
 ⟨_, _, rfl, Nat.le_refl _, hl, fun _ => ⟨_, rfl, fun j hj => news_row w (xs.map Value.string) t _ rfl j _ (getD_map xs j hj)⟩⟩
end Go.Proofs.YtpleiklodomgiaaGreatDoor.W
end
section
namespace Go.Proofs.YtpleiklodomgiaaGreatDoor.W
end Go.Proofs.YtpleiklodomgiaaGreatDoor.W
namespace Go.Proofs.YtpleiklodomgiaaGreatDoor.F
open Go.RowKit Go.Proofs.YtpleiklodomgiaaGreatDoorW.PrintWords Go.Proofs.YtpleiklodomgiaaGreatDoorW.PrintLast Go.Proofs.YtpleiklodomgiaaGreatDoorW.PrintMore Go.Proofs.YtpleiklodomgiaaGreatDoor.W Go.Proofs.YtpleiklodomgiaaGreatDoor.PModelIs
theorem next_total (L : List Int) (at_ n : Int) (hL : L.length ≤ 300) (h0 : 0 ≤ at_) (h1 : at_ ≤ L.length) (hn : 0 < n) (hn2 : n ≤ 100) : ∃ r at', magpieref06_Source_Next.f L at_ n = some (r, at') ∧ 0 ≤ r ∧ r < n ∧ 0 ≤ at' ∧ at' ≤ L.length := by
 unfold magpieref06_Source_Next.f
 by_cases hge : at_ ≥ (L.length : Int)
 ·rw [if_pos hge]; exact ⟨0, at_, rfl, Int.le_refl _, hn, h0, h1⟩
 ·have e1 : wrap64 (at_ + 1) = at_ + 1 := w64_in _ (by omega)
  have e2 : wrap64 (at_ + 1 - 1) = at_ := by rw [w64_in _ (by omega)]; omega
  rw [if_neg hge, e1, e2, if_pos h0, if_pos (by omega)]
  have e3 : IntKind.u64.wrap n = n := by simp [IntKind.wrap, IntKind.signed, IntKind.bits]; omega
  rw [e3, if_neg (by omega)]
  have hx : 0 ≤ IntKind.u64.wrap (rd L at_) := by simp [IntKind.wrap, IntKind.signed, IntKind.bits]; omega
  have hm1 := Int.tmod_nonneg n hx
  have hm2 := Int.tmod_lt_of_pos (IntKind.u64.wrap (rd L at_)) hn
  rw [w64_in _ ⟨hm1, by omega⟩]
  exact ⟨_, _, rfl, hm1, hm2, by omega, by omega⟩
theorem text_total (L : List Int) (at_ : Int) (hL : L.length ≤ 300) (h0 : 0 ≤ at_) (h1 : at_ ≤ L.length) : ∃ t at', magpieref06_Source_Text.f L at_ = some (t, at') ∧ t.size ≤ 100 ∧ 0 ≤ at' ∧ at' ≤ L.length := by
 obtain ⟨r, at', h, h2, h3, h4, h5⟩ := next_total L at_ 12 hL h0 h1 (by decide) (by decide)
 unfold magpieref06_Source_Text.f
 simp only [Option.bind_some, h]
 rw [if_pos h2, if_pos (by simpa using h3)]
 refine ⟨_, _, rfl, ?_, h4, h5⟩
 have hr : r = 0 ∨ r = 1 ∨ r = 2 ∨ r = 3 ∨ r = 4 ∨ r = 5 ∨ r = 6 ∨ r = 7 ∨ r = 8 ∨ r = 9 ∨ r = 10 ∨ r = 11 := by omega
 rcases hr with rfl | rfl | rfl | rfl | rfl | rfl | rfl | rfl | rfl | rfl | rfl | rfl <;> decide
def OkT : Nat → S35 → Prop
 | 0, _ => False
 | d + 1, T => T.f1.size ≤ 100 ∧ T.f2.size ≤ 100 ∧ T.f3.length ≤ 3 ∧ (T.f0 = 6 → T.f3.length = 1) ∧ ∀ k ∈ T.f3, OkT d k
theorem OkT.up : ∀ {d : Nat} {T : S35}, OkT d T → OkT (d + 1) T
 | 0, _, h => h.elim
 | d + 1, T, h => ⟨h.1, h.2.1, h.2.2.1, h.2.2.2.1, fun k hk => (h.2.2.2.2 k hk).up⟩
theorem leaf_ok (d : Nat) (op : Int) (ho : op ≠ 6) (nm tx : ByteArray) (h1 : nm.size ≤ 100) (h2 : tx.size ≤ 100) : OkT (d + 1) ⟨op, nm, tx, []⟩ := ⟨h1, h2, by simp, fun e => absurd e ho, fun k hk => by cases hk⟩
def Made (L : List Int) (d : Nat) (x : Option (Int × ByteArray × ByteArray × List S35 × Int)) : Prop := ∃ r1 r2 r3 r4 r5, x = some (r1, r2, r3, r4, r5) ∧ OkT (d + 1) ⟨r1, r2, r3, r4⟩ ∧ 0 ≤ r5 ∧ r5 ≤ L.length
theorem rd3 (r : Int) (h2 : 0 ≤ r) (h3 : r < 3) : (rdOf ByteArray.empty [(⟨#[107]⟩ : ByteArray), (⟨#[97]⟩ : ByteArray), (⟨#[105, 100]⟩ : ByteArray)] r).size ≤ 100 := by
 have hr : r = 0 ∨ r = 1 ∨ r = 2 := by omega
 rcases hr with rfl | rfl | rfl <;> decide
theorem leaf_made (L : List Int) (hL : L.length ≤ 300) (d k : Nat) (x1 x12 at_ : Int) (b : Bool) (h0 : 0 ≤ at_) (h1 : at_ ≤ L.length) (hb : b = true ∨ x12 = 2 ∨ x12 = 3 ∨ x12 = 4) : Made L d (magpieref06_Source_Make.j1 (k + 1) x1 x12 b L at_) := by
 unfold magpieref06_Source_Make.j1
 by_cases hb1 : b = true
 ·rw [if_pos hb1]
  obtain ⟨t, at', h, h2, h3, h4⟩ := text_total L at_ hL h0 h1
  rw [h]
  exact ⟨_, _, _, _, _, rfl, leaf_ok d _ (by decide) _ _ (by decide) h2, h3, h4⟩
 ·rw [if_neg hb1]
  by_cases h2 : x12 = 2
  ·rw [if_pos h2]
   obtain ⟨t, at', h, h2, h3, h4⟩ := text_total L at_ hL h0 h1
   rw [h]
   exact ⟨_, _, _, _, _, rfl, leaf_ok d _ (by decide) _ _ (by decide) h2, h3, h4⟩
  ·rw [if_neg h2]
   by_cases h3 : x12 = 3
   ·rw [if_pos h3]
    obtain ⟨r, at', h, g2, g3, g4, g5⟩ := next_total L at_ 3 hL h0 h1 (by decide) (by decide)
    obtain ⟨t, at2, h', g6, g7, g8⟩ := text_total L at' hL g4 g5
    simp only [Option.bind_some, h]
    rw [if_pos g2, if_pos (by simpa using g3), h']
    exact ⟨_, _, _, _, _, rfl, leaf_ok d _ (by decide) _ _ (rd3 r g2 g3) g6, g7, g8⟩
   ·rw [if_neg h3, if_pos (hb.elim (fun h => absurd h hb1) (fun h => h.elim (fun h => absurd h h2) (fun h => h.elim (fun h => absurd h h3) id)))]
    obtain ⟨r, at', h, g2, g3, g4, g5⟩ := next_total L at_ 2 hL h0 h1 (by decide) (by decide)
    rw [h]
    exact ⟨_, _, _, _, _, rfl, leaf_ok d _ (by rw [w64_in _ (by omega)]; omega) _ _ (by decide) (by decide), g4, g5⟩
theorem row_made (L : List Int) (hL : L.length ≤ 300) (d : Nat) (hd : d ≤ 100) (a : Int) (ha : a ≤ (d : Int) + 1) (ha0 : 0 < a)
  (ih : ∀ (at_ : Int), 0 ≤ at_ → at_ ≤ L.length → ∀ k, 20 * (d + 1) ≤ k → Made L d (magpieref06_Source_Make.f k L at_ (a - 1))) (op : Int) (ho : op ≠ 6) :
  ∀ (m : Nat) (kids : List S35) (at_ : Int) (k : Nat), kids.length + m ≤ 3 → (∀ x ∈ kids, OkT (d + 1) x) → 0 ≤ at_ → at_ ≤ L.length → 20 * (d + 1) + m + 1 ≤ k → Made L (d + 1) (magpieref06_Source_Make.l0 k a (m : Int) L at_ op ⟨#[]⟩ ⟨#[]⟩ kids) := by
 intro m
 induction m with
 | zero =>
  intro kids at_ k hk hkids h0 h1 hkk
  obtain ⟨k, rfl⟩ : ∃ k', k = k' + 1 := ⟨k - 1, by omega⟩
  unfold magpieref06_Source_Make.l0
  rw [if_neg (by omega)]
  exact ⟨_, _, _, _, _, rfl, ⟨Nat.zero_le _, Nat.zero_le _, by simpa using hk, fun e => absurd e ho, hkids⟩, h0, h1⟩
 | succ m ihm =>
  intro kids at_ k hk hkids h0 h1 hkk
  obtain ⟨k, rfl⟩ : ∃ k', k = k' + 1 := ⟨k - 1, by omega⟩
  unfold magpieref06_Source_Make.l0
  rw [if_pos (by omega), w64_in (a - 1) (by omega)]
  obtain ⟨r1, r2, r3, r4, r5, h, hok, g0, g1⟩ := ih at_ h0 h1 k (by omega)
  rw [h]
  simp only [Option.bind_some]
  rw [if_pos (by omega), w64_in _ (by omega)]
  have e : ((m + 1 : Nat) : Int) - 1 = (m : Int) := by omega
  rw [e]
  exact ihm (kids ++ [⟨r1, r2, r3, r4⟩]) r5 k (by rw [List.length_append, List.length_singleton]; omega) (fun x hx => (List.mem_append.1 hx).elim (hkids x) (fun hx => by rw [List.mem_singleton.1 hx]; exact hok)) g0 g1 (by omega)
theorem make_total (L : List Int) (hL : L.length ≤ 300) : ∀ (d : Nat), d ≤ 100 → ∀ (a : Int), a ≤ (d : Int) → ∀ (at_ : Int), 0 ≤ at_ → at_ ≤ L.length → ∀ k, 20 * (d + 1) ≤ k → Made L d (magpieref06_Source_Make.f k L at_ a) := by
 have leafs : ∀ (d k : Nat) (a at_ : Int), 0 ≤ at_ → at_ ≤ L.length → 3 ≤ k → Made L d (magpieref06_Source_Make.j0 k a 5 L at_) := by
  intro d k a at_ h0 h1 hk
  obtain ⟨k, rfl⟩ : ∃ k', k = k' + 2 := ⟨k - 2, by omega⟩
  obtain ⟨r, at', h, g2, g3, g4, g5⟩ := next_total L at_ 5 hL h0 h1 (by decide) (by decide)
  unfold magpieref06_Source_Make.j0
  rw [h]
  simp only [Option.bind_some]
  have hr : r = 0 ∨ r = 1 ∨ r = 2 ∨ r = 3 ∨ r = 4 := by omega
  by_cases hr0 : r = 0
  ·rw [if_pos hr0]; exact leaf_made L hL d k a r at' _ g4 g5 (.inl (by rw [hr0]; rfl))
  ·rw [if_neg hr0]
   refine leaf_made L hL d k a r at' _ g4 g5 ?_
   rcases hr with h | h | h | h | h
   ·exact absurd h hr0
   ·exact .inl (by rw [h]; rfl)
   ·exact .inr (.inl h)
   ·exact .inr (.inr (.inl h))
   ·exact .inr (.inr (.inr h))
 intro d
 induction d with
 | zero =>
  intro hd a ha at_ h0 h1 k hk
  obtain ⟨k, rfl⟩ : ∃ k', k = k' + 1 := ⟨k - 1, by omega⟩
  unfold magpieref06_Source_Make.f
  rw [if_pos (by omega)]
  exact leafs 0 k a at_ h0 h1 (by omega)
 | succ d ih =>
  intro hd a ha at_ h0 h1 k hk
  have ih := ih (by omega)
  obtain ⟨k, rfl⟩ : ∃ k', k = k' + 3 := ⟨k - 3, by omega⟩
  unfold magpieref06_Source_Make.f
  by_cases ha0 : a ≤ 0
  ·rw [if_pos ha0]; exact leafs (d + 1) (k + 2) a at_ h0 h1 (by omega)
  ·rw [if_neg ha0]
   obtain ⟨r, at', h, g2, g3, g4, g5⟩ := next_total L at_ 8 hL h0 h1 (by decide) (by decide)
   unfold magpieref06_Source_Make.j0
   rw [h]
   simp only [Option.bind_some]
   by_cases hr0 : r = 0
   ·rw [if_pos hr0]; exact leaf_made L hL (d + 1) k a r at' _ g4 g5 (.inl (by rw [hr0]; rfl))
   ·rw [if_neg hr0]
    have hr : r = 1 ∨ r = 2 ∨ r = 3 ∨ r = 4 ∨ r = 5 ∨ r = 6 ∨ r = 7 := by omega
    rcases hr with hr | hr | hr | hr | hr | hr
    ·exact leaf_made L hL (d + 1) k a r at' _ g4 g5 (.inl (by rw [hr]; rfl))
    ·exact leaf_made L hL (d + 1) k a r at' _ g4 g5 (.inr (.inl hr))
    ·exact leaf_made L hL (d + 1) k a r at' _ g4 g5 (.inr (.inr (.inl hr)))
    ·exact leaf_made L hL (d + 1) k a r at' _ g4 g5 (.inr (.inr (.inr hr)))
    ·subst hr
     unfold magpieref06_Source_Make.j1
     rw [if_neg (by decide), if_neg (by decide), if_neg (by decide), if_neg (by decide), if_pos rfl, w64_in (a - 1) (by omega)]
     obtain ⟨r1, r2, r3, r4, r5, h', hok, k0, k1⟩ := ih (a - 1) (by omega) at' g4 g5 k (by omega)
     rw [h']
     exact ⟨_, _, _, _, _, rfl, ⟨Nat.zero_le _, Nat.zero_le _, by simp, fun _ => by simp, fun x hx => by rw [List.mem_singleton.1 hx]; exact hok⟩, k0, k1⟩
    ·have hrr : r ≠ 0 ∧ r ≠ 1 ∧ r ≠ 2 ∧ r ≠ 3 ∧ r ≠ 4 ∧ r ≠ 5 := by omega
     unfold magpieref06_Source_Make.j1
     rw [if_neg (by simp; omega), if_neg hrr.2.2.1, if_neg hrr.2.2.2.1, if_neg hrr.2.2.2.2.1, if_neg hrr.2.2.2.2.2]
     obtain ⟨q, at2, h2, q1, q2, q3, q4⟩ := next_total L at' 2 hL g4 g5 (by decide) (by decide)
     obtain ⟨p, at3, h3, p1, p2, p3, p4⟩ := next_total L at2 2 hL q3 q4 (by decide) (by decide)
     simp only [Option.bind_some, h2, h3]
     obtain ⟨m, hm⟩ : ∃ m : Nat, wrap64 (2 + p) = (m : Int) ∧ m ≤ 3 := ⟨(2 + p).toNat, by rw [w64_in _ (by omega)]; omega, by omega⟩
     rw [hm.1]
     exact row_made L hL d (by omega) a (by omega) (by omega) (fun at_ h0 h1 k hk => ih (a - 1) (by omega) at_ h0 h1 k hk) _ (by rw [w64_in _ (by omega)]; omega) m [] at3 k (by simpa using hm.2) (fun x hx => by cases hx) p3 p4 (by omega)
end Go.Proofs.YtpleiklodomgiaaGreatDoor.F
end
section
namespace Go.Proofs.YtpleiklodomgiaaGreatDoor.W
open Go.RowKit Go.Shelf Go.Proofs.YtpleiklodomgiaaGreatDoorW.PrintWords Go.Proofs.YtpleiklodomgiaaGreatDoorW.PrintLast Go.Proofs.YtpleiklodomgiaaGreatDoor.B Go.Proofs.YtpleiklodomgiaaGreatDoor.It
theorem spans_count (s : ByteArray) : ∀ (n pos : Nat) (fr : Option Nat), s.size - pos ≤ n → (spansFrom s pos fr).length ≤ (s.size - pos) + (match fr with | some _ => 1 | none => 0) := by
 intro n
 induction n with
 | zero =>
  intro pos fr h
  rw [spansFrom_end (by omega)]
  cases fr <;> simp
 | succ n ih =>
  intro pos fr h
  by_cases hp : pos < s.size
  ·have hw := Lib.decode_width_pos s pos hp
   cases hl : letter ((Utf8.decode s pos).1 : Int) with
   | true =>
    rw [spansFrom_is hp hl]
    have := ih (pos + (Utf8.decode s pos).2) (some (fr.getD pos)) (by omega)
    simp only at this
    cases fr <;> simp only <;> omega
   | false =>
    have := ih (pos + (Utf8.decode s pos).2) none (by omega)
    simp only at this
    cases fr with
    | none => rw [spansFrom_none hp hl]; simp only; omega
    | some f => rw [spansFrom_some hp hl, List.length_cons]; simp only; omega
  ·rw [spansFrom_end hp]
   cases fr <;> simp
theorem words_count (s : ByteArray) : (words s).length ≤ s.size := by
 unfold words
 rw [List.length_map]
 have := spans_count s s.size 0 none (by omega)
 simpa using this
theorem own_news {w : World} {base : Nat} {e : TypeId} {v : Value} {xs : List Value} (h : B.Own w base e v xs) : ∃ A c, v = .slice A xs.length c ∧ (∀ ad, A = some ad → ∀ j u, xs[j]? = some u → w.cell? (ad.add j) = some u) ∧ (A = none → xs = []) := by
 have h' := h
 rcases h with ⟨rfl, rfl⟩ | ⟨g, cap, cur, fz, rfl, h2⟩
 ·exact ⟨none, 0, rfl, (fun ad e => by cases e), fun _ => rfl⟩
 ·exact ⟨_, cap, rfl, (fun ad e => by cases e; exact h'.cells rfl), fun e => by cases e⟩
end Go.Proofs.YtpleiklodomgiaaGreatDoor.W
end
