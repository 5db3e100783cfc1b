import Derived.Test.YtpleiklodomgiaaGreatDoorModelPages12
import Derived.Test.YtpleiklodomgiaaGreatDoorModelPages13
set_option linter.unusedVariables false
set_option linter.unusedSimpArgs false
section
namespace Go.Proofs.YtpleiklodomgiaaGreatDoor.B
end Go.Proofs.YtpleiklodomgiaaGreatDoor.B
namespace Go.Proofs.YtpleiklodomgiaaGreatDoor.CQ
end Go.Proofs.YtpleiklodomgiaaGreatDoor.CQ
namespace Go.Proofs.YtpleiklodomgiaaGreatDoor.PModelIs
end Go.Proofs.YtpleiklodomgiaaGreatDoor.PModelIs
namespace Go.Proofs.YtpleiklodomgiaaGreatDoor.C
open Go.RowKit Go.Sort Go.Proofs.YtpleiklodomgiaaGreatDoorW.PrintWords Go.Proofs.YtpleiklodomgiaaGreatDoorW.PrintLast Go.Proofs.YtpleiklodomgiaaGreatDoorW.PrintMore Go.Proofs.YtpleiklodomgiaaGreatDoor.B Go.Proofs.YtpleiklodomgiaaGreatDoor.PModelIs Go.Proofs.YtpleiklodomgiaaGreatDoor.CQ
def cmpO (desc : Bool) (x y : Key) : Int := if desc then cmpE y x else cmpE x y
theorem cmpO_c (desc : Bool) : Cmp (cmpO desc) := by
 cases desc
 ·exact cmpE_c
 ·exact cmpE_c.turned
theorem eqE_iff {w : World} (x y : EntIn w) : eqE x y = true ↔ keyOf x = keyOf y := by
 unfold eqE
 rw [beq_iff_eq, cmpE_c.eq0]
section
variable {w : World} (d : Array (EntIn w))
theorem once_mem : ∀ m, m ≤ d.size → ∀ k, k ∈ (once eqE d m).map keyOf ↔ ∃ i, i < m ∧ keyOf d[i]! = k
 | 0, _, k => by simp [once]
 | m + 1, hm, k => by
  have ih := once_mem m (by omega) k
  simp only [once]
  split
  ·rename_i h
   rw [ih]
   constructor
   ·rintro ⟨i, hi, e⟩; exact ⟨i, by omega, e⟩
   ·rintro ⟨i, hi, e⟩
    by_cases him : i = m
    ·subst him
     exact ⟨i - 1, by omega, by rw [← (eqE_iff _ _).1 h.2]; exact e⟩
    ·exact ⟨i, by omega, e⟩
  ·rw [List.map_append, List.mem_append, ih]
   simp only [List.map_cons, List.map_nil, List.mem_singleton]
   constructor
   ·rintro (⟨i, hi, e⟩ | e)
    ·exact ⟨i, by omega, e⟩
    ·exact ⟨m, by omega, e.symm⟩
   ·rintro ⟨i, hi, e⟩
    by_cases him : i = m
    ·subst him; exact Or.inr e.symm
    ·exact Or.inl ⟨i, by omega, e⟩
theorem once_up {c : Key → Key → Int} (hc : Cmp c) (hs : ∀ i j, i < j → j < d.size → ¬ c (keyOf d[j]!) (keyOf d[i]!) < 0) : ∀ m, m ≤ d.size → Up c ((once eqE d m).map keyOf)
 | 0, _ => List.Pairwise.nil
 | m + 1, hm => by
  have ih := once_up hc hs m (by omega)
  simp only [once]
  split
  ·exact ih
  ·rename_i h
   rw [List.map_append]
   refine List.pairwise_append.2 ⟨ih, List.pairwise_singleton _ _, fun k hk y hy => ?_⟩
   simp only [List.map_cons, List.map_nil, List.mem_singleton] at hy
   subst hy
   obtain ⟨i, hi, rfl⟩ := (once_mem d m (by omega) k).1 hk
   have h1 := hs i m hi (by omega)
   have t := hc.tri (keyOf d[m]!) (keyOf d[i]!)
   have an := hc.anti (keyOf d[m]!) (keyOf d[i]!)
   have ne : ¬ c (keyOf d[m]!) (keyOf d[i]!) = 0 := fun e0 => by
    have e1 := (hc.eq0 _ _).1 e0
    refine h ⟨by omega, (eqE_iff _ _).2 ?_⟩
    by_cases him : i = m - 1
    ·subst him; exact e1
    ·have h2 := hs i (m - 1) (by omega) (by omega)
     have h3 := hs (m - 1) m (by omega) (by omega)
     rw [e1] at h3 ⊢
     have t2 := hc.tri (keyOf d[i]!) (keyOf d[m - 1]!)
     have an2 := hc.anti (keyOf d[i]!) (keyOf d[m - 1]!)
     exact (hc.eq0 _ _).1 (by omega)
   omega
end
theorem swo_of {α β : Type} {c : β → β → Int} (h : Cmp c) (key : α → β) : Go.Sort.SWO (ltOf fun x y : α => c (key x) (key y)) where
 irrefl x := by
  show decide (c (key x) (key x) < 0) = false
  rw [(h.eq0 _ _).2 rfl]; rfl
 trans x y z a b := by
  unfold ltOf at *
  simp only [decide_eq_true_eq] at *
  have p := h.tri (key x) (key y)
  have q := h.tri (key y) (key z)
  have e := h.trans (key x) (key y) (key z) (by omega) (by omega)
  omega
 ntrans x y z a b := by
  unfold ltOf at *
  simp only [decide_eq_false_iff_not] at *
  intro k
  have p := h.tri (key x) (key y)
  have q := h.tri (key y) (key z)
  have r := h.tri (key x) (key z)
  have p' := h.anti (key x) (key y)
  have q' := h.anti (key y) (key z)
  by_cases p0 : c (key x) (key y) = 0
  ·rw [(h.eq0 _ _).1 p0] at k; omega
  ·by_cases q0 : c (key y) (key z) = 0
   ·rw [← (h.eq0 _ _).1 q0] at k; omega
   ·have e := h.trans (key z) (key y) (key x) (by omega) (by omega)
    have r' := h.anti (key z) (key x)
    omega
def flatE {w0 : World} (l : List (EntIn w0)) : List Value := l.flatMap enc
theorem flatE_get {w0 : World} : ∀ (l : List (EntIn w0)) (i r : Nat) (x : EntIn w0), r < 3 → l[i]? = some x → (flatE l)[i * 3 + r]? = some (enc x)[r]!
 | [], _, _, _, _, h => by simp at h
 | y :: l, 0, r, x, hr, h => by
  simp only [List.getElem?_cons_zero, Option.some.injEq] at h
  subst h
  unfold flatE
  rw [List.flatMap_cons, List.getElem?_append_left (by rw [enc_len]; omega)]
  match r, hr with
  | 0, _ => rfl
  | 1, _ => rfl
  | 2, _ => rfl
 | y :: l, i + 1, r, x, hr, h => by
  have ih := flatE_get l i r x hr (by simpa using h)
  unfold flatE at *
  rw [List.flatMap_cons, List.getElem?_append_right (by rw [enc_len]; omega), enc_len, show (i + 1) * 3 + r - 3 = i * 3 + r by omega]
  exact ih
theorem flatE_len {w0 : World} : ∀ l : List (EntIn w0), (flatE l).length = l.length * 3
 | [] => rfl
 | y :: l => by
  have ih := flatE_len l
  unfold flatE at *
  rw [List.flatMap_cons, List.length_append, ih, enc_len, List.length_cons]; omega
theorem flatE_inv {w0 : World} (l : List (EntIn w0)) (j : Nat) (u : Value) (h : (flatE l)[j]? = some u) : ∃ x, l[j / 3]? = some x ∧ u = (enc x)[j % 3]! := by
 have hj : j < l.length * 3 := by
  rw [← flatE_len]
  rcases Nat.lt_or_ge j (flatE l).length with h1 | h1
  ·exact h1
  ·rw [List.getElem?_eq_none h1] at h; cases h
 have hi : j / 3 < l.length := by omega
 refine ⟨l[j / 3], List.getElem?_eq_getElem hi, ?_⟩
 have h2 := flatE_get l (j / 3) (j % 3) l[j / 3] (by omega) (List.getElem?_eq_getElem hi)
 rw [show j / 3 * 3 + j % 3 = j by omega, h] at h2
 exact Option.some.inj h2
theorem infoE : (Tryz.prog.info? 26).map (fun i => (i.zero, i.size, i.bytes)) = some (some (.agg #[.int .i64 0, .slice none 0 0, .string ⟨#[]⟩]), 3, 48) := by kernel_rfl
def ordF (desc : Bool) : Nat := if desc then 40 else 39
theorem ord_in (desc : Bool) {w0 : World} (x y : EntIn w0) (V : World) (h : Below w0.heap.size w0 V) : Calls Tryz.prog (ordF desc) #[x.1.val, y.1.val] V fun e w' => e = .returned (.int .i64 (cmpO desc (keyOf x) (keyOf y))) ∧ ∃ q os', w' = grow (V.drewN q) os' := by
 cases desc
 ·exact (compare_any x.1 y.1 V (x.2.below h) (y.2.below h)).mono fun _ _ ⟨he, hb⟩ => ⟨he, hb.grow⟩
 ·exact (turned_any x.1 y.1 V (x.2.below h) (y.2.below h)).mono fun _ _ ⟨he, hb⟩ => ⟨he, hb.grow⟩
theorem ord_enters (desc : Bool) : ∀ args w, (callFunc (ordF desc) args).run Tryz.prog w = .ok (.enter (ordF desc) args) w := by
 cases desc
 ·exact enters_of Tryz.func39 (by kernel_rfl) rfl
 ·exact enters_of Tryz.func40 (by kernel_rfl) rfl
theorem sortfunc_any {w0 w : World} (desc : Bool) (l : List (EntIn w0)) (g cap : Nat) (hm : l.length ≤ 100000) (hw : Below w0.heap.size w0 w) (hn : w0.heap.size ≤ g) (hg : g < w.heap.size) (hH : HoldsK enc 3 w g 0 l.toArray) :
  Calls Tryz.prog 36 #[.slice (some ⟨g, 0, none⟩) l.length cap, .func (.func (ordF desc)) #[] #[]] w fun e w' =>
   e = .returned (.tuple #[]) ∧ ∃ d : Array (EntIn w0), d.size = l.length ∧ d.toList.Perm l ∧ (∀ i j, i < j → j < d.size → ¬ cmpO desc (keyOf d[j]!) (keyOf d[i]!) < 0) ∧ HoldsK enc 3 w' g 0 d ∧ Below w0.heap.size w0 w' ∧ g < w'.heap.size := by
 have hcmp : CmpLays Tryz.prog (ordF desc) #[] (enc (w := w0)) 3 (fun x y => cmpO desc (keyOf x) (keyOf y)) g 0 l.toArray.size w := fun m os dk _ x y => by
  exact ord_in desc x y _ (below_sortW hw hn (Nat.le_trans hn (Nat.le_of_lt hg)))
 have hcon := AnyQ.slices_SortFunc Tryz.sortEnt 3 Tryz.isAgg26 Tryz.sizeOf26 (enc (w := w0)) enc_len enc_one (fun x y => cmpO desc (keyOf x) (keyOf y)) (swo_of (cmpO_c desc) keyOf) (ordF desc) #[] g 0 cap l.toArray w (ord_enters desc) hcmp hH hg (by rw [List.size_toArray]; omega)
 change Calls Tryz.prog 36 _ _ _ at hcon
 rw [List.size_toArray] at hcon
 refine hcon.mono ?_
 rintro e w' ⟨rfl, d, n, os, hp, hs, rfl⟩
 have hsz : d.size = l.length := by have := hp.1; rwa [List.size_toArray] at this
 refine ⟨rfl, d, hsz, ?_, fun i j hij hj => ?_, holdsK_sortWorldK_c enc 3 w g 0 l.toArray d n os hH hg hp.1, below_sortW hw hn (Nat.le_trans hn (Nat.le_of_lt hg)), Nat.lt_of_lt_of_le hg (size_sortWorldK_c enc 3 w g 0 n d os)⟩
 ·have h3 := hp.2.2
  rw [← hsz, Array.extract_size, hsz] at h3
  have e2 : l.toArray.extract 0 l.length = l.toArray := by
   have := Array.extract_size (xs := l.toArray)
   rwa [List.size_toArray] at this
  rw [e2] at h3
  exact h3
 ·have h4 := hs i j (Nat.zero_le _) hij (by omega)
  unfold ltOf at h4
  simpa using h4
end Go.Proofs.YtpleiklodomgiaaGreatDoor.C
end
section
namespace Go.Proofs.YtpleiklodomgiaaGreatDoor.C
open Go.RowKit Go.Sort Go.Proofs.YtpleiklodomgiaaGreatDoorW.PrintWords Go.Proofs.YtpleiklodomgiaaGreatDoorW.PrintLast Go.Proofs.YtpleiklodomgiaaGreatDoorW.PrintMore Go.Proofs.YtpleiklodomgiaaGreatDoor.B Go.Proofs.YtpleiklodomgiaaGreatDoor.PModelIs Go.Proofs.YtpleiklodomgiaaGreatDoor.CQ
theorem order_any (desc : Bool) (w : World) : Calls Tryz.prog 26 #[.bool desc] w fun e w' => e = .returned (.func (.func (ordF desc)) #[] #[]) ∧ w' = w := by
 cases desc
 ·go_enter Tryz.func26, Tryz.ntmps26
  go_wp2
  go_ret
  exact ⟨rfl, rfl⟩
 ·go_enter Tryz.func26, Tryz.ntmps26
  go_wp2
  go_ret
  exact ⟨rfl, rfl⟩
end Go.Proofs.YtpleiklodomgiaaGreatDoor.C
end
