import Derived.OrdersIn
import Derived.OrdersHeld
import Derived.Test.YtpleiklodomgiaaGreatDoorModelPages3
set_option linter.unusedVariables false
section
open Go.RowKit Go.Proofs.YtpleiklodomgiaaGreatDoorW.PrintWords
namespace Go.Proofs.YtpleiklodomgiaaGreatDoor.Hi
section
variable {F : Fence} {n : Nat} {P : Program} {ops : Array Oper} {Q : Exit → Act → World → Prop} {md : Region.Mode} {S : World → Prop}
def noDefer (ops : Array Oper) : Bool := ops.all fun o => match o.op with | .defer _ => false | _ => true
theorem noDefer_spec (h : noDefer ops = true) (j : Nat) (o : Oper) (ho : ops[j]? = some o) (c : Call) : o.op ≠ .defer c := by
 intro e
 unfold noDefer at h
 rw [Array.all_eq_true] at h
 obtain ⟨hj, rfl⟩ := Array.getElem?_eq_some_iff.1 ho
 have := h j hj
 rw [e] at this
 cases this
def YieldsHi (P : Program) (ops : Array Oper) (S : World → Prop) (o : Oper) (v : Value) (a : Act) : Prop := YieldsIf P ops S o v a ∧ ∀ w, o.about P w a.eval = none
theorem YieldsHi.of_same {o : Oper} {v : Value} {a a' : Act} (hy : YieldsHi P ops S o v a) (he : execOp a'.eval o = execOp a.eval o)
  (hw : Region.wanted o (yielded ops a'.tmps) = Region.wanted o (yielded ops a.tmps)) (hb : ∀ w, o.about P w a'.eval = o.about P w a.eval) : YieldsHi P ops S o v a' :=
 ⟨hy.1.of_same he hw, fun w => by rw [hb w]; exact hy.2 w⟩
theorem YieldsHi.wpOpIn {i : Nat} {o : Oper} {v : Value} {a : Act} (hi : ops[i]? = some o) (hnd : ∀ c, o.op ≠ .defer c) (hy : YieldsHi P ops S o v a)
  {K : Act → World → Prop} {w : World} (hS : S w) (h : K (a.put o.dst v) w) : wpOpIn F n P ops Q i K a w := by
 unfold Go.wpOpIn
 simp only [hi]
 have hab : ∀ f, o.about P w a.eval = some f → F.fn f := fun f hf => by rw [hy.2 w] at hf; cases hf
 rcases hy.1 with ⟨hw, hv⟩ | ⟨hw, rfl⟩
 ·simp only [hw, if_true, Oper.wpIn, Oper.semAt_eq _ _ _ hnd, hv w hS, Oper.uponIn]; exact ⟨hab, h⟩
 ·simp only [hw, Bool.false_eq_true, if_false]; exact ⟨hab, h⟩
theorem wpOpIn_putHi {j : Nat} {oi oj : Oper} {v : Value} (hnd : ∀ c, oj.op ≠ .defer c) (hj : ops[j]? = some oj) (hap : oi.apart ops oj = true)
  (hsi : ∀ cs b, oi.op ≠ .select cs b) (hsj : ∀ cs b, oj.op ≠ .select cs b)
  (hQ : ∀ c a w, Q (.panic c) (a.put oi.dst v) w → Q (.panic c) a w) {K : Act → World → Prop} {a : Act} {w : World}
  (hy : YieldsHi P ops S oi v a) (h : wpOpIn F n P ops Q j K (a.put oi.dst v) w) :
  wpOpIn F n P ops Q j (fun a' w' => YieldsHi P ops S oi v a' ∧ K (a'.put oi.dst v) w') a w := by
 obtain ⟨h1, h2, h3⟩ := Oper.apart_spec hap
 have keep : ∀ (a : Act), YieldsHi P ops S oi v a → ∀ u, YieldsHi P ops S oi v (a.put oj.dst u) := fun a hy u =>
  hy.of_same (execOp_put oi hsi a oj.dst u h3) (wanted_put oi a oj.dst u h3) (fun w => about_put oi w a oj.dst u h3)
 have keepD : ∀ d, YieldsHi P ops S oi v { a with defers := d :: a.defers } := fun d => hy.of_same rfl rfl (fun _ => rfl)
 unfold wpOpIn at *
 simp only [hj] at *
 rw [wanted_put oj a oi.dst v h1, about_put oj w a oi.dst v h1] at h
 split
 ·rename_i hw
  simp only [hw, if_true] at h
  unfold Oper.wpIn at *
  rw [about_put oj w a oi.dst v h1] at h
  refine ⟨h.1, ?_⟩
  have h := h.2
  rw [Oper.semAt_eq _ _ _ hnd, execOp_put oj hsj a oi.dst v h1] at h
  rw [Oper.semAt_eq _ _ _ hnd]
  generalize (execOp a.eval oj).run P w = r at *
  cases r with
  | ok x w' =>
   cases x <;> simp only [Oper.uponIn] at h ⊢
   case value u => exact ⟨keep a hy u, by rw [← Act.put_comm a v u h2]; exact h⟩
   case skip => exact ⟨keep a hy _, by rw [← Act.put_comm a v undef h2]; exact h⟩
   case defer d =>
    refine ⟨keep _ (keepD d) _, ?_⟩
    rw [← Act.put_comm _ v undef h2, ← Act.put_defers]
    exact h
   case enter f args =>
    refine ⟨h.1, CallsIn.mono h.2 fun e w'' he => ?_⟩
    cases e with
    | returned u => exact ⟨keep a hy u, by rw [← Act.put_comm a v u h2]; exact he⟩
    | panicked c => exact hQ _ _ _ he
    | outgrown => exact he
   case row row args => exact ⟨h.1, RowsIn.mono h.2 fun u w'' he => ⟨keep a hy u, by rw [← Act.put_comm a v u h2]; exact he⟩⟩
   case round l f tmps assign body =>
    refine ⟨h.1, RoundIn.mono h.2 fun e w'' he => ?_⟩
    cases e with
    | returned u => exact ⟨keep a hy u, by rw [← Act.put_comm a v u h2]; exact he⟩
    | panicked c => exact hQ _ _ _ he
    | outgrown => exact he
  | halt x w' =>
   cases x <;> simp only [Oper.uponIn] at h ⊢
   case panic u => exact hQ _ _ _ h
 ·rename_i hw
  simp only [hw] at h
  exact ⟨h.1, keep a hy _, by rw [← Act.put_comm a v undef h2]; exact h.2⟩
def DownC (md : Region.Mode) (ops : Array Oper) (L : Array Bool) : Prop := ∀ k o, ops[k]? = some o → L.getD k false = true → ∀ e ∈ o.after, Region.binds md e = true → L.getD e.on false = true
def downB (md : Region.Mode) (ops : Array Oper) (L : Array Bool) : Bool := (List.range ops.size).all fun k => match ops[k]? with | some o => !L.getD k false || o.after.toList.all (fun e => !Region.binds md e || L.getD e.on false) | none => true
theorem downB_spec {L : Array Bool} (h : downB md ops L = true) : DownC md ops L := by
 intro k o ho hk e he hb
 unfold downB at h
 rw [List.all_eq_true] at h
 obtain ⟨hlt, _⟩ := Array.getElem?_eq_some_iff.1 ho
 have h1 := h k (List.mem_range.2 hlt)
 rw [ho] at h1
 simp only [hk, Bool.not_true, Bool.false_or] at h1
 rw [List.all_eq_true] at h1
 have h2 := h1 e (Array.mem_toList_iff.2 he)
 rw [hb, Bool.not_true, Bool.false_or] at h2
 exact h2
theorem getD_mono {L : Array Bool} {j k : Nat} (h : L.getD k false = true) : (L.setIfInBounds j true).getD k false = true := by
 simp only [Array.getD_eq_getD_getElem?, Array.getElem?_setIfInBounds] at *
 split
 ·rename_i hjk
  subst hjk
  split
  ·rfl
  ·rename_i hn
   rw [Array.getElem?_eq_none (by omega)] at h
   cases h
 ·exact h
theorem getD_other {L : Array Bool} {j k : Nat} (hjk : j ≠ k) : (L.setIfInBounds j true).getD k false = L.getD k false := by
 simp only [Array.getD_eq_getD_getElem?, Array.getElem?_setIfInBounds, if_neg hjk]
theorem getD_clash {L : Array Bool} {k : Nat} (h : L.getD k true = false) (h' : L.getD k false = true) : False := by
 rcases Nat.lt_or_ge k L.size with hk | hk
 ·simp only [Array.getD_eq_getD_getElem?, Array.getElem?_eq_getElem hk, Option.getD_some] at h h'
  rw [h] at h'
  cases h'
 ·simp only [Array.getD_eq_getD_getElem?, Array.getElem?_eq_none hk, Option.getD_none] at h'
  cases h'
theorem DownC.list {L : Array Bool} {j : Nat} (h : DownC md ops L) (hj : j ∈ Region.ready md ops L) : DownC md ops (L.setIfInBounds j true) := by
 intro k o ho hk e he hb
 by_cases hjk : j = k
 ·subst hjk
  obtain ⟨_, oj, hoj, hall⟩ := mem_ready.1 hj
  rw [ho] at hoj
  cases hoj
  exact getD_mono (hall e he hb)
 ·rw [getD_other hjk] at hk
  exact getD_mono (h k o ho hk e he hb)
def waits (md : Region.Mode) (ops : Array Oper) : Nat → Nat → Nat → Bool
 | 0, _, _ => false
 | f + 1, z, i => match ops[z]? with | some o => o.after.toList.any (fun e => Region.binds md e && (e.on == i || waits md ops f e.on i)) | none => false
theorem waits_listed {L : Array Bool} {i : Nat} (hd : DownC md ops L) : ∀ (f z : Nat) (o : Oper), ops[z]? = some o → (∀ e ∈ o.after, Region.binds md e = true → L.getD e.on false = true) → waits md ops f z i = true → L.getD i false = true
 | 0, _, _, _, _, h => by cases h
 | f + 1, z, o, ho, hall, h => by
  unfold waits at h
  rw [ho] at h
  obtain ⟨e, he, hh⟩ := List.any_eq_true.1 h
  rw [Bool.and_eq_true, Bool.or_eq_true] at hh
  have hl := hall e (Array.mem_toList_iff.1 he) hh.1
  rcases hh.2 with h1 | h1
  ·rw [← (by simpa using h1 : e.on = i)]; exact hl
  ·cases hx : ops[e.on]? with
   | none => cases f with
    | zero => cases h1
    | succ f => unfold waits at h1; rw [hx] at h1; cases h1
   | some ox => exact waits_listed hd f e.on ox hx (hd e.on ox hx hl) h1
def wpAnyHi (F : Fence) (n : Nat) (P : Program) (md : Region.Mode) (ops : Array Oper) (Q : Exit → Act → World → Prop) (S : World → Prop) (z : Nat) : Nat → Array Bool → Act → World → Prop
 | 0, listed, a, w => Region.ready md ops listed = [] ∧ Q .normal a w
 | fuel + 1, listed, a, w =>
  (Region.ready md ops listed = [] → Q .normal a w) ∧
  ∀ i ∈ Region.ready md ops listed, wpOpIn F n P ops Q i (fun a' w' => ((listed.setIfInBounds i true).getD z false = false → S w') ∧ wpAnyHi F n P md ops Q S z fuel (listed.setIfInBounds i true) a' w') a w
theorem wpAnyIn_of_hi {z : Nat} : ∀ (fuel : Nat) (listed : Array Bool) (a : Act) (w : World), wpAnyHi F n P md ops Q S z fuel listed a w → wpAnyIn F n P md ops Q fuel listed a w
 | 0, _, _, _, h => h
 | fuel + 1, _, _, _, h => ⟨h.1, fun i hi => wpOpIn_mono (fun a' w' h' => wpAnyIn_of_hi fuel _ a' w' h'.2) (h.2 i hi)⟩
theorem wpAnyHi_first {z f0 : Nat} {i : Nat} {oi : Oper} {v : Value} (hiz : i ≠ z) (hzw : ops[z]? = none ∨ waits md ops f0 z i = true) (hnd : ∀ (j : Nat) (o : Oper), ops[j]? = some o → ∀ c, o.op ≠ .defer c) (hi : ops[i]? = some oi) (hsel : ∀ (j : Nat) (o : Oper) cs b, ops[j]? = some o → o.op ≠ .select cs b)
  (hQ : ∀ c a w, Q (.panic c) (a.put oi.dst v) w → Q (.panic c) a w) :
  ∀ (fuel : Nat) (listed : Array Bool) (a : Act) (w : World), DownC md ops listed → listed.getD z false = false →
   (∀ j oj, ops[j]? = some oj → j ≠ i → listed.getD j true = false → (∀ e ∈ oj.after, Region.binds md e = true → e.on ≠ i) → oi.apart ops oj = true) →
   i ∈ Region.ready md ops listed → YieldsHi P ops S oi v a → S w →
   wpAnyHi F n P md ops Q S z fuel (listed.setIfInBounds i true) (a.put oi.dst v) w → wpAnyHi F n P md ops Q S z (fuel + 1) listed a w := by
 intro fuel
 induction fuel with
 | zero =>
  intro listed a w _ _ _ hr hy hS H
  refine ⟨fun h => (by rw [h] at hr; cases hr), fun j hj => ?_⟩
  by_cases hji : j = i
  ·subst hji; exact hy.wpOpIn hi (hnd j oi hi) hS ⟨fun _ => hS, H⟩
  ·have := ready_mono hj hji
   rw [H.1] at this
   cases this
 | succ fuel ih =>
  intro listed a w hdc hzl hfree hr hy hS H
  refine ⟨fun h => (by rw [h] at hr; cases hr), fun j hj => ?_⟩
  by_cases hji : j = i
  ·subst hji; exact hy.wpOpIn hi (hnd j oi hi) hS ⟨fun _ => hS, H⟩
  ·have h1 := H.2 j (ready_mono hj hji)
   obtain ⟨hjun, oj, hoj, hall⟩ := mem_ready.1 hj
   have hjz : j ≠ z := fun e => by
    subst e
    rcases hzw with h0 | h0
    ·rw [hoj] at h0; cases h0
    ·exact getD_clash (mem_ready.1 hr).1 (waits_listed hdc _ _ oj hoj hall h0)
   have hnot : ∀ e ∈ oj.after, Region.binds md e = true → e.on ≠ i := fun e he hb heq => by
    have h1 := hall e he hb
    rw [heq] at h1
    exact getD_clash (mem_ready.1 hr).1 h1
   have hz2 : ((listed.setIfInBounds i true).setIfInBounds j true).getD z false = false := by rw [getD_other hjz, getD_other hiz]; exact hzl
   have h2 := wpOpIn_putHi (hnd j oj hoj) hoj (hfree j oj hoj hji hjun hnot) (fun cs b => hsel i oi cs b hi) (fun cs b => hsel j oj cs b hoj) hQ hy h1
   have hfree' : ∀ k ok, ops[k]? = some ok → k ≠ i → (listed.setIfInBounds j true).getD k true = false →
     (∀ e ∈ ok.after, Region.binds md e = true → e.on ≠ i) → oi.apart ops ok = true := fun k ok hk hki hun hno => by
    refine hfree k ok hk hki ?_ hno
    by_cases hjk : j = k
    ·subst hjk; exact hjun
    ·rw [getD_set_ne true hjk] at hun; exact hun
   refine wpOpIn_mono (fun a' w' h3 => ⟨fun _ => h3.2.1 hz2, ih (listed.setIfInBounds j true) a' w' (hdc.list hj) (by rw [getD_other hjz]; exact hzl) hfree' (ready_mono hr (Ne.symm hji)) h3.1 (h3.2.1 hz2) ?_⟩) h2
   rw [Array.setIfInBounds_comm _ _ hji]
   exact h3.2.2
theorem wpAnyHi_pure {z : Nat} {i : Nat} {oi : Oper} {v : Value} (hiz : i ≠ z) (hnd : ∀ (j : Nat) (o : Oper), ops[j]? = some o → ∀ c, o.op ≠ .defer c) (hi : ops[i]? = some oi) (hsel : ∀ (j : Nat) (o : Oper) cs b, ops[j]? = some o → o.op ≠ .select cs b)
  (hQ : ∀ c a w, Q (.panic c) (a.put oi.dst v) w → Q (.panic c) a w) :
  ∀ (fuel : Nat) (listed : Array Bool) (a : Act) (w : World),
   (∀ j oj, ops[j]? = some oj → j ≠ i → listed.getD j true = false → (∀ e ∈ oj.after, Region.binds md e = true → e.on ≠ i) → oi.apart ops oj = true) →
   i ∈ Region.ready md ops listed → YieldsHi P ops (fun _ => True) oi v a → (listed.getD z false = false → S w) →
   wpAnyHi F n P md ops Q S z fuel (listed.setIfInBounds i true) (a.put oi.dst v) w → wpAnyHi F n P md ops Q S z (fuel + 1) listed a w := by
 intro fuel
 induction fuel with
 | zero =>
  intro listed a w _ hr hy hS H
  refine ⟨fun h => (by rw [h] at hr; cases hr), fun j hj => ?_⟩
  by_cases hji : j = i
  ·subst hji; exact hy.wpOpIn hi (hnd j oi hi) trivial ⟨fun hz => hS (by rw [getD_other hiz] at hz; exact hz), H⟩
  ·have := ready_mono hj hji
   rw [H.1] at this
   cases this
 | succ fuel ih =>
  intro listed a w hfree hr hy hS H
  refine ⟨fun h => (by rw [h] at hr; cases hr), fun j hj => ?_⟩
  by_cases hji : j = i
  ·subst hji; exact hy.wpOpIn hi (hnd j oi hi) trivial ⟨fun hz => hS (by rw [getD_other hiz] at hz; exact hz), H⟩
  ·have h1 := H.2 j (ready_mono hj hji)
   obtain ⟨hjun, oj, hoj, hall⟩ := mem_ready.1 hj
   have hnot : ∀ e ∈ oj.after, Region.binds md e = true → e.on ≠ i := fun e he hb heq => by
    have h1 := hall e he hb
    rw [heq] at h1
    exact getD_clash (mem_ready.1 hr).1 h1
   have h2 := wpOpIn_putHi (hnd j oj hoj) hoj (hfree j oj hoj hji hjun hnot) (fun cs b => hsel i oi cs b hi) (fun cs b => hsel j oj cs b hoj) hQ hy h1
   have hfree' : ∀ k ok, ops[k]? = some ok → k ≠ i → (listed.setIfInBounds j true).getD k true = false →
     (∀ e ∈ ok.after, Region.binds md e = true → e.on ≠ i) → oi.apart ops ok = true := fun k ok hk hki hun hno => by
    refine hfree k ok hk hki ?_ hno
    by_cases hjk : j = k
    ·subst hjk; exact hjun
    ·rw [getD_set_ne true hjk] at hun; exact hun
   have hS2 : ∀ w', (((listed.setIfInBounds i true).setIfInBounds j true).getD z false = false → S w') → (listed.setIfInBounds j true).getD z false = false → S w' := fun w' h hz => h (by
    rw [Array.setIfInBounds_comm _ _ (Ne.symm hji), getD_other hiz]; exact hz)
   refine wpOpIn_mono (fun a' w' h3 => ⟨hS2 w' h3.2.1, ih (listed.setIfInBounds j true) a' w' hfree' (ready_mono hr (Ne.symm hji)) h3.1 (hS2 w' h3.2.1) ?_⟩) h2
   rw [Array.setIfInBounds_comm _ _ hji]
   exact h3.2.2
theorem hi_pure {z : Nat} (i : Nat) (N : Option Tmp) {oi : Oper} {v : Value} {fuel : Nat} {listed L' : Array Bool} {a a' : Act} {w : World} (hL : listed.setIfInBounds i true = L') (hi : ops[i]? = some oi) (hN : oi.dst = N)
  (hs : (Region.noSelect ops && noDefer ops && i != z && Region.free md ops listed i && (Region.ready md ops listed).contains i) = true)
  (hQ : ∀ c a w, Q (.panic c) (a.put oi.dst v) w → Q (.panic c) a w) (hab : ∀ w, oi.about P w a.eval = none) (hS : listed.getD z false = false → S w) (hy : Yields P ops oi v a) (ha : a.put N v = a')
  (h : wpAnyHi F n P md ops Q S z fuel L' a' w) : wpAnyHi F n P md ops Q S z (fuel + 1) listed a w := by
 simp only [Bool.and_eq_true] at hs
 obtain ⟨⟨⟨⟨h1, h2⟩, h4⟩, h6⟩, h7⟩ := hs
 subst hL hN ha
 exact wpAnyHi_pure (by simpa using h4) (fun j o ho => noDefer_spec h2 j o ho) hi (Region.noSelect_spec h1) hQ fuel listed a w (Region.free_spec hi h6) (by simpa using h7) ⟨hy.yieldsIf, hab⟩ hS h
theorem hi_start (z : Nat) (S : World → Prop) {id : Nat} {a : Act} {w : World} (hm : P.follows .mixedOrders = true) (h : wpAnyHi F n P .any ops Q S z ops.size (Array.replicate ops.size false) a w.drew) : (Code.region id ops true).wpIn F n P Q a w :=
 wpIn_region_any hm (wpAnyIn_of_hi _ _ _ _ h)
theorem hi_take {z : Nat} (i : Nat) (N : Option Tmp) {oi : Oper} {v : Value} {fuel : Nat} {listed L' : Array Bool} {a a' : Act} {w : World} (hL : listed.setIfInBounds i true = L') (hi : ops[i]? = some oi) (hN : oi.dst = N)
  (hs : (Region.noSelect ops && noDefer ops && (ops[z]?.isNone || waits md ops 20 z i) && i != z && !listed.getD z false && downB md ops listed && Region.free md ops listed i && (Region.ready md ops listed).contains i) = true)
  (hQ : ∀ c a w, Q (.panic c) (a.put oi.dst v) w → Q (.panic c) a w) (hab : ∀ w, oi.about P w a.eval = none) (hS : S w) (hy : YieldsIf P ops S oi v a) (ha : a.put N v = a')
  (h : wpAnyHi F n P md ops Q S z fuel L' a' w) : wpAnyHi F n P md ops Q S z (fuel + 1) listed a w := by
 simp only [Bool.and_eq_true] at hs
 obtain ⟨⟨⟨⟨⟨⟨⟨h1, h2⟩, h3⟩, h4⟩, h8⟩, h5⟩, h6⟩, h7⟩ := hs
 subst hL hN ha
 refine wpAnyHi_first (f0 := 20) (by simpa using h4) ((Bool.or_eq_true _ _ ▸ h3 : ops[z]?.isNone = true ∨ waits md ops 20 z i = true).imp (fun h => Option.isNone_iff_eq_none.1 h) id) (fun j o ho => noDefer_spec h2 j o ho) hi (Region.noSelect_spec h1) hQ fuel listed a w (downB_spec h5) (by simpa using h8) (Region.free_spec hi h6) (by simpa using h7) ⟨hy, hab⟩ hS h
theorem hi_one {z : Nat} (i : Nat) {o : Oper} {fuel : Nat} {listed L' : Array Bool} {a : Act} {w : World} (hL : listed.setIfInBounds i true = L') (hr : Region.ready md ops listed = [i]) (ho : ops[i]? = some o)
  (h : ∀ K' : Act → World → Prop, Aside0 (∀ a w', (L'.getD z false = false → S w') → wpAnyHi F n P md ops Q S z fuel L' a w' → K' a w') → if Region.wanted o (yielded ops a.tmps) = true then Oper.wpIn F n P o a w K' Q else (∀ f, o.about P w a.eval = some f → F.fn f) ∧ K' (a.put o.dst undef) w) : wpAnyHi F n P md ops Q S z (fuel + 1) listed a w := by
 subst hL
 refine ⟨fun h0 => (by rw [hr] at h0; cases h0), fun j hj => ?_⟩
 rw [hr] at hj
 obtain rfl := List.mem_singleton.1 hj
 exact wpOpIn_step ho fun K' hK => h K' ⟨fun a w' h1 h2 => hK a w' ⟨h1, h2⟩⟩
theorem hi_done {z : Nat} {listed : Array Bool} {a : Act} {w : World} (hr : Region.ready md ops listed = []) (h : Q .normal a w) :
  ∀ fuel, wpAnyHi F n P md ops Q S z fuel listed a w
 | 0 => ⟨hr, h⟩
 | _ + 1 => ⟨fun _ => h, by rw [hr]; simp⟩
end
end Go.Proofs.YtpleiklodomgiaaGreatDoor.Hi
end
