/- An entry opened; the reference's bound of entries. -/
import Derived.Test.YtfejjfbhlmjkeaaCY
import Derived.Test.YtfejjfbhlmjkeaaOpen
import Derived.Test.YtfejjfbhlmjkeaaPa
set_option linter.unusedVariables false
set_option linter.unusedSimpArgs false
namespace Go.Proofs.Ytfejjfbhlmjkeaa.C
open Go.RowKit Go.ChangeShapes Go.WideShapes Go.Deep Go.Proofs.YtfejjfbhlmjkeaaW.PrintWords Go.Proofs.YtfejjfbhlmjkeaaW.PrintLast Go.Proofs.YtfejjfbhlmjkeaaW.PrintMore Go.Proofs.Ytfejjfbhlmjkeaa.B Go.Proofs.Ytfejjfbhlmjkeaa.PRecordIs Go.Proofs.Ytfejjfbhlmjkeaa.CQ

instance : Inhabited S47 := ⟨z47⟩
theorem three_of {cs : List Value} (h : cs.length = 3) : ∃ a b c, cs = [a, b, c] := by
  rcases cs with _ | ⟨a, _ | ⟨b, _ | ⟨c, _ | ⟨d, r⟩⟩⟩⟩
  · simp at h
  · simp at h
  · simp at h
  · exact ⟨a, b, c, rfl⟩
  · simp at h
/-- What is known of an entry that is handed in. -/
structure Ent.Raw (x : Ent) (w : World) : Prop where
  lies : Kd.C k47 w x.A x.ls.length x.ls
  cap : x.ls.length ≤ x.c
  time : -9223372036854775808 ≤ x.at_ ∧ x.at_ ≤ 9223372036854775807
theorem Ent.Raw.below {x : Ent} {w w' : World} (h : x.Raw w) (k : Below w.heap.size w w') : x.Raw w' := ⟨Kd.C_below h.lies k, h.cap, h.time⟩
theorem Ent.Raw.in_ {x : Ent} {w : World} (h : x.Raw w) (k : x.ls.length ≤ 100000) : x.In w := ⟨h.lies, h.cap, k⟩
theorem int_of_i64 {a : Int} (h : (Lit.int .i64 a).wf = true) : -9223372036854775808 ≤ a ∧ a ≤ 9223372036854775807 := by
  simp [Lit.wf, IntKind.min, IntKind.max, IntKind.bits, IntKind.signed] at h
  omega
section
variable {H : Type} {enc : TypeId × Value → H} {w : World} {base : Nat} {spare : Nat → Bool} {held : Bool}
theorem open_labels {fuel : Nat} {cs : List Value} {x : DataW H × List MemPlace} (h : DataW.trod enc Try.prog w base spare held fuel 32 cs = some x) :
    ∃ (A : Option Addr) (cap : Nat) (xs : List S47), cs = [.slice A xs.length cap] ∧ Kd.C k47 w A xs.length xs ∧ xs.length ≤ cap := by
  obtain ⟨A, len, cap, rfl, hl, hm, hnil, hel⟩ := Op.open_rows Try.underlying32 Try.underlying47 (by kernel_rfl) (by kernel_rfl) h
  cases A with
  | none =>
    obtain rfl := hnil rfl
    exact ⟨none, cap, [], rfl, ⟨rfl, Nat.zero_le _, fun h => absurd h (Nat.lt_irrefl 0)⟩, Nat.zero_le _⟩
  | some a =>
    obtain ⟨xs, rfl, hxs⟩ := Op.list_of (α := S47) (n := len) (p := fun i x => w.cell? ((a.add (i * 2)).add 0) = some (.string x.f0) ∧ w.cell? ((a.add (i * 2)).add 1) = some (.string x.f1)) (fun i hi => by
      obtain ⟨v0, n0, y0, c0, t0⟩ := hel a rfl i hi 0 _ rfl
      obtain ⟨v1, n1, y1, c1, t1⟩ := hel a rfl i hi 1 _ rfl
      obtain ⟨z0, e0, -, -⟩ := Go.DataW.trod_string Try.underlying9 t0
      obtain ⟨z1, e1, -, -⟩ := Go.DataW.trod_string Try.underlying9 t1
      injection e0 with e0
      injection e1 with e1
      subst e0 e1
      exact ⟨⟨z0, z1⟩, c0, c1⟩)
    refine ⟨some a, cap, xs, rfl, ⟨rfl, Nat.le_trans hl (Nat.le_trans hm (by decide)), fun _ => ⟨a, rfl, fun j x hx => ⟨_, rfl, k47_mk w x, fun i u hu => ?_⟩⟩⟩, hl⟩
    have hj : j < xs.length := by
      rcases Nat.lt_or_ge j xs.length with h1 | h1
      · exact h1
      · rw [List.getElem?_eq_none h1] at hx; cases hx
    have h2 := hxs j hj
    rw [List.getElem?_eq_getElem hj] at hx
    have hx' := Option.some.inj hx
    rw [hx'] at h2
    have e : a.add (j * k47.sz + i) = (a.add (j * 2)).add i := (Go.Addr.add_add a (j * 2) i).symm
    rw [e]
    match i, hu with
    | 0, hu => rw [← hu]; exact h2.1
    | 1, hu => rw [← hu]; exact h2.2
theorem open_entry {fuel : Nat} {cs : List Value} {x : DataW H × List MemPlace} (h : DataW.trod enc Try.prog w base spare held fuel 34 cs = some x) :
    ∃ y : Ent, cs = y.cells ∧ y.Raw w := by
  obtain ⟨ys, n', _, _, hcl, hyl, hfs⟩ := DataW.trod_struct Try.underlying34 h
  have hc3 : cs.length = 3 := hcl.trans (by kernel_rfl)
  obtain ⟨a, b, c, rfl⟩ := three_of hc3
  have y3 : ys.length = 3 := hyl.trans (by rfl)
  have c0 : Try.prog.cellsOf 3 = 1 := by kernel_rfl
  have c1 : Try.prog.cellsOf 32 = 1 := by kernel_rfl
  have c2 : Try.prog.cellsOf 9 = 1 := by kernel_rfl
  have h0 : DataW.trod enc Try.prog w base spare held n' 3 (List.take (Try.prog.cellsOf 3) [a, b, c]) = some ys[0] := (hfs 0 _ rfl).trans (List.getElem?_eq_getElem (show 0 < ys.length by omega))
  have h1 : DataW.trod enc Try.prog w base spare held n' 32 (List.take (Try.prog.cellsOf 32) [b, c]) = some ys[1] := (hfs 1 _ rfl).trans (List.getElem?_eq_getElem (show 1 < ys.length by omega))
  have h2 : DataW.trod enc Try.prog w base spare held n' 9 (List.take (Try.prog.cellsOf 9) [c]) = some ys[2] := (hfs 2 _ rfl).trans (List.getElem?_eq_getElem (show 2 < ys.length by omega))
  rw [c0] at h0
  rw [c1] at h1
  rw [c2] at h2
  obtain ⟨z0, e0, -, w0⟩ := Go.DataW.trod_int Try.underlying3 h0
  obtain ⟨A, cap, xs, e1, hK, hl⟩ := open_labels h1
  obtain ⟨z2, e2, -, -⟩ := Go.DataW.trod_string Try.underlying9 h2
  injection e0 with e0
  injection e1 with e1
  injection e2 with e2
  subst e0 e1 e2
  exact ⟨⟨z0, A, cap, xs, z2⟩, rfl, hK, hl, int_of_i64 w0⟩
end
/-- Is an entry more than is played? -/
def bigL (x : S47) : Bool := decide (200 < x.f0.size) || decide (200 < x.f1.size)
def greatB (k : Key) : Bool := decide (20 < k.ls.length) || (decide (1000 < k.line.size) || k.ls.any bigL)
theorem great_l (xs : List S47) (hm : xs.length ≤ 20) : ∀ (k i : Nat), xs.length - i < k → i ≤ xs.length → magpieref04_Great.l0 k xs (xs.length : Int) (i : Int) = some ((xs.drop i).any bigL)
  | 0, i, h, hi => by omega
  | k + 1, i, h, hi => by
    rw [magpieref04_Great.l0]
    by_cases hlt : i < xs.length
    · have ih := great_l xs hm k (i + 1) (by omega) (by omega)
      rw [if_pos (by omega), if_pos (by omega), if_pos (by omega), at47 hlt, w64_in _ (by omega), List.drop_eq_getElem_cons hlt, List.any_cons]
      rw [show ((i : Int) + 1) = ((i + 1 : Nat) : Int) by omega, ih]
      unfold bigL
      split
      · rename_i h1
        rw [decide_eq_true (show 200 < xs[i].f0.size by omega)]; rfl
      · rename_i h1
        rw [decide_eq_false (show ¬ 200 < xs[i].f0.size by omega)]
        split
        · rename_i h2
          rw [decide_eq_true (show 200 < xs[i].f1.size by omega)]; rfl
        · rename_i h2
          rw [decide_eq_false (show ¬ 200 < xs[i].f1.size by omega)]; rfl
    · rw [if_neg (by omega), List.drop_eq_nil_of_le (by omega)]; rfl
theorem great_f (k : Key) : magpieref04_Great.f 30 k.at_ k.ls k.line = some (greatB k) := by
  unfold magpieref04_Great.f greatB
  by_cases h : 20 < k.ls.length
  · rw [if_pos (by omega), decide_eq_true h, Bool.true_or, magpieref04_Great.j0, if_pos rfl]
  · rw [if_neg (by omega), decide_eq_false h, Bool.false_or, magpieref04_Great.j0]
    by_cases h2 : 1000 < k.line.size
    · rw [if_pos (decide_eq_true (by omega)), decide_eq_true h2, Bool.true_or]
    · rw [if_neg (by simp; omega), decide_eq_false h2, Bool.false_or]
      have := great_l k.ls (by omega) 29 0 (by omega) (by omega)
      rw [List.drop_zero] at this
      exact this
theorem great_any (x : Ent) (w : World) (h : x.Raw w) : Calls Try.prog 20 #[x.val] w fun e w' => e = .returned (.bool (greatB x.key)) ∧ Below w.heap.size w w' :=
  magpieref04_Great.calls 30 x.at_ x.A x.c x.ls x.line _ w h.lies h.cap (great_f x.key)
end Go.Proofs.Ytfejjfbhlmjkeaa.C
