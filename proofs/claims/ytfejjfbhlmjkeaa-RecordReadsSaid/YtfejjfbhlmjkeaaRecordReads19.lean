/- Texts of this claim (printed ones, too), put together by a program that left out what the claim does not use. -/
import Derived.Laws.StructEq
import Derived.Test.YtfejjfbhlmjkeaaRecordReads13
import Derived.Test.YtfejjfbhlmjkeaaRecordReads14
import Derived.Test.YtfejjfbhlmjkeaaRecordReads15
import Derived.Test.YtfejjfbhlmjkeaaRecordReads16
import Derived.Test.YtfejjfbhlmjkeaaRecordReads5
import Derived.Test.YtfejjfbhlmjkeaaRecordReads18
section
set_option linter.unusedVariables false
set_option linter.unusedSimpArgs false
namespace Go.Proofs.Ytfejjfbhlmjkeaa.C
open Go.RowKit Go.ChangeShapes Go.WideShapes Go.Deep Go.Proofs.YtfejjfbhlmjkeaaW.PrintWords Go.Proofs.YtfejjfbhlmjkeaaW.PrintLast Go.Proofs.YtfejjfbhlmjkeaaW.PrintMore Go.Proofs.Ytfejjfbhlmjkeaa.B Go.Proofs.Ytfejjfbhlmjkeaa.PRecordIs Go.Proofs.Ytfejjfbhlmjkeaa.CQ
instance : Inhabited S47 := ⟨z47⟩
/-- What is known of an entry that is handed in. -/
structure Ent.Raw (x : Ent) (w : World) : Prop where
  lies : Kd.C k47 w x.A x.ls.length x.ls
  cap : x.ls.length ≤ x.c
  time : -9223372036854775808 ≤ x.at_ ∧ x.at_ ≤ 9223372036854775807
theorem Ent.Raw.below {x : Ent} {w w' : World} (h : x.Raw w) (k : Below w.heap.size w w') : x.Raw w' := ⟨Kd.C_below h.lies k, h.cap, h.time⟩
section
variable {H : Type} {enc : TypeId × Value → H} {w : World} {base : Nat} {spare : Nat → Bool} {held : Bool}
end
end Go.Proofs.Ytfejjfbhlmjkeaa.C
end
section
set_option linter.unusedVariables false
namespace Go.Proofs.Ytfejjfbhlmjkeaa.C
open Go.RowKit Go.Proofs.YtfejjfbhlmjkeaaW.PrintWords Go.Proofs.Ytfejjfbhlmjkeaa.PRecordIs Go.Proofs.Ytfejjfbhlmjkeaa.CQ
end Go.Proofs.Ytfejjfbhlmjkeaa.C
end
section
set_option linter.unusedVariables false
namespace Go.Proofs.Ytfejjfbhlmjkeaa.C
open Go.RowKit Go.Sort Go.Proofs.YtfejjfbhlmjkeaaW.PrintWords Go.Proofs.YtfejjfbhlmjkeaaW.PrintLast Go.Proofs.YtfejjfbhlmjkeaaW.PrintMore Go.Proofs.Ytfejjfbhlmjkeaa.B Go.Proofs.Ytfejjfbhlmjkeaa.PRecordIs Go.Proofs.Ytfejjfbhlmjkeaa.CQ
/-- A box of an entry. -/
def BoxE (w : World) (j : Nat) (x : Ent) : Prop := w.heap[j]? = some (.cells #[.int .i64 x.at_, .slice x.A x.ls.length x.c, .string x.line] 34)
theorem BoxE.below {w w' : World} {j : Nat} {x : Ent} (h : BoxE w j x) (k : Below w.heap.size w w') : BoxE w' j x := heap_below k h
theorem BoxE.c0 {w : World} {j : Nat} {x : Ent} (h : BoxE w j x) : w.cell? ⟨j, 0, none⟩ = some (.int .i64 x.at_) := blk_cell h 0
theorem BoxE.c1 {w : World} {j : Nat} {x : Ent} (h : BoxE w j x) : w.cell? ⟨j, 1, none⟩ = some (.slice x.A x.ls.length x.c) := blk_cell h 1
theorem BoxE.c2 {w : World} {j : Nat} {x : Ent} (h : BoxE w j x) : w.cell? ⟨j, 2, none⟩ = some (.string x.line) := blk_cell h 2
theorem BoxE.lt {w : World} {j : Nat} {x : Ent} (h : BoxE w j x) : j < w.heap.size := blk_lt h
end Go.Proofs.Ytfejjfbhlmjkeaa.C
end
section
set_option linter.unusedVariables false
set_option linter.unusedSimpArgs false
namespace Go.Proofs.Ytfejjfbhlmjkeaa.C
open Go.RowKit Go.Proofs.YtfejjfbhlmjkeaaW.PrintWords Go.Proofs.YtfejjfbhlmjkeaaW.PrintLast Go.Proofs.YtfejjfbhlmjkeaaW.PrintMore Go.Proofs.Ytfejjfbhlmjkeaa.B Go.Proofs.Ytfejjfbhlmjkeaa.PRecordIs Go.Proofs.Ytfejjfbhlmjkeaa.CQ Go.Proofs.Ytfejjfbhlmjkeaa.Vi Go.Proofs.Ytfejjfbhlmjkeaa.N Go.Proofs.Ytfejjfbhlmjkeaa.Bt
theorem str_of {w : World} {base : Nat} {v : Value} {l : List UInt8} (h : B.Own w base 5 v (cs l)) : (convert 52 9 v).run Try.prog w = .ok (.string (str l)) w :=
  run_str Try.underlying52 Try.underlying5 Try.underlying9 h
end Go.Proofs.Ytfejjfbhlmjkeaa.C
end
section
set_option linter.unusedVariables false
set_option linter.unusedSimpArgs false
namespace Go.Proofs.Ytfejjfbhlmjkeaa.C
open Go.RowKit Go.Proofs.YtfejjfbhlmjkeaaW.PrintWords Go.Proofs.YtfejjfbhlmjkeaaW.PrintLast Go.Proofs.YtfejjfbhlmjkeaaW.PrintMore Go.Proofs.Ytfejjfbhlmjkeaa.B Go.Proofs.Ytfejjfbhlmjkeaa.Reg Go.Proofs.Ytfejjfbhlmjkeaa.PRecordIs Go.Proofs.Ytfejjfbhlmjkeaa.CQ Go.Proofs.Ytfejjfbhlmjkeaa.Vi Go.Proofs.Ytfejjfbhlmjkeaa.N Go.Proofs.Ytfejjfbhlmjkeaa.Bt
end Go.Proofs.Ytfejjfbhlmjkeaa.C
end
section
set_option linter.unusedVariables false
set_option linter.unusedSimpArgs false
namespace Go.Proofs.Ytfejjfbhlmjkeaa.C
open Go.RowKit Go.Proofs.YtfejjfbhlmjkeaaW.PrintWords Go.Proofs.YtfejjfbhlmjkeaaW.PrintLast Go.Proofs.YtfejjfbhlmjkeaaW.PrintMore Go.Proofs.Ytfejjfbhlmjkeaa.B Go.Proofs.Ytfejjfbhlmjkeaa.Reg Go.Proofs.Ytfejjfbhlmjkeaa.PRecordIs Go.Proofs.Ytfejjfbhlmjkeaa.CQ Go.Proofs.Ytfejjfbhlmjkeaa.Vi Go.Proofs.Ytfejjfbhlmjkeaa.N Go.Proofs.Ytfejjfbhlmjkeaa.Bt
end Go.Proofs.Ytfejjfbhlmjkeaa.C
end
section
set_option linter.unusedVariables false
set_option linter.unusedSimpArgs false
namespace Go.Proofs.Ytfejjfbhlmjkeaa.C
open Go.RowKit Go.Sort Go.Proofs.YtfejjfbhlmjkeaaW.PrintWords Go.Proofs.YtfejjfbhlmjkeaaW.PrintLast Go.Proofs.YtfejjfbhlmjkeaaW.PrintMore Go.Proofs.Ytfejjfbhlmjkeaa.B Go.Proofs.Ytfejjfbhlmjkeaa.PRecordIs Go.Proofs.Ytfejjfbhlmjkeaa.CQ
/-- Does an entry come ahead of another one? -/
def bef (a b : Key) : Bool := decide (cmpE a b = -1)
theorem less_c (x y : ByteArray) : Op.bytesLess x.toList y.toList = decide (cmpS x y = -1) := by
  rw [Bool.eq_iff_iff, decide_eq_true_iff, cmpS_m]
theorem eq_c (x y : ByteArray) : x.toList = y.toList ↔ cmpS x y = 0 := by
  rw [cmpS_c.eq0]
  exact ⟨toList_inj, fun h => by rw [h]⟩
def rest (xs ys : List S47) (la lb : ByteArray) : Int := if cmpR cmpN xs ys = 0 then cmpS la lb else cmpR cmpN xs ys
theorem before_l (at1 at2 : Int) (xs ys : List S47) (la lb : ByteArray) (hx : xs.length ≤ 100000) (hy : ys.length ≤ 100000) : ∀ (k i : Nat), 2 * (xs.length - i) + 2 ≤ k → i ≤ xs.length → i ≤ ys.length →
    magpieref04_Before.l0 k (i : Int) at1 xs la at2 ys lb = some (decide (rest (xs.drop i) (ys.drop i) la lb = -1))
  | 0, i, h, _, _ => by omega
  | 1, i, h, _, _ => by omega
  | k + 2, i, h, h1, h2 => by
    rw [magpieref04_Before.l0]
    by_cases hlt : i < xs.length
    · rw [if_pos (by omega), magpieref04_Before.j1]
      by_cases hlt2 : i < ys.length
      · have ih := before_l at1 at2 xs ys la lb hx hy k (i + 1) (by omega) (by omega) (by omega)
        rw [if_pos (decide_eq_true (by omega)), if_pos (by omega), if_pos (by omega), if_pos (by omega), at47 hlt, at47 hlt2, w64_in _ (by omega), show ((i : Int) + 1) = ((i + 1 : Nat) : Int) by omega, ih]
        have hr : rest (xs.drop i) (ys.drop i) la lb = if cmpN xs[i] ys[i] = 0 then rest (xs.drop (i + 1)) (ys.drop (i + 1)) la lb else cmpN xs[i] ys[i] := by
          unfold rest
          rw [cmpR_drop xs ys i hlt hlt2]
          by_cases h0 : cmpN xs[i] ys[i] = 0
          · rw [if_pos h0, if_pos h0]
          · rw [if_neg h0, if_neg h0, if_neg h0]
        rw [hr]
        unfold cmpN
        by_cases e0 : cmpS xs[i].f0 ys[i].f0 = 0
        · rw [if_pos ((eq_c _ _).2 e0), if_pos e0]
          by_cases e1 : cmpS xs[i].f1 ys[i].f1 = 0
          · rw [if_pos ((eq_c _ _).2 e1), if_pos e1]
          · rw [if_neg (fun h => e1 ((eq_c _ _).1 h)), if_neg e1, less_c]
        · rw [if_neg (fun h => e0 ((eq_c _ _).1 h)), if_neg e0, if_neg e0, less_c]
      · rw [if_neg (by rw [decide_eq_true_iff]; omega), if_neg (by omega), decide_eq_false (show ¬ (xs.length : Int) < ys.length by omega)]
        have hr : rest (xs.drop i) (ys.drop i) la lb = 1 := by
          unfold rest
          rw [List.drop_eq_getElem_cons hlt, (List.drop_eq_nil_of_le (by omega) : ys.drop i = [])]
          rfl
        rw [hr]; rfl
    · rw [if_neg (by omega), magpieref04_Before.j1, if_neg (by simp)]
      by_cases he : xs.length = ys.length
      · rw [if_pos (by omega), less_c]
        unfold rest
        rw [(List.drop_eq_nil_of_le (by omega) : xs.drop i = []), (List.drop_eq_nil_of_le (by omega) : ys.drop i = [])]
        rfl
      · rw [if_neg (by omega), decide_eq_true (show (xs.length : Int) < ys.length by omega)]
        have hr : rest (xs.drop i) (ys.drop i) la lb = -1 := by
          unfold rest
          rw [(List.drop_eq_nil_of_le (by omega) : xs.drop i = []), List.drop_eq_getElem_cons (show i < ys.length by omega)]
          rfl
        rw [hr]; rfl
theorem before_f (a b : Key) (hx : a.ls.length ≤ 100000) (hy : b.ls.length ≤ 100000) : magpieref04_Before.f 200002 a.at_ a.ls a.line b.at_ b.ls b.line = some (bef a b) := by
  unfold magpieref04_Before.f bef cmpE
  by_cases h : a.at_ = b.at_
  · rw [if_pos h, if_pos ((cmpI_c.eq0 _ _).2 h)]
    exact before_l a.at_ b.at_ a.ls b.ls a.line b.line hx hy 200002 0 (by omega) (by omega) (by omega)
  · rw [if_neg h, if_neg (fun e => h ((cmpI_c.eq0 _ _).1 e))]
    congr 1
    rw [Bool.eq_iff_iff, decide_eq_true_iff, decide_eq_true_iff]
    unfold cmpI
    split
    · omega
    · split <;> omega
theorem before_any (x y : Ent) (w : World) (hx : x.In w) (hy : y.In w) : Calls Try.prog 21 #[x.val, y.val] w fun e w' => e = .returned (.bool (bef x.key y.key)) ∧ Below w.heap.size w w' :=
  magpieref04_Before.calls 200002 x.at_ x.A x.c x.ls x.line y.at_ y.A y.c y.ls y.line _ w hx.lies hx.cap hy.lies hy.cap (before_f x.key y.key hx.few hy.few)
end Go.Proofs.Ytfejjfbhlmjkeaa.C
end
