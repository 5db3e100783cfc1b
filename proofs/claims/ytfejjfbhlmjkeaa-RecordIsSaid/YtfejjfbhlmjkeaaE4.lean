/- record.Stream; labels' bytes tell labels apart; two labels the same. -/
import Derived.Test.YtfejjfbhlmjkeaaE1
import Derived.Laws.StructEq
set_option linter.unusedVariables false
set_option linter.unusedSimpArgs false
namespace Go.Proofs.Ytfejjfbhlmjkeaa.C
open Go.RowKit Go.Proofs.YtfejjfbhlmjkeaaW.PrintWords Go.Proofs.YtfejjfbhlmjkeaaW.PrintLast Go.Proofs.YtfejjfbhlmjkeaaW.PrintMore Go.Proofs.Ytfejjfbhlmjkeaa.B Go.Proofs.Ytfejjfbhlmjkeaa.PRecordIs Go.Proofs.Ytfejjfbhlmjkeaa.CQ Go.Proofs.Ytfejjfbhlmjkeaa.Vi Go.Proofs.Ytfejjfbhlmjkeaa.N Go.Proofs.Ytfejjfbhlmjkeaa.Bt

theorem txt_inj {s t : ByteArray} {r q : List UInt8} (h : txt s ++ r = txt t ++ q) : s = t ∧ r = q := by
  unfold txt at h
  rw [List.append_assoc, List.append_assoc] at h
  obtain ⟨h1, h2⟩ := vint_inj h
  have hl : s.data.toList.length = t.data.toList.length := by rw [Array.length_toList, Array.length_toList]; exact h1
  obtain ⟨h3, h4⟩ := List.append_inj h2 hl
  exact ⟨ByteArray.ext (Array.toList_inj.mp h3), h4⟩
theorem labB_inj : ∀ {xs ys : List S47} {r q : List UInt8}, xs.length = ys.length → labB xs ++ r = labB ys ++ q → xs = ys ∧ r = q
  | [], [], _, _, _, h => ⟨rfl, h⟩
  | [], _ :: _, _, _, hl, _ => by simp at hl
  | _ :: _, [], _, _, hl, _ => by simp at hl
  | x :: xs, y :: ys, r, q, hl, h => by
    unfold labB at h
    rw [List.flatMap_cons, List.flatMap_cons, List.append_assoc, List.append_assoc, List.append_assoc, List.append_assoc] at h
    obtain ⟨h1, h2⟩ := txt_inj h
    obtain ⟨h3, h4⟩ := txt_inj h2
    obtain ⟨h5, h6⟩ := labB_inj (xs := xs) (ys := ys) (by simpa using hl) h4
    refine ⟨?_, h6⟩
    cases x; cases y
    cases h1; cases h3; cases h5
    rfl
theorem putB_inj {xs ys : List S47} {r q : List UInt8} (h : putB xs ++ r = putB ys ++ q) : xs = ys ∧ r = q := by
  unfold putB at h
  rw [List.append_assoc, List.append_assoc] at h
  obtain ⟨h1, h2⟩ := vint_inj h
  exact labB_inj h1 h2
theorem same_labels (x0 x1 y0 y1 : ByteArray) (w : World) : (binOp .eql 47 (.agg #[.string x0, .string x1]) (.agg #[.string y0, .string y1])).run Try.prog w = .ok (.bool (x0.toList == y0.toList && x1.toList == y1.toList)) w := by
  have u3 := Try.underlying9
  have a3 := Try.isAgg9
  have z3 := Try.sizeOf9
  have hS : Try.prog.underlying 47 = some (.struct (Try.prog.fieldsOf 47)) := by kernel_rfl
  have hp : Try.prog.stoodInHeld 47 = false := by kernel_rfl
  rw [run_eql_struct, show (10000 : Nat) = 9999 + 1 from rfl, run_equalIn_agg w 9999 47 _ _ hS hp]
  simp only [Program.fieldsOf, Try.underlying47]
  go_simp
  by_cases h1 : x0.toList = y0.toList <;> by_cases h2 : x1.toList = y1.toList <;> simp [h1, h2, beq_toListBytes]
theorem guard47 (op : BinOp) (p q : Operand) (xs ys : Array Value) (w : World) : (eqGuard op 47 p q (.agg xs) (.agg ys)).run Try.prog w = .ok () w := run_eqGuard_agg w op 47 p q xs ys (by kernel_rfl)
theorem str_of {w : World} {base : Nat} {v : Value} {l : List UInt8} (h : B.Own w base 5 v (cs l)) : (convert 52 9 v).run Try.prog w = .ok (.string (str l)) w :=
  run_str Try.underlying52 Try.underlying5 Try.underlying9 h
set_option maxRecDepth 20000 in
theorem stream_any (x : Ent) (w : World) (hx : x.In w) (hs : Short x.ls) : Calls Try.prog 29 #[x.val] w fun e w' => e = .returned (.string (str (putB x.ls))) ∧ Below w.heap.size w w' := by
  obtain ⟨x0, xA, xc, xl, x2⟩ := x
  unfold Ent.val
  dsimp only at hs ⊢
  obtain ⟨W, hW⟩ : ∃ W, W = w.alloc (.cells #[.int .i64 x0, .slice xA xl.length xc, .string x2] 34) := ⟨_, rfl⟩
  have HB : Aside0 (Below w.heap.size w W) := ⟨by rw [hW]; exact below_alloc (Below.refl _ w) _⟩
  have HP := Aside0.mk (put_any (w0 := W) (w := W) (.slice none 0 0) [] xl xA xc (Below.refl _ _) (Kd.C_below hx.lies HB.out) hs (B.Own.nil _ _ _) (Nat.zero_le _))
  have HW := Aside0.mk hW
  clear hx hs hW
  go_enter Try.func29, Try.ntmps29
  go_wp2_with fail
  try rw [← HW.out]
  clear HW
  ((refine HP.out.mono ?_); rintro e w1 ⟨v', rfl, h1, h2, -⟩)
  have HB := Aside0.mk (below_step HB.out ((Below.refl _ W).grown h2 (Nat.le_refl _) (fun k hk => by cases hk)))
  have hc := str_of h1
  rw [List.nil_append] at hc
  clear h1 h2 HP
  go_wp2
  go_ret
  exact ⟨rfl, HB.out⟩
end Go.Proofs.Ytfejjfbhlmjkeaa.C
