/- What sum.Seal and sum.Open compute: Seal over whatever bytes the call owns, Open over whatever string. -/
import Derived.Test.YtahjpeihekphcaaS1
set_option linter.unusedVariables false
set_option linter.unusedSimpArgs false
namespace Go.Proofs.Ytahjpeihekphcaa.S
open Go.RowKit Go.Proofs.YtahjpeihekphcaaW.PrintWords Go.Proofs.YtahjpeihekphcaaW.PrintLast Go.Proofs.YtahjpeihekphcaaW.PrintMore Go.Proofs.Ytahjpeihekphcaa.Bt Go.Proofs.Ytahjpeihekphcaa.B Go.Proofs.Ytahjpeihekphcaa.Crc
open Go.Proofs.Ytahjpeihekphcaa.PSumIs

theorem info8 : (Try.prog.info? 5).map (fun i => (i.zero, i.size, i.bytes)) = some (some (.int .u8 0), 1, 1) := by kernel_rfl
/-- A number's bytes as the walk spells them. -/
theorem le4_cells {n : Nat} (hn : n < 4294967296) : [Value.int .u8 ((n : Int) % 256), .int .u8 ((n : Int) / 256 % 256), .int .u8 ((n : Int) / 65536 % 256), .int .u8 ((n : Int) / 16777216 % 256)] = cs (le4 n) := by
  simp only [cs, le4, List.map_cons, List.map_nil, bv, UInt8.toNat_ofNat']
  congr 2
set_option maxHeartbeats 800000 in
theorem seal_any (base : Nat) (v : Value) (l : List UInt8) (w : World) (hO : Own w base 5 v (cs l)) (hbase : base ≤ w.heap.size) (hl : l.length ≤ 4611686018427) :
    Calls Try.prog 18 #[v] w fun e w' => ∃ v', e = .returned v' ∧ Own w' base 5 v' (cs (seal_ l)) ∧ w.grownBy w' v.ownBlock ∧ (v'.ownBlock = v.ownBlock ∨ ∃ b, v'.ownBlock = some b ∧ w.heap.size ≤ b) := by
  have hc := run_str (P := Try.prog) (src := 27) (dst := 9) Try.underlying27 Try.underlying5 Try.underlying9 hO
  obtain ⟨A, c, hv, -, -⟩ := hO.shape
  subst hv
  go_enter Try.func18, Try.ntmps18
  go_wp2_with fail
  refine (of_any (str l) _ (by rw [str_size]; omega)).mono ?_
  rintro e w' ⟨rfl, ⟨nd, rfl⟩⟩
  have hlt : Aside0 (crc (str l).data.toList < 4294967296) := ⟨crc_lt _⟩
  go_wp2_with (at_builtin; refine wpList_append_b base rfl (.tmp 7) (.tmp 19) 27 5 (.int .u8 0) 1 rfl Try.underlying27 info8 rfl (by decide) (.slice A (cs l).length c) (cs l) rfl ((hO.drewN nd).alloc _) (some ⟨w.heap.size, 0, none⟩) 4 4 (cs (le4 (crc (str l).data.toList))) rfl rfl ?hn (fun h => by cases h) (cs_one _) (by rw [cs_length]; omega) (by simp; omega) ?_)
  case hn =>
    rw [← le4_cells hlt.out]
    exact news_row (w.drewN nd) _ _
  intro v' w' hown hgr hat
  go_wp2
  go_ret
  have hgr' : w.grownBy w' (Value.slice A (cs l).length c).ownBlock := World.grownBy.trans (World.grownBy.trans (grown_of_below (pw_below_drewN (Below.refl _ w) nd) _) (World.grownBy_alloc _ _ _)) hgr
  refine ⟨v', rfl, ?_, hgr', ?_⟩
  · rw [data_str] at hown
    rw [seal_, cs_append]
    exact hown
  · rcases hat with hat | hat
    · exact .inl hat
    · exact .inr ⟨_, hat, by simp⟩

theorem extract_list (s : ByteArray) (n : Nat) (hn : n ≤ s.size) : (s.extract 0 n).data.toList = s.data.toList.take n := by
  simp [ByteArray.data_extract]
theorem list_ext {a b : ByteArray} (h : a.data.toList = b.data.toList) : a = b := by
  have := congrArg str h
  rwa [str_data, str_data] at this
set_option maxHeartbeats 800000 in
/-- Open, of what is too short. -/
theorem open_short (s : ByteArray) (w : World) (hs : s.size < 4) :
    Calls Try.prog 14 #[.string s] w fun e w' => e = .returned (.tuple #[.string ⟨#[]⟩, .bool false]) ∧ Below w.heap.size w w' := by
  have c0 : decide ((s.size : Int) - 4 < 0) = true := decide_eq_true (by omega)
  go_enter Try.func14, Try.ntmps14
  go_wp2
  go_ret2
  exact ⟨rfl, Below.refl _ _⟩
set_option maxHeartbeats 800000 in
theorem open_long0 (l : List UInt8) (n : Nat) (s : ByteArray) (w : World) (yes : Bool) (hn : n ≤ s.size) (hl : l.length ≤ 4611686018427) (hw : wrap64 ((s.size : Int) - 4) = (n : Int)) (hex : s.extract 0 n = str l)
    (hy : ((str (seal_ l)).toList == s.toList) = yes) :
    Calls Try.prog 14 #[.string s] w fun e w' => e = .returned (if yes = true then .tuple #[.string (str l), .bool true] else .tuple #[.string ⟨#[]⟩, .bool false]) ∧ Below w.heap.size w w' := by
  have kb := fun W => print_bytes (P := Try.prog) 9 27 5 Try.underlying9 Try.underlying27 Try.underlying5 (str l) W
  have hw2 : IntKind.i64.wrap ((s.size : Int) - 4) = (n : Int) := (i64_w _).trans hw
  have HB := Aside0.mk (conv_below w 5 (str l))
  have HO := Aside0.mk (own_conv w w.heap.size 5 (str l) (by rw [str_size]; simp only [maxLen]; omega) (Nat.le_refl _))
  rw [data_str] at HO
  have hlt : Aside0 (l.length ≤ 4611686018427) := ⟨hl⟩
  clear hl
  have hn0 : decide ((n : Int) < 0) = false := decide_eq_false (by omega)
  cases yes with
  | true =>
    go_enter Try.func14, Try.ntmps14
    go_wp2_with fail
    ((with_reducible refine (seal_any w.heap.size _ l _ HO.out (below_size HB.out) hlt.out).mono ?_); rintro e w' ⟨v', rfl, hO2, hg2, -⟩)
    have hc := run_str (P := Try.prog) (src := 27) (dst := 9) Try.underlying27 Try.underlying5 Try.underlying9 hO2
    have HB2 := Aside0.mk (own_grown HO.out HB.out (Nat.le_refl _) (below_size HB.out) hg2)
    clear hg2 hO2
    go_wp2
    go_ret2
    exact ⟨rfl, HB2.out⟩
  | false =>
    go_enter Try.func14, Try.ntmps14
    go_wp2_with fail
    ((with_reducible refine (seal_any w.heap.size _ l _ HO.out (below_size HB.out) hlt.out).mono ?_); rintro e w' ⟨v', rfl, hO2, hg2, -⟩)
    have hc := run_str (P := Try.prog) (src := 27) (dst := 9) Try.underlying27 Try.underlying5 Try.underlying9 hO2
    have HB2 := Aside0.mk (own_grown HO.out HB.out (Nat.le_refl _) (below_size HB.out) hg2)
    clear hg2 hO2
    go_wp2
    go_ret2
    exact ⟨rfl, HB2.out⟩

theorem toList_eq (a b : ByteArray) : (a.toList == b.toList) = decide (a = b) := by
  rw [ByteArray.toList_eq, ByteArray.toList_eq]
  by_cases h : a = b
  · subst h; simp
  · have : a.data.toList ≠ b.data.toList := fun e => h (list_ext e)
    rw [decide_eq_false h]
    simpa using this
/-- Open, of what is sealed. -/
theorem open_yes (l : List UInt8) (w : World) (hl : l.length ≤ 4611686018427) :
    Calls Try.prog 14 #[.string (str (seal_ l))] w fun e w' => e = .returned (.tuple #[.string (str l), .bool true]) ∧ Below w.heap.size w w' := by
  have hs : (str (seal_ l)).size = l.length + 4 := by rw [str_size, seal_length]
  refine (open_long0 l l.length _ w true (by omega) hl (by rw [hs]; unfold wrap64; omega) (list_ext ?_) (by rw [toList_eq]; simp)).mono ?_
  · rw [extract_list _ _ (by omega), data_str, data_str]
    simp [seal_]
  · rintro e w' ⟨rfl, h⟩
    exact ⟨rfl, h⟩
/-- Open, of what isn't. -/
theorem open_no (s : ByteArray) (w : World) (hno : ∀ l, s.data.toList ≠ seal_ l) (hl : s.size ≤ 4611686018427) :
    Calls Try.prog 14 #[.string s] w fun e w' => e = .returned (.tuple #[.string ⟨#[]⟩, .bool false]) ∧ Below w.heap.size w w' := by
  by_cases h4 : s.size < 4
  · exact open_short s w h4
  · refine (open_long0 (s.data.toList.take (s.size - 4)) (s.size - 4) s w false (by omega) (by rw [List.length_take]; omega) (by unfold wrap64; omega) (list_ext ?_) ?_).mono ?_
    · rw [extract_list _ _ (by omega), data_str]
    · rw [toList_eq]
      have : str (seal_ (s.data.toList.take (s.size - 4))) ≠ s := fun e => hno _ (by rw [← congrArg (fun x => x.data.toList) e, data_str])
      simp [this]
    · rintro e w' ⟨rfl, h⟩
      exact ⟨rfl, h⟩
end Go.Proofs.Ytahjpeihekphcaa.S
