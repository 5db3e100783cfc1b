/- The sum of bytes as plain mathematics: a register that is shifted bit by bit, its linearity, and that no burst of 32 bits leaves it as it was. No program in sight. -/
set_option linter.unusedVariables false
namespace Go.Proofs.Ytahjpeihekphcaa.Crc
theorem xor_rc (a b c : Nat) : a ^^^ b ^^^ c = a ^^^ c ^^^ b := by rw [Nat.xor_assoc, Nat.xor_comm b c, Nat.xor_assoc]
theorem xor_eq {a b : Nat} (h : a ^^^ b = 0) : a = b := by
  have := congrArg (fun z => z ^^^ b) h
  simpa [Nat.xor_assoc] using this

/-- One bit. -/
def step (c : Nat) : Nat := (c / 2) ^^^ (if c % 2 = 1 then 3988292384 else 0)
def steps : Nat → Nat → Nat
  | 0, c => c
  | k + 1, c => steps k (step c)
/-- One byte. -/
def upd (n : Nat) (b : UInt8) : Nat := steps 8 (n ^^^ b.toNat)
def reg (n : Nat) (l : List UInt8) : Nat := l.foldl upd n
/-- The sum. -/
def crc (l : List UInt8) : Nat := 4294967295 - reg 4294967295 l
/-- The four bytes of a number, the lowest first. -/
def le4 (n : Nat) : List UInt8 := [UInt8.ofNat n, UInt8.ofNat (n / 256), UInt8.ofNat (n / 65536), UInt8.ofNat (n / 16777216)]
/-- What is sealed. -/
def seal_ (l : List UInt8) : List UInt8 := l ++ le4 (crc l)
/-- Bytes as a number, the lowest first. -/
def num : List UInt8 → Nat
  | [] => 0
  | b :: l => b.toNat + 256 * num l

theorem step_xor (x y : Nat) : step (x ^^^ y) = step x ^^^ step y := by
  unfold step
  have h2 : (x ^^^ y) / 2 = (x / 2) ^^^ (y / 2) := by
    have := Nat.shiftRight_xor_distrib (a := x) (b := y) (i := 1)
    simpa [Nat.shiftRight_eq_div_pow] using this
  have hm : (x ^^^ y) % 2 = (x % 2 + y % 2) % 2 := by
    have h := Nat.xor_mod_two_pow (a := x) (b := y) (n := 1)
    simp only [Nat.pow_one] at h
    rw [h]
    rcases Nat.mod_two_eq_zero_or_one x with hx | hx <;> rcases Nat.mod_two_eq_zero_or_one y with hy | hy <;> simp [hx, hy]
  rw [h2, hm]
  rcases Nat.mod_two_eq_zero_or_one x with hx | hx <;> rcases Nat.mod_two_eq_zero_or_one y with hy | hy
  · simp [hx, hy]
  · simp [hx, hy, Nat.xor_assoc]
  · simp [hx, hy]
    rw [xor_rc]
  · simp [hx, hy]
    rw [Nat.xor_assoc, Nat.xor_comm 3988292384 (y / 2 ^^^ 3988292384), Nat.xor_assoc, Nat.xor_self, Nat.xor_zero]
theorem step_zero : step 0 = 0 := by simp [step]
theorem step_double (y : Nat) : step (2 * y) = y := by
  unfold step
  have h1 : 2 * y % 2 ≠ 1 := by omega
  rw [if_neg h1, Nat.xor_zero]
  omega
theorem step_lt {c : Nat} (h : c < 4294967296) : step c < 4294967296 := by
  unfold step
  have h1 : c / 2 < 2 ^ 32 := by omega
  refine Nat.xor_lt_two_pow (n := 32) h1 ?_
  split <;> decide
theorem step_ne {c : Nat} (h : c < 4294967296) (h0 : c ≠ 0) : step c ≠ 0 := by
  unfold step
  intro he
  have := xor_eq he
  split at this <;> omega
theorem steps_xor : ∀ (k x y : Nat), steps k (x ^^^ y) = steps k x ^^^ steps k y
  | 0, _, _ => rfl
  | k + 1, x, y => by simp only [steps]; rw [step_xor, steps_xor k]
theorem steps_zero : ∀ k, steps k 0 = 0
  | 0 => rfl
  | k + 1 => by simp only [steps]; rw [step_zero, steps_zero k]
theorem steps_add : ∀ (j k c : Nat), steps (j + k) c = steps k (steps j c)
  | 0, k, c => by simp [steps]
  | j + 1, k, c => by rw [Nat.add_right_comm]; simp only [steps]; exact steps_add j k (step c)
theorem steps_pow : ∀ (k y : Nat), steps k (2 ^ k * y) = y
  | 0, y => by simp [steps]
  | k + 1, y => by
    simp only [steps]
    rw [Nat.pow_succ, Nat.mul_comm (2 ^ k) 2, Nat.mul_assoc, step_double, steps_pow k]
theorem steps_lt : ∀ (k : Nat) {c : Nat}, c < 4294967296 → steps k c < 4294967296
  | 0, _, h => h
  | k + 1, _, h => steps_lt k (step_lt h)
theorem steps_ne : ∀ (k : Nat) {c : Nat}, c < 4294967296 → c ≠ 0 → steps k c ≠ 0
  | 0, _, _, h0 => h0
  | k + 1, _, h, h0 => steps_ne k (step_lt h) (step_ne h h0)
theorem byte_lt (b : UInt8) : b.toNat < 256 := b.toNat_lt
theorem upd_lt {n : Nat} (h : n < 4294967296) (b : UInt8) : upd n b < 4294967296 := by
  refine steps_lt 8 (Nat.xor_lt_two_pow (n := 32) h ?_)
  have := byte_lt b
  omega
theorem reg_lt : ∀ (l : List UInt8) {n : Nat}, n < 4294967296 → reg n l < 4294967296
  | [], _, h => h
  | b :: l, n, h => reg_lt l (upd_lt h b)
theorem add_xor {b x : Nat} (h : b < 256) : b + 256 * x = b ^^^ 256 * x := by
  have h1 : 256 * x + b = 256 * x ||| b := Nat.two_pow_add_eq_or_of_lt (i := 8) h x
  rw [Nat.add_comm, h1]
  refine Nat.eq_of_testBit_eq fun i => ?_
  rw [Nat.testBit_or, Nat.testBit_xor]
  have h2 : (256 * x).testBit i = (decide (8 ≤ i) && x.testBit (i - 8)) := Nat.testBit_two_pow_mul (i := 8) ..
  by_cases hi : i < 8
  · have : ¬ 8 ≤ i := by omega
    simp [h2, this]
  · have : b.testBit i = false := Nat.testBit_lt_two_pow (Nat.lt_of_lt_of_le h (by
      have : 2 ^ 8 ≤ 2 ^ i := Nat.pow_le_pow_right (by decide) (by omega)
      simpa using this))
    simp [this]
/-- The register behind bytes: it hangs on them as a number, and on how many they are. -/
theorem reg_num : ∀ (l : List UInt8) (n : Nat), reg n l = steps (8 * l.length) (n ^^^ num l)
  | [], n => by simp [reg, num, steps]
  | b :: l, n => by
    have ih := reg_num l (upd n b)
    have e1 : reg n (b :: l) = reg (upd n b) l := rfl
    rw [e1, ih, num, add_xor (byte_lt b), ← Nat.xor_assoc, List.length_cons, Nat.mul_add, Nat.add_comm, steps_add, steps_xor 8]
    have : (256 : Nat) * num l = 2 ^ 8 * num l := by simp
    rw [this, steps_pow]
    rfl
theorem reg_append (n : Nat) (l m : List UInt8) : reg n (l ++ m) = reg (reg n l) m := List.foldl_append ..
theorem num_le4 {n : Nat} (h : n < 4294967296) : num (le4 n) = n := by
  simp [num, le4]
  omega
theorem crc_lt (l : List UInt8) : crc l < 4294967296 := by unfold crc; omega
theorem xor_full {a : Nat} (h : a < 4294967296) : a ^^^ (4294967295 - a) = 4294967295 := by
  refine Nat.eq_of_testBit_eq fun i => ?_
  have e : (4294967295 : Nat) - a = 2 ^ 32 - (a + 1) := by omega
  have hF : (4294967295 : Nat) = 2 ^ 32 - 1 := by decide
  rw [Nat.testBit_xor, e, Nat.testBit_two_pow_sub_succ h, hF, Nat.testBit_two_pow_sub_one]
  by_cases hi : i < 32
  · simp [hi]
  · have : a.testBit i = false := Nat.testBit_lt_two_pow (Nat.lt_of_lt_of_le h (by
      have : 2 ^ 32 ≤ 2 ^ i := Nat.pow_le_pow_right (by decide) (by omega)
      simpa using this))
    simp [hi, this]
theorem full_sub {a : Nat} (h : a < 4294967296) : 4294967295 - a = a ^^^ 4294967295 := by
  have e := xor_full h
  have := congrArg (fun z => a ^^^ z) e
  simpa only [← Nat.xor_assoc, Nat.xor_self, Nat.zero_xor] using this
theorem seal_length (l : List UInt8) : (seal_ l).length = l.length + 4 := by simp [seal_, le4]
/-- Of what is sealed the register is always the same. -/
theorem reg_seal (l : List UInt8) : reg 4294967295 (seal_ l) = steps 32 4294967295 := by
  unfold seal_
  rw [reg_append, reg_num (le4 (crc l)), num_le4 (crc_lt l)]
  have := xor_full (reg_lt l (n := 4294967295) (by decide))
  unfold crc
  rw [this]
  simp [le4]
/-- NO BURST: bytes whose number is turned by up to 32 bits in a row aren't sealed. -/
theorem burst {l m b : List UInt8} {bits at_ : Nat} (hb : b.length = (seal_ l).length) (hn : num b = num (seal_ l) ^^^ 2 ^ at_ * bits) (h0 : bits ≠ 0) (h32 : bits < 4294967296) (hat : at_ + 32 ≤ 8 * (seal_ l).length) : b ≠ seal_ m := by
  intro he
  have h1 := reg_seal l
  have h2 := reg_seal m
  rw [← he, reg_num, hb, hn, ← Nat.xor_assoc, steps_xor, ← reg_num, h1] at h2
  have h3 : steps (8 * (seal_ l).length) (2 ^ at_ * bits) = 0 := by
    have := congrArg (fun z => steps 32 4294967295 ^^^ z) h2
    simp only [← Nat.xor_assoc, Nat.xor_self, Nat.zero_xor] at this
    exact this
  have e : 8 * (seal_ l).length = at_ + (8 * (seal_ l).length - at_) := by omega
  rw [e, steps_add, steps_pow] at h3
  exact steps_ne _ h32 h0 h3
theorem le4_length (n : Nat) : (le4 n).length = 4 := rfl
theorem seal_inj {l m : List UInt8} (h : seal_ l = seal_ m) : l = m := (List.append_inj' h (by simp [le4])).1
/-- Whether bytes are sealed, as Open asks it. -/
theorem seal_take {s : List UInt8} : (∃ l, s = seal_ l) ↔ 4 ≤ s.length ∧ seal_ (s.take (s.length - 4)) = s := by
  constructor
  · rintro ⟨l, rfl⟩
    have : (seal_ l).length - 4 = l.length := by rw [seal_length]; omega
    rw [this]
    refine ⟨by rw [seal_length]; omega, ?_⟩
    have : (seal_ l).take l.length = l := by simp [seal_]
    rw [this]
  · rintro ⟨_, h⟩
    exact ⟨_, h.symm⟩
/-- One byte, as the program does it: by the low eight bits. -/
theorem upd_low {n : Nat} (b : UInt8) : (n / 256) ^^^ steps 8 ((n % 256) ^^^ b.toNat) = upd n b := by
  unfold upd
  have h1 : n = n % 256 ^^^ 256 * (n / 256) := by
    rw [← add_xor (by omega)]
    omega
  have h2 : (256 : Nat) * (n / 256) = 2 ^ 8 * (n / 256) := by simp
  conv => rhs; rw [h1, xor_rc, steps_xor, h2, steps_pow]
  rw [Nat.xor_comm]
end Go.Proofs.Ytahjpeihekphcaa.Crc
