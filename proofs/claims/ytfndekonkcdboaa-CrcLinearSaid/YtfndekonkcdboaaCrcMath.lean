/- The plain law of the check sum: steps of the register, the tables, and that a turned byte shows. Nothing of the program. -/
namespace Go.Proofs.Ytfndekonkcdboaa.CrcMath

def poly : BitVec 32 := 0xEDB88320#32

def cstep (x : BitVec 32) : BitVec 32 := if x.getLsbD 0 then (x >>> 1) ^^^ poly else x >>> 1

def steps : Nat → BitVec 32 → BitVec 32
  | 0, x => x
  | n + 1, x => steps n (cstep x)

theorem steps_add (m n : Nat) (x : BitVec 32) : steps (m + n) x = steps n (steps m x) := by
  induction m generalizing x with
  | zero => simp [steps]
  | succ m ih => rw [Nat.succ_add]; simp only [steps]; exact ih _

theorem steps_succ' (n : Nat) (x : BitVec 32) : steps (n + 1) x = cstep (steps n x) := by
  rw [steps_add]; rfl

theorem ushr_xor (x y : BitVec 32) (n : Nat) : (x ^^^ y) >>> n = (x >>> n) ^^^ (y >>> n) := by
  ext i hi; simp

theorem xor_cancel (p a b : BitVec 32) : (a ^^^ p) ^^^ (b ^^^ p) = a ^^^ b := by
  ext i hi; simp; cases a[i] <;> cases b[i] <;> cases p[i] <;> rfl

theorem cstep_xor (x y : BitVec 32) : cstep (x ^^^ y) = cstep x ^^^ cstep y := by
  unfold cstep
  rw [BitVec.getLsbD_xor, ushr_xor]
  cases x.getLsbD 0 <;> cases y.getLsbD 0 <;> simp
  · ac_rfl
  · ac_rfl
  · exact (xor_cancel _ _ _).symm

theorem step_zero : cstep 0#32 = 0#32 := by decide

theorem steps_zero (n : Nat) : steps n 0#32 = 0#32 := by
  induction n with
  | zero => rfl
  | succ n ih => simp only [steps, step_zero]; exact ih

theorem steps_xor (n : Nat) (x y : BitVec 32) : steps n (x ^^^ y) = steps n x ^^^ steps n y := by
  induction n generalizing x y with
  | zero => rfl
  | succ n ih => simp only [steps, cstep_xor]; exact ih _ _

/-- a register whose lowest n bits are 0 only goes right -/
theorem steps_low (n : Nat) (x : BitVec 32) (h : ∀ i, i < n → x.getLsbD i = false) : steps n x = x >>> n := by
  induction n generalizing x with
  | zero => simp [steps]
  | succ n ih =>
    have h0 : cstep x = x >>> 1 := by unfold cstep; rw [h 0 (by omega)]; simp
    simp only [steps, h0]
    rw [ih]
    · ext i hi; simp; congr 1; omega
    · intro i hi; simp; exact h _ (by omega)

/-- a byte as a word -/
def ext (b : BitVec 8) : BitVec 32 := b.setWidth 32

theorem shl_shr (k : Nat) (x : BitVec 32) (h : ∀ i, 32 - k ≤ i → x.getLsbD i = false) : (x <<< k) >>> k = x := by
  ext i hi
  simp
  rw [← BitVec.getLsbD_eq_getElem hi]
  by_cases h2 : k + i < 32
  · simp [h2]
  · simp [h2, h i (by omega)]

theorem steps_shift (n k : Nat) (x : BitVec 32) (h : ∀ i, 32 - k ≤ i → x.getLsbD i = false) : steps (k + n) (x <<< k) = steps n x := by
  rw [steps_add, steps_low k (x <<< k) (by intro i hi; simp; intro _ h2; omega), shl_shr k x h]

theorem ext_high (b : BitVec 8) (i : Nat) (hi : 8 ≤ i) : (ext b).getLsbD i = false := by
  simp [ext]; intro _; exact BitVec.getLsbD_of_ge _ _ hi

/-- what a byte leads to, n bytes 0 behind it -/
def tab (k : Nat) (b : BitVec 8) : BitVec 32 := steps (8 * (k + 1)) (ext b)

def upd (r : BitVec 32) (b : BitVec 8) : BitVec 32 := steps 8 (r ^^^ ext b)

/-- the register behind bytes -/
def reg (r : BitVec 32) (l : List UInt8) : BitVec 32 := l.foldl (fun r b => upd r b.toBitVec) r

theorem reg_append (r : BitVec 32) (a b : List UInt8) : reg r (a ++ b) = reg (reg r a) b := List.foldl_append ..
theorem reg_cons (r : BitVec 32) (a : UInt8) (b : List UInt8) : reg r (a :: b) = reg (upd r a.toBitVec) b := rfl
theorem reg_nil (r : BitVec 32) : reg r [] = r := rfl

/-- one byte by the table -/
theorem steps8_tab (w : BitVec 32) : steps 8 w = tab 0 (w.setWidth 8) ^^^ (w >>> 8) := by
  have h : w = ext (w.setWidth 8) ^^^ ((w >>> 8) <<< 8) := by
    ext i hi; simp [ext]
    by_cases h : i < 8
    · simp [h, hi]
    · simp [h]
      rw [show 8 + (i - 8) = i from by omega]; simp [hi]
  have h2 : steps 8 ((w >>> 8) <<< 8) = w >>> 8 := by
    have := steps_shift 0 8 (w >>> 8) (by intro i hi; simp; exact BitVec.getLsbD_of_ge _ _ (by omega))
    simpa [steps] using this
  conv => lhs; rw [h]
  rw [steps_xor, h2]; rfl

theorem tab_succ (k : Nat) (b : BitVec 8) : tab (k + 1) b = tab 0 ((tab k b).setWidth 8) ^^^ (tab k b >>> 8) := by
  rw [← steps8_tab]; unfold tab; rw [← steps_add]; rfl

theorem one_eq (r : BitVec 32) (b : BitVec 8) : upd r b = tab 0 (r.setWidth 8 ^^^ b) ^^^ (r >>> 8) := by
  unfold upd; rw [steps8_tab]
  congr 1
  · congr 1; ext i hi; simp [ext]
  · ext i hi; simp [ext]

/-- four bytes as a word, the lowest first -/
def word4 (a b c d : BitVec 8) : BitVec 32 := ext a ||| ext b <<< 8 ||| ext c <<< 16 ||| ext d <<< 24

theorem word4_xor (a b c d : BitVec 8) : word4 a b c d = ext a ^^^ ext b <<< 8 ^^^ ext c <<< 16 ^^^ ext d <<< 24 := by
  unfold word4
  ext i hi
  simp [ext]
  by_cases h1 : i < 8
  · simp [h1, show i < 16 from by omega, show i < 24 from by omega]
  · by_cases h2 : i < 16
    · simp [h1, h2, show i < 24 from by omega, BitVec.getLsbD_of_ge a i (by omega)]
    · by_cases h3 : i < 24
      · simp [h1, h2, h3, BitVec.getLsbD_of_ge a i (by omega), BitVec.getLsbD_of_ge b (i - 8) (by omega)]
      · simp [h1, h2, h3, BitVec.getLsbD_of_ge a i (by omega), BitVec.getLsbD_of_ge b (i - 8) (by omega), BitVec.getLsbD_of_ge c (i - 16) (by omega)]

theorem word4_of (y : BitVec 32) : y = word4 (y.setWidth 8) ((y >>> 8).setWidth 8) ((y >>> 16).setWidth 8) ((y >>> 24).setWidth 8) := by
  unfold word4
  ext i hi
  simp [ext]
  by_cases h1 : i < 8
  · simp [h1, hi, show i < 16 from by omega, show i < 24 from by omega]
  · by_cases h2 : i < 16
    · simp [h1, h2, show i < 24 from by omega, show i - 8 < 8 from by omega, show 8 + (i - 8) = i from by omega, hi]
    · by_cases h3 : i < 24
      · simp [h1, h2, h3, show ¬ i - 8 < 8 from by omega, show i - 16 < 8 from by omega, show 16 + (i - 16) = i from by omega, hi]
      · simp [h1, h2, h3, show ¬ i - 8 < 8 from by omega, show ¬ i - 16 < 8 from by omega, show i - 24 < 8 from by omega, show 24 + (i - 24) = i from by omega, hi]

theorem ext_low (k : Nat) (hk : k ≤ 24) (b : BitVec 8) : ∀ i, 32 - k ≤ i → (ext b).getLsbD i = false := fun i hi => ext_high b i (by omega)

theorem steps32_word4 (a b c d : BitVec 8) : steps 32 (word4 a b c d) = tab 3 a ^^^ tab 2 b ^^^ tab 1 c ^^^ tab 0 d := by
  rw [word4_xor, steps_xor, steps_xor, steps_xor]
  have h1 : steps 32 (ext b <<< 8) = tab 2 b := steps_shift 24 8 (ext b) (ext_low 8 (by omega) b)
  have h2 : steps 32 (ext c <<< 16) = tab 1 c := steps_shift 16 16 (ext c) (ext_low 16 (by omega) c)
  have h3 : steps 32 (ext d <<< 24) = tab 0 d := steps_shift 8 24 (ext d) (ext_low 24 (by omega) d)
  rw [h1, h2, h3]; rfl

theorem upd_back (k : Nat) (hk : k ≤ 24) (r : BitVec 32) (b : BitVec 8) : upd (steps k r) b = steps (k + 8) (r ^^^ ext b <<< k) := by
  unfold upd
  have h := steps_shift 0 k (ext b) (ext_low k hk b)
  simp only [Nat.add_zero, steps] at h
  rw [steps_add k 8, steps_xor k, h]

/-- four bytes at once -/
theorem four_eq (x : BitVec 32) (a b c d : BitVec 8) :
    upd (upd (upd (upd x a) b) c) d = tab 3 ((x ^^^ word4 a b c d).setWidth 8) ^^^ tab 2 (((x ^^^ word4 a b c d) >>> 8).setWidth 8) ^^^ tab 1 (((x ^^^ word4 a b c d) >>> 16).setWidth 8) ^^^ tab 0 (((x ^^^ word4 a b c d) >>> 24).setWidth 8) := by
  rw [← steps32_word4, ← word4_of, word4_xor]
  rw [show upd x a = steps 8 (x ^^^ ext a) from rfl, upd_back 8 (by omega), upd_back 16 (by omega), upd_back 24 (by omega)]
  congr 1
  simp only [BitVec.xor_assoc]

/-! a turned byte shows -/

theorem step_zero_only (z : BitVec 32) (h : cstep z = 0#32) : z = 0#32 := by
  unfold cstep at h
  by_cases h0 : z.getLsbD 0 = true
  · rw [if_pos h0] at h
    have := congrArg (fun v : BitVec 32 => v.getLsbD 31) h
    simp [poly] at this
  · rw [if_neg h0] at h
    ext i hi
    cases i with
    | zero => simpa using h0
    | succ i =>
      have := congrArg (fun v : BitVec 32 => v.getLsbD i) h
      simp at this
      rw [Nat.add_comm 1 i, BitVec.getLsbD_eq_getElem hi] at this
      simp [this]

theorem xor_zero_only {x y : BitVec 32} (h : x ^^^ y = 0#32) : x = y := by
  ext i hi
  have := congrArg (fun v : BitVec 32 => v.getLsbD i) h
  simp [BitVec.getLsbD_eq_getElem hi] at this
  exact this

theorem step_inj {x y : BitVec 32} (h : cstep x = cstep y) : x = y := by
  apply xor_zero_only; apply step_zero_only; rw [cstep_xor, h, BitVec.xor_self]

theorem steps_inj {n : Nat} {x y : BitVec 32} (h : steps n x = steps n y) : x = y := by
  induction n generalizing x y with
  | zero => exact h
  | succ n ih => exact step_inj (ih h)

theorem xor_right_inj' {a x y : BitVec 32} (h : a ^^^ x = a ^^^ y) : x = y := by
  apply xor_zero_only
  have : (x ^^^ y) = (x ^^^ a) ^^^ (y ^^^ a) := (xor_cancel a x y).symm
  rw [this, BitVec.xor_comm x, BitVec.xor_comm y, h, BitVec.xor_self]

theorem ext_inj {a b : BitVec 8} (h : ext a = ext b) : a = b := by
  ext i hi
  have := congrArg (fun v : BitVec 32 => v.getLsbD i) h
  simp [ext] at this
  simp [show i < 32 from by omega, BitVec.getLsbD_eq_getElem hi] at this
  exact this

theorem upd_inj_byte {r : BitVec 32} {a b : BitVec 8} (h : upd r a = upd r b) : a = b := ext_inj (xor_right_inj' (steps_inj h))
theorem upd_inj_reg {r q : BitVec 32} {a : BitVec 8} (h : upd r a = upd q a) : r = q := by
  have := steps_inj h
  rw [BitVec.xor_comm r, BitVec.xor_comm q] at this
  exact xor_right_inj' this

theorem reg_inj {l : List UInt8} {r q : BitVec 32} (h : reg r l = reg q l) : r = q := by
  induction l generalizing r q with
  | nil => exact h
  | cons a l ih => exact upd_inj_reg (ih h)

theorem reg_turn (r : BitVec 32) (a t : List UInt8) (c d : UInt8) (h : reg r (a ++ c :: t) = reg r (a ++ d :: t)) : c = d := by
  rw [reg_append, reg_append, reg_cons, reg_cons] at h
  have := upd_inj_byte (reg_inj h)
  exact UInt8.toBitVec_inj.1 this

/-! the sum is linear -/
theorem upd_xor (r q : BitVec 32) (a b : BitVec 8) : upd (r ^^^ q) (a ^^^ b) = upd r a ^^^ upd q b := by
  unfold upd
  rw [← steps_xor]
  congr 1
  have : ext (a ^^^ b) = ext a ^^^ ext b := by ext i hi; simp [ext]
  rw [this]; ac_rfl

theorem reg_xor (l m : List UInt8) (h : l.length = m.length) (r q : BitVec 32) : reg (r ^^^ q) (List.zipWith (· ^^^ ·) l m) = reg r l ^^^ reg q m := by
  induction l generalizing m r q with
  | nil => cases m with
    | nil => rfl
    | cons => simp at h
  | cons a l ih => cases m with
    | nil => simp at h
    | cons b m =>
      simp only [List.zipWith_cons_cons, reg_cons]
      rw [← ih m (by simpa using h), UInt8.toBitVec_xor, upd_xor]

/-- the sum of bytes -/
def sum (l : List UInt8) : BitVec 32 := ~~~ reg (BitVec.allOnes 32) l

theorem not_xor_not (p q : BitVec 32) : ~~~p ^^^ ~~~q = p ^^^ q := by ext i hi; simp

theorem sum_linear (a b c : List UInt8) (h1 : a.length = c.length) (h2 : b.length = c.length) :
    sum a ^^^ sum b = sum (List.zipWith (· ^^^ ·) a c) ^^^ sum (List.zipWith (· ^^^ ·) b c) := by
  have e1 := reg_xor a c h1 (BitVec.allOnes 32) 0#32
  have e2 := reg_xor b c h2 (BitVec.allOnes 32) 0#32
  rw [BitVec.xor_zero] at e1 e2
  unfold sum
  rw [not_xor_not, not_xor_not, e1, e2, xor_cancel]

theorem sum_turn (a t : List UInt8) (c d : UInt8) (h : sum (a ++ c :: t) = sum (a ++ d :: t)) : c = d := by
  apply reg_turn (BitVec.allOnes 32) a t
  unfold sum at h
  exact BitVec.not_inj.1 h

/-- a sum's bytes, the highest first -/
def be4 (n : Nat) : List UInt8 := [UInt8.ofNat (n / 16777216), UInt8.ofNat (n / 65536), UInt8.ofNat (n / 256), UInt8.ofNat n]

theorem be4_inj {m n : Nat} (hm : m < 4294967296) (hn : n < 4294967296) (h : be4 m = be4 n) : m = n := by
  unfold be4 at h
  simp only [List.cons.injEq, and_true] at h
  obtain ⟨h1, h2, h3, h4⟩ := h
  have e1 := congrArg UInt8.toNat h1
  have e2 := congrArg UInt8.toNat h2
  have e3 := congrArg UInt8.toNat h3
  have e4 := congrArg UInt8.toNat h4
  simp only [UInt8.toNat_ofNat'] at e1 e2 e3 e4
  omega

/-- a text, sealed -/
def sealed (l : List UInt8) : List UInt8 := be4 (sum l).toNat ++ l

theorem sealed_drop (l : List UInt8) : (sealed l).drop 4 = l := rfl
theorem sealed_length (l : List UInt8) : (sealed l).length = 4 + l.length := by simp [sealed, be4]; omega

/-- a sealed text in which one byte is turned is none -/
theorem sealed_turn (l : List UInt8) (i : Nat) (hi : i < (sealed l).length) (c : UInt8) (hc : c ≠ (sealed l)[i]) : (sealed l).set i c ≠ sealed (((sealed l).set i c).drop 4) := by
  intro h
  by_cases h4 : i < 4
  · have hd : ((sealed l).set i c).drop 4 = l := by
      rw [List.drop_set_of_lt h4]; rfl
    rw [hd] at h
    have := congrArg (fun x => x[i]?) h
    simp [hi] at this
    exact hc this
  · have hs := sealed_length l
    have hd : ((sealed l).set i c).drop 4 = l.set (i - 4) c := by
      rw [List.drop_set, if_neg h4]; rfl
    rw [hd] at h
    have ht := congrArg (List.take 4) h
    have e1 : ((sealed l).set i c).take 4 = be4 (sum l).toNat := by
      rw [List.take_set_of_le (by omega)]; rfl
    have e2 : (sealed (l.set (i - 4) c)).take 4 = be4 (sum (l.set (i - 4) c)).toNat := rfl
    rw [e1, e2] at ht
    have hsum := BitVec.eq_of_toNat_eq (be4_inj (sum l).isLt (sum (l.set (i - 4) c)).isLt ht)
    have hil : i - 4 < l.length := by omega
    have hl : l = l.take (i - 4) ++ l[i - 4] :: l.drop (i - 4 + 1) := by
      conv => lhs; rw [← List.take_append_drop (i - 4) l]
      rw [List.drop_eq_getElem_cons hil]
    have hl2 : l.set (i - 4) c = l.take (i - 4) ++ c :: l.drop (i - 4 + 1) := List.set_eq_take_append_cons_drop .. |>.trans (by rw [if_pos hil])
    rw [hl2] at hsum
    conv at hsum => lhs; rw [hl]
    have := sum_turn _ _ _ _ hsum
    apply hc
    rw [← this]
    have : (sealed l)[i] = l[i - 4] := by
      have : (sealed l)[i]? = l[i - 4]? := by
        unfold sealed
        rw [List.getElem?_append_right (by show 4 ≤ i; omega)]; rfl
      rw [List.getElem?_eq_getElem hi, List.getElem?_eq_getElem hil] at this
      simpa using this
    exact this.symm

theorem sum_check : sum [49, 50, 51, 52, 53, 54, 55, 56, 57] = 0xCBF43926#32 := by decide +kernel

end Go.Proofs.Ytfndekonkcdboaa.CrcMath
