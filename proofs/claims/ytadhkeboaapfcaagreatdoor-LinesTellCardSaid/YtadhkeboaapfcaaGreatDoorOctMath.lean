/- The plain law of layer 1: numbers and texts as bytes, and a reader of them, as functions of lists. Nothing of the program. -/
namespace Go.Proofs.YtadhkeboaapfcaaGreatDoor.OctMath

/-- a text of bytes -/
def S (l : List UInt8) : ByteArray := ⟨l.toArray⟩
theorem S_size (l : List UInt8) : (S l).size = l.length := by show l.toArray.size = _; simp
theorem S_list (l : List UInt8) : (S l).data.toList = l := by simp [S]
theorem S_of (s : ByteArray) : S s.data.toList = s := by cases s; simp [S]
theorem S_append (a b : List UInt8) : S a ++ S b = S (a ++ b) := by
  apply ByteArray.ext; simp [S]
theorem S_inj {a b : List UInt8} (h : S a = S b) : a = b := by rw [← S_list a, h, S_list]
theorem S_drop (l : List UInt8) (a : Nat) : (S l).extract a (S l).size = S (l.drop a) := by
  apply ByteArray.ext
  apply Array.ext'
  rw [S_size]
  simp [S, ByteArray.data_extract]
  exact List.take_of_length_le (by simp)
theorem S_take (l : List UInt8) (b : Nat) : (S l).extract 0 b = S (l.take b) := by
  apply ByteArray.ext
  apply Array.ext'
  simp [S, ByteArray.data_extract]
theorem S_mid (l : List UInt8) (a b : Nat) : (S l).extract a b = S ((l.drop a).take (b - a)) := by
  apply ByteArray.ext
  apply Array.ext'
  simp [S, ByteArray.data_extract, List.extract_eq_take_drop]

/-- a number's lowest k bytes, the highest first -/
def be : Nat → Nat → List UInt8
  | 0, _ => []
  | k + 1, x => UInt8.ofNat (x / 256 ^ k) :: be k x
theorem be_length (k x : Nat) : (be k x).length = k := by
  induction k with
  | zero => rfl
  | succ k ih => simp [be, ih]

/-- the number of bytes -/
def val (l : List UInt8) : Nat := l.foldl (fun x c => 256 * x + c.toNat) 0
theorem val_from (l : List UInt8) (x : Nat) : l.foldl (fun x c => 256 * x + c.toNat) x = x * 256 ^ l.length + val l := by
  unfold val
  induction l generalizing x with
  | nil => simp
  | cons c l ih =>
    simp only [List.foldl_cons, List.length_cons]
    rw [ih, ih (256 * 0 + c.toNat), Nat.pow_succ]
    rw [Nat.add_mul, Nat.mul_zero, Nat.zero_add, Nat.mul_comm 256 x, Nat.mul_assoc, Nat.mul_comm 256, Nat.add_assoc]
theorem val_cons (c : UInt8) (l : List UInt8) : val (c :: l) = c.toNat * 256 ^ l.length + val l := by
  show l.foldl _ (256 * 0 + c.toNat) = _
  rw [val_from]; simp
theorem val_snoc (l : List UInt8) (c : UInt8) : val (l ++ [c]) = 256 * val l + c.toNat := by
  unfold val; rw [List.foldl_append]; rfl
theorem val_lt (l : List UInt8) : val l < 256 ^ l.length := by
  induction l with
  | nil => simp [val]
  | cons c l ih =>
    rw [val_cons, List.length_cons, Nat.pow_succ]
    have h := c.toNat_lt
    have h2 : c.toNat * 256 ^ l.length ≤ 255 * 256 ^ l.length := Nat.mul_le_mul_right _ (by omega)
    omega
theorem val_be (k x : Nat) : val (be k x) = x % 256 ^ k := by
  induction k with
  | zero => simp [be, val, Nat.mod_one]
  | succ k ih =>
    simp only [be]
    rw [val_cons, ih, be_length, UInt8.toNat_ofNat', show 2 ^ 8 = 256 from rfl, Nat.pow_succ, Nat.mod_mul (x := x) (a := 256 ^ k) (b := 256), Nat.add_comm, Nat.mul_comm (256 ^ k)]
theorem be_mod (k x : Nat) : ∀ m, k ≤ m → be k (x % 256 ^ m) = be k x := by
  induction k with
  | zero => intro m _; rfl
  | succ k ih =>
    intro m hm
    simp only [be]
    rw [ih m (by omega)]
    congr 1
    apply UInt8.toNat_inj.1
    rw [UInt8.toNat_ofNat', UInt8.toNat_ofNat']
    obtain ⟨d, rfl⟩ : ∃ d, m = k + (d + 1) := ⟨m - k - 1, by omega⟩
    rw [Nat.pow_add, Nat.mod_mul_right_div_self, Nat.pow_succ, Nat.mul_comm (256 ^ d), Nat.mod_mul_right_mod]
theorem be_val (l : List UInt8) : be l.length (val l) = l := by
  induction l with
  | nil => rfl
  | cons c l ih =>
    simp only [List.length_cons, be]
    have hl := val_lt l
    have hd : val (c :: l) / 256 ^ l.length = c.toNat := by
      rw [val_cons, Nat.add_comm, Nat.add_mul_div_right _ _ (Nat.pow_pos (by omega)), Nat.div_eq_of_lt hl]; simp
    rw [hd, UInt8.ofNat_toNat]
    congr 1
    have hm := be_mod l.length (val (c :: l)) l.length (Nat.le_refl _)
    rw [← hm, val_cons, Nat.add_comm, Nat.add_mul_mod_self_right, Nat.mod_eq_of_lt hl, ih]

/-- a reader: what is left, and its first error's number -/
structure RS where
  s : List UInt8
  e : Nat

def takeR (n : Int) (r : RS) : List UInt8 × RS :=
  if r.e ≠ 0 then ([], r) else if n < 0 then ([], ⟨r.s, 1⟩) else if (r.s.length : Int) < n then ([], ⟨r.s, 3⟩) else (r.s.take n.toNat, ⟨r.s.drop n.toNat, 0⟩)
def numR (n : Int) (r : RS) : Nat × RS :=
  if r.e ≠ 0 then (0, r) else if n < 1 ∨ 7 < n then (0, ⟨r.s, 1⟩) else (val (takeR n r).1, (takeR n r).2)
/-- an error is noted: too long -/
def longR (b : Bool) (r : RS) : RS := if r.e = 0 ∧ b = true then ⟨r.s, 6⟩ else r
def textR (most : Int) (r : RS) : List UInt8 × RS :=
  if r.e ≠ 0 then ([], r) else
  let x := numR 2 r
  let y := takeR (x.1 : Int) (longR (decide (most < (x.1 : Int))) x.2)
  if y.2.e ≠ 0 then (y.1, ⟨r.s, y.2.e⟩) else y
def textsR (most : Int) : Nat → RS → List (List UInt8) × RS
  | 0, r => ([], r)
  | n + 1, r => ((textR most r).1 :: (textsR most n (textR most r).2).1, (textsR most n (textR most r).2).2)
def listR (many most : Int) (r : RS) : List (List UInt8) × RS :=
  if r.e ≠ 0 then ([], r) else
  let x := numR 1 r
  let y := textsR most x.1 (longR (decide (many < (x.1 : Int))) x.2)
  if y.2.e ≠ 0 then ([], ⟨r.s, y.2.e⟩) else y

def endR (r : RS) : Nat := if r.e ≠ 0 then r.e else if r.s.length = 0 then 0 else 4

theorem takeR_err {n : Int} {r : RS} (h : (takeR n r).2.e ≠ 0) : (takeR n r).1 = [] := by
  unfold takeR at h ⊢
  split
  · rfl
  · split
    · rfl
    · split
      · rfl
      · rename_i h1 h2 h3; rw [if_neg h1, if_neg h2, if_neg h3] at h; simp at h

end Go.Proofs.YtadhkeboaapfcaaGreatDoor.OctMath
