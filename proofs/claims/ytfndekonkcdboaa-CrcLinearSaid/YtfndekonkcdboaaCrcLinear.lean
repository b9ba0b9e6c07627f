/- The statement CrcLinear: turned by the same bytes, two texts of one length have sums that are turned alike, up to 500 bytes. No condition. -/
import Derived.Test.YtfndekonkcdboaaCrcE
import Derived.Test.YtfndekonkcdboaaLaw
namespace Go.Proofs.Ytfndekonkcdboaa.crcLinear
open Go.ChangeShapes Go.WideShapes Go.ChangeAt Go.RowKit CrcW CrcMath
open Go.WideMaps Go.WideElems
open Go.ChangeMaps (open_string shut_string)
set_option maxRecDepth 100000
set_option linter.unusedSimpArgs false
set_option linter.unusedVariables false

/-- the first k bytes of x turned by those of c -/
def turn (x c : List UInt8) (k : Nat) : List UInt8 := (List.zipWith (· ^^^ ·) x c).take k ++ x.drop k
theorem turn_zero (x c : List UInt8) : turn x c 0 = x := by simp [turn]
theorem turn_length (x c : List UInt8) (h : x.length ≤ c.length) (k : Nat) (hk : k ≤ x.length) : (turn x c k).length = x.length := by
  simp [turn]; omega
theorem turn_at (x c : List UInt8) (k : Nat) (hk : k < x.length) (hc : x.length ≤ c.length) : (turn x c k)[k]? = some x[k] := by
  unfold turn
  rw [List.getElem?_append_right (by simp; omega)]
  simp only [List.length_take, List.length_zipWith, List.getElem?_drop]
  rw [show k + (k - min k (min x.length c.length)) = k by omega, List.getElem?_eq_getElem hk]
theorem turn_next (x c : List UInt8) (k : Nat) (hk : k < x.length) (hc : x.length ≤ c.length) : turn x c (k + 1) = (turn x c k).set k (x[k] ^^^ c[k]) := by
  unfold turn
  have hz : k < (List.zipWith (· ^^^ ·) x c).length := by simp; omega
  rw [List.take_succ_eq_append_getElem hz, List.drop_eq_getElem_cons hk, List.getElem_zipWith, List.set_append_right _ _ (by simp; omega)]
  simp only [List.length_take]
  rw [show k - min k (List.zipWith (· ^^^ ·) x c).length = 0 by omega]
  rw [List.append_assoc]; rfl
theorem turn_all (x c : List UInt8) (hc : x.length ≤ c.length) : turn x c x.length = List.zipWith (· ^^^ ·) x (c.take x.length) := by
  unfold turn
  rw [List.drop_length, List.append_nil, List.take_zipWith, List.take_length]

theorem min4 (x y z : Nat) (w : World) : (Builtin.min_ #[3, 3, 3, 3] 3 #[.int .i64 (x : Int), .int .i64 (y : Int), .int .i64 (z : Int), .int .i64 500]).run Try.prog w = .ok (.int .i64 ((min (min (min x y) z) 500 : Nat) : Int)) w := by
  simp [Builtin.min_, Builtin.min2]
  congr 1
  repeat' split
  all_goals omega

/-- a row of bytes in memory of the call's own -/
structure Row (g : Nat) (l : List UInt8) (w : World) : Prop where
  lt : g < w.heap.size
  cell : ∀ j (h : j < l.length), w.cell? ⟨g, j, none⟩ = some (.int .u8 (l[j].toNat : Int))
  free : ∀ j, j < l.length → w.frozen? ⟨g, j, none⟩ = false
theorem Row.below {g : Nat} {l : List UInt8} {w w' : World} (h : Row g l w) (hb : Below w.heap.size w w') : Row g l w' :=
  ⟨Nat.lt_of_lt_of_le h.lt hb.size, fun j hj => by rw [hb.cell h.lt]; exact h.cell j hj, fun j hj => by rw [hb.frozen h.lt]; exact h.free j hj⟩
theorem Row.drew {g : Nat} {l : List UInt8} {w : World} (h : Row g l w) : Row g l w.drew := ⟨h.lt, h.cell, h.free⟩
theorem Row.set {g : Nat} {l : List UInt8} {w : World} (h : Row g l w) (k : Nat) (hk : k < l.length) (v : UInt8) : Row g (l.set k v) (w.setCell ⟨g, k, none⟩ (.int .u8 (v.toNat : Int))) := by
  refine ⟨by simpa using h.lt, fun j hj => ?_, fun j hj => ?_⟩
  · have hj' : j < l.length := by simpa using hj
    by_cases e : k = j
    · subst e
      rw [World.cell?_setCell_same _ _ _ (h.cell k hk)]; simp
    · rw [World.cell?_setCell_other _ _ _ _ (fun h => e (congrArg Addr.off h)), h.cell j hj']
      simp [e]
  · rw [World.frozen?_setCell]; exact h.free j (by simpa using hj)
theorem Row.other {g g' : Nat} {l : List UInt8} {w : World} (h : Row g l w) (hne : g' ≠ g) (k : Nat) (v : Value) : Row g l (w.setCell ⟨g', k, none⟩ v) :=
  ⟨by simpa using h.lt, fun j hj => by rw [World.cell?_setCell_other _ _ _ _ (fun h => hne (congrArg Addr.block h))]; exact h.cell j hj, fun j hj => by rw [World.frozen?_setCell]; exact h.free j hj⟩
theorem row_new (w : World) (s : ByteArray) : Row w.heap.size s.data.toList (Lib.bytesWorld w 5 s) ∧ Below w.heap.size w (Lib.bytesWorld w 5 s) := by
  obtain ⟨c, w', hrun, hb, hz, _, hcell, hfr⟩ := string_bytes (P := Try.prog) w 9 29 5 s Try.underlying9 Try.underlying29 Try.underlying5
  rw [Lib.run_convert_string_bytes w 9 29 5 s Try.underlying9 Try.underlying29 Try.underlying5] at hrun
  have e := (Result.ok.inj hrun).2
  rw [e]
  exact ⟨⟨by omega, fun j hj => hcell j hj, fun j hj => hfr j hj⟩, hb⟩

/-- a slice of one text in new memory -/
def OneText (x : ByteArray) (v : Value) (w : World) : Prop := ∃ b, v = .slice (some ⟨b, 0, none⟩) 1 1 ∧ w.cell? ⟨b, 0, none⟩ = some (.string x)
theorem OneText.ext {x : ByteArray} {v : Value} {w w' : World} (h : OneText x v w) (he : Ext w w') : OneText x v w' := by
  obtain ⟨b, rfl, hc⟩ := h
  exact ⟨b, rfl, by rw [Below.cell he (cell_lt hc)]; exact hc⟩

theorem sum_text (x : ByteArray) (hx : x.size ≤ 500) (w : World) (b : Nat) (hc : w.cell? ⟨b, 0, none⟩ = some (.string x)) :
    Calls Try.prog 11 #[.slice (some ⟨b, 0, none⟩) 1 1] w fun e w' => e = .returned (.int .i64 ((sum x.data.toList).toNat : Int)) ∧ Below w.heap.size w w' := by
  have := sum_any (some ⟨b, 0, none⟩) 1 [x] (by simp [maxLen]) (by simp [maxLen]; omega) w (fun i hi => by
    have : i = 0 := by simpa using hi
    subst this; exact ⟨b, 0, rfl, hc⟩)
  rw [show flat [x] = x.data.toList by unfold flat; simp] at this
  exact this
theorem linear (a b c : List UInt8) (ha : a.length ≤ c.length) (hl : a.length = b.length) : bits .xor .i64 ((sum (turn a c a.length)).toNat : Int) ((sum (turn b c a.length)).toNat : Int) = bits .xor .i64 ((sum a).toNat : Int) ((sum b).toNat : Int) := by
  rw [xor_i64, xor_i64]
  have h2 := turn_all b c (by omega)
  rw [turn_all a c ha, hl, h2, ← sum_linear a b (c.take b.length) (by simp; omega) (by simp; omega)]

set_option maxHeartbeats 4000000 in
theorem law (a b c : ByteArray) (W : World) (ha : a.size ≤ 140737488351232) (hb : b.size ≤ 140737488351232) (hc : c.size ≤ 140737488351232) :
    Calls Try.prog 4 #[.string a, .string b, .string c] W fun e w' => e = .returned (.bool true) ∧ Below W.heap.size W w' := by
  go_enter Try.func4, Try.ntmps4
  go_wp2_with fail
  refine (awake_any _).mono ?_
  rintro e w1 ⟨rfl, hb1⟩
  have HB1 := Lib.hid hb1; clear hb1
  have hmin := fun w => min4 a.size b.size c.size w
  obtain ⟨n, hn⟩ : ∃ n, n = min (min (min a.size b.size) c.size) 500 := ⟨_, rfl⟩
  rw [← hn] at hmin
  have hna : n ≤ a.size := by omega
  have hnb : n ≤ b.size := by omega
  have hnc : n ≤ c.size := by omega
  have hn5 : n ≤ 500 := by omega
  clear hn
  have hnai : (n : Int) ≤ (a.size : Int) := by omega
  have hnbi : (n : Int) ≤ (b.size : Int) := by omega
  go_wp2_with fail
  clear hmin
  have hconv := fun w s => Lib.run_convert_string_bytes (P := Try.prog) w 9 29 5 s Try.underlying9 Try.underlying29 Try.underlying5
  go_region
  focus
    obtain ⟨r1, b1⟩ := row_new w1.drew (a.extract 0 n)
    obtain ⟨r2, b2⟩ := row_new (Lib.bytesWorld w1.drew 5 (a.extract 0 n)) (b.extract 0 n)
    have HK : Hid (∃ g1 g2 w2, w1.drew.heap.size = g1 ∧ (Lib.bytesWorld w1.drew 5 (a.extract 0 n)).heap.size = g2 ∧ Lib.bytesWorld (Lib.bytesWorld w1.drew 5 (a.extract 0 n)) 5 (b.extract 0 n) = w2 ∧
        Row g1 (a.extract 0 n).data.toList w2 ∧ Row g2 (b.extract 0 n).data.toList w2 ∧ g1 ≠ g2 ∧ W.heap.size ≤ g1 ∧ W.heap.size ≤ g2 ∧ Below W.heap.size W w2) := by
      refine ⟨_, _, _, rfl, rfl, rfl, r1.below b2, r2, ?_, HB1.out.size, Nat.le_trans HB1.out.size b1.size, ?_⟩
      · have := r1.lt; omega
      · exact (HB1.out.drew.trans (b1.mono HB1.out.size)).trans (b2.mono (Nat.le_trans HB1.out.size b1.size))
    clear r1 b1 r2 b2
    obtain ⟨g1, g2, w2, e1, e2, e3, R1, R2, hne, hl1, hl2, HB2⟩ := HK
    replace e1 : w1.heap.size = g1 := e1
    rw [e1, e2, e3]
    clear e1 e2 e3
  rotate_left
  focus
    obtain ⟨r1, b1⟩ := row_new w1.drew (b.extract 0 n)
    obtain ⟨r2, b2⟩ := row_new (Lib.bytesWorld w1.drew 5 (b.extract 0 n)) (a.extract 0 n)
    have HK : Hid (∃ g1 g2 w2, w1.drew.heap.size = g2 ∧ (Lib.bytesWorld w1.drew 5 (b.extract 0 n)).heap.size = g1 ∧ Lib.bytesWorld (Lib.bytesWorld w1.drew 5 (b.extract 0 n)) 5 (a.extract 0 n) = w2 ∧
        Row g1 (a.extract 0 n).data.toList w2 ∧ Row g2 (b.extract 0 n).data.toList w2 ∧ g1 ≠ g2 ∧ W.heap.size ≤ g1 ∧ W.heap.size ≤ g2 ∧ Below W.heap.size W w2) := by
      refine ⟨_, _, _, rfl, rfl, rfl, r2, r1.below b2, ?_, Nat.le_trans HB1.out.size b1.size, HB1.out.size, ?_⟩
      · have := r1.lt; omega
      · exact (HB1.out.drew.trans (b1.mono HB1.out.size)).trans (b2.mono (Nat.le_trans HB1.out.size b1.size))
    clear r1 b1 r2 b2
    obtain ⟨g1, g2, w2, e1, e2, e3, R1, R2, hne, hl1, hl2, HB2⟩ := HK
    replace e1 : w1.heap.size = g2 := e1
    rw [e1, e2, e3]
    clear e1 e2 e3
  all_goals
    clear HB1 hconv
    have HR1 := Lib.hid R1
    have HR2 := Lib.hid R2
    have HBW := Lib.hid HB2
    clear R1 R2 HB2
    have hAl : (a.extract 0 n).data.toList.length = n := by
      have : (a.extract 0 n).size = n := by simp; omega
      exact this
    have hBl : (b.extract 0 n).data.toList.length = n := by
      have : (b.extract 0 n).size = n := by simp; omega
      exact this
    have hCl : c.data.toList.length = c.size := rfl
    have HCl := Lib.hid hCl; clear hCl
    have HAl := Lib.hid hAl; clear hAl
    have HBl := Lib.hid hBl; clear hBl
    go_wp2_with fail
    go_loopw [30] (fun i wr => ∃ k : Nat, k ≤ n ∧ i = .int .i64 k ∧ Hid (Row g1 (turn (a.extract 0 n).data.toList c.data.toList k) wr) ∧ Hid (Row g2 (turn (b.extract 0 n).data.toList c.data.toList k) wr) ∧ Hid (Below W.heap.size W wr)) (fun i _ => n - (intOf i).toNat)
    case atStart => exact ⟨0, by omega, rfl, by rw [turn_zero]; exact HR1.out, by rw [turn_zero]; exact HR2.out, HBW.out⟩
    case round =>
      clear HR1 HR2 HBW
      obtain ⟨k, hk, rfl, HR1, HR2, HBW⟩ := hrel
      by_cases hlt : k < n
      · have hka : k < (a.extract 0 n).data.toList.length := by rw [HAl.out]; exact hlt
        have hkb : k < (b.extract 0 n).data.toList.length := by rw [HBl.out]; exact hlt
        have hkc : k < c.data.toList.length := by rw [HCl.out]; omega
        have hac : (a.extract 0 n).data.toList.length ≤ c.data.toList.length := by rw [HAl.out, HCl.out]; omega
        have hbc : (b.extract 0 n).data.toList.length ≤ c.data.toList.length := by rw [HBl.out, HCl.out]; omega
        have hla := turn_length _ _ hac k (by omega)
        have hlb := turn_length _ _ hbc k (by omega)
        have hta := turn_at _ _ k hka hac
        have htb := turn_at _ _ k hkb hbc
        have HNA := Lib.hid (turn_next _ _ k hka hac)
        have HNB := Lib.hid (turn_next _ _ k hkb hbc)
        have hkci : (k : Int) < (c.size : Int) := by omega
        have ec : c.data.toList[k] = c[k] := by simp; rfl
        rw [ec] at HNA HNB
        clear ec hac hbc
        generalize (a.extract 0 n).data.toList[k] = x at hta HNA
        generalize (b.extract 0 n).data.toList[k] = y at htb HNB
        generalize turn (a.extract 0 n).data.toList c.data.toList k = la at hta HNA HR1 hla
        generalize turn (b.extract 0 n).data.toList c.data.toList k = lb at htb HNB HR2 hlb
        have hkla : k < la.length := by omega
        have hklb : k < lb.length := by omega
        have c1 := HR1.out.cell k hkla
        have c2 := HR2.out.cell k hklb
        have f1 := HR1.out.free k hkla
        have f2 := HR2.out.free k hklb
        rw [List.getElem?_eq_getElem hkla] at hta
        rw [List.getElem?_eq_getElem hklb] at htb
        rw [Option.some.inj hta] at c1
        have HY := Lib.hid (Option.some.inj htb)
        clear c2 f2
        clear hta htb hla hlb
        have hcb : (c[k].toNat : Int) < 256 := by have := c[k].toNat_lt; omega
        have ex1 : bits .xor .u8 (x.toNat : Int) (c[k].toNat : Int) = ((x ^^^ c[k]).toNat : Int) := xor_u8 x.toBitVec c[k].toBitVec
        have ex2 : bits .xor .u8 (y.toNat : Int) (c[k].toNat : Int) = ((y ^^^ c[k]).toNat : Int) := xor_u8 y.toBitVec c[k].toBitVec
        generalize hxv : x ^^^ c[k] = xv at ex1 HNA
        generalize hyv : y ^^^ c[k] = yv at ex2 HNB
        clear hxv hyv
        go_wp2_with fail
        go_region
        have R1 := (HR1.out.set k hkla xv).drew
        have R2 := (HR2.out.other hne k (.int .u8 (xv.toNat : Int))).drew
        have BW := (HBW.out.setCell (p := ⟨g1, k, none⟩) hl1 (.int .u8 (xv.toNat : Int))).drew
        clear c1 f1 HR1 HR2 HBW
        generalize (wr.setCell ⟨g1, k, none⟩ (.int .u8 (xv.toNat : Int))).drew = w3 at *
        have c2 := R2.cell k hklb
        have f2 := R2.free k hklb
        rw [HY.out] at c2
        have HR1 := Lib.hid R1; clear R1
        have HR2 := Lib.hid R2; clear R2
        have HBW := Lib.hid BW; clear BW
        go_wp2_with fail
        go_region
        have R1 := (HR1.out.other (Ne.symm hne) k (.int .u8 (yv.toNat : Int))).drew
        have R2 := (HR2.out.set k hklb yv).drew
        have BW := (HBW.out.setCell (p := ⟨g2, k, none⟩) hl2 (.int .u8 (yv.toNat : Int))).drew
        clear c2 f2 HR1 HR2 HBW
        generalize (w3.setCell ⟨g2, k, none⟩ (.int .u8 (yv.toNat : Int))).drew = w4 at *
        go_wp2_with fail
        go_roundw
        case rel => exact ⟨k + 1, by omega, by go_num, by rw [HNA.out]; exact R1, by rw [HNB.out]; exact R2, BW⟩
        case measure => simp [intOf]; omega
      · have ek : k = n := by omega
        subst ek
        have hac : (a.extract 0 k).data.toList.length ≤ c.data.toList.length := by rw [HAl.out, HCl.out]; omega
        have HLIN := Lib.hid (linear (a.extract 0 k).data.toList (b.extract 0 k).data.toList c.data.toList hac (by rw [HAl.out, HBl.out]))
        have hTAl := turn_length (a.extract 0 k).data.toList c.data.toList hac k (by rw [HAl.out]; omega)
        have hTBl := turn_length (b.extract 0 k).data.toList c.data.toList (by rw [HBl.out, HCl.out]; omega) k (by rw [HBl.out]; omega)
        rw [HAl.out] at HLIN hTAl
        rw [HBl.out] at hTBl
        have hA := fun w b' hc => sum_text (a.extract 0 k) (by simp; omega) w b' hc
        have hB := fun w b' hc => sum_text (b.extract 0 k) (by simp; omega) w b' hc
        have hTA := fun w b' hc => sum_text ⟨(turn (a.extract 0 k).data.toList c.data.toList k).toArray⟩ (by show (turn _ _ _).toArray.size ≤ _; simp only [List.size_toArray]; omega) w b' hc
        have hTB := fun w b' hc => sum_text ⟨(turn (b.extract 0 k).data.toList c.data.toList k).toArray⟩ (by show (turn _ _ _).toArray.size ≤ _; simp only [List.size_toArray]; omega) w b' hc
        have hcv1 : ∀ cap w, Ext wr.drew w → (convert 29 9 (.slice (some ⟨g1, 0, none⟩) k cap)).run Try.prog w = .ok (.string ⟨(turn (a.extract 0 k).data.toList c.data.toList k).toArray⟩) w := fun cap w h =>
          bytes_string (P := Try.prog) w 29 5 9 Try.underlying29 Try.underlying5 Try.underlying9 g1 0 cap _ (fun j hj => by rw [Nat.zero_add]; exact (HR1.out.drew.below h).cell j hj) k hTAl.symm
        have hcv2 : ∀ cap w, Ext wr.drew w → (convert 29 9 (.slice (some ⟨g2, 0, none⟩) k cap)).run Try.prog w = .ok (.string ⟨(turn (b.extract 0 k).data.toList c.data.toList k).toArray⟩) w := fun cap w h =>
          bytes_string (P := Try.prog) w 29 5 9 Try.underlying29 Try.underlying5 Try.underlying9 g2 0 cap _ (fun j hj => by rw [Nat.zero_add]; exact (HR2.out.drew.below h).cell j hj) k hTBl.symm
        have HBo : Hid (Below W.heap.size W wr.drew) := HBW.out.drew
        clear HR1 HR2 HBW hTAl hTBl hac
        have hta : (⟨(turn (a.extract 0 k).data.toList c.data.toList k).toArray⟩ : ByteArray).data.toList = turn (a.extract 0 k).data.toList c.data.toList k := by simp
        have htb : (⟨(turn (b.extract 0 k).data.toList c.data.toList k).toArray⟩ : ByteArray).data.toList = turn (b.extract 0 k).data.toList c.data.toList k := by simp
        rw [hta] at hTA
        rw [htb] at hTB
        clear hta htb
        generalize (⟨(turn (a.extract 0 k).data.toList c.data.toList k).toArray⟩ : ByteArray) = TA at *
        generalize (⟨(turn (b.extract 0 k).data.toList c.data.toList k).toArray⟩ : ByteArray) = TB at *
        have hlin := HLIN.out
        clear HLIN HAl HBl HCl
        generalize (sum (turn (a.extract 0 k).data.toList c.data.toList k)).toNat = nTA at *
        generalize (sum (turn (b.extract 0 k).data.toList c.data.toList k)).toNat = nTB at *
        generalize (sum (a.extract 0 k).data.toList).toNat = nA at *
        generalize (sum (b.extract 0 k).data.toList).toNat = nB at *
        have HA := Lib.hid hA; clear hA
        have HBS := Lib.hid hB; clear hB
        have HTA := Lib.hid hTA; clear hTA
        have HTB := Lib.hid hTB; clear hTB
        go_wp2_with fail
        refine Grow.wp_region_g 22 [none, none, none, some (.inr (OneText (a.extract 0 k))), some (.inl (.int .i64 (nA : Int))), none, none, none, some (.inr (OneText (b.extract 0 k))), some (.inl (.int .i64 (nB : Int))), none, none, none, some (.inr (OneText TA)), some (.inl (.int .i64 (nTA : Int))), none, none, some (.inr (OneText TB)), some (.inl (.int .i64 (nTB : Int))), none, none, none] Ext (by kernel_rfl) (by kernel_rfl) (by kernel_rfl) Ext.refl (fun _ _ _ => Ext.trans) ?_ ?_
        · intro K hK Y hY v w w' hR h
          subst hY
          simp only [List.mem_cons, reduceCtorEq, Option.some.injEq, Sum.inr.injEq, List.not_mem_nil, false_or, or_false] at hK
          rcases hK with rfl | rfl | rfl | rfl <;> exact OneText.ext h hR
        simp only [List.take_succ_cons, List.take_zero, List.drop_succ_cons, List.drop_zero]
        iterate 3 (
          refine Grow.g_det rfl ?_
          apply Exists.intro
          refine ⟨fun w hw hF => ?_, ?_⟩
          · clear hF
            go_simp
            exact ⟨rfl, Ext.refl _⟩
          simp only [Act.put, List.setIfInBounds_toArray, List.set_cons_zero, List.set_cons_succ])
        refine Grow.g_new rfl (fun w2 hw hF => ?_) (fun v3 => ?_)
        · clear hF
          go_simp
          exact ⟨⟨_, rfl, by rw [World.cell?_alloc_new]; rfl⟩, (Below.refl _ _).alloc (Nat.le_refl _) _⟩
        simp only [Act.put, List.setIfInBounds_toArray, List.set_cons_zero, List.set_cons_succ, Grow.addF]
        refine Grow.g_con rfl (fun w2 hw hF => ?_) ?_
        · obtain ⟨b', rfl, hbc⟩ := hF _ (List.Mem.head _) (by simp [Oper.looksAt, Op.operands, Call.operands])
          clear hF
          go_simp
          exact (HA.out w2 b' hbc).mono fun e w3 ⟨he, hd⟩ => ⟨_, he, rfl, hd⟩
        simp only [Act.put, List.setIfInBounds_toArray, List.set_cons_zero, List.set_cons_succ]
        iterate 3 (
          refine Grow.g_det rfl ?_
          apply Exists.intro
          refine ⟨fun w hw hF => ?_, ?_⟩
          · clear hF
            go_simp
            exact ⟨rfl, Ext.refl _⟩
          simp only [Act.put, List.setIfInBounds_toArray, List.set_cons_zero, List.set_cons_succ])
        refine Grow.g_new rfl (fun w2 hw hF => ?_) (fun v8 => ?_)
        · clear hF
          go_simp
          exact ⟨⟨_, rfl, by rw [World.cell?_alloc_new]; rfl⟩, (Below.refl _ _).alloc (Nat.le_refl _) _⟩
        simp only [Act.put, List.setIfInBounds_toArray, List.set_cons_zero, List.set_cons_succ, Grow.addF]
        refine Grow.g_con rfl (fun w2 hw hF => ?_) ?_
        · obtain ⟨b', rfl, hbc⟩ := hF _ (List.Mem.head _) (by simp [Oper.looksAt, Op.operands, Call.operands])
          clear hF
          go_simp
          exact (HBS.out w2 b' hbc).mono fun e w3 ⟨he, hd⟩ => ⟨_, he, rfl, hd⟩
        simp only [Act.put, List.setIfInBounds_toArray, List.set_cons_zero, List.set_cons_succ]
        iterate 2 (
          refine Grow.g_det rfl ?_
          apply Exists.intro
          refine ⟨fun w hw hF => ?_, ?_⟩
          · clear hF
            go_simp
            exact ⟨rfl, Ext.refl _⟩
          simp only [Act.put, List.setIfInBounds_toArray, List.set_cons_zero, List.set_cons_succ])
        refine Grow.g_det rfl ?_
        apply Exists.intro
        refine ⟨fun w hw hF => ?_, ?_⟩
        · clear hF
          go_simp
          exact ⟨rfl, Ext.refl _⟩
        simp only [Act.put, List.setIfInBounds_toArray, List.set_cons_zero, List.set_cons_succ]
        refine Grow.g_new rfl (fun w2 hw hF => ?_) (fun v13 => ?_)
        · clear hF
          go_simp
          exact ⟨⟨_, rfl, by rw [World.cell?_alloc_new]; rfl⟩, (Below.refl _ _).alloc (Nat.le_refl _) _⟩
        simp only [Act.put, List.setIfInBounds_toArray, List.set_cons_zero, List.set_cons_succ, Grow.addF]
        refine Grow.g_con rfl (fun w2 hw hF => ?_) ?_
        · obtain ⟨b', rfl, hbc⟩ := hF _ (List.Mem.head _) (by simp [Oper.looksAt, Op.operands, Call.operands])
          clear hF
          go_simp
          exact (HTA.out w2 b' hbc).mono fun e w3 ⟨he, hd⟩ => ⟨_, he, rfl, hd⟩
        simp only [Act.put, List.setIfInBounds_toArray, List.set_cons_zero, List.set_cons_succ]
        refine Grow.g_det rfl ?_
        apply Exists.intro
        refine ⟨fun w hw hF => ?_, ?_⟩
        · clear hF
          go_simp
          exact ⟨rfl, Ext.refl _⟩
        simp only [Act.put, List.setIfInBounds_toArray, List.set_cons_zero, List.set_cons_succ]
        refine Grow.g_det rfl ?_
        apply Exists.intro
        refine ⟨fun w hw hF => ?_, ?_⟩
        · clear hF
          go_simp
          exact ⟨rfl, Ext.refl _⟩
        simp only [Act.put, List.setIfInBounds_toArray, List.set_cons_zero, List.set_cons_succ]
        refine Grow.g_new rfl (fun w2 hw hF => ?_) (fun v17 => ?_)
        · clear hF
          go_simp
          exact ⟨⟨_, rfl, by rw [World.cell?_alloc_new]; rfl⟩, (Below.refl _ _).alloc (Nat.le_refl _) _⟩
        simp only [Act.put, List.setIfInBounds_toArray, List.set_cons_zero, List.set_cons_succ, Grow.addF]
        refine Grow.g_con rfl (fun w2 hw hF => ?_) ?_
        · obtain ⟨b', rfl, hbc⟩ := hF _ (List.Mem.head _) (by simp [Oper.looksAt, Op.operands, Call.operands])
          clear hF
          go_simp
          exact (HTB.out w2 b' hbc).mono fun e w3 ⟨he, hd⟩ => ⟨_, he, rfl, hd⟩
        simp only [Act.put, List.setIfInBounds_toArray, List.set_cons_zero, List.set_cons_succ]
        iterate 3 (
          refine Grow.g_det rfl ?_
          apply Exists.intro
          refine ⟨fun w hw hF => ?_, ?_⟩
          · clear hF
            go_simp
            exact ⟨rfl, Ext.refl _⟩
          simp only [Act.put, List.setIfInBounds_toArray, List.set_cons_zero, List.set_cons_succ])

        refine Grow.g_nil fun w9 hw9 hF => ?_
        clear hF
        refine wpList_nil ?_
        have HB9 : Hid (Below W.heap.size W w9) := HBo.out.trans (hw9.mono HBo.out.size)
        clear hw9
        go_wp2_with fail
        go_ret
        exact ⟨rfl, HB9.out⟩

theorem lifted (os : Os) (started : os.Started) (H : Type) (enc : TypeId × Value → H) :
    ReturnsInHanded {} Try.checked os 4 .any (Rows.crcLinearSpec.pre6 enc Try.prog Try.f4 Rows.crcLinearRow.domain false) (Rows.crcLinearSpec.post enc Try.prog Try.f4 false true false false) := by
  refine returnsInHanded_of_change_sized (C := Try.checked) own started (by kernel_rfl) Try.func4
    (ChangeSpec.witness6 (enc := enc) (C := Try.checked) false ⟨#[], #[.string ⟨#[]⟩, .string ⟨#[]⟩, .string ⟨#[]⟩], []⟩ 8 (by kernel_rfl) (by kernel_rfl) (by kernel_rfl) (by kernel_rfl)) ?_
  intro W base args ds gs before hval0 hW hcnd0 hsz0 hholds
  have hval : ∀ (j : Nat) t v, Try.f4.params[j]? = some t → args[j]? = some v → Value.okWide Try.prog W .any base t v := hval0
  have hsz : (DataW.weightsEach Try.prog (Try.f4.params.toList ++ Rows.crcLinearSpec.plain.varTypes Try.prog) (ds ++ gs)).all (· ≤ reachBytes) = true := hsz0
  have hW' := hW
  obtain ⟨p, q, hA0, hV, rfl, hfz, hnd⟩ := hW
  have hA : DataW.TrodAll enc Try.prog W 0 (fun _ => true) true Try.f4.params.toList args.toList ds p := hA0
  rw [Try.params4] at hA hval hsz
  obtain ⟨v0, v1, v2, d0, d1, d2, p0, p1, p2, rfl, rfl, rfl, h0, h1, h2⟩ := trodAll_three hA
  obtain ⟨rfl, rfl⟩ := trodVars_none hV
  obtain ⟨a, rfl, rfl, rfl, ha⟩ := open_string Try.underlying9 (hval 0 9 v0 rfl rfl) h0
  obtain ⟨b, rfl, rfl, rfl, hb⟩ := open_string Try.underlying9 (hval 1 9 v1 rfl rfl) h1
  obtain ⟨c, rfl, rfl, rfl, hc⟩ := open_string Try.underlying9 (hval 2 9 v2 rfl rfl) h2
  have z0 : a.size ≤ 140737488351232 := of_decide_eq_true (List.all_eq_true.1 hsz _ (DataW.weights_mem_each (j := 0) (t := 9) rfl rfl a.data.toList.length (by simp [DataW.weights])))
  have z1 : b.size ≤ 140737488351232 := of_decide_eq_true (List.all_eq_true.1 hsz _ (DataW.weights_mem_each (j := 1) (t := 9) rfl rfl b.data.toList.length (by simp [DataW.weights])))
  have z2 : c.size ≤ 140737488351232 := of_decide_eq_true (List.all_eq_true.1 hsz _ (DataW.weights_mem_each (j := 2) (t := 9) rfl rfl c.data.toList.length (by simp [DataW.weights])))
  clear hA0 hval0
  refine (law a b c W z0 z1 z2).mono fun e W' ⟨he, hb⟩ => ?_
  subst he
  refine ⟨_, rfl, law_post hW' ?_ (tb := 4) (by kernel_rfl) Try.underlying4 rfl ⟨rfl, rfl, rfl⟩ hb⟩
  rw [Try.params4]
  intro t ht
  have : t = 9 := by simpa using ht
  subst this
  exact ⟨by kernel_rfl, of_decide_eq_true (by kernel_rfl)⟩

theorem proved : Rows.CrcLinearSaid :=
  OpenClaim.holds_of_wide 4 Try.f4 rfl rfl rfl rfl rfl rfl rfl ⟨rfl, rfl, rfl, rfl, rfl⟩ rfl rfl rfl rfl rfl (by kernel_rfl) Try.func4 (by kernel_rfl)
    (of_decide_eq_true (by kernel_rfl)) (by unfold Func.isWrapper; rw [if_neg (of_decide_eq_false (by kernel_rfl))]; exact ⟨rfl, rfl⟩)
    (fun os started H enc _ => lifted os started H enc)
end Go.Proofs.Ytfndekonkcdboaa.crcLinear
