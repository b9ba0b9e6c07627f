/- The statement CrcSeals: any text up to 2000 bytes is sealed as the document says, and opened again; in which one byte is turned it isn't; any bytes up to 2000 are opened just if they are a sealed text. No condition. -/
import Derived.Test.YtfndekonkcdboaaCrcE
import Derived.Test.YtfndekonkcdboaaLaw
import Derived.Lib.SmallJoins
namespace Go.Proofs.Ytfndekonkcdboaa.crcSeals
open Go.ChangeShapes Go.WideShapes Go.ChangeAt Go.RowKit CrcW CrcMath
open Go.WideMaps Go.WideElems
open Go.ChangeMaps (open_string shut_string)
set_option maxRecDepth 100000
set_option linter.unusedSimpArgs false
set_option linter.unusedVariables false

def sealT (s : ByteArray) : ByteArray := ⟨(sealed s.data.toList).toArray⟩
theorem sealT_list (s : ByteArray) : (sealT s).data.toList = sealed s.data.toList := by simp [sealT]
theorem sealT_size (s : ByteArray) : (sealT s).size = 4 + s.size := by
  have := sealed_length s.data.toList
  have h : (sealT s).size = (sealed s.data.toList).length := by show (sealed s.data.toList).toArray.size = _; simp
  rw [h, this]; rfl
theorem sealT_back (s : ByteArray) : (sealT s).extract 4 (sealT s).size = s := by
  apply ByteArray.ext
  apply Array.ext'
  rw [Lib.extract_to_end, sealT_list, sealed_drop]

/-- what Open hands back -/
def opened (s : ByteArray) : Value := if 4 ≤ s.size ∧ s.data.toList = sealed (s.data.toList.drop 4) then .tuple #[.string (s.extract 4 s.size), .bool true] else .tuple #[.string ⟨#[]⟩, .bool false]
theorem open_any (B : Nat) (s : ByteArray) (hs : s.size ≤ 140737488355328) (w : World) (hB : B < w.heap.size) (hT : Tabs w B) :
    Calls Try.prog 16 #[.pointer (some ⟨B, 0, none⟩), .string s] w fun e w' => e = .returned (opened s) ∧ Below w.heap.size w w' := by
  by_cases h4 : 4 ≤ s.size
  · refine (open_long B s h4 hs w hB hT).mono fun e w' ⟨he, hb⟩ => ⟨?_, hb⟩
    rw [he]; unfold opened
    by_cases h : s.data.toList = sealed (s.data.toList.drop 4)
    · rw [if_pos h, if_pos ⟨h4, h⟩]
    · rw [if_neg h, if_neg fun hh => h hh.2]
  · refine (open_short B s (by omega) w).mono fun e w' ⟨he, hd⟩ => ⟨?_, hd.below _⟩
    rw [he]; unfold opened; rw [if_neg fun hh => h4 hh.1]
theorem opened_seal (s : ByteArray) : opened (sealT s) = .tuple #[.string s, .bool true] := by
  unfold opened
  rw [if_pos ⟨by rw [sealT_size]; omega, by rw [sealT_list, sealed_drop]⟩, sealT_back]
theorem opened_yes {s : ByteArray} (h4 : 4 ≤ s.size) (h : s.data.toList = sealed (s.data.toList.drop 4)) : opened s = .tuple #[.string (s.extract 4 s.size), .bool true] := by
  unfold opened; rw [if_pos ⟨h4, h⟩]
theorem opened_no {s : ByteArray} (h : ¬ (4 ≤ s.size ∧ s.data.toList = sealed (s.data.toList.drop 4))) : opened s = .tuple #[.string ⟨#[]⟩, .bool false] := by
  unfold opened; rw [if_neg h]

theorem u8_xor_ne (x c : UInt8) (h : c ≠ 0) : x ^^^ c ≠ x := by
  intro e
  apply h
  have : x ^^^ (x ^^^ c) = x ^^^ x := by rw [e]
  rw [← UInt8.xor_assoc, UInt8.xor_self, UInt8.zero_xor] at this
  exact this
/-- a text with one byte turned -/
def turned (X : ByteArray) (i : Nat) (c : UInt8) : List UInt8 := X.data.toList.set i c
theorem turned_no (s X : ByteArray) (hX : X.data.toList = sealed s.data.toList) (i : Nat) (hi : i < X.size) (c : UInt8) (hc : c ≠ X[i]) : opened ⟨(turned X i c).toArray⟩ = .tuple #[.string ⟨#[]⟩, .bool false] := by
  refine opened_no fun h => ?_
  have h2 := h.2
  have e : (⟨(turned X i c).toArray⟩ : ByteArray).data.toList = (sealed s.data.toList).set i c := by simp [turned, hX]
  rw [e] at h2
  have hil : i < (sealed s.data.toList).length := by rw [← hX]; exact hi
  refine sealed_turn s.data.toList i hil c ?_ h2
  intro e2
  apply hc
  rw [e2]
  have : X.data.toList[i]? = (sealed s.data.toList)[i]? := by rw [hX]
  rw [List.getElem?_eq_getElem hil, List.getElem?_eq_getElem (show i < X.data.toList.length from hi)] at this
  exact (Option.some.inj this).symm
theorem turned_cell (X : ByteArray) (i : Nat) (hi : i < X.size) (c : UInt8) (w : World) (b : Nat) (h : ∀ j (hj : j < X.size), w.cell? ⟨b, j, none⟩ = some (.int .u8 (X[j].toNat : Int))) :
    ∀ j (hj : j < (turned X i c).length), (w.setCell ⟨b, i, none⟩ (.int .u8 (c.toNat : Int))).cell? ⟨b, 0 + j, none⟩ = some (.int .u8 ((turned X i c)[j].toNat : Int)) := by
  intro j hj
  have hjX : j < X.size := by unfold turned at hj; simpa using hj
  rw [Nat.zero_add]
  by_cases e : i = j
  · subst e
    rw [World.cell?_setCell_same _ _ _ (h i hi)]
    simp [turned]
  · rw [World.cell?_setCell_other _ _ _ _ (fun h => e (congrArg Addr.off h)), h j hjX]
    simp [turned, e]
    rfl
theorem turned_length (X : ByteArray) (i : Nat) (c : UInt8) : X.size = (turned X i c).length := by unfold turned; rw [List.length_set]; rfl

theorem sealT_cut (r : ByteArray) : (sealT (r.extract 4 r.size)).data.toList = sealed (r.data.toList.drop 4) := by
  rw [sealT_list, Lib.extract_to_end]
theorem sealT_same (r : ByteArray) (h : r.data.toList = sealed (r.data.toList.drop 4)) : sealT (r.extract 4 r.size) = r := by
  apply ByteArray.ext
  apply Array.ext'
  rw [sealT_cut, ← h]
theorem sealT_other (r : ByteArray) (h : ¬ r.data.toList = sealed (r.data.toList.drop 4)) : ((sealT (r.extract 4 r.size)).toList == r.toList) = false := by
  rw [ByteArray.toList_eq, ByteArray.toList_eq, sealT_cut]
  simpa using fun e => h e.symm

set_option maxHeartbeats 4000000 in
theorem law (s : ByteArray) (ix : Int) (tb : UInt8) (r : ByteArray) (W : World) (hs : s.size ≤ 140737488351232) (hr : r.size ≤ 140737488351232) :
    Calls Try.prog 7 #[.agg #[.string s, .int .i64 ix, .int .u8 (tb.toNat : Int)], .string r] W fun e w' => e = .returned (.bool true) ∧ Below W.heap.size W w' := by
  go_enter Try.func7, Try.ntmps7
  go_wp2_with fail
  have hb0 : Below W.heap.size W (W.alloc (.cells #[.string s, .int .i64 ix, .int .u8 (tb.toNat : Int)] 36)) := (Below.refl _ _).alloc (Nat.le_refl _) _
  refine (awake_any _).mono ?_
  rintro e w1 ⟨rfl, hb1⟩
  have HB1 : Hid (Below W.heap.size W w1) := hb0.trans (hb1.mono (by simp))
  have c0 : w1.cell? ⟨W.heap.size, 0, none⟩ = some (.string s) := by rw [hb1.cell (by simp)]; exact World.cell?_alloc_new ..
  have c1 : w1.cell? ⟨W.heap.size, 1, none⟩ = some (.int .i64 ix) := by rw [hb1.cell (by simp)]; exact World.cell?_alloc_new ..
  have c2 : w1.cell? ⟨W.heap.size, 2, none⟩ = some (.int .u8 (tb.toNat : Int)) := by rw [hb1.cell (by simp)]; exact World.cell?_alloc_new ..
  clear hb0 hb1
  go_wp2_with fail
  go_quiet (fail)
  have HB2 : Hid (Below W.heap.size W (w1.drewN nq)) := below_drewN HB1.out nq
  generalize w1.drewN nq = w2 at *
  clear c0 c1 c2 HB1
  by_cases hsz : s.size ≤ 2000 ∧ r.size ≤ 2000
  rotate_left
  · by_cases hs2 : 2000 < s.size
    · go_wp2_with fail
      go_ret
      exact ⟨rfl, HB2.out⟩
    · have hr2 : 2000 < r.size := by omega
      go_wp2_with fail
      go_ret
      exact ⟨rfl, HB2.out⟩
  obtain ⟨hs2, hr2⟩ := hsz
  go_wp2_with fail
  refine (new_any _).mono ?_
  rintro e w3 ⟨B, rfl, hl⟩
  have HB3 : Hid (Below W.heap.size W w3) := HB2.out.trans (hl.below.mono HB2.out.size)
  have HT3 := Lib.hid hl.tabs
  have HL3 := Lib.hid hl.size
  clear hl
  have h1 := fun w hB hT => seal_any B s (by omega) w hB hT
  have h2 := fun w => rseal_any s (by omega) w
  have h3 := opened_seal s
  have h4 := sealT_size s
  have h5 := sealT_list s
  rw [show (⟨(sealed s.data.toList).toArray⟩ : ByteArray) = sealT s from rfl] at h1 h2
  generalize sealT s = X at *
  have H1 := Lib.hid h1; clear h1
  have H2 := Lib.hid h2; clear h2
  have H3 := Lib.hid h3; clear h3
  have hX : X.size ≤ 3000 := by omega
  have H4 := Lib.hid h4; clear h4
  have H5 := Lib.hid h5; clear h5
  go_wp2_with fail
  refine (H1.out _ HL3.out HT3.out).mono ?_
  rintro e w4 ⟨rfl, hb4⟩
  have HB4 : Hid (Below W.heap.size W w4) := HB3.out.trans (hb4.mono HB3.out.size)
  have HT4 : Hid (Tabs w4 B) := HT3.out.ext HL3.out hb4
  have HL4 : Hid (B < w4.heap.size) := Nat.lt_of_lt_of_le HL3.out hb4.size
  clear hb4 HB3 HT3 HL3 HB2
  go_wp2_with fail
  refine (open_any B X (by omega) _ HL4.out HT4.out).mono ?_
  rw [H3.out]
  rintro e w5 ⟨rfl, hb5⟩
  have HB5 : Hid (Below W.heap.size W w5) := HB4.out.trans (hb5.mono HB4.out.size)
  have HT5 : Hid (Tabs w5 B) := HT4.out.ext HL4.out hb5
  have HL5 : Hid (B < w5.heap.size) := Nat.lt_of_lt_of_le HL4.out hb5.size
  clear hb5 HB4 HT4 HL4
  go_wp2_with fail
  refine (H2.out _).mono ?_
  rintro e w6 ⟨rfl, hb6⟩
  have HB6 : Hid (Below W.heap.size W w6) := HB5.out.trans (hb6.mono HB5.out.size)
  have HT6 : Hid (Tabs w6 B) := HT5.out.ext HL5.out hb6
  have HL6 : Hid (B < w6.heap.size) := Nat.lt_of_lt_of_le HL5.out hb6.size
  clear hb6 HB5 HT5 HL5
  go_wp2_with fail
  focus
    have ha1 : 0 ≤ ix := by assumption
    have ha2 : ix < (X.size : Int) := by assumption
    have hby : ((tb.toNat : Int) != 0) = true := by assumption
    obtain ⟨i, rfl⟩ := Int.eq_ofNat_of_zero_le ha1
    have hi : i < X.size := by omega
    have hby0 : tb ≠ 0 := by intro e; subst e; simp at hby
    obtain ⟨c, w7, hrun, hb7, hz7, hcap, hcell, hfr⟩ := string_bytes (P := Try.prog) w6 9 29 5 X Try.underlying9 Try.underlying29 Try.underlying5
    have ci := hcell i hi
    have fi := hfr i hi
    have ex : bits .xor .u8 (X[i].toNat : Int) (tb.toNat : Int) = ((X[i] ^^^ tb).toNat : Int) := xor_u8 X[i].toBitVec tb.toBitVec
    have HT := Lib.hid (turned_cell X i hi (X[i] ^^^ tb) w7 w6.heap.size hcell)
    have HO := Lib.hid (turned_no s X H5.out i hi (X[i] ^^^ tb) (u8_xor_ne _ _ hby0))
    have HL := Lib.hid (turned_length X i (X[i] ^^^ tb))
    have HB7 : Hid (Below W.heap.size W (w7.setCell ⟨w6.heap.size, i, none⟩ (.int .u8 ((X[i] ^^^ tb).toNat : Int)))) := (HB6.out.trans (hb7.mono HB6.out.size)).setCell HB6.out.size _
    have HT7 : Hid (Tabs (w7.setCell ⟨w6.heap.size, i, none⟩ (.int .u8 ((X[i] ^^^ tb).toNat : Int))) B) := HT6.out.ext HL6.out (hb7.setCell (Nat.le_refl _) _)
    have HL7 : Hid (B < (w7.setCell ⟨w6.heap.size, i, none⟩ (.int .u8 ((X[i] ^^^ tb).toNat : Int))).heap.size) := by
      show B < _
      rw [World.size_setCell, hz7]; have := HL6.out; omega
    clear hcell hfr hb7 hby hby0 hcap
    generalize X[i] ^^^ tb = v at *
    have hzt : (turned X i v).length ≤ 3000 := by rw [← HL.out]; exact hX
    rw [hrun]
    go_wp2_with fail
    rw [bytes_string (P := Try.prog) _ 29 5 9 Try.underlying29 Try.underlying5 Try.underlying9 w6.heap.size 0 _ (turned X i v) HT.out _ HL.out]
    generalize w7.setCell ⟨w6.heap.size, i, none⟩ (.int .u8 (v.toNat : Int)) = w8 at *
    have hyz : (⟨(turned X i v).toArray⟩ : ByteArray).size ≤ 3000 := by show (turned X i v).toArray.size ≤ _; simpa using hzt
    generalize (⟨(turned X i v).toArray⟩ : ByteArray) = Y at *
    clear hrun ci fi ex HB6 HT6 HL6
    go_wp2_with fail
    refine (open_any B Y (by omega) _ HL7.out HT7.out).mono ?_
    rw [HO.out]
    rintro e w9 ⟨rfl, hb9⟩
    have HB6 : Hid (Below W.heap.size W w9) := HB7.out.trans (hb9.mono HB7.out.size)
    have HT6 : Hid (Tabs w9 B) := HT7.out.ext HL7.out hb9
    have HL6 : Hid (B < w9.heap.size) := Nat.lt_of_lt_of_le HL7.out hb9.size
    clear hb9 HB7 HT7 HL7
    go_wp2_with fail
    generalize w9 = w6 at *
  all_goals
    clear H1 H2 H3 H4 H5 hX
    refine (open_nil r _).mono ?_
    rintro e wa ⟨rfl, hda⟩
    have HBa : Hid (Below W.heap.size W wa) := HB6.out.trans (hda.below _)
    have HTa : Hid (Tabs wa B) := HT6.out.drawn hda
    have HLa : Hid (B < wa.heap.size) := by rw [hda.heap]; exact HL6.out
    clear hda HB6 HT6 HL6
    go_wp2_with fail
    refine (seal_nil s _).mono ?_
    rintro e wb ⟨rfl, rfl⟩
    have h7 := open_any B r (by omega) _ HLa.out HTa.out
    have h8 := fun w => rseal_any (r.extract 4 r.size) (by simp; omega) w
    rw [show (⟨(sealed (r.extract 4 r.size).data.toList).toArray⟩ : ByteArray) = sealT (r.extract 4 r.size) from rfl] at h8
    have H8 := Lib.hid h8; clear h8
    by_cases h4 : 4 ≤ r.size
    · by_cases hyes : r.data.toList = sealed (r.data.toList.drop 4)
      · rw [opened_yes h4 hyes] at h7
        have H7 := Lib.hid h7; clear h7
        have HS := Lib.hid (sealT_same r hyes)
        clear hyes
        go_wp2_with fail
        refine H7.out.mono ?_
        rintro e wc ⟨rfl, hbc⟩
        have HBc : Hid (Below W.heap.size W wc) := HBa.out.trans (hbc.mono HBa.out.size)
        clear hbc
        go_wp2_with fail
        refine (H8.out _).mono ?_
        rw [HS.out]
        rintro e wd ⟨rfl, hbd⟩
        have HBd : Hid (Below W.heap.size W wd) := HBc.out.trans (hbd.mono HBc.out.size)
        clear hbd
        go_wp2_with fail
        go_ret
        exact ⟨ret_bool (by simp), HBd.out⟩
      · rw [opened_no fun h => hyes h.2] at h7
        have H7 := Lib.hid h7; clear h7
        have hoth := sealT_other r hyes
        clear hyes
        go_wp2_with fail
        refine H7.out.mono ?_
        rintro e wc ⟨rfl, hbc⟩
        have HBc : Hid (Below W.heap.size W wc) := HBa.out.trans (hbc.mono HBa.out.size)
        clear hbc
        go_wp2_with fail
        refine (H8.out _).mono ?_
        rintro e wd ⟨rfl, hbd⟩
        have HBd : Hid (Below W.heap.size W wd) := HBc.out.trans (hbd.mono HBc.out.size)
        clear hbd
        go_wp2_with fail
        go_ret
        exact ⟨ret_bool (by simp), HBd.out⟩
    · rw [opened_no fun h => h4 h.1] at h7
      have H7 := Lib.hid h7; clear h7
      go_wp2_with fail
      refine H7.out.mono ?_
      rintro e wc ⟨rfl, hbc⟩
      have HBc : Hid (Below W.heap.size W wc) := HBa.out.trans (hbc.mono HBa.out.size)
      clear hbc
      go_wp2_with fail
      go_ret
      exact ⟨ret_bool (by simp), HBc.out⟩

theorem lifted (os : Os) (started : os.Started) (H : Type) (enc : TypeId × Value → H) :
    ReturnsInHanded {} Try.checked os 7 .any (Rows.crcSealsSpec.pre6 enc Try.prog Try.f7 Rows.crcSealsRow.domain false) (Rows.crcSealsSpec.post enc Try.prog Try.f7 false true false false) := by
  refine returnsInHanded_of_change_sized (C := Try.checked) own started (by kernel_rfl) Try.func7
    (ChangeSpec.witness6 (enc := enc) (C := Try.checked) false ⟨#[], #[.agg #[.string ⟨#[]⟩, .int .i64 0, .int .u8 0], .string ⟨#[]⟩], []⟩ 8 (by kernel_rfl) (by kernel_rfl) (by kernel_rfl) (by kernel_rfl)) ?_
  intro W base args ds gs before hval0 hW hcnd0 hsz0 hholds
  have hval : ∀ (j : Nat) t v, Try.f7.params[j]? = some t → args[j]? = some v → Value.okWide Try.prog W .any base t v := hval0
  have hsz : (DataW.weightsEach Try.prog (Try.f7.params.toList ++ Rows.crcSealsSpec.plain.varTypes Try.prog) (ds ++ gs)).all (· ≤ reachBytes) = true := hsz0
  have hW' := hW
  obtain ⟨p, q, hA0, hV, rfl, hfz, hnd⟩ := hW
  have hA : DataW.TrodAll enc Try.prog W 0 (fun _ => true) true Try.f7.params.toList args.toList ds p := hA0
  rw [Try.params7] at hA hval hsz
  obtain ⟨v0, v1, d0, d1, p0, p1, rfl, rfl, rfl, h0, h1⟩ := trodAll_two hA
  obtain ⟨rfl, rfl⟩ := trodVars_none hV
  obtain ⟨c0, c1, c2, y0, y1, y2, m, rfl, rfl, rfl, hy0, hy1, hy2⟩ := Joins.open_agg3 Try.underlying36 (by kernel_rfl) (by kernel_rfl) (hval 0 36 v0 rfl rfl) h0
  obtain ⟨x0, e0, rfl, k0⟩ := DataW.trod_string Try.underlying9 hy0
  obtain ⟨x1, e1, rfl, k1⟩ := DataW.trod_int Try.underlying3 hy1
  obtain ⟨x2, e2, rfl, k2⟩ := DataW.trod_int Try.underlying5 hy2
  obtain rfl : c0 = .string x0 := by simpa using e0
  obtain rfl : c1 = .int .i64 x1 := by simpa using e1
  obtain rfl : c2 = .int .u8 x2 := by simpa using e2
  obtain ⟨r, rfl, rfl, rfl, hr⟩ := open_string Try.underlying9 (hval 1 9 v1 rfl rfl) h1
  have hz0 : x0.size ≤ 140737488351232 := by
    have := List.all_eq_true.1 hsz _ (DataW.weights_mem_each (j := 0) (t := 36) rfl rfl x0.data.toList.length (by simp [DataW.weights, DataW.weightsEach, Try.underlying36]))
    exact of_decide_eq_true this
  have hz1 : r.size ≤ 140737488351232 := by
    have := List.all_eq_true.1 hsz _ (DataW.weights_mem_each (j := 1) (t := 9) rfl rfl r.data.toList.length (by simp [DataW.weights]))
    exact of_decide_eq_true this
  obtain ⟨c, rfl⟩ : ∃ c : UInt8, x2 = (c.toNat : Int) := by
    have hx : 0 ≤ x2 ∧ x2 ≤ 255 := by simpa [Lit.wf, IntKind.min, IntKind.max, IntKind.signed, IntKind.bits] using k2
    exact ⟨UInt8.ofNat x2.toNat, by rw [UInt8.toNat_ofNat']; omega⟩
  clear hA0 hval0
  refine (law x0 x1 c r W hz0 hz1).mono fun e W' ⟨he, hb⟩ => ?_
  subst he
  refine ⟨_, rfl, law_post hW' ?_ (tb := 4) (by kernel_rfl) Try.underlying4 rfl ⟨rfl, rfl, rfl⟩ hb⟩
  rw [Try.params7]
  intro t ht
  have : t = 36 ∨ t = 9 := by simpa using ht
  rcases this with rfl | rfl <;> exact ⟨by kernel_rfl, of_decide_eq_true (by kernel_rfl)⟩

theorem proved : Rows.CrcSealsSaid :=
  OpenClaim.holds_of_wide 7 Try.f7 rfl rfl rfl rfl rfl rfl rfl ⟨rfl, rfl, rfl, rfl, rfl⟩ rfl rfl rfl rfl rfl (by kernel_rfl) Try.func7 (by kernel_rfl)
    (of_decide_eq_true (by kernel_rfl)) (by unfold Func.isWrapper; rw [if_neg (of_decide_eq_false (by kernel_rfl))]; exact ⟨rfl, rfl⟩)
    (fun os started H enc _ => lifted os started H enc)
end Go.Proofs.Ytfndekonkcdboaa.crcSeals
