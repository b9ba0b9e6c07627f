/- Plain names, in plain words: what name.Plain and its kin answer. -/
import Derived.Test.YtadhkeboaapfcaaGreatDoorLow
import Derived.Shelf.GgClosure.StringsIndexFunc
import Derived.Test.YtadhkeboaapfcaaGreatDoorShelf
namespace Go.Proofs.YtadhkeboaapfcaaGreatDoor.NameMath
open Go.RowKit OctMath

def signN (n : Nat) : Bool := (decide (97 ≤ n) && decide (n ≤ 122)) || (decide (48 ≤ n) && decide (n ≤ 57)) || n == 45
def signB (c : UInt8) : Bool := signN c.toNat
def plainL (l : List UInt8) : Bool := decide (1 ≤ l.length) && decide (l.length ≤ 16) && l.all signB
def groupL (l : List UInt8) : Bool := plainL l && decide (l.length ≤ 8)
theorem signN_big (n : Nat) (h : 128 ≤ n) : signN n = false := by
  unfold signN
  rw [decide_eq_false (show ¬ n ≤ 122 by omega), decide_eq_false (show ¬ n ≤ 57 by omega), Bool.and_false, Bool.and_false]
  exact beq_eq_false_iff_ne.2 (by omega)
theorem get_S (l : List UInt8) (i : Nat) (h : i < l.length) : (S l).get! i = l[i] := by
  show (l.toArray)[i]! = _
  simp [h]
theorem decode_ascii (l : List UInt8) (i : Nat) (h : i < l.length) (hb : l[i].toNat < 128) : Utf8.decode (S l) i = (l[i].toNat, 1) := by
  unfold Utf8.decode
  simp only [Nat.add_zero, get_S l i h, if_pos hb]
theorem decode_big (l : List UInt8) (i : Nat) (h : i < l.length) (hb : ¬ l[i].toNat < 128) : 128 ≤ (Utf8.decode (S l) i).1 := by
  unfold Utf8.decode
  simp only [Nat.add_zero, get_S l i h, if_neg hb]
  have he : 128 ≤ Utf8.runeError := by decide
  (repeat' split) <;> first | exact he | (simp only []; omega) | (rename_i hc; simp only [Bool.and_eq_true, decide_eq_true_eq] at hc; have := hc.1; simp only []; omega)
theorem idx_from (l : List UInt8) : ∀ f pos : Nat, l.length ≤ pos + f → (Lib.idxFuncFrom (fun n => !signN n) true (S l) f pos = -1 ↔ (l.drop pos).all signB = true)
  | 0, pos, h => by
    rw [List.drop_of_length_le (by omega)]
    exact ⟨fun _ => rfl, fun _ => rfl⟩
  | f + 1, pos, h => by
    unfold Lib.idxFuncFrom
    rw [S_size]
    by_cases hp : pos < l.length
    · rw [if_pos hp, List.drop_eq_getElem_cons hp, List.all_cons]
      by_cases hb : l[pos].toNat < 128
      · rw [decode_ascii l pos hp hb]
        simp only []
        have hs : signB l[pos] = signN l[pos].toNat := rfl
        rw [hs]
        cases signN l[pos].toNat with
        | true =>
          rw [if_neg (by simp), Bool.true_and]
          exact idx_from l f (pos + 1) (by omega)
        | false =>
          rw [if_pos (by simp), Bool.false_and]
          exact ⟨fun h => by omega, fun h => by simp at h⟩
      · have h1 := signN_big _ (decode_big l pos hp hb)
        have h2 : signB l[pos] = false := signN_big _ (by omega)
        rw [h1, h2, if_pos (by simp), Bool.false_and]
        exact ⟨fun h => by omega, fun h => by simp at h⟩
    · rw [if_neg hp, List.drop_of_length_le (by omega)]
      exact ⟨fun _ => rfl, fun _ => rfl⟩
theorem idx_lt (l : List UInt8) : decide (Lib.idxFunc (fun n => !signN n) true (S l) < (0 : Int)) = l.all signB := by
  have h := idx_from l (S l).size 0 (by rw [S_size]; omega)
  rw [List.drop_zero] at h
  have hr := Lib.idxFunc_range (fun n => !signN n) true (S l)
  have he : Lib.idxFunc (fun n => !signN n) true (S l) = Lib.idxFuncFrom (fun n => !signN n) true (S l) (S l).size 0 := rfl
  rw [← he] at h
  cases hb : l.all signB with
  | true => rw [hb] at h; rw [h.2 rfl]; rfl
  | false =>
    rw [hb] at h
    rcases hr with h1 | h1
    · exact absurd (h.1 h1) (by simp)
    · exact decide_eq_false (by omega)
theorem plain_eq (l : List UInt8) : plainL l = (decide (l ≠ []) && decide (l.length ≤ 16) && decide (Lib.idxFunc (fun n => !signN n) true (S l) < (0 : Int))) := by
  rw [idx_lt]; unfold plainL
  congr 2
  cases l <;> simp
def retryL : List UInt8 := [37, 114, 101, 116, 114, 121, 37]
def deadL : List UInt8 := [37, 100, 101, 97, 100, 37]
/-- the group of a topic of the broker's own; []: it is none -/
def ofL (l : List UInt8) : List UInt8 :=
  if (Lib.hasPrefix l retryL && groupL (l.drop 7)) = true then l.drop 7
  else if (Lib.hasPrefix l deadL && groupL (l.drop 6)) = true then l.drop 6 else []
def topicL (l : List UInt8) : Bool := plainL l || !(ofL l).isEmpty
theorem group_ne (l : List UInt8) (h : groupL l = true) : l.isEmpty = false := by
  cases l with
  | nil => simp [groupL, plainL] at h
  | cons _ _ => rfl
end Go.Proofs.YtadhkeboaapfcaaGreatDoor.NameMath
namespace Go.Proofs.YtadhkeboaapfcaaGreatDoor.LinW
open Go.RowKit OctMath HexMath
set_option maxRecDepth 100000
set_option linter.unusedSimpArgs false
set_option linter.unusedVariables false

def dvalI (c : UInt8) : Int := match dval c with
  | some n => n
  | none => -1
theorem index_hex : ∀ n : Nat, n < 256 → Lib.indexByte [48, 49, 50, 51, 52, 53, 54, 55, 56, 57, 97, 98, 99, 100, 101, 102] (UInt8.ofNat n) = dvalI (UInt8.ofNat n) := by decide +kernel
theorem index_hexc (c : UInt8) : Lib.indexByte [48, 49, 50, 51, 52, 53, 54, 55, 56, 57, 97, 98, 99, 100, 101, 102] c = dvalI c := by
  have := index_hex c.toNat c.toNat_lt
  rwa [UInt8.ofNat_toNat] at this
theorem index_at (l : List UInt8) (n : Nat) (i : Int) (hi : i = n) (h : n < l.length) (k : IntKind) (w : World) : (Instr.index 9 (.string (S l)) (.int k i)).run Tryz.prog w = .ok (.int .u8 (l[n].toNat : Int)) w := by
  subst hi
  have hs := S_size l
  rw [run_index_string (h := Tryz.underlying9), dif_pos ⟨by omega, by omega⟩]; rfl

theorem index_hexi (c : UInt8) : Lib.indexByte ({ data := #[48, 49, 50, 51, 52, 53, 54, 55, 56, 57, 97, 98, 99, 100, 101, 102] } : ByteArray).data.toList ((c.toNat : Int).toNat.toUInt8) = dvalI c := by
  have : ((c.toNat : Int).toNat.toUInt8) = c := by
    rw [Int.toNat_natCast]; show UInt8.ofNat c.toNat = c; exact UInt8.ofNat_toNat
  rw [this]; exact index_hexc c
theorem pairs_none (a b : UInt8) (r : List UInt8) (h : dval a = none ∨ dval b = none) : pairs (a :: b :: r) = none := by
  unfold pairs
  rcases h with h | h
  · rw [h]
  · rw [h]; cases dval a <;> rfl
theorem pairs_some (a b : UInt8) (r : List UInt8) (x y : Nat) (h : dval a = some x) (h2 : dval b = some y) : pairs (a :: b :: r) = (pairs r).map fun l => UInt8.ofNat (x * 16 + y) :: l := by
  conv => lhs; unfold pairs
  rw [h, h2]
theorem pairs_short (r : List UInt8) (h : r.length ≤ 1) : pairs r = some [] := by
  match r, h with
  | [], _ => rfl
  | [_], _ => rfl
theorem row1_new (w : World) (v : Value) (e : TypeId) : Row1 (w.alloc (.cells #[v] e)) (some ⟨w.heap.size, 0, none⟩) [v] := by
  intro i hi
  have : i = 0 := by simpa using hi
  subst this
  exact ⟨_, _, rfl, by rw [World.cell?_alloc_new]; rfl⟩
theorem or_dig (x y : Nat) (hx : x < 16) (hy : y < 16) : bits .or .i64 ((x : Int) * 16) (y : Int) = ((x * 16 + y : Nat) : Int) := by
  have h1 : (BitVec.ofInt 64 ((x : Int) * 16)).toNat = x * 16 := by
    rw [show (x : Int) * 16 = ((x * 16 : Nat) : Int) by omega, BitVec.ofInt_natCast, BitVec.toNat_ofNat]; exact Nat.mod_eq_of_lt (by omega)
  have h2 : (BitVec.ofInt 64 (y : Int)).toNat = y := by
    rw [BitVec.ofInt_natCast, BitVec.toNat_ofNat]; exact Nat.mod_eq_of_lt (by omega)
  have h3 : 2 ^ 4 * x + y = 2 ^ 4 * x ||| y := Nat.two_pow_add_eq_or_of_lt (i := 4) (by omega) x
  show IntKind.i64.wrap ((BitVec.ofInt 64 ((x : Int) * 16) ||| BitVec.ofInt 64 (y : Int)).toNat : Int) = _
  rw [BitVec.toNat_or, h1, h2, show x * 16 ||| y = x * 16 + y by rw [Nat.mul_comm x 16]; exact h3.symm]
  rw [IntKind.wrap_i64]; omega

set_option maxHeartbeats 1600000 in
theorem unhex_any (l : List UInt8) (hl : l.length ≤ 1099511627776) (W : World) :
    Calls Tryz.prog 14 #[.string (S l)] W fun e w' => e = .returned (.tuple #[.string (S (unhexL l).1), .bool (unhexL l).2]) ∧ Below W.heap.size W w' := by
  obtain ⟨i0, hi0, hz0, hz1, hz2⟩ := info_parts (show (Tryz.prog.info? 5).map (fun i => (i.zero, i.size, i.bytes)) = some (some (.int .u8 0), 1, 1) by kernel_rfl)
  have hsz := S_size l
  have htl := S_toList l
  by_cases h0 : l = [46]
  · subst h0
    go_enter Tryz.func14, Tryz.ntmps14
    go_wp2_with fail
    go_ret2
    exact ⟨rfl, Below.refl _ _⟩
  have HI0 := Lib.hid hi0
  have HZ0 := Lib.hid hz0
  have HZ1 := Lib.hid hz1
  have HZ2 := Lib.hid hz2
  have hb0 : (l == [46]) = false := by simp [h0]
  have HU : Hid (unhexL l = match pairs l with
    | none => ([], false)
    | some m => if m = [] ∨ hexL m ≠ l then ([], false) else (m, true)) := by show _ = _; unfold unhexL; rw [if_neg h0]; rfl
  clear hi0 hz0 hz1 hz2 h0
  go_enter Tryz.func14, Tryz.ntmps14
  go_wp2_with fail
  clear htl hb0
  go_loopw [4, 5] (fun v i wr => ∃ (k : Nat) (m : List UInt8), m.length = k ∧ 2 * k ≤ l.length ∧ i = .int .i64 (2 * (k : Int) + 1) ∧ Hid (pairs l = (pairs (l.drop (2 * k))).map (m ++ ·)) ∧ Hid (Bytes W.heap.size v m wr) ∧ Hid (Below W.heap.size W wr)) (fun _ i _ => l.length + 1 - (intOf i).toNat)
  case atStart => exact ⟨0, [], rfl, by omega, rfl, by simp [Hid], ⟨rfl, .inl ⟨rfl, rfl⟩⟩, Below.refl _ _⟩
  case round =>
    obtain ⟨k, m, hm, hk, rfl, HP, HTX, HB⟩ := hrel
    have HM := Lib.hid hm
    clear hm
    by_cases hlt : 2 * k + 1 < l.length
    · have hi1 : 2 * k < (S l).size := by rw [hsz]; omega
      have hi2 : 2 * k + 1 < (S l).size := by rw [hsz]; exact hlt
      have hx1 := fun w => index_at l (2 * k) (2 * (k : Int)) (by omega) (by omega) .i64 w
      have hx2 := fun w => index_at l (2 * k + 1) (2 * (k : Int) + 1) (by omega) hlt .i64 w
      have hdr : l.drop (2 * k) = l[2 * k] :: l[2 * k + 1] :: l.drop (2 * (k + 1)) := by
        rw [List.drop_eq_getElem_cons (by omega), List.drop_eq_getElem_cons (by omega)]; rfl
      generalize l[2 * k] = a at *
      generalize l[2 * k + 1] = b at *
      have HDR := Lib.hid hdr
      clear hdr
      have hw1 : IntKind.i64.wrap (2 * (k : Int)) = 2 * (k : Int) := IntWalk.i64_in _ (by omega)
      go_wp2_with fail
      go_quiet ((go_at_call 36; exact Calls.quiet_of_same (Tryz.strings_IndexByte _ _ _)))
      rw [index_hexi, index_hexi]
      have HB2 : Hid (Below W.heap.size W (wr.drewN nq)) := HB.out.trans ⟨rfl, rfl, rfl, Nat.le_refl _, fun _ _ => rfl⟩
      have HTX2 : Hid (Bytes W.heap.size u4 m (wr.drewN nq)) := HTX.out
      clear hx1 hx2 hw1 HB HTX hi1 hi2
      generalize wr.drewN nq = w2 at *
      cases ha : dval a with
      | none =>
        have e : dvalI a = -1 := by unfold dvalI; rw [ha]
        have hp := HP.out
        rw [HDR.out, pairs_none a b _ (.inl ha)] at hp
        have HR : Hid (unhexL l = ([], false)) := by show _ = _; rw [HU.out, hp]; rfl
        rw [e]
        clear e hp ha
        go_wp2_with fail
        go_ret2
        rw [HR.out]
        exact ⟨rfl, HB2.out⟩
      | some x =>
        have e : dvalI a = (x : Int) := by unfold dvalI; rw [ha]
        rw [e]
        clear e
        cases hb : dval b with
        | none =>
          have e : dvalI b = -1 := by unfold dvalI; rw [hb]
          have hp := HP.out
          rw [HDR.out, pairs_none a b _ (.inr hb)] at hp
          have HR : Hid (unhexL l = ([], false)) := by show _ = _; rw [HU.out, hp]; rfl
          rw [e]
          clear e hp ha hb
          go_wp2_with fail
          go_ret2
          rw [HR.out]
          exact ⟨rfl, HB2.out⟩
        | some y =>
          have e : dvalI b = (y : Int) := by unfold dvalI; rw [hb]
          rw [e]
          clear e
          have hx16 := (dig_dval a x ha).1
          have hy16 := (dig_dval b y hb).1
          have HP2 : Hid (pairs l = (pairs (l.drop (2 * (k + 1)))).map ((m ++ [UInt8.ofNat (x * 16 + y)]) ++ ·)) := by
            show _ = _
            rw [HP.out, HDR.out, pairs_some a b _ x y ha hb]
            cases pairs (l.drop (2 * (k + 1))) <;> simp
          have hor := or_dig x y hx16 hy16
          clear ha hb HP HDR
          have hn : (UInt8.ofNat (x * 16 + y)).toNat = x * 16 + y := by rw [UInt8.toNat_ofNat']; omega
          have HN := Lib.hid hn
          clear hn
          have hml : m.length ≤ 1099511627776 := by have := HM.out; omega
          have HRW := Lib.hid (row1_new w2 (.int .u8 ((x : Int) * 16 + (y : Int))) 5)
          have HBA : Hid (Below W.heap.size W (w2.alloc (.cells #[.int .u8 ((x : Int) * 16 + (y : Int))] 5))) := HB2.out.alloc HB2.out.size _
          go_wp2_with (at_builtin; refine wpList_append_row rfl (.tmp 31) (.tmp 37) 61 rfl W.heap.size 5 i0 (.int .u8 0) 1 Tryz.underlying61 HI0.out HZ0.out HZ1.out HZ2.out rfl u4 m.length _ rfl (HTX2.out.alloc _) (some ⟨w2.heap.size, 0, none⟩) 1 1 [.int .u8 ((x : Int) * 16 + (y : Int))] rfl rfl HRW.out ?c2 ?c3 ?c4 ?c5 ?_)
          case c2 => intro u hu; simp at hu; subst hu; rfl
          case c3 => unfold maxLen; omega
          case c4 => omega
          case c5 => exact HBA.out.size
          intro v' w4 hown4 hg4
          have HB4 : Hid (Below W.heap.size W w4) := HBA.out.grown hg4 HBA.out.size (ownBlock_of_own HTX2.out)
          have HO4 : Hid (Bytes W.heap.size v' (m ++ [UInt8.ofNat (x * 16 + y)]) w4) := by
            show w4.ownsRow _ _ _ _ (m ++ [UInt8.ofNat (x * 16 + y)]).length _
            rw [List.length_append, List.map_append, List.map_cons, List.map_nil, HN.out]
            exact hown4
          have HM4 : Hid ((m ++ [UInt8.ofNat (x * 16 + y)]).length = k + 1) := by show _ = _; rw [List.length_append, HM.out]; rfl
          clear hown4 hg4 HBA HRW HB2 HTX2 hor
          go_wp2_with fail
          go_roundw
          case rel => exact ⟨k + 1, m ++ [UInt8.ofNat (x * 16 + y)], HM4.out, by omega, by congr 1, HP2, HO4, HB4⟩
          case measure => simp [intOf]; omega
    · have hs := pairs_short (l.drop (2 * k)) (by rw [List.length_drop]; omega)
      have hp := HP.out
      rw [hs, Option.map_some, List.append_nil] at hp
      have HR : Hid (unhexL l = if m = [] ∨ hexL m ≠ l then ([], false) else (m, true)) := by show _ = _; rw [HU.out, hp]
      clear hs hp HP HU
      have hml : m.length ≤ 1099511627776 := by have := HM.out; omega
      have hcv := bytes_conv HTX.out
      have HCV := Lib.hid hcv
      obtain ⟨ad, cp, rfl, hrow, _⟩ := Row1.of_own HTX.out
      clear hcv hrow
      by_cases hm0 : m.length = 0
      · have hb : ((m.length : Int) == 0) = true := beq_iff_eq.2 (by omega)
        have hm1 : m = [] := List.eq_nil_of_length_eq_zero hm0
        have HR2 : Hid (unhexL l = ([], false)) := by show _ = _; rw [HR.out, if_pos (.inl hm1)]
        clear hm1
        generalize m.length = ml at *
        clear hm0
        go_wp2_with fail
        go_ret2
        rw [HR2.out]
        exact ⟨rfl, HB.out⟩
      · have hb : ((m.length : Int) == 0) = false := beq_eq_false_iff_ne.2 (by omega)
        have hm1 : Hid (m ≠ []) := fun e => hm0 (by rw [e]; rfl)
        clear hm0
        go_wp2_with fail
        rw [HCV.out]
        go_wp2_with fail
        refine (hex_any m hml _).mono ?_
        rintro e w3 ⟨rfl, hb3⟩
        have HB3 : Hid (Below W.heap.size W w3) := HB.out.trans (hb3.mono HB.out.size)
        have HT3 : Hid (Bytes W.heap.size (.slice ad m.length cp) m w3) := own_ext HTX.out hb3
        have HCV3 := Lib.hid (bytes_conv HT3.out)
        have h1 := S_toList (hexL m)
        have h2 := S_toList l
        clear hb3 HB HTX HT3 HCV
        by_cases he : hexL m = l
        · have hq : (hexL m == l) = true := beq_iff_eq.2 he
          have HR2 : Hid (unhexL l = (m, true)) := by show _ = _; rw [HR.out, if_neg (fun h => h.elim hm1.out (fun h => h he))]
          clear he
          go_wp2_with fail
          rw [HCV3.out]
          go_wp2_with fail
          go_ret2
          rw [HR2.out]
          exact ⟨rfl, HB3.out⟩
        · have hq : (hexL m == l) = false := beq_eq_false_iff_ne.2 he
          have HR2 : Hid (unhexL l = ([], false)) := by show _ = _; rw [HR.out, if_pos (.inr he)]
          clear he
          go_wp2_with fail
          go_ret2
          rw [HR2.out]
          exact ⟨rfl, HB3.out⟩

set_option maxHeartbeats 1600000 in
theorem even_any (l : List UInt8) (hl : l.length ≤ 1099511627776) (W : World) :
    Calls Tryz.prog 16 #[.string (S l)] W fun e w' => e = .returned (.bool (evenB l)) ∧ Drawn W w' := by
  have hsz := S_size l
  have htl := S_toList l
  by_cases h0 : l = [46]
  · subst h0
    go_enter Tryz.func16, Tryz.ntmps16
    go_wp2_with fail
    go_ret
    exact ⟨rfl, Drawn.refl _⟩
  have hb0 : (l == [46]) = false := by simp [h0]
  by_cases hn : l.length = 0
  · have hb : ((l.length : Int) == 0) = true := beq_iff_eq.2 (by omega)
    have HR : Hid (evenB l = false) := by show _ = _; unfold evenB; rw [decide_eq_false h0, decide_eq_true hn]; rfl
    generalize l.length = ln at *
    clear hn h0
    go_enter Tryz.func16, Tryz.ntmps16
    go_wp2_with fail
    go_ret
    rw [HR.out]
    exact ⟨rfl, Drawn.refl _⟩
  have hbn : ((l.length : Int) == 0) = false := beq_eq_false_iff_ne.2 (by omega)
  by_cases h2 : l.length % 2 = 0
  · have hb2 : ((l.length : Int) % 2 != 0) = false := bne_eq_false_iff_eq.2 (by omega)
    have HE : Hid (evenB l = l.all digitB) := by show _ = _; unfold evenB; rw [decide_eq_false h0, decide_eq_false hn, decide_eq_true h2]; simp
    clear h0 hn h2
    go_enter Tryz.func16, Tryz.ntmps16
    go_wp2_with fail
    clear htl hb0 hbn hb2
    go_loopw [3] (fun i wr => ∃ k : Nat, k ≤ l.length ∧ i = .int .i64 k ∧ Hid ((l.take k).all digitB = true) ∧ Hid (Drawn W wr)) (fun i _ => l.length - (intOf i).toNat)
    case atStart => exact ⟨0, by omega, rfl, rfl, Drawn.refl _⟩
    case round =>
      obtain ⟨k, hk, rfl, HA, HD⟩ := hrel
      by_cases hlt : k < l.length
      · have hi : k < (S l).size := by rw [hsz]; exact hlt
        have hget : (S l)[k] = l[k] := rfl
        have hstep : (l.take (k + 1)).all digitB = ((l.take k).all digitB && digitB l[k]) := by rw [List.take_succ_eq_append_getElem hlt, List.all_append, List.all_cons, List.all_nil, Bool.and_true]; rfl
        have hmem : digitB l[k] = false → l.all digitB = false := fun h => by
          rw [List.all_eq_false]; exact ⟨l[k], List.getElem_mem hlt, by rw [h]; simp⟩
        have hdg : digitB l[k] = ((decide (48 ≤ l[k].toNat) && decide (l[k].toNat ≤ 57)) || (decide (97 ≤ l[k].toNat) && decide (l[k].toNat ≤ 102))) := rfl
        generalize l[k] = c at *
        have HST := Lib.hid hstep
        have HMEM := Lib.hid hmem
        have HDG := Lib.hid hdg
        have hc := c.toNat_lt
        clear hstep hmem hdg
        rcases (show c.toNat < 48 ∨ (48 ≤ c.toNat ∧ c.toNat ≤ 57) ∨ (57 < c.toNat ∧ c.toNat < 97) ∨ (97 ≤ c.toNat ∧ c.toNat ≤ 102) ∨ 102 < c.toNat by omega) with h | ⟨h, h'⟩ | ⟨h, h'⟩ | ⟨h, h'⟩ | h
        · have HT : Hid (evenB l = false) := by show _ = _; rw [HE.out]; apply HMEM.out; rw [HDG.out]; simp; omega
          have d48 : decide (48 ≤ (c.toNat : Int)) = false := decide_eq_false (by omega)
          clear HDG HMEM HST
          go_wp2_with fail
          go_ret
          rw [HT.out]
          exact ⟨rfl, HD.out⟩
        · have HT : Hid ((l.take (k + 1)).all digitB = true) := by show _ = _; rw [HST.out, HA.out, HDG.out]; simp; omega
          have d48 : decide (48 ≤ (c.toNat : Int)) = true := decide_eq_true (by omega)
          have d57 : decide ((c.toNat : Int) ≤ 57) = true := decide_eq_true (by omega)
          clear HDG HMEM HST
          go_wp2_with fail
          go_roundw
          case rel => exact ⟨k + 1, by omega, by go_num, HT, HD⟩
          case measure => simp [intOf]; omega
        · have HT : Hid (evenB l = false) := by show _ = _; rw [HE.out]; apply HMEM.out; rw [HDG.out]; simp; omega
          have d48 : decide (48 ≤ (c.toNat : Int)) = true := decide_eq_true (by omega)
          have d57 : decide ((c.toNat : Int) ≤ 57) = false := decide_eq_false (by omega)
          have d97 : decide (97 ≤ (c.toNat : Int)) = false := decide_eq_false (by omega)
          clear HDG HMEM HST
          go_wp2_with fail
          go_ret
          rw [HT.out]
          exact ⟨rfl, HD.out⟩
        · have HT : Hid ((l.take (k + 1)).all digitB = true) := by show _ = _; rw [HST.out, HA.out, HDG.out]; simp; omega
          have d48 : decide (48 ≤ (c.toNat : Int)) = true := decide_eq_true (by omega)
          have d57 : decide ((c.toNat : Int) ≤ 57) = false := decide_eq_false (by omega)
          have d97 : decide (97 ≤ (c.toNat : Int)) = true := decide_eq_true (by omega)
          have d102 : decide ((c.toNat : Int) ≤ 102) = true := decide_eq_true (by omega)
          clear HDG HMEM HST
          go_wp2_with fail
          go_roundw
          case rel => exact ⟨k + 1, by omega, by go_num, HT, HD⟩
          case measure => simp [intOf]; omega
        · have HT : Hid (evenB l = false) := by show _ = _; rw [HE.out]; apply HMEM.out; rw [HDG.out]; simp; omega
          have d48 : decide (48 ≤ (c.toNat : Int)) = true := decide_eq_true (by omega)
          have d57 : decide ((c.toNat : Int) ≤ 57) = false := decide_eq_false (by omega)
          have d97 : decide (97 ≤ (c.toNat : Int)) = true := decide_eq_true (by omega)
          have d102 : decide ((c.toNat : Int) ≤ 102) = false := decide_eq_false (by omega)
          clear HDG HMEM HST
          go_wp2_with fail
          go_ret
          rw [HT.out]
          exact ⟨rfl, HD.out⟩
      · have ek : k = l.length := by omega
        subst ek
        rw [List.take_length] at HA
        go_wp2_with fail
        go_ret
        rw [HE.out, HA.out]
        exact ⟨rfl, HD.out⟩
  · have hb2 : ((l.length : Int) % 2 != 0) = true := bne_iff_ne.2 (by omega)
    have HR : Hid (evenB l = false) := by show _ = _; unfold evenB; rw [decide_eq_false h0, decide_eq_false h2]; simp
    clear h0 hn h2
    go_enter Tryz.func16, Tryz.ntmps16
    go_wp2_with fail
    go_ret
    rw [HR.out]
    exact ⟨rfl, Drawn.refl _⟩
end Go.Proofs.YtadhkeboaapfcaaGreatDoor.LinW
namespace Go.Proofs.YtadhkeboaapfcaaGreatDoor.NameW
open Go.RowKit OctMath NameMath
set_option maxRecDepth 100000
set_option linter.unusedSimpArgs false
set_option linter.unusedVariables false

theorem S_toList (l : List UInt8) : (S l).toList = l := by rw [ByteArray.toList_eq, S_list]
set_option maxHeartbeats 1600000 in
theorem sign_any (n : Nat) (W : World) : Calls Tryz.prog 87 #[.int .i32 (n : Int)] W fun e w' => e = .returned (.bool (signN n)) ∧ w' = W := by
  have h1 : decide ((97 : Int) ≤ (n : Int)) = decide (97 ≤ n) := decide_eq_decide.2 (by omega)
  have h2 : decide ((n : Int) ≤ 122) = decide (n ≤ 122) := decide_eq_decide.2 (by omega)
  have h3 : decide ((48 : Int) ≤ (n : Int)) = decide (48 ≤ n) := decide_eq_decide.2 (by omega)
  have h4 : decide ((n : Int) ≤ 57) = decide (n ≤ 57) := decide_eq_decide.2 (by omega)
  have h5 : ((n : Int) == 45) = (n == 45) := by
    by_cases h : n = 45
    · subst h; rfl
    · rw [beq_eq_false_iff_ne.2 h, beq_eq_false_iff_ne.2 (by omega)]
  have HR : Hid (signN n = ((decide (97 ≤ n) && decide (n ≤ 122)) || (decide (48 ≤ n) && decide (n ≤ 57)) || n == 45)) := rfl
  generalize decide (97 ≤ n) = b1 at *
  generalize decide (n ≤ 122) = b2 at *
  generalize decide (48 ≤ n) = b3 at *
  generalize decide (n ≤ 57) = b4 at *
  generalize (n == 45) = b5 at *
  cases b1 <;> cases b2 <;> cases b3 <;> cases b4 <;> cases b5 <;>
  (go_enter Tryz.func87, Tryz.ntmps87
   go_wp2_with fail
   go_ret
   rw [HR.out]
   exact ⟨rfl, rfl⟩)

set_option maxHeartbeats 1600000 in
theorem unsign_any (n : Nat) (W : World) : Calls Tryz.prog 86 #[.int .i32 (n : Int)] W fun e w' => e = .returned (.bool (!signN n)) ∧ ∃ q, w' = W.drewN q := by
  go_enter Tryz.func86, Tryz.ntmps86
  go_wp2_with (go_at_call 87; refine (sign_any n _).mono ?_; rintro e w2 ⟨rfl, rfl⟩)
  go_ret
  exact ⟨rfl, 0, rfl⟩

set_option maxHeartbeats 1600000 in
theorem plain_any (l : List UInt8) (hl : l.length ≤ 1099511627776) (W : World) : Calls Tryz.prog 65 #[.string (S l)] W fun e w' => e = .returned (.bool (plainL l)) ∧ Below W.heap.size W w' := by
  have hC := fun w => Tryz.strings_IndexFunc 86 #[] (enters_of Tryz.func86 (by kernel_rfl) rfl) (fun n => !signN n) (S l) w (fun W' x hb => unsign_any x W')
  have hsz := S_size l
  have hE := plain_eq l
  have htl := S_toList l
  by_cases h0 : l = []
  · have hb : l.isEmpty = true := by subst h0; rfl
    have HR : Hid (plainL l = false) := by show _ = _; rw [hE, decide_eq_false (by simpa using h0)]; rfl
    clear hE h0
    go_enter Tryz.func65, Tryz.ntmps65
    go_wp2_with fail
    go_ret
    rw [HR.out]
    exact ⟨rfl, Below.refl _ _⟩
  have hb : l.isEmpty = false := by cases l with | nil => exact absurd rfl h0 | cons _ _ => rfl
  rw [decide_eq_true h0, Bool.true_and] at hE
  by_cases h1 : l.length ≤ 16
  · have HR : Hid (plainL l = decide (Lib.idxFunc (fun n => !signN n) true (S l) < (0 : Int))) := by show _ = _; rw [hE, decide_eq_true h1]; rfl
    have h16 : decide ((l.length : Int) ≤ 16) = true := decide_eq_true (by omega)
    clear hE h0
    go_enter Tryz.func65, Tryz.ntmps65
    go_wp2_with (go_at_call 85; refine (hC _).mono ?_; rintro e w2 ⟨rfl, hb2⟩)
    go_ret
    rw [HR.out]
    exact ⟨rfl, hb2⟩
  · have HR : Hid (plainL l = false) := by show _ = _; rw [hE, decide_eq_false h1]; rfl
    have h16 : decide ((l.length : Int) ≤ 16) = false := decide_eq_false (by omega)
    clear hE h0
    go_enter Tryz.func65, Tryz.ntmps65
    go_wp2_with fail
    go_ret
    rw [HR.out]
    exact ⟨rfl, Below.refl _ _⟩

set_option maxHeartbeats 1600000 in
theorem group_any (l : List UInt8) (hl : l.length ≤ 1099511627776) (W : World) : Calls Tryz.prog 45 #[.string (S l)] W fun e w' => e = .returned (.bool (groupL l)) ∧ Below W.heap.size W w' := by
  have hsz := S_size l
  have HR : Hid (groupL l = (plainL l && decide (l.length ≤ 8))) := rfl
  have h8 : decide ((l.length : Int) ≤ 8) = decide (l.length ≤ 8) := decide_eq_decide.2 (by omega)
  have hC := fun w => plain_any l hl w
  generalize plainL l = b at *
  generalize decide (l.length ≤ 8) = b2 at *
  cases b <;>
  (go_enter Tryz.func45, Tryz.ntmps45
   go_wp2_with (go_at_call 65; refine (hC _).mono ?_; rintro e w2 ⟨rfl, hb2⟩)
   go_ret
   rw [HR.out]
   exact ⟨rfl, hb2⟩)
end Go.Proofs.YtadhkeboaapfcaaGreatDoor.NameW
namespace Go.Proofs.YtadhkeboaapfcaaGreatDoor.NameW
open Go.RowKit OctMath NameMath
set_option maxRecDepth 100000
set_option linter.unusedSimpArgs false
set_option linter.unusedVariables false

theorem index_at (l : List UInt8) (n : Nat) (i : Int) (hi : i = n) (h : n < l.length) (k : IntKind) (w : World) : (Instr.index 9 (.string (S l)) (.int k i)).run Tryz.prog w = .ok (.int .u8 (l[n].toNat : Int)) w := by
  subst hi
  have hs := S_size l
  rw [run_index_string (h := Tryz.underlying9), dif_pos ⟨by omega, by omega⟩]; rfl

set_option maxHeartbeats 1600000 in
theorem rplain_any (l : List UInt8) (hl : l.length ≤ 1099511627776) (W : World) : Calls Tryz.prog 54 #[.string (S l)] W fun e w' => e = .returned (.bool (plainL l)) ∧ Drawn W w' := by
  have hsz := S_size l
  have HE : Hid (plainL l = (decide (1 ≤ l.length) && decide (l.length ≤ 16) && l.all signB)) := rfl
  go_enter Tryz.func54, Tryz.ntmps54
  go_wp2_with fail
  go_loopw [3] (fun i wr => ∃ k : Nat, k ≤ l.length ∧ i = .int .i64 (k : Int) ∧ Hid ((l.take k).all signB = true) ∧ Hid (Drawn W wr)) (fun i _ => l.length + 1 - (intOf i).toNat)
  case atStart => exact ⟨0, by omega, rfl, rfl, Drawn.refl _⟩
  case round =>
    obtain ⟨k, hk, rfl, HA, HD⟩ := hrel
    by_cases hlt : k < l.length
    · have hi1 : k < (S l).size := by rw [hsz]; exact hlt
      have hx1 := fun w => index_at l k (k : Int) rfl hlt .i64 w
      have hstep : (l.take (k + 1)).all signB = ((l.take k).all signB && signB l[k]) := by rw [List.take_succ_eq_append_getElem hlt, List.all_append, List.all_cons, List.all_nil, Bool.and_true]; rfl
      have hmem : signB l[k] = false → l.all signB = false := fun h => by rw [List.all_eq_false]; exact ⟨l[k], List.getElem_mem hlt, by rw [h]; simp⟩
      have hdg : signB l[k] = signN l[k].toNat := rfl
      generalize l[k] = c at *
      have HST := Lib.hid hstep
      have HMEM := Lib.hid hmem
      have HDG := Lib.hid hdg
      have hc := c.toNat_lt
      clear hstep hmem hdg
      rcases (show (c.toNat < 45) ∨ (c.toNat = 45) ∨ (45 < c.toNat ∧ c.toNat < 48) ∨ (48 ≤ c.toNat ∧ c.toNat ≤ 57) ∨ (57 < c.toNat ∧ c.toNat < 97) ∨ (97 ≤ c.toNat ∧ c.toNat ≤ 122) ∨ (122 < c.toNat) by omega) with h | h | h | h | h | h | h
      · have HS : Hid (signB c = false) := by show _ = _; rw [HDG.out]; unfold signN; simp; omega
        have d97 : decide (97 ≤ (c.toNat : Int)) = false := decide_eq_false (by omega)
        have d122 : decide ((c.toNat : Int) ≤ 122) = true := decide_eq_true (by omega)
        have d48 : decide (48 ≤ (c.toNat : Int)) = false := decide_eq_false (by omega)
        have d57 : decide ((c.toNat : Int) ≤ 57) = true := decide_eq_true (by omega)
        have b45 : ((c.toNat : Int) != 45) = true := bne_iff_ne.2 (by omega)
        clear HDG
        have HT : Hid (plainL l = false) := by show _ = _; rw [HE.out, HMEM.out HS.out, Bool.and_false]
        clear HMEM HST HS h
        go_wp2_with fail
        go_ret
        rw [HT.out]
        exact ⟨rfl, HD.out⟩
      · have HS : Hid (signB c = true) := by show _ = _; rw [HDG.out]; unfold signN; simp; omega
        have d97 : decide (97 ≤ (c.toNat : Int)) = false := decide_eq_false (by omega)
        have d122 : decide ((c.toNat : Int) ≤ 122) = true := decide_eq_true (by omega)
        have d48 : decide (48 ≤ (c.toNat : Int)) = false := decide_eq_false (by omega)
        have d57 : decide ((c.toNat : Int) ≤ 57) = true := decide_eq_true (by omega)
        have b45 : ((c.toNat : Int) != 45) = false := by rw [h]; rfl
        clear HDG
        have HT : Hid ((l.take (k + 1)).all signB = true) := by show _ = _; rw [HST.out, HA.out, HS.out]; rfl
        clear HMEM HST HS h
        go_wp2_with fail
        go_roundw
        case rel => exact ⟨k + 1, by omega, by go_num, HT, HD⟩
        case measure => simp [intOf]; omega
      · have HS : Hid (signB c = false) := by show _ = _; rw [HDG.out]; unfold signN; simp; omega
        have d97 : decide (97 ≤ (c.toNat : Int)) = false := decide_eq_false (by omega)
        have d122 : decide ((c.toNat : Int) ≤ 122) = true := decide_eq_true (by omega)
        have d48 : decide (48 ≤ (c.toNat : Int)) = false := decide_eq_false (by omega)
        have d57 : decide ((c.toNat : Int) ≤ 57) = true := decide_eq_true (by omega)
        have b45 : ((c.toNat : Int) != 45) = true := bne_iff_ne.2 (by omega)
        clear HDG
        have HT : Hid (plainL l = false) := by show _ = _; rw [HE.out, HMEM.out HS.out, Bool.and_false]
        clear HMEM HST HS h
        go_wp2_with fail
        go_ret
        rw [HT.out]
        exact ⟨rfl, HD.out⟩
      · have HS : Hid (signB c = true) := by show _ = _; rw [HDG.out]; unfold signN; simp; omega
        have d97 : decide (97 ≤ (c.toNat : Int)) = false := decide_eq_false (by omega)
        have d122 : decide ((c.toNat : Int) ≤ 122) = true := decide_eq_true (by omega)
        have d48 : decide (48 ≤ (c.toNat : Int)) = true := decide_eq_true (by omega)
        have d57 : decide ((c.toNat : Int) ≤ 57) = true := decide_eq_true (by omega)
        have b45 : ((c.toNat : Int) != 45) = true := bne_iff_ne.2 (by omega)
        clear HDG
        have HT : Hid ((l.take (k + 1)).all signB = true) := by show _ = _; rw [HST.out, HA.out, HS.out]; rfl
        clear HMEM HST HS h
        go_wp2_with fail
        go_roundw
        case rel => exact ⟨k + 1, by omega, by go_num, HT, HD⟩
        case measure => simp [intOf]; omega
      · have HS : Hid (signB c = false) := by show _ = _; rw [HDG.out]; unfold signN; simp; omega
        have d97 : decide (97 ≤ (c.toNat : Int)) = false := decide_eq_false (by omega)
        have d122 : decide ((c.toNat : Int) ≤ 122) = true := decide_eq_true (by omega)
        have d48 : decide (48 ≤ (c.toNat : Int)) = true := decide_eq_true (by omega)
        have d57 : decide ((c.toNat : Int) ≤ 57) = false := decide_eq_false (by omega)
        have b45 : ((c.toNat : Int) != 45) = true := bne_iff_ne.2 (by omega)
        clear HDG
        have HT : Hid (plainL l = false) := by show _ = _; rw [HE.out, HMEM.out HS.out, Bool.and_false]
        clear HMEM HST HS h
        go_wp2_with fail
        go_ret
        rw [HT.out]
        exact ⟨rfl, HD.out⟩
      · have HS : Hid (signB c = true) := by show _ = _; rw [HDG.out]; unfold signN; simp; omega
        have d97 : decide (97 ≤ (c.toNat : Int)) = true := decide_eq_true (by omega)
        have d122 : decide ((c.toNat : Int) ≤ 122) = true := decide_eq_true (by omega)
        have d48 : decide (48 ≤ (c.toNat : Int)) = true := decide_eq_true (by omega)
        have d57 : decide ((c.toNat : Int) ≤ 57) = false := decide_eq_false (by omega)
        have b45 : ((c.toNat : Int) != 45) = true := bne_iff_ne.2 (by omega)
        clear HDG
        have HT : Hid ((l.take (k + 1)).all signB = true) := by show _ = _; rw [HST.out, HA.out, HS.out]; rfl
        clear HMEM HST HS h
        go_wp2_with fail
        go_roundw
        case rel => exact ⟨k + 1, by omega, by go_num, HT, HD⟩
        case measure => simp [intOf]; omega
      · have HS : Hid (signB c = false) := by show _ = _; rw [HDG.out]; unfold signN; simp; omega
        have d97 : decide (97 ≤ (c.toNat : Int)) = true := decide_eq_true (by omega)
        have d122 : decide ((c.toNat : Int) ≤ 122) = false := decide_eq_false (by omega)
        have d48 : decide (48 ≤ (c.toNat : Int)) = true := decide_eq_true (by omega)
        have d57 : decide ((c.toNat : Int) ≤ 57) = false := decide_eq_false (by omega)
        have b45 : ((c.toNat : Int) != 45) = true := bne_iff_ne.2 (by omega)
        clear HDG
        have HT : Hid (plainL l = false) := by show _ = _; rw [HE.out, HMEM.out HS.out, Bool.and_false]
        clear HMEM HST HS h
        go_wp2_with fail
        go_ret
        rw [HT.out]
        exact ⟨rfl, HD.out⟩
    · have ek : k = l.length := by omega
      subst ek
      rw [List.take_length] at HA
      have HT : Hid (plainL l = (decide (1 ≤ l.length) && decide (l.length ≤ 16))) := by show _ = _; rw [HE.out, HA.out, Bool.and_true]
      have d1 : decide (1 ≤ (l.length : Int)) = decide (1 ≤ l.length) := decide_eq_decide.2 (by omega)
      have d16 : decide ((l.length : Int) ≤ 16) = decide (l.length ≤ 16) := decide_eq_decide.2 (by omega)
      clear HE HA
      generalize decide (1 ≤ l.length) = b1 at *
      generalize decide (l.length ≤ 16) = b2 at *
      cases b1 <;>
      (go_wp2_with fail
       go_ret
       rw [HT.out]
       exact ⟨rfl, HD.out⟩)

set_option maxHeartbeats 1600000 in
theorem rgroup_any (l : List UInt8) (hl : l.length ≤ 1099511627776) (W : World) : Calls Tryz.prog 33 #[.string (S l)] W fun e w' => e = .returned (.bool (groupL l)) ∧ Drawn W w' := by
  have hsz := S_size l
  have HR : Hid (groupL l = (plainL l && decide (l.length ≤ 8))) := rfl
  have h8 : decide ((l.length : Int) ≤ 8) = decide (l.length ≤ 8) := decide_eq_decide.2 (by omega)
  have hC := fun w => rplain_any l hl w
  generalize plainL l = b at *
  generalize decide (l.length ≤ 8) = b2 at *
  cases b <;>
  (go_enter Tryz.func33, Tryz.ntmps33
   go_wp2_with (go_at_call 54; refine (hC _).mono ?_; rintro e w2 ⟨rfl, hb2⟩)
   go_ret
   rw [HR.out]
   exact ⟨rfl, hb2⟩)
end Go.Proofs.YtadhkeboaapfcaaGreatDoor.NameW
namespace Go.Proofs.YtadhkeboaapfcaaGreatDoor.NameW
open Go.RowKit OctMath NameMath
set_option maxRecDepth 100000
set_option linter.unusedSimpArgs false
set_option linter.unusedVariables false

set_option maxHeartbeats 1600000 in
theorem has_any (l p : List UInt8) (hl : l.length ≤ 1099511627776) (hp : p.length ≤ 1099511627776) (W : World) : Calls Tryz.prog 76 #[.string (S l), .string (S p)] W fun e w' => e = .returned (.bool (Lib.hasPrefix l p)) ∧ Drawn W w' := by
  have hsz := S_size l
  have hsp := S_size p
  have htl := S_toList (l.take p.length)
  have htp := S_toList p
  by_cases hlt : p.length ≤ l.length
  · have d1 : decide ((p.length : Int) ≤ (l.length : Int)) = true := decide_eq_true (by omega)
    have hd2 : (S l).extract 0 p.length = S (l.take p.length) := S_take _ _
    have HR : Hid (Lib.hasPrefix l p = (l.take p.length == p)) := by
      show p.isPrefixOf l = _
      rw [Bool.eq_iff_iff, List.isPrefixOf_iff_prefix, List.prefix_iff_eq_take, beq_iff_eq]; exact eq_comm
    go_enter Tryz.func76, Tryz.ntmps76
    go_wp2_with fail
    go_ret
    rw [HR.out]
    exact ⟨rfl, Drawn.refl _⟩
  · have d1 : decide ((p.length : Int) ≤ (l.length : Int)) = false := decide_eq_false (by omega)
    have HR : Hid (Lib.hasPrefix l p = false) := by
      show p.isPrefixOf l = _
      rw [Bool.eq_false_iff, ne_eq, List.isPrefixOf_iff_prefix]; intro h; exact hlt h.length_le
    go_enter Tryz.func76, Tryz.ntmps76
    go_wp2_with fail
    go_ret
    rw [HR.out]
    exact ⟨rfl, Drawn.refl _⟩
set_option maxHeartbeats 1600000 in
theorem rtag_any (l : List UInt8) (hl : l.length ≤ 1099511627776) (W : World) : Calls Tryz.prog 26 #[.string (S l)] W fun e w' => e = .returned (.bool (l.isEmpty || plainL l)) ∧ Drawn W w' := by
  have htl := S_toList l
  generalize he : l.isEmpty = e
  cases e <;>
  (go_enter Tryz.func26, Tryz.ntmps26
   go_wp2_with (go_at_call 54; refine (rplain_any l hl _).mono ?_; rintro e w2 ⟨rfl, hb2⟩)
   go_ret
   first | exact ⟨rfl, hb2⟩ | exact ⟨rfl, Drawn.refl _⟩)
set_option maxHeartbeats 1600000 in
theorem tag_any (l : List UInt8) (hl : l.length ≤ 1099511627776) (W : World) : Calls Tryz.prog 43 #[.string (S l)] W fun e w' => e = .returned (.bool (l.isEmpty || plainL l)) ∧ Below W.heap.size W w' := by
  have htl := S_toList l
  generalize he : l.isEmpty = e
  cases e <;>
  (go_enter Tryz.func43, Tryz.ntmps43
   go_wp2_with (go_at_call 65; refine (plain_any l hl _).mono ?_; rintro e w2 ⟨rfl, hb2⟩)
   go_ret
   first | exact ⟨rfl, hb2⟩ | exact ⟨rfl, Below.refl _ _⟩)

set_option maxHeartbeats 1600000 in
theorem rof_any (l : List UInt8) (hl : l.length ≤ 1099511627776) (W : World) : Calls Tryz.prog 55 #[.string (S l)] W fun e w' => e = .returned (.string (S (ofL l))) ∧ Drawn W w' := by
  have hsz := S_size l
  have HR : Hid (ofL l = if (Lib.hasPrefix l retryL && groupL (l.drop 7)) = true then l.drop 7 else if (Lib.hasPrefix l deadL && groupL (l.drop 6)) = true then l.drop 6 else []) := rfl
  have hC1 := fun w => has_any l retryL hl (by decide) w
  have hC2 := fun w => has_any l deadL hl (by decide) w
  change ∀ w, Calls _ _ #[.string (S l), .string { data := #[37, 114, 101, 116, 114, 121, 37] }] w _ at hC1
  change ∀ w, Calls _ _ #[.string (S l), .string { data := #[37, 100, 101, 97, 100, 37] }] w _ at hC2
  have HC3 := Lib.hid (fun w => rgroup_any (l.drop 7) (by rw [List.length_drop]; omega) w)
  have HC4 := Lib.hid (fun w => rgroup_any (l.drop 6) (by rw [List.length_drop]; omega) w)
  have HD7 := Lib.hid (S_drop l 7)
  have HD6 := Lib.hid (S_drop l 6)
  rw [hsz] at HD7 HD6
  have HL1 : Hid (Lib.hasPrefix l retryL = true → 7 ≤ l.length) := fun h => by
    have := (List.isPrefixOf_iff_prefix.1 h).length_le
    exact this
  have HL2 : Hid (Lib.hasPrefix l deadL = true → 6 ≤ l.length) := fun h => by
    have := (List.isPrefixOf_iff_prefix.1 h).length_le
    exact this
  have HC1 := Lib.hid hC1
  have HC2 := Lib.hid hC2
  clear hC1 hC2
  generalize Lib.hasPrefix l retryL = b1 at *
  generalize Lib.hasPrefix l deadL = b2 at *
  generalize groupL (l.drop 7) = g7 at *
  generalize groupL (l.drop 6) = g6 at *
  go_enter Tryz.func55, Tryz.ntmps55
  go_wp2_with fail
  refine (HC1.out _).mono ?_
  rintro e w2 ⟨rfl, hb⟩
  have HB := Lib.hid hb
  clear hb HC1
  cases b1 with
  | true =>
    have h7 := HL1.out rfl
    have d7 := HD7.out
    go_wp2_with fail
    refine (HC3.out _).mono ?_
    rintro e w3 ⟨rfl, hb⟩
    have HB3 := Lib.hid (HB.out.trans hb)
    clear hb
    cases g7 with
    | true =>
      have HT : Hid (ofL l = l.drop 7) := HR.out
      clear HR HC2 HC3 HC4
      go_wp2_with fail
      go_ret
      rw [HT.out]
      exact ⟨rfl, HB3.out⟩
    | false =>
      have HT : Hid (ofL l = if (b2 && g6) = true then l.drop 6 else []) := HR.out
      clear HR d7 h7 HD7
      go_wp2_with fail
      refine (HC2.out _).mono ?_
      rintro e w4 ⟨rfl, hb⟩
      have HB4 := Lib.hid (HB3.out.trans hb)
      clear hb
      cases b2 with
      | true =>
        have h6 := HL2.out rfl
        have d6 := HD6.out
        go_wp2_with fail
        refine (HC4.out _).mono ?_
        rintro e w5 ⟨rfl, hb⟩
        have HB5 := Lib.hid (HB4.out.trans hb)
        clear hb
        cases g6 with
        | true =>
          go_wp2_with fail
          go_ret
          rw [HT.out]
          exact ⟨rfl, HB5.out⟩
        | false =>
          go_wp2_with fail
          go_ret
          rw [HT.out]
          exact ⟨rfl, HB5.out⟩
      | false =>
        go_wp2_with fail
        go_ret
        rw [HT.out]
        exact ⟨rfl, HB4.out⟩
  | false =>
    have HT : Hid (ofL l = if (b2 && g6) = true then l.drop 6 else []) := HR.out
    clear HR HD7
    go_wp2_with fail
    refine (HC2.out _).mono ?_
    rintro e w4 ⟨rfl, hb⟩
    have HB4 := Lib.hid (HB.out.trans hb)
    clear hb
    cases b2 with
    | true =>
      have h6 := HL2.out rfl
      have d6 := HD6.out
      go_wp2_with fail
      refine (HC4.out _).mono ?_
      rintro e w5 ⟨rfl, hb⟩
      have HB5 := Lib.hid (HB4.out.trans hb)
      clear hb
      cases g6 with
      | true =>
        go_wp2_with fail
        go_ret
        rw [HT.out]
        exact ⟨rfl, HB5.out⟩
      | false =>
        go_wp2_with fail
        go_ret
        rw [HT.out]
        exact ⟨rfl, HB5.out⟩
    | false =>
      go_wp2_with fail
      go_ret
      rw [HT.out]
      exact ⟨rfl, HB4.out⟩

set_option maxHeartbeats 1600000 in
theorem rtopic_any (l : List UInt8) (hl : l.length ≤ 1099511627776) (W : World) : Calls Tryz.prog 32 #[.string (S l)] W fun e w' => e = .returned (.bool (topicL l)) ∧ Drawn W w' := by
  have HR : Hid (topicL l = (plainL l || !(ofL l).isEmpty)) := rfl
  have HP := Lib.hid (fun w => rplain_any l hl w)
  have htl := S_toList (ofL l)
  generalize plainL l = b at *
  go_enter Tryz.func32, Tryz.ntmps32
  go_wp2_with fail
  refine (HP.out _).mono ?_
  rintro e w2 ⟨rfl, hb⟩
  have HB := Lib.hid hb
  clear hb HP
  cases b with
  | true =>
    go_wp2_with fail
    go_ret
    rw [HR.out]
    exact ⟨rfl, HB.out⟩
  | false =>
    go_wp2_with fail
    refine (rof_any l hl _).mono ?_
    rintro e w3 ⟨rfl, hb⟩
    have HB3 := Lib.hid (HB.out.trans hb)
    clear hb
    generalize he : (ofL l).isEmpty = e at *
    go_wp2_with fail
    go_ret
    rw [HR.out]
    exact ⟨rfl, HB3.out⟩
end Go.Proofs.YtadhkeboaapfcaaGreatDoor.NameW
namespace Go.Proofs.YtadhkeboaapfcaaGreatDoor.NameW
open Go.RowKit OctMath NameMath
set_option maxRecDepth 100000
set_option linter.unusedSimpArgs false
set_option linter.unusedVariables false

/-- what is left of Of's work at round k -/
def ofK (l : List UInt8) : Nat → List UInt8
  | 0 => ofL l
  | 1 => if (Lib.hasPrefix l deadL && groupL (l.drop 6)) = true then l.drop 6 else []
  | _ => []
theorem cut_of (l p : List UInt8) (W : World) : Calls Tryz.prog 92 #[.string (S l), .string (S p)] W fun e w' => e = .returned (.tuple #[.string (S (Lib.trimPrefix l p)), .bool (Lib.hasPrefix l p)]) ∧ w' = W := by
  have := Tryz.strings_CutPrefix (S l) (S p) W
  rw [S_list, S_list] at this
  exact this

set_option maxHeartbeats 1600000 in
theorem of_any (l : List UInt8) (hl : l.length ≤ 1099511627776) (W : World) : Calls Tryz.prog 72 #[.string (S l)] W fun e w' => e = .returned (.tuple #[.string (S (ofL l)), .bool (!(ofL l).isEmpty)]) ∧ Below W.heap.size W w' := by
  have hsz := S_size l
  go_enter Tryz.func72, Tryz.ntmps72
  go_wp2_with fail
  go_loopw [10] (fun i wr => ∃ k : Nat, k ≤ 2 ∧ i = .int .i64 (k : Int) ∧ Hid (ofL l = ofK l k) ∧ Hid (wr.cell? ⟨W.heap.size, 0, none⟩ = some (.string { data := #[37, 114, 101, 116, 114, 121, 37] }) ∧ wr.cell? ⟨W.heap.size, 1, none⟩ = some (.string { data := #[37, 100, 101, 97, 100, 37] })) ∧ Hid (Below W.heap.size W wr)) (fun i _ => 3 - (intOf i).toNat)
  case atStart => exact ⟨0, by omega, rfl, rfl, ⟨by rw [World.cell?_alloc_new]; rfl, by rw [World.cell?_alloc_new]; rfl⟩, (Below.refl _ _).alloc (Nat.le_refl _) _⟩
  case round =>
    obtain ⟨k, hk, rfl, HK, HC, HB⟩ := hrel
    rcases (show k = 0 ∨ k = 1 ∨ k = 2 by omega) with hk0 | hk1 | hk2
    · -- round 0
      subst hk0
      have hcell := HC.out.1
      have hC := fun w => cut_of l retryL w
      change ∀ w, Calls _ _ #[.string (S l), .string { data := #[37, 114, 101, 116, 114, 121, 37] }] w _ at hC
      have HG := Lib.hid (fun w => group_any (l.drop 7) (by rw [List.length_drop]; omega) w)
      have HX : Hid (ofL l = if (Lib.hasPrefix l retryL && groupL (l.drop 7)) = true then l.drop 7 else ofK l 1) := HK.out
      have HN := Lib.hid (group_ne (l.drop 7))
      by_cases hp : Lib.hasPrefix l retryL = true
      · have htr : Lib.trimPrefix l retryL = l.drop 7 := by unfold Lib.trimPrefix; rw [if_pos hp]; rfl
        rw [hp] at HX
        rw [htr, hp] at hC
        clear hp htr HK
        generalize groupL (l.drop 7) = g at *
        go_wp2_with (go_at_call 92; refine (hC _).mono ?_; rintro e w2 ⟨rfl, rfl⟩)
        refine (HG.out _).mono ?_
        rintro e w3 ⟨rfl, hb⟩
        have HB3 := Lib.hid (HB.out.trans (hb.mono HB.out.size))
        have HC3 : Hid (w3.cell? ⟨W.heap.size, 0, none⟩ = some (.string { data := #[37, 114, 101, 116, 114, 121, 37] }) ∧ w3.cell? ⟨W.heap.size, 1, none⟩ = some (.string { data := #[37, 100, 101, 97, 100, 37] })) := ⟨by rw [hb.cell (cell_lt HC.out.1)]; exact HC.out.1, by rw [hb.cell (cell_lt HC.out.2)]; exact HC.out.2⟩
        clear hb HG hC hcell
        cases g with
        | true =>
          have HT : Hid (ofL l = l.drop 7) := HX.out
          go_wp2_with fail
          go_ret2
          rw [HT.out, HN.out (by first | rfl | trivial)]
          exact ⟨rfl, HB3.out⟩
        | false =>
          have HT : Hid (ofL l = ofK l 1) := HX.out
          go_wp2_with fail
          go_roundw
          case rel => exact ⟨1, by omega, by go_num, HT, HC3, HB3⟩
          case measure => simp [intOf]
      · have hp' : Lib.hasPrefix l retryL = false := by simpa using hp
        have htr : Lib.trimPrefix l retryL = l := by unfold Lib.trimPrefix; rw [if_neg hp]
        rw [hp'] at HX
        rw [htr, hp'] at hC
        have HT : Hid (ofL l = ofK l 1) := HX.out
        clear hp hp' htr HK HX
        go_wp2_with (go_at_call 92; refine (hC _).mono ?_; rintro e w2 ⟨rfl, rfl⟩)
        go_roundw
        case rel => exact ⟨1, by omega, by go_num, HT, HC, HB⟩
        case measure => simp [intOf]
    · -- round 1
      subst hk1
      have hcell := HC.out.2
      have hC := fun w => cut_of l deadL w
      change ∀ w, Calls _ _ #[.string (S l), .string { data := #[37, 100, 101, 97, 100, 37] }] w _ at hC
      have HG := Lib.hid (fun w => group_any (l.drop 6) (by rw [List.length_drop]; omega) w)
      have HX : Hid (ofL l = if (Lib.hasPrefix l deadL && groupL (l.drop 6)) = true then l.drop 6 else ofK l 2) := HK.out
      have HN := Lib.hid (group_ne (l.drop 6))
      by_cases hp : Lib.hasPrefix l deadL = true
      · have htr : Lib.trimPrefix l deadL = l.drop 6 := by unfold Lib.trimPrefix; rw [if_pos hp]; rfl
        rw [hp] at HX
        rw [htr, hp] at hC
        clear hp htr HK
        generalize groupL (l.drop 6) = g at *
        go_wp2_with (go_at_call 92; refine (hC _).mono ?_; rintro e w2 ⟨rfl, rfl⟩)
        refine (HG.out _).mono ?_
        rintro e w3 ⟨rfl, hb⟩
        have HB3 := Lib.hid (HB.out.trans (hb.mono HB.out.size))
        have HC3 : Hid (w3.cell? ⟨W.heap.size, 0, none⟩ = some (.string { data := #[37, 114, 101, 116, 114, 121, 37] }) ∧ w3.cell? ⟨W.heap.size, 1, none⟩ = some (.string { data := #[37, 100, 101, 97, 100, 37] })) := ⟨by rw [hb.cell (cell_lt HC.out.1)]; exact HC.out.1, by rw [hb.cell (cell_lt HC.out.2)]; exact HC.out.2⟩
        clear hb HG hC hcell
        cases g with
        | true =>
          have HT : Hid (ofL l = l.drop 6) := HX.out
          go_wp2_with fail
          go_ret2
          rw [HT.out, HN.out (by first | rfl | trivial)]
          exact ⟨rfl, HB3.out⟩
        | false =>
          have HT : Hid (ofL l = ofK l 2) := HX.out
          go_wp2_with fail
          go_roundw
          case rel => exact ⟨2, by omega, by go_num, HT, HC3, HB3⟩
          case measure => simp [intOf]
      · have hp' : Lib.hasPrefix l deadL = false := by simpa using hp
        have htr : Lib.trimPrefix l deadL = l := by unfold Lib.trimPrefix; rw [if_neg hp]
        rw [hp'] at HX
        rw [htr, hp'] at hC
        have HT : Hid (ofL l = ofK l 2) := HX.out
        clear hp hp' htr HK HX
        go_wp2_with (go_at_call 92; refine (hC _).mono ?_; rintro e w2 ⟨rfl, rfl⟩)
        go_roundw
        case rel => exact ⟨2, by omega, by go_num, HT, HC, HB⟩
        case measure => simp [intOf]
    · subst hk2
      have HT : Hid (ofL l = []) := HK.out
      go_wp2_with fail
      go_ret2
      rw [HT.out]
      exact ⟨rfl, HB.out⟩

set_option maxHeartbeats 1600000 in
theorem topic_any (l : List UInt8) (hl : l.length ≤ 1099511627776) (W : World) : Calls Tryz.prog 44 #[.string (S l)] W fun e w' => e = .returned (.bool (topicL l)) ∧ Below W.heap.size W w' := by
  have HR : Hid (topicL l = (plainL l || !(ofL l).isEmpty)) := rfl
  have HP := Lib.hid (fun w => plain_any l hl w)
  have hO := fun w => of_any l hl w
  generalize plainL l = b at *
  generalize (ofL l).isEmpty = o at *
  go_enter Tryz.func44, Tryz.ntmps44
  go_wp2_with fail
  refine (hO _).mono ?_
  rintro e w2 ⟨rfl, hb⟩
  have HB := Lib.hid hb
  clear hb hO
  cases o with
  | false =>
    go_wp2_with fail
    go_ret
    rw [HR.out]
    cases b <;> exact ⟨rfl, HB.out⟩
  | true =>
    go_wp2_with fail
    refine (HP.out _).mono ?_
    rintro e w3 ⟨rfl, hb⟩
    have HB3 := Lib.hid (HB.out.trans (hb.mono HB.out.size))
    clear hb
    go_wp2_with fail
    go_ret
    rw [HR.out]
    cases b <;> exact ⟨rfl, HB3.out⟩
end Go.Proofs.YtadhkeboaapfcaaGreatDoor.NameW
namespace Go.Proofs.YtadhkeboaapfcaaGreatDoor.NameW
open Go.RowKit OctMath NameMath
set_option maxRecDepth 100000
set_option linter.unusedSimpArgs false
set_option linter.unusedVariables false

theorem eql_nilf (g : Nat) (w : World) : Sem.run Tryz.prog (binOp .eql 37 (.func (.func g) #[] #[]) .nilFunc) w = .ok (.bool false) w := by
  rfl
set_option maxHeartbeats 1600000 in
theorem all_any (a : Option Addr) (cap : Nat) (ts : List (List UInt8)) (hx : ts.length ≤ 1048576) (hz : ∀ t ∈ ts, t.length ≤ 1099511627776) (W : World) (h : Strs W a (ts.map S)) :
    Calls Tryz.prog 64 #[.func (.func 65) #[] #[], .slice a ts.length cap] W fun e w' => e = .returned (.bool (ts.all plainL)) ∧ Below W.heap.size W w' := by
  have eg := enters_of Tryz.func65 (by kernel_rfl) rfl
  have HS := Lib.hid h
  clear h
  go_enter Tryz.func64, Tryz.ntmps64
  go_wp2_with fail
  go_loopw [9] (fun i wr => ∃ k : Nat, k ≤ ts.length ∧ i = .int .i64 (k : Int) ∧ Hid ((ts.take k).all plainL = true) ∧ Hid (Below W.heap.size W wr)) (fun i _ => ts.length + 1 - (intOf i).toNat)
  case atStart => exact ⟨0, by omega, rfl, rfl, Below.refl _ _⟩
  case round =>
    obtain ⟨k, hk, rfl, HA, HB⟩ := hrel
    by_cases hlt : k < ts.length
    · obtain ⟨b, off, rfl, hcell⟩ := (HS.out.below HB.out) k (by rw [List.length_map]; exact hlt)
      rw [List.getElem_map] at hcell
      have hstep : (ts.take (k + 1)).all plainL = ((ts.take k).all plainL && plainL ts[k]) := by rw [List.take_succ_eq_append_getElem hlt, List.all_append, List.all_cons, List.all_nil, Bool.and_true]
      have hmem : plainL ts[k] = false → ts.all plainL = false := fun h => by rw [List.all_eq_false]; exact ⟨ts[k], List.getElem_mem hlt, by rw [h]; simp⟩
      have hP := fun w => plain_any ts[k] (hz _ (List.getElem_mem hlt)) w
      generalize ts[k] = t at *
      have HST := Lib.hid hstep
      have HMEM := Lib.hid hmem
      clear hstep hmem
      have hnf := fun w => eql_nilf 65 w
      generalize plainL t = p at *
      go_wp2_with fail
      refine (hP _).mono ?_
      rintro e w2 ⟨rfl, hb⟩
      have HB2 := Lib.hid (HB.out.trans (hb.mono HB.out.size))
      clear hb hP hcell HB
      cases p with
      | true =>
        have HT : Hid ((ts.take (k + 1)).all plainL = true) := by show _ = _; rw [HST.out, HA.out]; rfl
        clear HST HMEM HA
        go_wp2_with fail
        go_roundw
        case rel => exact ⟨k + 1, by omega, by go_num, HT, HB2⟩
        case measure => simp [intOf]; omega
      | false =>
        have HT : Hid (ts.all plainL = false) := HMEM.out rfl
        clear HST HMEM HA
        go_wp2_with fail
        go_ret
        rw [HT.out]
        exact ⟨rfl, HB2.out⟩
    · have ek : k = ts.length := by omega
      subst ek
      rw [List.take_length] at HA
      go_wp2_with fail
      go_ret
      rw [HA.out]
      exact ⟨rfl, HB.out⟩
end Go.Proofs.YtadhkeboaapfcaaGreatDoor.NameW
