/- tag.New: slices.Compact and slices.Clone at rows of texts. -/
import Derived.Test.YtadhkeboaapfcaaGreatDoorSeqB
import Derived.Test.YtadhkeboaapfcaaGreatDoorAppend
import Derived.Lib.OwnBridge
namespace Go.Proofs.YtadhkeboaapfcaaGreatDoor.TagW
open Go.RowKit Go.Shelf Go.Maps Go.Sort OctMath NameMath

/-- slices.Compact of an own row: how long what it hands back is -/
theorem compact_any (base : Nat) (v : Value) (ss : List (List UInt8)) (hx : ss.length ≤ 1048576) (w0 w : World) (hb : Below base w0 w) (h : w.ownsRow base 9 1 v ss.length (ss.map encStr)) :
    Calls Tryz.prog 68 #[v] w fun e w' => (∃ a c, e = .returned (.slice a (Lib.compact ss).length c)) ∧ Below base w0 w' := by
  rcases h.2 with ⟨rfl, hz⟩ | ⟨gb, cap, cur, rfl, hbase, hgb, r1, r2, r3, r4⟩
  · have hss : ss = [] := List.eq_nil_of_length_eq_zero hz
    subst hss
    refine (Tryz.slices_Compact_string_empty none 0 w).mono ?_
    rintro e w' ⟨rfl, rfl⟩
    exact ⟨⟨none, 0, rfl⟩, hb⟩
  · have hH : Holds encStr w gb 0 ss.toArray := holds_of_block hgb (by simpa using r4)
    refine (Tryz.slices_Compact_string gb 0 cap ss w hH (by omega) (by omega)).mono ?_
    rintro e w' ⟨rfl, q, rfl⟩
    exact ⟨⟨_, _, rfl⟩, Lib.below_putRow hb hbase⟩

/-- slices.Clone of a slice of texts: a row of its own -/
theorem clone_any (a : Option Addr) (cap : Nat) (ts : List (List UInt8)) (hx : ts.length ≤ 1048576) (w : World) (hS : Strs w a (ts.map S)) :
    Calls Tryz.prog 69 #[.slice a ts.length cap] w fun e w' => ∃ v, e = .returned v ∧ w'.ownsRow w.heap.size 9 1 v ts.length (ts.map encStr) ∧ Below w.heap.size w w' := by
  cases a with
  | none =>
    have hts : ts = [] := by
      cases ts with
      | nil => rfl
      | cons t r => obtain ⟨b, off, h, _⟩ := hS 0 (by simp); cases h
    subst hts
    refine (Tryz.slices_Clone_string_nil 0 cap w).mono ?_
    rintro e w' ⟨rfl, rfl⟩
    exact ⟨_, rfl, ⟨rfl, .inl ⟨rfl, rfl⟩⟩, Below.refl _ _⟩
  | some p =>
    by_cases h0 : ts = []
    · subst h0
      refine (Tryz.slices_Clone_string_zero p cap w).mono ?_
      rintro e w' ⟨v, rfl, h, _, hb⟩
      exact ⟨v, rfl, h, hb⟩
    · have hp : p.spot = none := by
        obtain ⟨b, off, h, _⟩ := hS 0 (by rw [List.length_map]; exact List.length_pos_iff.2 h0)
        cases h; rfl
      obtain ⟨b, off, sp⟩ := p
      cases hp
      have hc : ∀ j, j < (ts.map S).length → w.cell? ⟨b, off + j, none⟩ = some (.string ((ts.map S).getD j ByteArray.empty)) := fun j hj => by
        obtain ⟨b', off', h, hc⟩ := hS j hj
        cases h
        rw [hc]
        rw [List.getD_eq_getElem?_getD, List.getElem?_eq_getElem hj]; rfl
      refine (Tryz.slices_Clone_string b off ts.length cap (ts.map S) w (by simp) (by omega) hc).mono ?_
      rintro e w' ⟨v, rfl, h, _, hb⟩
      refine ⟨v, rfl, ?_, hb⟩
      have e2 : ((ts.map S).take ts.length).map Value.string = ts.map encStr := by
        rw [List.take_of_length_le (by simp), List.map_map]; rfl
      rwa [e2] at h

/-- of whatever texts one may ask a filter -/
def dupL (ts : List (List UInt8)) : Bool := decide ((Lib.compact (ts.mergeSort (fun x y => decide (x ≤ y)))).length < ts.length)
/-- tag.New's answer -/
def newE (ts : List (List UInt8)) : Int := if ts.all plainL = false then 11 else if dupL ts = true then 10 else if 4 < ts.length then 6 else 0

attribute [local go_sem] Oper.semAt_some
theorem values_any (a : Option Addr) (n cap : Nat) (w : World) :
    Calls Tryz.prog 67 #[.slice a n cap] w fun e w' => e = .returned (.func (.func 90) #[] #[.pointer (some ⟨w.heap.size, 0, none⟩)]) ∧ w' = w.alloc (.cells #[.slice a n cap] 22) := by
  go_enter Tryz.func67, Tryz.ntmps67
  go_wp2_with fail
  go_ret
  exact ⟨rfl, rfl⟩
theorem own_cap {w : World} {base n : Nat} {e : TypeId} {a : Option Addr} {c : Nat} {xs : List Value} (h : w.ownsRow base e 1 (.slice a n c) n xs) : n ≤ c := by
  rcases h.2 with ⟨h1, h0⟩ | ⟨g, cap, cur, h1, hb, hg, hc1, hc2, hcs, hcur⟩
  · cases h1; exact Nat.le_refl _
  · cases h1; omega
/-- a filter in memory: of these tags -/
def FilterAt (base : Nat) (w : World) (p : Value) (ts : List (List UInt8)) : Prop :=
  ∃ B ad cp, p = .pointer (some ⟨B, 0, none⟩) ∧ base ≤ B ∧ w.cell? ⟨B, 0, none⟩ = some (.slice ad ts.length cp) ∧ Strs w ad (ts.map S) ∧ ts.length ≤ cp
set_option maxRecDepth 100000 in
set_option maxHeartbeats 1600000 in
theorem new_any (a : Option Addr) (cap : Nat) (ts : List (List UInt8)) (hx : ts.length ≤ 1048576) (hz : ∀ t ∈ ts, t.length ≤ 1099511627776) (W : World) (hS : Strs W a (ts.map S)) :
    Calls Tryz.prog 41 #[.slice a ts.length cap] W fun e w' => ∃ p, e = .returned (.tuple #[p, .int .i64 (newE ts)]) ∧ Below W.heap.size W w' ∧ (newE ts = 0 → FilterAt W.heap.size w' p ts) := by
  have HS := Lib.hid hS
  clear hS
  have HE : Hid (newE ts = if ts.all plainL = false then 11 else if dupL ts = true then 10 else if 4 < ts.length then 6 else 0) := rfl
  have HA := Lib.hid (NameW.all_any a cap ts hx hz W HS.out)
  go_enter Tryz.func41, Tryz.ntmps41
  go_wp2_with fail
  refine HA.out.mono ?_
  rintro e w1 ⟨rfl, hb⟩
  have HB := Lib.hid hb
  clear hb HA
  generalize ts.all plainL = pl at *
  cases pl with
  | false =>
    have HT : Hid (newE ts = 11) := HE.out
    go_wp2_with fail
    go_ret2
    rw [HT.out]
    exact ⟨.pointer none, rfl, HB.out, fun h => by cases h⟩
  | true =>
    have hV := fun w => values_any a ts.length cap w
    go_wp2_with fail
    refine (hV _).mono ?_
    rintro e w2 ⟨rfl, rfl⟩
    clear hV
    have HB2 : Hid (RowKit.Below W.heap.size W (w1.alloc (.cells #[.slice a ts.length cap] 22))) := HB.out.alloc HB.out.size _
    have HSO := Lib.hid (SeqW.sorted_values w1.heap.size cap a ts hx (w1.alloc (.cells #[.slice a ts.length cap] 22)) (HS.out.below HB2.out) (by simp) (by rw [World.cell?_alloc_new]; rfl))
    go_wp2_with fail
    refine HSO.out.mono ?_
    rintro e w3 ⟨v, rfl, hrow, hb⟩
    have HB3 := Lib.hid (HB2.out.trans (hb.mono HB2.out.size))
    have hlen : (ts.mergeSort (fun x y => decide (x ≤ y))).length = ts.length := List.length_mergeSort _
    have HD : Hid (dupL ts = decide ((Lib.compact (ts.mergeSort (fun x y => decide (x ≤ y)))).length < ts.length)) := rfl
    generalize ts.mergeSort (fun x y => decide (x ≤ y)) = ss at *
    have HC := Lib.hid (compact_any _ v ss (by omega) _ w3 HB3.out (by rw [hlen]; exact SeqW.own_base hrow HB2.out.size))
    generalize (Lib.compact ss).length = cn at *
    clear hrow hb HSO hlen
    go_wp2_with fail
    refine HC.out.mono ?_
    rintro e w4 ⟨⟨a4, c4, rfl⟩, hb⟩
    have HB4 := Lib.hid hb
    clear hb HC
    have hdl : decide ((cn : Int) < (ts.length : Int)) = decide (cn < ts.length) := decide_eq_decide.2 (by omega)
    by_cases hd : cn < ts.length
    · have hdt : decide (cn < ts.length) = true := decide_eq_true hd
      have HT : Hid (newE ts = 10) := by show _ = _; rw [HE.out, HD.out, decide_eq_true hd]; rfl
      clear hdl hd HE HD
      go_wp2_with fail
      go_ret2
      rw [HT.out]
      exact ⟨.pointer none, rfl, HB4.out, fun h => by cases h⟩
    · have hdt : decide (cn < ts.length) = false := decide_eq_false hd
      by_cases h4 : 4 < ts.length
      · have h4t : decide ((4 : Int) < (ts.length : Int)) = true := decide_eq_true (by omega)
        have HT : Hid (newE ts = 6) := by show _ = _; rw [HE.out, HD.out, decide_eq_false hd, if_pos h4]; rfl
        clear hdl hd HE HD h4
        go_wp2_with fail
        go_ret2
        rw [HT.out]
        exact ⟨.pointer none, rfl, HB4.out, fun h => by cases h⟩
      · have h4t : decide ((4 : Int) < (ts.length : Int)) = false := decide_eq_false (by omega)
        have HT : Hid (newE ts = 0) := by show _ = _; rw [HE.out, HD.out, decide_eq_false hd, if_neg h4]; rfl
        have HCL := Lib.hid (clone_any a cap ts hx w4 (HS.out.below HB4.out))
        clear hdl hd HE HD h4
        go_wp2_with fail
        refine HCL.out.mono ?_
        rintro e w5 ⟨v5, rfl, hrow5, hb5⟩
        have HB5 := Lib.hid (HB4.out.trans (hb5.mono HB4.out.size))
        obtain ⟨ad, cp, rfl, hr5, _⟩ := Row1.of_own hrow5
        have hcap := own_cap hrow5
        have HR5 : Hid (Strs w5 ad (ts.map S)) := Row1.to_strs (by rw [List.map_map]; exact hr5)
        have HCAP := Lib.hid hcap
        clear hb5 HCL hrow5 hr5 hcap
        have HBA := Lib.hid (HB5.out.alloc HB5.out.size (.cells #[.slice ad ts.length cp] 90))
        have HRA : Hid (Strs (w5.alloc (.cells #[.slice ad ts.length cp] 90)) ad (ts.map S)) := HR5.out.below ((Below.refl _ w5).alloc (Nat.le_refl _) _)
        go_wp2_with fail
        go_ret2
        rw [HT.out]
        exact ⟨_, rfl, HBA.out, fun _ => ⟨w5.heap.size, ad, cp, rfl, HB5.out.size, by rw [World.cell?_alloc_new]; rfl, HRA.out, HCAP.out⟩⟩
end Go.Proofs.YtadhkeboaapfcaaGreatDoor.TagW
