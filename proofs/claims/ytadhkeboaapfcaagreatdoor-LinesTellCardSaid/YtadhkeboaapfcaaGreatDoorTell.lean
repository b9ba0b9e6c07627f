/- lines.Tell: an answer's line. -/
import Derived.Test.YtadhkeboaapfcaaGreatDoorDigits
import Derived.Deep.DeepCutAuto
namespace Go.Proofs.YtadhkeboaapfcaaGreatDoor.EvW
open Go.RowKit OctMath NameMath
set_option linter.unusedVariables false
set_option linter.unusedSimpArgs false
set_option maxRecDepth 100000

def tA (e : Int) : List UInt8 := if e = 0 then [111, 107] else [101, 114, 114, 111, 114, 32] ++ Lib.itoa e
def tB (e n : Int) : List UInt8 := if n = 0 then tA e else tA e ++ (32 :: Lib.itoa n)
def tC (e n : Int) (did : Bool) : List UInt8 := if did then tB e n ++ [32, 100, 105, 100] else tB e n
def tD (e n : Int) (did : Bool) (ids : List Int) : List UInt8 := ids.foldl (fun s i => s ++ (32 :: Lib.itoa i)) (tC e n did)
theorem tD_snoc (e n : Int) (did : Bool) (ids : List Int) (i : Int) : tD e n did (ids ++ [i]) = tD e n did ids ++ (32 :: Lib.itoa i) := by simp [tD]
def I64 (x : Int) : Prop := -9223372036854775808 ≤ x ∧ x ≤ 9223372036854775807
theorem itoa_len {x : Int} (h : I64 x) : (Lib.itoa x).length ≤ 21 := Lib.itoa_length_le x h.1 h.2
theorem tA_len {e : Int} (h : I64 e) : (tA e).length ≤ 30 := by
  have := itoa_len h
  unfold tA
  split
  · simp
  · rw [List.length_append]; simp; omega
theorem tB_len {e n : Int} (h : I64 e) (h2 : I64 n) : (tB e n).length ≤ 60 := by
  have := itoa_len h2
  have := tA_len h
  unfold tB
  split
  · omega
  · rw [List.length_append, List.length_cons]; omega
theorem tC_len {e n : Int} (h : I64 e) (h2 : I64 n) (did : Bool) : (tC e n did).length ≤ 64 := by
  have := tB_len h h2
  unfold tC
  split
  · rw [List.length_append]; simp; omega
  · omega
theorem tD_len {e n : Int} (h : I64 e) (h2 : I64 n) (did : Bool) : ∀ ids : List Int, (∀ i ∈ ids, I64 i) → (tD e n did ids).length ≤ 64 + ids.length * 22 := by
  intro ids
  suffices ∀ (ids : List Int) (s : List UInt8), (∀ i ∈ ids, I64 i) → (ids.foldl (fun s i => s ++ (32 :: Lib.itoa i)) s).length ≤ s.length + ids.length * 22 by
    intro hi
    have h1 := this ids (tC e n did) hi
    have h2 := tC_len h h2 did
    unfold tD; omega
  intro ids
  induction ids with
  | nil => intro s _; simp
  | cons i r ih =>
    intro s hi
    have h1 := ih (s ++ (32 :: Lib.itoa i)) (fun x hx => hi x (List.mem_cons_of_mem _ hx))
    have h2 := itoa_len (hi i (List.mem_cons_self ..))
    rw [List.length_append, List.length_cons] at h1
    rw [List.foldl_cons, List.length_cons, Nat.succ_mul]
    omega

set_option maxHeartbeats 3200000 in
theorem tell_any (e n : Int) (did : Bool) (ids : List Int) (a : Option Addr) (cap : Nat) (he : I64 e) (hn : I64 n) (hids : ∀ i ∈ ids, I64 i) (hl : ids.length ≤ 60) (W : World) (hr : Row1 W a (ids.map fun x => .int .i64 x)) (htab : Tab W) :
    Calls Tryz.prog 18 #[.agg #[.int .i64 e, .int .i64 n, .bool did, .slice a ids.length cap]] W fun r w' => r = .returned (.string (S (tD e n did ids))) ∧ Below W.heap.size W w' := by
  have HX0 : Hid (LinW.Ext W (W.alloc (.cells #[.int .i64 e, .int .i64 n, .bool did, .slice a ids.length cap] 43))) := (Below.refl _ _).alloc (Nat.le_refl _) _
  have HQ0 : Hid (EvW.Boxed (W.alloc (.cells #[.int .i64 e, .int .i64 n, .bool did, .slice a ids.length cap] 43)) W.heap.size #[.int .i64 e, .int .i64 n, .bool did, .slice a ids.length cap]) := EvW.Boxed.new W _ _
  have HR0 := Lib.hid (hr.below HX0.out)
  have HT0 := Lib.hid (htab.below HX0.out)
  clear hr htab
  have HI := Lib.hid hids
  have HE := Lib.hid he
  have HN := Lib.hid hn
  clear hids he hn
  go_enter Tryz.func18, Tryz.ntmps18
  go_upto_region 1 with fail
  generalize (W.alloc (.cells #[.int .i64 e, .int .i64 n, .bool did, .slice a ids.length cap] 43)) = w1 at *
  generalize hB : W.heap.size = B at *
  have q0 : w1.cell? ⟨B, 0, none⟩ = some (.int .i64 e) := HQ0.out 0 _ rfl
  go_upto_if 8 with fail
  go_cut [3] (fun s wx => s = .string (S (tA e)) ∧ Hid (Below w1.heap.size w1 wx))
  case first =>
    by_cases h0 : e = 0
    · have HTA : Hid (tA e = [111, 107]) := by show _ = _; unfold tA; rw [if_pos h0]
      subst h0
      go_wp2_with fail
      go_meet
      case rel => rw [HTA.out]; exact ⟨rfl, Below.refl _ _⟩
    · have HTA : Hid (S (tA e) = ⟨#[101, 114, 114, 111, 114, 32]⟩ ++ S (Lib.itoa e)) := by show _ = _; unfold tA; rw [if_neg h0]; exact (S_append [101, 114, 114, 111, 114, 32] _).symm
      have hsl : (S (Lib.itoa e)).size ≤ 21 := by rw [S_size]; exact itoa_len HE.out
      have HC := Lib.hid (fun w h => itoa_any e HE.out.1 HE.out.2 w h)
      generalize Lib.itoa e = il at *
      go_wp2_with fail
      refine (HC.out _ HT0.out).mono ?_
      rintro r w2 ⟨rfl, hb⟩
      have HBB := Lib.hid hb
      clear hb
      go_wp2_with fail
      go_meet
      case rel => rw [HTA.out]; exact ⟨rfl, HBB.out⟩
  case rest =>
  obtain ⟨rfl, HB1⟩ := hcut
  clear q0
  have q1 : wc.cell? ⟨B, 1, none⟩ = some (.int .i64 n) := (HQ0.out.below HB1.out) 1 _ rfl
  have hs1 : (S (tA e)).size ≤ 30 := by rw [S_size]; exact tA_len HE.out
  obtain ⟨w2, hw2⟩ : ∃ w2, wc = w2 := ⟨_, rfl⟩
  subst hw2
  go_upto_if 15 with fail
  have HWC := Lib.hid HB1.out
  go_cut [3] (fun s wx => s = .string (S (tB e n)) ∧ Hid (Below w1.heap.size w1 wx))
  case first =>
    by_cases h0 : n = 0
    · have HTA : Hid (tB e n = tA e) := by show _ = _; unfold tB; rw [if_pos h0]
      subst h0
      go_wp2_with fail
      go_meet
      case rel => rw [HTA.out]; exact ⟨rfl, HB1⟩
    · have HTA : Hid (S (tB e n) = S (tA e) ++ (⟨#[32]⟩ ++ S (Lib.itoa n))) := by
        show _ = _; unfold tB; rw [if_neg h0, ← S_append]; congr 1
      have hsl : (S (Lib.itoa n)).size ≤ 21 := by rw [S_size]; exact itoa_len HN.out
      have HC := Lib.hid (fun w h => itoa_any n HN.out.1 HN.out.2 w h)
      generalize Lib.itoa n = il at *
      go_wp2_with fail
      refine (HC.out _ (HT0.out.below HB1.out)).mono ?_
      rintro r w3 ⟨rfl, hb⟩
      have HBB := Lib.hid (HB1.out.trans (hb.mono HB1.out.size))
      clear hb
      go_wp2_with fail
      go_meet
      case rel => rw [HTA.out]; exact ⟨rfl, HBB⟩
  case rest =>
  obtain ⟨rfl, HB2⟩ := hcut
  clear q1 hs1 HB1 HWC
  rename_i wd
  have q2 : wc.cell? ⟨B, 2, none⟩ = some (.bool did) := (HQ0.out.below HB2.out) 2 _ rfl
  have hs2 : (S (tB e n)).size ≤ 60 := by rw [S_size]; exact tB_len HE.out HN.out
  go_upto_if 23 with fail
  go_cut [3] (fun s wx => s = .string (S (tC e n did)) ∧ Hid (Below w1.heap.size w1 wx))
  case first =>
    cases did
    · have HTA : Hid (tC e n false = tB e n) := rfl
      go_wp2_with fail
      go_meet
      case rel => rw [HTA.out]; exact ⟨rfl, HB2⟩
    · have HTA : Hid (S (tC e n true) = S (tB e n) ++ ⟨#[32, 100, 105, 100]⟩) := (S_append (tB e n) [32, 100, 105, 100]).symm
      go_wp2_with fail
      go_meet
      case rel => rw [HTA.out]; exact ⟨rfl, HB2⟩
  case rest =>
  obtain ⟨rfl, HB3⟩ := hcut
  clear q2 hs2 HB2
  have q3 : wc.cell? ⟨B, 3, none⟩ = some (.slice a ids.length cap) := (HQ0.out.below HB3.out) 3 _ rfl
  go_wp2_with fail
  go_loopw [3, 29] (fun s i wr => ∃ k : Nat, k ≤ ids.length ∧ i = .int .i64 (k : Int) ∧ s = .string (S (tD e n did (ids.take k))) ∧ Hid (Below w1.heap.size w1 wr)) (fun _ i _ => ids.length + 1 - (intOf i).toNat)
  case atStart => exact ⟨0, by omega, rfl, rfl, HB3⟩
  case round =>
    obtain ⟨k, hk, rfl, rfl, HB4⟩ := hrel
    by_cases hlt : k < ids.length
    · obtain ⟨b, off, hbo, hcell⟩ := (HR0.out.below HB4.out) k (by rw [List.length_map]; exact hlt)
      cases hbo
      rw [List.getElem_map] at hcell
      have hix := HI.out ids[k] (List.getElem_mem hlt)
      have hst : ids.take (k + 1) = ids.take k ++ [ids[k]] := List.take_succ_eq_append_getElem hlt
      have hsl := tD_len HE.out HN.out did (ids.take k) (fun i hi => HI.out i (List.mem_of_mem_take hi))
      rw [List.length_take, Nat.min_eq_left hk] at hsl
      generalize ids[k] = x at *
      have HTA : Hid (S (tD e n did (ids.take (k + 1))) = S (tD e n did (ids.take k)) ++ (⟨#[32]⟩ ++ S (Lib.itoa x))) := by
        show _ = _
        rw [hst, tD_snoc, ← S_append]; congr 1
      have hs1 : (S (tD e n did (ids.take k))).size ≤ 1400 := by rw [S_size]; omega
      have hs2 : (S (Lib.itoa x)).size ≤ 21 := by rw [S_size]; exact itoa_len hix
      have HC := Lib.hid (fun w h => itoa_any x hix.1 hix.2 w h)
      have HT4 := Lib.hid (HT0.out.below HB4.out)
      clear hst hsl
      generalize tD e n did (ids.take k) = dl at *
      generalize Lib.itoa x = il at *
      go_wp2_with fail
      refine (HC.out _ HT4.out).mono ?_
      rintro r w3 ⟨rfl, hb⟩
      have HB5 := Lib.hid (HB4.out.trans (hb.mono HB4.out.size))
      clear hb
      go_wp2_with fail
      go_roundw
      case rel => exact ⟨k + 1, by omega, by go_num, by rw [HTA.out], HB5⟩
      case measure => simp [intOf]; omega
    · have ek : k = ids.length := by omega
      subst ek
      rw [List.take_length]
      go_wp2_with fail
      go_ret
      rw [hB]
      exact ⟨rfl, (show Below B W w1 from hB ▸ HX0.out).trans (HB4.out.mono (by have := Below.size HX0.out; omega))⟩
end Go.Proofs.YtadhkeboaapfcaaGreatDoor.EvW
