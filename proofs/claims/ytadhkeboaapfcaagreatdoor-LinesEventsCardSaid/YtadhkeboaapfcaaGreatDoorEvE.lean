/- lines.empty. -/
import Derived.Test.YtadhkeboaapfcaaGreatDoorEvM
import Derived.Test.YtadhkeboaapfcaaGreatDoorNameM
namespace Go.Proofs.YtadhkeboaapfcaaGreatDoor.EvW
open Go.RowKit OctMath NameMath
set_option linter.unusedVariables false
set_option linter.unusedSimpArgs false

/-- an event's numbers are ints -/
structure EvI (v : Ev) : Prop where
  queue : -9223372036854775808 ≤ v.queue ∧ v.queue ≤ 9223372036854775807
  n : -9223372036854775808 ≤ v.n ∧ v.n ≤ 9223372036854775807
  aat : -9223372036854775808 ≤ v.aat ∧ v.aat ≤ 9223372036854775807
  lack : -9223372036854775808 ≤ v.lack ∧ v.lack ≤ 9223372036854775807
def emptyB (v : Ev) : Bool := decide (v.queue = 0 ∧ v.n = 0 ∧ v.aat = 0 ∧ v.lack = 0) && (v.topic ++ v.group ++ v.tag ++ v.key ++ v.body).isEmpty && decide (v.keys.length + v.tags.length + v.keep.length = 0) && !v.sync
set_option maxRecDepth 100000
theorem ofInt_zero (a : Int) (h : -9223372036854775808 ≤ a ∧ a ≤ 9223372036854775807) : BitVec.ofInt 64 a = 0#64 ↔ a = 0 := by
  constructor
  · intro e
    have := congrArg BitVec.toNat e
    rw [BitVec.toNat_ofInt] at this
    have h2 : ((2 ^ 64 : Nat) : Int) = 18446744073709551616 := by decide
    rw [h2] at this
    have h3 : (0#64).toNat = 0 := rfl
    rw [h3] at this
    omega
  · intro e; rw [e]; rfl
theorem or_zero (a b : Int) (ha : -9223372036854775808 ≤ a ∧ a ≤ 9223372036854775807) (hb : -9223372036854775808 ≤ b ∧ b ≤ 9223372036854775807) :
    (-9223372036854775808 ≤ bits .or .i64 a b ∧ bits .or .i64 a b ≤ 9223372036854775807) ∧ (bits .or .i64 a b = 0 ↔ a = 0 ∧ b = 0) := by
  have e : bits .or .i64 a b = IntKind.i64.wrap ((BitVec.ofInt 64 a ||| BitVec.ofInt 64 b).toNat : Int) := rfl
  have hlt := (BitVec.ofInt 64 a ||| BitVec.ofInt 64 b).isLt
  generalize hx : BitVec.ofInt 64 a ||| BitVec.ofInt 64 b = x at *
  rw [e, IntKind.wrap_i64]
  refine ⟨by omega, ?_⟩
  have h0 : x = 0#64 ↔ a = 0 ∧ b = 0 := by
    rw [← hx, BitVec.or_eq_zero_iff, ofInt_zero a ha, ofInt_zero b hb]
  rw [← h0]
  constructor
  · intro h
    have : x.toNat = 0 := by omega
    exact BitVec.eq_of_toNat_eq this
  · intro h
    have h3 : x.toNat = 0 := by rw [h]; rfl
    omega

set_option maxHeartbeats 3200000 in
theorem empty_any (v : Ev) (s : EvS) (hi : EvI v) (hok : EvOk v) (W : World) :
    Calls Tryz.prog 21 #[.agg (v.cells s)] W fun e w' => e = .returned (.bool (emptyB v)) ∧ Below W.heap.size W w' := by
  have HR : Hid (emptyB v = (decide (v.queue = 0 ∧ v.n = 0 ∧ v.aat = 0 ∧ v.lack = 0) && (v.topic ++ v.group ++ v.tag ++ v.key ++ v.body).isEmpty && decide (v.keys.length + v.tags.length + v.keep.length = 0) && !v.sync)) := rfl
  have h1 := or_zero v.queue v.n hi.queue hi.n
  have h2 := or_zero (bits .or .i64 v.queue v.n) v.aat h1.1 hi.aat
  have h3 := or_zero (bits .or .i64 (bits .or .i64 v.queue v.n) v.aat) v.lack h2.1 hi.lack
  have hz : decide (v.queue = 0 ∧ v.n = 0 ∧ v.aat = 0 ∧ v.lack = 0) = (bits .or .i64 (bits .or .i64 (bits .or .i64 v.queue v.n) v.aat) v.lack == 0) := by
    rw [show (bits .or .i64 (bits .or .i64 (bits .or .i64 v.queue v.n) v.aat) v.lack == 0) = decide (bits .or .i64 (bits .or .i64 (bits .or .i64 v.queue v.n) v.aat) v.lack = 0) from rfl]
    apply decide_eq_decide.2
    rw [h3.2, h2.2, h1.2, and_assoc, and_assoc]
  have HZ := Lib.hid hz
  clear h1 h2 h3 hz
  have hs1 := hok.topic
  have hs2 := hok.group
  have hs3 := hok.tag
  have hs4 := hok.key
  have hs5 := hok.body
  have hs6 := hok.keys
  have hs7 := hok.tags
  have hs8 := hok.keep
  have hsz := S_size
  have htl := NameW.S_toList
  have hap := S_append
  have hle : ∀ a b : List UInt8, (a ++ b).length = a.length + b.length := fun a b => List.length_append
  obtain ⟨cs, hcs⟩ : ∃ cs, v.cells s = cs := ⟨_, rfl⟩
  have HCS := Lib.hid hcs
  rw [hcs]
  have hc0 : cs.size = 14 := by rw [← hcs]; rfl
  clear hcs hi hok
  have e1 : cs[1] = .int .i64 v.queue := by have := HCS.out; subst this; rfl
  have e2 : cs[2] = .int .i64 v.n := by have := HCS.out; subst this; rfl
  have e3 : cs[3] = .int .i64 v.aat := by have := HCS.out; subst this; rfl
  have e4 : cs[4] = .int .i64 v.lack := by have := HCS.out; subst this; rfl
  have e5 : cs[5] = .string (S v.topic) := by have := HCS.out; subst this; rfl
  have e6 : cs[6] = .string (S v.group) := by have := HCS.out; subst this; rfl
  have e7 : cs[7] = .string (S v.tag) := by have := HCS.out; subst this; rfl
  have e8 : cs[8] = .string (S v.key) := by have := HCS.out; subst this; rfl
  have e9 : cs[9] = .string (S v.body) := by have := HCS.out; subst this; rfl
  have e10 : cs[10] = .slice s.ka v.keys.length s.kc := by have := HCS.out; subst this; rfl
  have e11 : cs[11] = .slice s.ta v.tags.length s.tc := by have := HCS.out; subst this; rfl
  have e12 : cs[12] = .slice s.pa v.keep.length s.pc := by have := HCS.out; subst this; rfl
  have e13 : cs[13] = .bool v.sync := by have := HCS.out; subst this; rfl
  go_enter Tryz.func21, Tryz.ntmps21
  have HB0 : Hid (Below W.heap.size W (W.alloc (.cells cs 25))) := (Below.refl _ W).alloc (Nat.le_refl _) _
  go_wp2_with fail
  have hsum : ((v.keys.length : Int) + v.tags.length + v.keep.length = 0) ↔ v.keys.length + v.tags.length + v.keep.length = 0 := by omega
  all_goals (
    go_ret
    refine ⟨?_, HB0.out⟩
    have hr := HR.out
    rw [HZ.out] at hr
    rw [hr]
    clear hr HR HZ e1 e2 e3 e4 e5 e6 e7 e8 e9 e10 e11 e12 e13 HB0 hs1 hs2 hs3 hs4 hs5 hs6 hs7 hs8 hsz htl hap hle hc0
    first
    | (simp_all; done)
    | (rename_i h1 h2 h3
       have h4 : ¬ (v.keys.length + v.tags.length + v.keep.length = 0) := by omega
       rw [decide_eq_false h4]
       simp))
end Go.Proofs.YtadhkeboaapfcaaGreatDoor.EvW
