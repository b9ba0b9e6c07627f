/- The store's own: what lasts is opened, what is derived is made anew. And what follows. -/
import Derived.Test.YtjjkhbfimpgplaaGreatDoorR07
import Derived.Test.YtjjkhbfimpgplaaGreatDoorR01
import Derived.Deep.DeepCutAuto
import Derived.Test.YtjjkhbfimpgplaaGreatDoorR04
import Derived.Test.YtjjkhbfimpgplaaGreatDoorR06
import Derived.LaidEqlPtr
import Derived.Test.YtjjkhbfimpgplaaGreatDoorR05
import Derived.Test.YtjjkhbfimpgplaaGreatDoorR03
set_option maxHeartbeats 25600000
namespace Go.Proofs.YtjjkhbfimpgplaaGreatDoor.StoW
open Go.RowKit Go.MapKept OctMath RecMath RecW TapeMath DskW SegW MapG TapeW PendW
set_option linter.unusedVariables false
set_option linter.unusedSimpArgs false
set_option maxRecDepth 100000
structure Lasts (base B : Nat) (w w' : World) (D : DiskD) (its : List TapeMath.Item) (b : Nat) (T : TapeD) : Prop where
 tape : TapeAt base w' T
 its : T.its = its
 b : T.R.b = b
 syn : T.R.synced = T.R.e
 waits : T.D.waits = []
 quiet : Quiet T.D
 dblk : T.D.blk = D.blk
 dfoot : ∀ k, T.D.foot k ↔ D.foot k
 find : ∀ n, (T.D.find n).isSome = (D.find n).isSome
 room : T.D.room = D.room
 fresh : ∀ k, T.O.foot k ∨ T.R.foot k → w.heap.size ≤ k
 mod : Mod (fun k => D.foot k ∨ k = B) w w'
theorem Lasts.of {base B : Nat} {w w' : World} {D : DiskD} {its : List TapeMath.Item} {b : Nat} {T : TapeD} (h : Opened base w w' D its b T) : Lasts base B w w' D its b T :=
 { h with mod := h.mod.mono fun k _ hk => .inl hk }
theorem Lasts.then {base B : Nat} {w w' w2 : World} {D : DiskD} {its : List TapeMath.Item} {b : Nat} {T : TapeD} (h : Lasts base B w w' D its b T) (hm : Mod (fun k => k = B) w' w2) (hB : B < w.heap.size) (hBD : ¬ D.foot B) : Lasts base B w w2 D its b T :=
 { h with
  tape := h.tape.mod hm fun k hk e => by
   subst e
   rcases hk with h2 | h2 | h2
   · have := h.fresh _ (.inl h2); omega
   · exact hBD ((h.dfoot _).1 h2)
   · have := h.fresh _ (.inr h2); omega
  mod := h.mod.trans (hm.mono fun k _ hk => .inr hk) }
theorem Lasts.none {base B : Nat} {w w' : World} {D : DiskD} {its : List TapeMath.Item} {b : Nat} {T : TapeD} (h : Lasts base B w w' D its b T) {n : List UInt8} (hn : D.find n = none) : T.D.find n = none := by
 have := h.find n
 rw [hn] at this
 cases hf : T.D.find n with
 | none => rfl
 | some f => rw [hf] at this; cases this
theorem heap_mod1 {M : Nat → Prop} {u v : World} (h : Mod M u v) {b : Nat} {o : Obj} (hb : u.heap[b]? = some o) (hM : ¬ M b) : v.heap[b]? = some o :=
 (h.block b (Array.getElem?_eq_some_iff.1 hb).1 hM).trans hb
structure Pair (w : World) (n b3 b4 dk : Nat) (T : TapeD) : Prop where
 t : w.heap[b3]? = some (.cells #[.pointer (some ⟨dk, 0, none⟩), .slice none 0 0] 109 (0, 0))
 g : w.heap[b4]? = some (.cells #[.pointer (some ⟨dk, 0, none⟩), .slice none 0 0] 261 (0, 0))
 lo : n ≤ b3 ∧ n ≤ b4 ∧ b3 ≠ b4
 away : ∀ k, T.foot k → k ≠ b3 ∧ k ≠ b4
theorem Pair.mod {w w' : World} {n b3 b4 dk : Nat} {T : TapeD} {M : Nat → Prop} (h : Pair w n b3 b4 dk T) (hm : Mod M w w') (h3 : ¬ M b3) (h4 : ¬ M b4) : Pair w' n b3 b4 dk T :=
 { h with t := (hm.block _ (Array.getElem?_eq_some_iff.1 h.t).1 h3).trans h.t, g := (hm.block _ (Array.getElem?_eq_some_iff.1 h.g).1 h4).trans h.g }
theorem lasting_any {base B : Nat} {D : DiskD} {R : SegD} {its : List TapeMath.Item} (v1 v2 v5 v6 v7 v8 v9 : Value) (now : Int) (w : World) (hB : w.heap[B]? = some (.cells #[.pointer none, v1, v2, .pointer none, .pointer none, v5, v6, v7, v8, v9, .pointer (some ⟨D.blk, 0, none⟩), .int .i64 now] 51 (0, 0))) (hBD : ¬ D.foot B)
 (hL : LaidOn D R) (hD : DiskAt base w D) (hq : Quiet D) (hfl : D.files.length ≤ 1048576) (hnl : ∀ p ∈ D.files, p.1.length ≤ 1073741824) (hbase : base ≤ w.heap.size) (hT : TabB base w)
 (hh : R.head = tapeH) (hs : R.size = 1024) (ht : R.txt = bytesL its) (hf : Fits R.b its) (hone : ∀ x ∈ its, ∃ m, x = TapeMath.Item.one m) (hil : its.length ≤ 1000000) (hwt : D.waits = []) (hn1 : D.find TopW.topicsN = none) (hn2 : D.find TopW.groupsN = none) :
 Calls Tryz.prog 63 #[.pointer (some ⟨B, 0, none⟩)] w fun e w' => e = .returned (.int .i64 0) ∧ ∃ T b3 b4, Lasts base B w w' D its R.b T ∧ Pair w' w.heap.size b3 b4 D.blk T ∧
  w'.heap[B]? = some (.cells #[.pointer (some ⟨T.O.blk, 0, none⟩), v1, v2, .pointer (some ⟨b3, 0, none⟩), .pointer (some ⟨b4, 0, none⟩), v5, v6, v7, v8, v9, .pointer (some ⟨D.blk, 0, none⟩), .int .i64 now] 51 (0, 0)) := by
 have HOP := Lib.hid (topen_any w hL hD hq hfl hnl hbase hT hh hs ht hf hone hil hwt)
 have HB := Lib.hid hB
 have c10 := cell_at hB 10 _ rfl
 have f0 := frozen_at hB 0
 have HD := Lib.hid hD
 have HBD := Lib.hid hBD
 have HN1 := Lib.hid hn1
 have HN2 := Lib.hid hn2
 have hBl := (Array.getElem?_eq_some_iff.1 hB).1
 clear hB hL hD hq hfl hnl hbase hT hh hs ht hf hone hil hwt hn1 hn2 hBD
 go_enter Tryz.func63, Tryz.ntmps63
 go_wp2_with fail
 refine HOP.out.mono ?_
 rintro e w2 ⟨T, rfl, hop⟩
 have HO := Lib.hid hop
 have hB2 : w2.heap[B]? = _ := (hop.mod.block B hBl HBD.out).trans HB.out
 have HB2 := Lib.hid hB2
 have d0 := cell_at hB2 0 _ rfl
 have d10 := cell_at hB2 10 _ rfl
 have d0f := frozen_at hB2 0
 have hl3 : Lasts base B w (w2.setCell ⟨B, 0, none⟩ (.pointer (some ⟨T.O.blk, 0, none⟩))) D its R.b T := (Lasts.of hop).then ((Mod.refl (fun k => k = B) w2).setCell (.inl rfl) _) hBl HBD.out
 have HL3 := Lib.hid hl3
 have HB3 := Lib.hid (heap_setCell_same w2 B 0 _ _ (.pointer (some ⟨T.O.blk, 0, none⟩)) HB2.out)
 have HTP := Lib.hid (TopW.topics_none _ hl3.tape.whole.dsk hl3.quiet.up (hl3.none HN1.out))
 rw [hl3.dblk] at HTP
 clear hop hB2 HOP c10 f0 hl3
 go_wp2_with fail
 refine HTP.out.mono ?_
 rintro e w4 ⟨b3, rfl, hb4, hb3, hc3⟩
 have hl4 := HL3.out.then (Mod.of_below (M := fun k => k = B) hb4) hBl HBD.out
 have HL4 := Lib.hid hl4
 have hB4 : w4.heap[B]? = _ := (hb4.block B (Array.getElem?_eq_some_iff.1 HB3.out).1).trans HB3.out
 have HB4 := Lib.hid hB4
 have e3 := cell_at hB4 3 _ rfl
 have e10 := cell_at hB4 10 _ rfl
 have e3f := frozen_at hB4 3
 have hl5 : Lasts base B w (w4.setCell ⟨B, 3, none⟩ (.pointer (some ⟨b3, 0, none⟩))) D its R.b T := hl4.then ((Mod.refl (fun k => k = B) w4).setCell (.inl rfl) _) hBl HBD.out
 have HL5 := Lib.hid hl5
 have HB5 := Lib.hid (heap_setCell_same w4 B 3 _ _ (.pointer (some ⟨b3, 0, none⟩)) HB4.out)
 have hlow : w.heap.size ≤ (w2.setCell ⟨B, 0, none⟩ (.pointer (some ⟨T.O.blk, 0, none⟩))).heap.size := HL3.out.mod.size
 have h3B : b3 ≠ B := by omega
 have HC5 : Hid ((w4.setCell ⟨B, 3, none⟩ (.pointer (some ⟨b3, 0, none⟩))).heap[b3]? = some (.cells #[.pointer (some ⟨D.blk, 0, none⟩), .slice none 0 0] 109 (0, 0))) := heap_mod1 ((Mod.refl (fun k => k = B) w4).setCell (.inl rfl) _) hc3 h3B
 have H3 : Hid ((∀ k, T.foot k → k < b3) ∧ w.heap.size ≤ b3 ∧ b3 < (w4.setCell ⟨B, 3, none⟩ (.pointer (some ⟨b3, 0, none⟩))).heap.size) := ⟨fun k hk => Nat.lt_of_lt_of_le (HL3.out.tape.lt hk) hb3, by omega, (Array.getElem?_eq_some_iff.1 HC5.out).1⟩
 have HTP2 := Lib.hid (TopW.groups_none _ hl5.tape.whole.dsk hl5.quiet.up (hl5.none HN2.out))
 rw [hl5.dblk] at HTP2
 clear hb4 hl4 hB4 HTP d0 d10 d0f hl5 hb3 hc3 hlow h3B
 go_wp2_with fail
 refine HTP2.out.mono ?_
 rintro e w6 ⟨b4, rfl, hb6, hb4', hc4⟩
 have hl6 := HL5.out.then (Mod.of_below (M := fun k => k = B) hb6) hBl HBD.out
 have HL6 := Lib.hid hl6
 have hB6 : w6.heap[B]? = _ := (hb6.block B (Array.getElem?_eq_some_iff.1 HB5.out).1).trans HB5.out
 have HB6 := Lib.hid hB6
 have hp3 := HC5.out
 have h3 := H3.out
 have h6 := HL5.out.mod.size
 have h4B : b4 ≠ B := by omega
 have HP6 : Hid (Pair (w6.setCell ⟨B, 4, none⟩ (.pointer (some ⟨b4, 0, none⟩))) w.heap.size b3 b4 D.blk T) := Pair.mod (M := fun k => k = B) ⟨(hb6.block b3 h3.2.2).trans hp3, hc4, ⟨h3.2.1, by omega, by omega⟩, fun k hk => ⟨by have := h3.1 k hk; omega, by have := HL5.out.tape.lt hk; omega⟩⟩ ((Mod.refl (fun k => k = B) w6).setCell (.inl rfl) _) (by omega) h4B
 clear hp3 h3 h6 h4B hb4' hc4
 have g4 := cell_at hB6 4 _ rfl
 have g4f := frozen_at hB6 4
 clear hb6 hl6 hB6 HTP2 e3 e10 e3f
 go_wp2_with fail
 go_ret
 exact ⟨rfl, T, b3, b4, HL6.out.then ((Mod.refl (fun k => k = B) w6).setCell (.inl rfl) _) hBl HBD.out, HP6.out, heap_setCell_same _ B 4 _ _ _ HB6.out⟩
theorem based_none {base B : Nat} {D : DiskD} {cs : Array Value} (w : World) (hB : w.heap[B]? = some (.cells cs 51 (0, 0))) (hc : cs[10]? = some (.pointer (some ⟨D.blk, 0, none⟩))) (h : DiskAt base w D) (hup : D.down = false) (hn : D.find TopW.baseN = none) :
 Calls Tryz.prog 64 #[.pointer (some ⟨B, 0, none⟩)] w fun e w' => e = .returned (.int .i64 0) ∧ Below w.heap.size w w' := by
 have HL := Lib.hid (TopW.loaded_none w h hup hn)
 have c10 := cell_at hB 10 _ hc
 clear hB hc h hup hn
 go_enter Tryz.func64, Tryz.ntmps64
 go_wp2_with fail
 refine HL.out.mono ?_
 rintro e w2 ⟨rfl, hb⟩
 have HB : Hid (Below w.heap.size w (w2.alloc (.cells #[.int .i64 0, .slice none 0 0] 187))) := hb.alloc hb.size _
 clear hb HL c10
 go_wp2_with fail
 go_ret
 exact ⟨rfl, HB.out⟩
end Go.Proofs.YtjjkhbfimpgplaaGreatDoor.StoW
namespace Go.Proofs.YtjjkhbfimpgplaaGreatDoor.CqW
open Go.RowKit Go.MapKept OctMath DskW SegW MapG CacheW
set_option linter.unusedVariables false
set_option linter.unusedSimpArgs false
set_option maxRecDepth 100000
def KeyW (v : Value) : Prop := ∃ (t : List UInt8) (q : Int), v = .agg #[.string (S t), .int .i64 q]
theorem eql_which (s t : List UInt8) (a b : Int) (w : World) : (Op.equal 164 (.agg #[.string (S s), .int .i64 a]) (.agg #[.string (S t), .int .i64 b])).run Tryz.prog w = .ok (decide (s = t) && a == b) w := by
 have hst : Tryz.prog.stoodInHeld 164 = false := by kernel_rfl
 have hq : ∀ x y : Int, (Op.equalIn 9999 3 (.int .i64 x) (.int .i64 y)).run Tryz.prog w = .ok (x == y) w := fun x y => run_equalIn_int _ 9998 _ _ _ _ _ Tryz.underlying3
 have hqs : ∀ x y : ByteArray, (Op.equalIn 9999 9 (.string x) (.string y)).run Tryz.prog w = .ok (x == y) w := fun x y => by
  show (Op.equalIn (9998 + 1) _ _ _).run _ _ = _
  unfold Op.equalIn
  simp [run_underlying Tryz.underlying9, Result.andThen]
 have hpr : ∀ w, Sem.run Tryz.prog program w = .ok Tryz.prog w := fun _ => rfl
 have hia : (isAgg 3).run Tryz.prog w = .ok false w := by kernel_rfl
 have his : (isAgg 9).run Tryz.prog w = .ok false w := by kernel_rfl
 have hss : (S s == S t) = decide (s = t) := by
  rw [Bool.eq_iff_iff, bytes_beq, decide_eq_true_iff]
  exact ⟨fun h => OctMath.S_inj h, fun h => by rw [h]⟩
 unfold Op.equal Op.maxDepth
 show (Op.equalIn (9999 + 1) _ _ _).run _ _ = _
 unfold Op.equalIn
 simp [go_sem, run_underlying Tryz.underlying164, Result.andThen, hpr, hst, hia, his, hq, hqs, hss]
 by_cases h1 : s = t <;> by_cases h2 : a = b <;> simp [h1, h2, hq, hqs, hss]
theorem keyedW : Keyed Tryz.prog 164 KeyW := by
 refine Keyed.of_equal Tryz.underlying164 ?_ ?_ ?_ ?_
 · rintro _ _ ⟨s, a, rfl⟩ ⟨t, b, rfl⟩; rfl
 ·
  rintro _ _ ⟨s, a, rfl⟩ ⟨t, b, rfl⟩ w
  refine ⟨_, eql_which s t a b w, ?_⟩
  simp only [Bool.and_eq_true, decide_eq_true_eq, beq_iff_eq]
  constructor
  · rintro ⟨rfl, rfl⟩; rfl
  ·
   intro h
   injection h with h
   injection h with h
   injection h with h1 h2
   injection h1 with h1
   injection h2 with h2 _
   injection h2 with _ h2
   exact ⟨OctMath.S_inj h1, h2⟩
 ·
  rintro _ ⟨s, a, rfl⟩ e w
  have c1 : (Instr.checkKey e 9999 9 (.string (S s))).run Tryz.prog w = .ok () w := Go.MapKept.run_checkKey Tryz.underlying9 (k := .string (S s)) trivial e 9998
  have c2 : (Instr.checkKey e 9999 3 (.int .i64 a)).run Tryz.prog w = .ok () w := Go.MapKept.run_checkKey Tryz.underlying3 (k := .int .i64 a) rfl e 9998
  have hia : (isAgg 3).run Tryz.prog w = .ok false w := by kernel_rfl
  have his : (isAgg 9).run Tryz.prog w = .ok false w := by kernel_rfl
  show (Instr.checkKey e (9999 + 1) _ _).run _ _ = _
  unfold Instr.checkKey
  simp [go_sem, run_underlying Tryz.underlying164, Result.andThen, hia, his, c1, c2]
 ·
  rintro _ ⟨s, a, rfl⟩
  show Instr.sameBits (9999 + 1) _ _ = true
  unfold Instr.sameBits
  have h1 : Instr.sameBits 9999 (.string (S s)) (.string (S s)) = true := sameBits_self (d := .string) (k := .string (S s)) trivial 9999
  have h2 : Instr.sameBits 9999 (.int .i64 a) (.int .i64 a) = true := sameBits_self (d := .int .i64) (k := .int .i64 a) rfl 9999
  simp [h1, h2]
end Go.Proofs.YtjjkhbfimpgplaaGreatDoor.CqW
namespace Go.Proofs.YtjjkhbfimpgplaaGreatDoor.EntW
open Go.RowKit OctW OctMath
set_option maxRecDepth 100000
set_option linter.unusedSimpArgs false
set_option linter.unusedVariables false
def Wid (w : World) (a : Option Addr) (ws : List (Nat × Int)) : Prop := ∀ i (h : i < ws.length), ∃ b off, a = some ⟨b, off, none⟩ ∧ w.cell? ⟨b, off + i * 2, none⟩ = some (.int .i64 (ws[i].1 : Int)) ∧ w.cell? ⟨b, off + i * 2 + 1, none⟩ = some (.int .i64 ws[i].2)
theorem Wid.below {w w' : World} {a : Option Addr} {ws : List (Nat × Int)} (h : Wid w a ws) (hb : Below w.heap.size w w') : Wid w' a ws := by
 intro i hi
 obtain ⟨b, off, rfl, hc, hd⟩ := h i hi
 exact ⟨b, off, rfl, by rw [hb.cell (cell_lt hc)]; exact hc, by rw [hb.cell (cell_lt hd)]; exact hd⟩
def widL (ws : List (Nat × Int)) : List UInt8 := ws.flatMap fun p => be p.1 p.2.toNat
def widOk (ws : List (Nat × Int)) : Bool := decide (∀ p ∈ ws, fits p.1 p.2)
def widW (ws : List (Nat × Int)) : List UInt8 := if widOk ws then widL ws else []
theorem widL_take (ws : List (Nat × Int)) (k : Nat) (h : k < ws.length) : widL (ws.take (k + 1)) = widL (ws.take k) ++ be ws[k].1 ws[k].2.toNat := by
 unfold widL; rw [List.take_succ_eq_append_getElem h, List.flatMap_append]; simp
theorem widL_le : ∀ (ws : List (Nat × Int)), (∀ p ∈ ws, p.1 ≤ 7) → (widL ws).length ≤ 7 * ws.length := by
 intro ws
 induction ws with
 | nil => intro _; simp [widL]
 | cons p ws ih =>
   intro h
   have h1 := h p (List.mem_cons_self ..)
   have h2 := ih (fun q hq => h q (List.mem_cons_of_mem _ hq))
   have : widL (p :: ws) = be p.1 p.2.toNat ++ widL ws := by simp [widL]
   rw [this, List.length_append, be_length, List.length_cons]; omega
theorem numsW_single (n : Nat) (x : Int) (h1 : 1 ≤ n) (h7 : n ≤ 7) : numsW (n : Int) [x] = if fits n x then (be n x.toNat, 0) else ([], 2) := by
 unfold numsW
 rw [if_neg (by omega)]
 have : (∀ y ∈ [x], fits ((n : Int)).toNat y) ↔ fits n x := by simp
 by_cases h : fits n x
 · rw [if_pos (this.2 h), if_pos h]; simp [numsL]
 · rw [if_neg (fun hh => h (this.1 hh)), if_neg h]
set_option maxHeartbeats 1600000 in
theorem put_any (a : Option Addr) (cap : Nat) (ws : List (Nat × Int)) (hl : ws.length ≤ 16) (hw : ∀ p ∈ ws, 1 ≤ p.1 ∧ p.1 ≤ 7) (hx : ∀ p ∈ ws, -9223372036854775808 ≤ p.2 ∧ p.2 ≤ 9223372036854775807) (W : World) (h : Wid W a ws) :
 Calls Tryz.prog 257 #[.slice a ws.length cap] W fun e w' => e = .returned (.tuple #[.string (S (widW ws)), .bool (widOk ws)]) ∧ Below W.heap.size W w' := by
 have HI := Lib.hid h
 have HW := Lib.hid hw
 have HX := Lib.hid hx
 clear h hw hx
 go_enter Tryz.func257, Tryz.ntmps257
 go_wp2_with fail
 go_loopw [4, 11] (fun s i wr => ∃ k : Nat, k ≤ ws.length ∧ i = .int .i64 k ∧ s = .string (S (widL (ws.take k))) ∧ Hid (Below W.heap.size W wr) ∧ Hid (∀ p ∈ ws.take k, fits p.1 p.2)) (fun _ i _ => ws.length - (intOf i).toNat)
 case atStart => exact ⟨0, by omega, rfl, rfl, Below.refl _ _, by simp [Hid]⟩
 case round =>
  obtain ⟨k, hk, rfl, rfl, HB, HA⟩ := hrel
  by_cases hlt : k < ws.length
  ·
   obtain ⟨b, off, rfl, hc0, hc1⟩ := HI.out k hlt
   rw [← HB.out.cell (cell_lt hc0)] at hc0
   rw [← HB.out.cell (cell_lt hc1)] at hc1
   have hwk := HW.out ws[k] (by simp)
   have hxk := HX.out ws[k] (by simp)
   have hnl := widL_take ws k hlt
   have htk : ∀ y, y ∈ ws.take (k + 1) ↔ y ∈ ws.take k ∨ y = ws[k] := by intro y; rw [List.take_succ_eq_append_getElem hlt, List.mem_append, List.mem_singleton]
   have hmem : ws[k] ∈ ws := by simp
   have hlk := widL_le (ws.take k) (fun p hp => (HW.out p (List.mem_of_mem_take hp)).2)
   rw [List.length_take] at hlk
   generalize ws[k] = p at *
   obtain ⟨n, x⟩ := p
   simp only at *
   obtain ⟨hn1, hn7⟩ := hwk
   obtain ⟨hx0, hx1⟩ := hxk
   have HNL := Lib.hid hnl
   have HTK := Lib.hid htk
   have HMEM := Lib.hid hmem
   clear hnl htk hmem
   go_wp2_with fail
   have hints : Ints ((wr.alloc (.cells #[.int .i64 (n : Int), .int .i64 x] 235)).alloc (.cells #[.int .i64 x] 3)) (some ⟨wr.heap.size + 1, 0, none⟩) [x] := by
    intro i hi
    have : i = 0 := by simpa using hi
    subst this
    refine ⟨_, _, rfl, ?_⟩
    have := World.cell?_alloc_new (wr.alloc (.cells #[.int .i64 (n : Int), .int .i64 x] 235)) #[.int .i64 x] 3 0
    simp only [World.size_alloc] at this
    rw [this]; rfl
   have HBa : Hid (Below W.heap.size W ((wr.alloc (.cells #[.int .i64 (n : Int), .int .i64 x] 235)).alloc (.cells #[.int .i64 x] 3))) := (HB.out.alloc HB.out.size _).alloc (HB.out.alloc HB.out.size _).size _
   refine (nums_any (n : Int) (by omega) (by omega) _ 1 [x] (by simp) (fun y hy => by have : y = x := by simpa using hy
                                                                                      omega) _ hints).mono ?_
   rintro e w3 ⟨rfl, hb3⟩
   have HB3 : Hid (Below W.heap.size W w3) := HBa.out.trans (hb3.mono HBa.out.size)
   rw [numsW_single n x hn1 hn7]
   clear hb3 HB HBa hints
   by_cases hf : fits n x
   ·
    rw [if_pos hf]
    have HF := Lib.hid hf
    have hs1 : (S (widL (ws.take k))).size ≤ 200 := by rw [S_size]; omega
    have hs2 : (S (be n x.toNat)).size ≤ 7 := by rw [S_size, be_length]; omega
    have hcat : Hid (S (widL (ws.take k)) ++ S (be n x.toNat) = S (widL (ws.take (k + 1)))) := by rw [S_append, HNL.out]; rfl
    generalize S (widL (ws.take k)) = s1 at *
    generalize S (be n x.toNat) = s2 at *
    clear hf hlk
    go_wp2_with fail
    rw [hcat.out]
    go_wp2_with fail
    go_roundw
    case rel =>
     refine ⟨k + 1, by omega, by go_num, rfl, HB3, fun y hy => ?_⟩
     rcases (HTK.out y).1 hy with hy | rfl
     · exact HA.out y hy
     · exact HF.out
    case measure => simp [intOf]; omega
   ·
    rw [if_neg hf]
    have ho : Hid (widOk ws = false) := decide_eq_false (fun h => hf (h _ HMEM.out))
    have hw : Hid (widW ws = []) := by show _ = _; unfold widW; rw [ho.out]; rfl
    clear hf hlk
    go_wp2_with fail
    go_ret2
    rw [ho.out, hw.out]
    exact ⟨rfl, HB3.out⟩
  ·
   have ek : k = ws.length := by omega
   subst ek
   rw [List.take_length] at HA
   rw [List.take_length]
   have ho : Hid (widOk ws = true) := decide_eq_true HA.out
   have hw : Hid (widW ws = widL ws) := by show _ = _; unfold widW; rw [ho.out]; rfl
   go_wp2_with fail
   go_ret2
   rw [ho.out, hw.out]
   exact ⟨rfl, HB.out⟩
end Go.Proofs.YtjjkhbfimpgplaaGreatDoor.EntW
namespace Go.Proofs.YtjjkhbfimpgplaaGreatDoor.CqW
open Go.RowKit Go.MapKept OctMath DskW SegW MapG CacheW
set_option linter.unusedVariables false
set_option linter.unusedSimpArgs false
set_option maxRecDepth 100000
def newR (db : Nat) (hd : List UInt8) : SegD := ⟨0, db, hd, 200, 0, 0, [], 0, .slice none 0 0⟩
def OpenF (base : Nat) (W : World) (D : DiskD) (db : Nat) (hd : List UInt8) (f : Nat → Value) (v : Value) (w : World) : Prop := ∃ blk pv, v = f blk ∧ Whole base w D ((newR db hd).openR blk pv) ∧ ∀ k, ((newR db hd).openR blk pv).foot k → W.heap.size ≤ k
theorem OpenF.below {base : Nat} {W : World} {D : DiskD} {db : Nat} {hd : List UInt8} {f : Nat → Value} {v : Value} {w w' : World} (h : OpenF base W D db hd f v w) (hb : Below w.heap.size w w') : OpenF base W D db hd f v w' := by
 obtain ⟨blk, pv, h1, h2, h3⟩ := h
 exact ⟨blk, pv, h1, h2.below hb, h3⟩
def DrR (u v : World) : Prop := ∃ n, v = u.drewN n
theorem DrR.refl (w : World) : DrR w w := ⟨0, rfl⟩
theorem DrR.trans {u v w : World} (h : DrR u v) (k : DrR v w) : DrR u w := by obtain ⟨m, rfl⟩ := h; obtain ⟨n, rfl⟩ := k; exact ⟨m + n, World.drewN_drewN ..⟩
set_option maxHeartbeats 3200000 in
theorem next_any {base : Nat} {x : QueD} (w : World) (hx : w.heap[x.blk]? = some (.cells x.cells 113 (0, 0))) (hR : SegAt base w x.R) (hb : x.b0 ≤ 1099511627776) :
 Calls Tryz.prog 44 #[.pointer (some ⟨x.blk, 0, none⟩)] w fun e w' => e = .returned (.int .i64 ((x.b0 + x.R.e / 20 : Nat) : Int)) ∧ Drawn w w' := by
 have c0 : w.cell? ⟨x.blk, 0, none⟩ = some (.pointer (some ⟨x.R.blk, 0, none⟩)) := by rw [Lib.cell_of_heap hx]; rfl
 have c1 : w.cell? ⟨x.blk, 1, none⟩ = some (.int .i64 (x.b0 : Int)) := by rw [Lib.cell_of_heap hx]; rfl
 have HE : Hid (∀ w2, Drawn w w2 → Calls Tryz.prog 31 #[.pointer (some ⟨x.R.blk, 0, none⟩)] w2 fun e w' => e = .returned (.int .i64 (x.R.e : Int)) ∧ w' = w2) := fun w2 hd => SegW.end_any w2 (hR.below (hd.below _))
 have hel := hR.e_le
 clear hx hR
 go_enter Tryz.func44, Tryz.ntmps44
 go_wp2_with fail
 refine GrowN.wp_region_n 12 [none, none, none, none, none, none, none, none, some (.inl (.int .i64 (x.R.e : Int))), some (.inl (.int .i64 ((x.R.e / 20 : Nat) : Int))), some (.inl (.int .i64 ((x.b0 + x.R.e / 20 : Nat) : Int))), none] (DrR) (by kernel_rfl) (by kernel_rfl) (by kernel_rfl) (DrR.refl) (fun _ _ _ => DrR.trans) ?_ ?_
 · exact GrowN.stab0 rfl
 simp only [List.take_succ_cons, List.take_zero, List.drop_succ_cons, List.drop_zero]
 iterate 2
  refine GrowN.g_det rfl ?_
  apply Exists.intro
  refine ⟨fun w hw hF => ?_, ?_⟩
  · clear hF
    go_simp
    exact ⟨rfl, DrR.refl _⟩
  go_frame
  refine GrowN.g_det rfl ?_
  apply Exists.intro
  refine ⟨fun w hw hF => ?_, ?_⟩
  · clear hF
    go_simp
    exact ⟨rfl, DrR.refl _⟩
  go_frame
  refine GrowN.g_det rfl ?_
  apply Exists.intro
  refine ⟨fun w hw hF => ?_, ?_⟩
  · clear hF
    go_simp
    exact ⟨rfl, DrR.refl _⟩
  go_frame
  refine GrowN.g_det rfl ?_
  apply Exists.intro
  refine ⟨fun w hw hF => ?_, ?_⟩
  · clear hF
    obtain ⟨n, rfl⟩ := hw
    go_simp
    exact ⟨rfl, DrR.refl _⟩
  go_frame
 refine GrowN.g_con rfl (fun w hw hF => ?_) ?_
 ·
  clear hF
  obtain ⟨n, rfl⟩ := hw
  go_simp
  exact (HE.out _ ⟨1 + n, by first | rfl | (rw [← World.drewN_drewN]; rfl)⟩).mono fun e w3 h => ⟨_, h.1, rfl, h.2 ▸ DrR.refl _⟩
 iterate 2
  go_frame
  refine GrowN.g_con rfl (fun w hw hF => ?_) ?_
  · clear hF
    go_simp
    exact ⟨by rw [IntWalk.i64_in _ (by omega)], DrR.refl _⟩
 go_frame
 refine GrowN.g_det rfl ?_
 apply Exists.intro
 refine ⟨fun w hw hF => ?_, ?_⟩
 · clear hF
   go_simp
   exact ⟨rfl, DrR.refl _⟩
 go_frame
 refine GrowN.g_nil fun w2 hw2 hF => ?_
 clear hF
 have hd : Drawn w w2 := by
  obtain ⟨n, rfl⟩ := hw2
  exact ⟨1 + n, by rw [← World.drewN_drewN]; rfl⟩
 have HD := Lib.hid hd
 clear hd hw2
 go_wp2_with fail
 go_ret
 exact ⟨rfl, HD.out⟩
end Go.Proofs.YtjjkhbfimpgplaaGreatDoor.CqW
namespace Go.Proofs.YtjjkhbfimpgplaaGreatDoor.StoW
open Go.RowKit Go.MapKept OctMath RecMath RecW TapeMath DskW SegW MapG TapeW PendW CacheW CqW
set_option linter.unusedVariables false
set_option linter.unusedSimpArgs false
set_option maxRecDepth 100000
structure Derivd (base B : Nat) (w w' : World) (D D' : DiskD) (C : CqD) : Prop where
 cq : CqAt base w' C
 qs : C.qs = []
 db : C.db = D.blk
 dsk : DiskAt base w' D'
 grow : Grows D D' [xlinks, xslots, wslots, wmarks] 120 2
 cnew : ∀ k, C.foot k → w.heap.size ≤ k
 dnew : ∀ k, D'.foot k → D.foot k ∨ w.heap.size ≤ k
 away : ∀ k, C.foot k → ¬ D'.foot k
 mod : Mod (fun k => D.foot k ∨ k = B) w w'
set_option maxHeartbeats 6400000 in
theorem derived_q {base B : Nat} {D : DiskD} (v0 v1 v2 v3 v4 v5 v6 v7 v8 v9 v10 : Value) (now : Nat) (hnow : now ≤ 1099511627776) (w : World) (hB : w.heap[B]? = some (.cells #[v0, v1, v2, v3, v4, v5, v6, v7, v8, v9, v10, .int .i64 (now : Int)] 51 (0, 0))) (hBD : ¬ D.foot B)
 (h : DiskAt base w D) (hq : Quiet D) (hf : D.files = []) (hr : 120 ≤ D.room) (hwl : D.waits = []) (hbase : base ≤ w.heap.size) :
 Calls Tryz.prog 65 #[.pointer (some ⟨B, 0, none⟩), .pointer (some ⟨D.blk, 0, none⟩)] w fun e w' => e = .returned (.int .i64 0) ∧ ∃ C D' kb tb, Derivd base B w w' D D' C ∧
  w'.heap[B]? = some (.cells #[v0, .pointer (some ⟨C.blk, 0, none⟩), .pointer (some ⟨kb, 0, none⟩), v3, v4, .pointer (some ⟨tb, 0, none⟩), v6, v7, v8, v9, v10, .int .i64 (now : Int)] 51 (0, 0)) := by
 have HCN := Lib.hid (cqnew_q w h (by rw [hf]; simp) (by rw [hf]; intro p hp; cases hp) (by rw [hf]; intro p hp; cases hp) hbase)
 have HB := Lib.hid hB
 have HBD := Lib.hid hBD
 have HD := Lib.hid h
 have HQ := Lib.hid hq
 have HF := Lib.hid hf
 have HRM := Lib.hid hr
 have HWL := Lib.hid hwl
 have HBS := Lib.hid hbase
 have HNW := Lib.hid hnow
 have hBl := (Array.getElem?_eq_some_iff.1 hB).1
 clear hB hBD h hq hf hr hwl hbase hnow
 go_enter Tryz.func65, Tryz.ntmps65
 go_wp2_with fail
 refine HCN.out.mono ?_
 rintro e w2 ⟨C, rfl, hC, hqs, hdb, hb2, hcn⟩
 have hB2 : w2.heap[B]? = _ := (hb2.block B hBl).trans HB.out
 have f1 := frozen_at hB2 1
 have d1 := cell_at hB2 1 _ rfl
 have hm3 : Mod (fun k => k = B) w2 (w2.setCell ⟨B, 1, none⟩ (.pointer (some ⟨C.blk, 0, none⟩))) := (Mod.refl (fun k => k = B) w2).setCell (.inl rfl) _
 have hB3 := heap_setCell_same w2 B 1 _ _ (.pointer (some ⟨C.blk, 0, none⟩)) hB2
 have HM3 := Lib.hid hm3
 have HB3 := Lib.hid hB3
 have HB2 := Lib.hid hb2
 have HCNEW := Lib.hid hcn
 have hC3 : CqAt base (w2.setCell ⟨B, 1, none⟩ (.pointer (some ⟨C.blk, 0, none⟩))) C := hC.mod hm3 (fun k hk e => by have := hcn k hk; omega)
 have HC3 := Lib.hid hC3
 have hD3 : DiskAt base (w2.setCell ⟨B, 1, none⟩ (.pointer (some ⟨C.blk, 0, none⟩))) D := (HD.out.below hb2).mod hm3 (fun k hk e => HBD.out (e ▸ hk))
 have HD3 := Lib.hid hD3
 have HQS := Lib.hid hqs
 have HDB := Lib.hid hdb
 have HKX := Lib.hid (keyxnew_q _ hD3 HQ.out (by rw [HF.out]; simp) (by rw [HF.out]; intro p hp; cases hp) (by rw [HF.out]; intro p hp; cases hp) (by have := HRM.out; omega) (by rw [HWL.out]; simp) (Nat.le_trans HBS.out (Nat.le_trans hb2.size hm3.size)))
 have hs3 : w2.heap.size ≤ (w2.setCell ⟨B, 1, none⟩ (.pointer (some ⟨C.blk, 0, none⟩))).heap.size := hm3.size
 have HS3 := Lib.hid hs3
 clear hC hqs hdb hb2 hcn hB2 hm3 hB3 hC3 hD3 hs3 HCN
 go_wp2_with fail
 generalize w2.setCell ⟨B, 1, none⟩ (.pointer (some ⟨C.blk, 0, none⟩)) = w3 at *
 refine HKX.out.mono ?_
 rintro e w4 ⟨kb, rfl, hkb, hkn, D1, hD4, hg4, hm4, hf4, hfind4⟩
 have hB4 : w4.heap[B]? = _ := (hm4.block B (Array.getElem?_eq_some_iff.1 HB3.out).1 HBD.out).trans HB3.out
 have f2 := frozen_at hB4 2
 have d2 := cell_at hB4 2 _ rfl
 have hm5 : Mod (fun k => k = B) w4 (w4.setCell ⟨B, 2, none⟩ (.pointer (some ⟨kb, 0, none⟩))) := (Mod.refl (fun k => k = B) w4).setCell (.inl rfl) _
 have hB5 := heap_setCell_same w4 B 2 _ _ (.pointer (some ⟨kb, 0, none⟩)) hB4
 have e11 := cell_at hB5 11 _ rfl
 have hBw3 : B < w3.heap.size := (Array.getElem?_eq_some_iff.1 HB3.out).1
 have hCD : ∀ k, C.foot k → ¬ D.foot k := fun k hk h2 => by have := HCNEW.out k hk; have := HD.out.lt h2; omega
 have hCB : ∀ k, C.foot k → k ≠ B := fun k hk e => by have := HCNEW.out k hk; omega
 have HCD := Lib.hid hCD
 have HCB := Lib.hid hCB
 have hC5 : CqAt base (w4.setCell ⟨B, 2, none⟩ (.pointer (some ⟨kb, 0, none⟩))) C := (HC3.out.mod hm4 hCD).mod hm5 hCB
 have hBD1 : ¬ D1.foot B := fun h2 => by
  rcases (hf4 B h2).1 with h3 | h3
  · exact HBD.out h3
  · omega
 have hD5 : DiskAt base (w4.setCell ⟨B, 2, none⟩ (.pointer (some ⟨kb, 0, none⟩))) D1 := hD4.mod hm5 (fun k hk e => hBD1 (e ▸ hk))
 have hnm : D1.files.map (·.1) = [xlinks, xslots] := by rw [hg4.names, HF.out]; rfl
 have hfl : D1.files.length = 2 := by have := congrArg List.length hnm; rw [List.length_map] at this; exact this
 have hwl1 : D1.waits.length = 1 := by rw [hg4.waits, HWL.out]; rfl
 have HTL := Lib.hid (tlognew_q now HNW.out _ hD5 hg4.quiet (by omega) (fun p hp => by
  have : p.1 ∈ D1.files.map (·.1) := List.mem_map.2 ⟨p, hp, rfl⟩
  rw [hnm] at this
  rcases List.mem_cons.1 this with e | h2
  · rw [e]; decide
  · rcases List.mem_cons.1 h2 with e | h2
    · rw [e]; decide
    · cases h2) (fun x hx => by
  rw [hnm] at hx
  rcases List.mem_cons.1 hx with e | h2
  · rw [e]; rfl
  · rcases List.mem_cons.1 h2 with e | h2
    · rw [e]; rfl
    · cases h2) (by rw [hg4.room]; have := HRM.out; omega) (by omega) (Nat.le_trans HBS.out (Nat.le_trans HB2.out.size (Nat.le_trans HS3.out (Nat.le_trans hm4.size hm5.size)))))
 rw [hg4.blk] at HTL
 have HB5 := Lib.hid hB5
 have HC5 := Lib.hid hC5
 have HD5 := Lib.hid hD5
 have HG4 := Lib.hid hg4
 have HBD1 := Lib.hid hBD1
 have HM4 := Lib.hid hm4
 have HM5 := Lib.hid hm5
 have HF4 := Lib.hid hf4
 clear hB4 hm5 hB5 hCD hCB hC5 hBD1 hD5 hnm hfl hwl1 hD4 hg4 hm4 hf4 hfind4 hkb hkn HKX f1 d1 hBw3
 go_wp2_with fail
 generalize w4.setCell ⟨B, 2, none⟩ (.pointer (some ⟨kb, 0, none⟩)) = w5 at *
 refine HTL.out.mono ?_
 rintro e w6 ⟨tb, wb, rfl, htb, hwb, htn, hwn, htw, D2, hD6, hg6, hm6, hf6, hfind6⟩
 have hB6 : w6.heap[B]? = _ := (hm6.block B (Array.getElem?_eq_some_iff.1 HB5.out).1 HBD1.out).trans HB5.out
 have f5 := frozen_at hB6 5
 have d5 := cell_at hB6 5 _ rfl
 have HB6 := Lib.hid hB6
 have HM6 := Lib.hid hm6
 have HF6 := Lib.hid hf6
 have HG6 := Lib.hid hg6
 have HD6 := Lib.hid hD6
 clear htb hwb htn hwn htw hD6 hg6 hm6 hf6 hfind6 hB6 HTL f2 d2 e11
 go_wp2_with fail
 go_ret
 have hm7 : Mod (fun k => k = B) w6 (w6.setCell ⟨B, 5, none⟩ (.pointer (some ⟨tb, 0, none⟩))) := (Mod.refl (fun k => k = B) w6).setCell (.inl rfl) _
 have g1 : ∀ k, D1.foot k → D.foot k ∨ w3.heap.size ≤ k := fun k hk => (HF4.out k hk).1
 have g2 : ∀ k, D2.foot k → D.foot k ∨ w3.heap.size ≤ k := fun k hk => by
  rcases (HF6.out k hk).1 with h2 | h2
  · exact g1 k h2
  · have := HM4.out.size; have := HM5.out.size; exact .inr (by omega)
 have hCl : ∀ k, C.foot k → k < w3.heap.size := fun k hk => HC3.out.lt hk
 have g3 : ∀ k, C.foot k → ¬ D1.foot k := fun k hk h2 => by
  rcases g1 k h2 with h3 | h3
  · exact HCD.out k hk h3
  · have := hCl k hk; omega
 have g4 : ∀ k, C.foot k → ¬ D2.foot k := fun k hk h2 => by
  rcases g2 k h2 with h3 | h3
  · exact HCD.out k hk h3
  · have := hCl k hk; omega
 have hsz3 : w.heap.size ≤ w3.heap.size := Nat.le_trans HB2.out.size HS3.out
 have hM : Mod (fun k => (D.foot k ∨ k = B) ∨ w.heap.size ≤ k) w w3 := (Mod.of_below (M := fun k => (D.foot k ∨ k = B) ∨ w.heap.size ≤ k) HB2.out).trans (HM3.out.mono fun k _ e => .inl (.inr e))
 have hM2 : Mod (fun k => (D.foot k ∨ k = B) ∨ w.heap.size ≤ k) w3 w6 := ((HM4.out.mono fun k _ e => .inl (.inl e)).trans (HM5.out.mono fun k _ e => .inl (.inr e))).trans (HM6.out.mono fun k _ e => (g1 k e).elim (fun h => .inl (.inl h)) fun h => .inr (by omega))
 have hM3 : Mod (fun k => D.foot k ∨ k = B) w (w6.setCell ⟨B, 5, none⟩ (.pointer (some ⟨tb, 0, none⟩))) := ((hM.trans hM2).trans (hm7.mono fun k _ e => .inl (.inr e))).mono fun k hk e => e.elim (fun h => h) fun h => by omega
 refine ⟨rfl, C, D2, kb, tb, ⟨(HC5.out.mod HM6.out g3).mod hm7 HCB.out, HQS.out, HDB.out, HD6.out.mod hm7 (fun k hk e => ?_), HG4.out.trans HG6.out, HCNEW.out, fun k hk => (g2 k hk).imp (fun h => h) fun h => by omega, g4, hM3⟩, heap_setCell_same _ B 5 _ _ _ HB6.out⟩
 subst e
 rcases g2 _ hk with h3 | h3
 · exact HBD.out h3
 · have := (Array.getElem?_eq_some_iff.1 HB3.out).1; omega
end Go.Proofs.YtjjkhbfimpgplaaGreatDoor.StoW
namespace Go.Proofs.YtjjkhbfimpgplaaGreatDoor.StoW
open Go.RowKit Go.MapKept OctMath RecMath RecW TapeMath DskW SegW MapG TapeW PendW
set_option linter.unusedVariables false
set_option linter.unusedSimpArgs false
set_option maxRecDepth 100000
def notesP (l : List (Nat × Msg)) (all : List (Int × Int × Int)) : List (Int × Int × Int) := l.foldl (fun a p => noteP a (p.1 : Int) p.2) all
theorem heap_mod {M : Nat → Prop} {u v : World} (h : Mod M u v) {b : Nat} {o : Obj} (hb : u.heap[b]? = some o) (hM : ¬ M b) : v.heap[b]? = some o :=
 (h.block b (Array.getElem?_eq_some_iff.1 hb).1 hM).trans hb
theorem heap_below {u v : World} (h : Below u.heap.size u v) {b : Nat} {o : Obj} (hb : u.heap[b]? = some o) : v.heap[b]? = some o :=
 (h.block b (Array.getElem?_eq_some_iff.1 hb).1).trans hb
def OnceG (B s0 : Nat) (o : Nat → Obj) (n : Obj) (u v : World) : Prop := Mod (fun k => k = B) u v ∧ (v.heap[B]? = u.heap[B]? ∨ ∃ b, v.heap[B]? = some (o b) ∧ v.heap[b]? = some n ∧ s0 ≤ b)
theorem OnceG.refl (B s0 : Nat) (o : Nat → Obj) (n : Obj) (w : World) : OnceG B s0 o n w w := ⟨Mod.refl _ _, .inl rfl⟩
theorem OnceG.keep {B s0 : Nat} {o : Nat → Obj} {n : Obj} (hB : B < s0) {u v : World} (h : OnceG B s0 o n u v) {b : Nat} (hb : s0 ≤ b) (hn : u.heap[b]? = some n) : v.heap[b]? = some n := heap_mod h.1 hn (by omega)
theorem OnceG.trans {B s0 : Nat} {o : Nat → Obj} {n : Obj} (hB : B < s0) {u v w : World} (h : OnceG B s0 o n u v) (k : OnceG B s0 o n v w) : OnceG B s0 o n u w :=
 ⟨h.1.trans k.1, k.2.elim (fun e => h.2.elim (fun e2 => .inl (e.trans e2)) fun ⟨b, h1, h2, h3⟩ => .inr ⟨b, e.trans h1, k.keep hB h3 h2, h3⟩) .inr⟩
theorem OnceG.below {B s0 : Nat} {o : Nat → Obj} {n : Obj} {u v : World} (h : Below u.heap.size u v) (hB : B < u.heap.size) : OnceG B s0 o n u v := ⟨Mod.of_below h, .inl (h.block B hB)⟩
def YT (s0 : Nat) (n : Obj) (v : Value) (w : World) : Prop := ∃ b, v = .tuple #[.pointer (some ⟨b, 0, none⟩), .int .i64 0] ∧ w.heap[b]? = some n ∧ s0 ≤ b
def YP (s0 : Nat) (n : Obj) (v : Value) (w : World) : Prop := ∃ b, v = .pointer (some ⟨b, 0, none⟩) ∧ w.heap[b]? = some n ∧ s0 ≤ b
def YS (B s0 : Nat) (o : Nat → Obj) (n : Obj) (w : World) : Prop := ∃ b, w.heap[B]? = some (o b) ∧ w.heap[b]? = some n ∧ s0 ≤ b
theorem notesP_take {l : List (Nat × Msg)} {k : Nat} (h : k < l.length) (all : List (Int × Int × Int)) : notesP (l.take (k + 1)) all = noteP (notesP (l.take k) all) (l[k].1 : Int) l[k].2 := by
 unfold notesP
 rw [List.take_succ_eq_append_getElem h, List.foldl_append]; rfl
set_option maxHeartbeats 12800000 in
theorem replay_any {base B cb kb tb : Nat} {T : TapeD} {P : PendD} (v3 v4 now : Value) (W : World) (hB : W.heap[B]? = some (.cells #[.pointer (some ⟨T.O.blk, 0, none⟩), .pointer (some ⟨cb, 0, none⟩), .pointer (some ⟨kb, 0, none⟩), v3, v4, .pointer (some ⟨tb, 0, none⟩), .pointer (some ⟨P.blk, 0, none⟩), .pointer none, .pointer none, .pointer none, .pointer (some ⟨T.D.blk, 0, none⟩), now] 51 (0, 0))) (h : TapeAt base W T) (hP : PendAt base W P) (haw : (∀ k, T.foot k → k ≠ B ∧ ¬ P.foot k) ∧ ∀ k, P.foot k → k ≠ B)
 (hT : TabB base W) (hbase : base ≤ W.heap.size) (hq : Quiet T.D) (hn : T.D.find TopW.baseN = none) (hl : T.O.recs.length ≤ 1000000) (hk2 : ∀ p ∈ T.O.recs, p.2.kind ≠ 2)
 (hBb : base ≤ B) {M : Nat → Prop} {Post : World → World → Prop} (hMb : ∀ k, M k → base ≤ k) (hM : ∀ k, M k → k < W.heap.size ∧ k ≠ B ∧ ¬ T.foot k ∧ ¬ P.foot k)
 (hall : ∀ (w : World) (b7 : Nat), Mod (fun k => k = B ∨ P.foot k) W w → W.heap.size ≤ b7 → w.heap[b7]? = some (.cells #[.pointer (some ⟨T.O.blk, 0, none⟩), .pointer (some ⟨cb, 0, none⟩), .pointer (some ⟨kb, 0, none⟩), .int .i64 (T.R.b : Int)] 158 (0, 0)) →
  Calls Tryz.prog 19 #[.pointer (some ⟨b7, 0, none⟩)] w fun e w' => ∃ n : Int, e = .returned (.tuple #[.int .i64 n, .int .i64 0]) ∧ Post w w' ∧ Mod (fun k => M k ∨ k = b7) w w')
 (hstab : ∀ w0 w1 w2 b8 b9, Post w0 w1 → W.heap.size ≤ b8 → b8 < w0.heap.size → W.heap.size ≤ b9 → b9 < w0.heap.size → Mod (fun k => k = b8 ∨ k = b9) w1 w2 → Post w0 w2) :
 Calls Tryz.prog 66 #[.pointer (some ⟨B, 0, none⟩)] W fun e w' => e = .returned (.int .i64 0) ∧ ∃ b7 b8 b9 w0, w'.heap[B]? = some (.cells #[.pointer (some ⟨T.O.blk, 0, none⟩), .pointer (some ⟨cb, 0, none⟩), .pointer (some ⟨kb, 0, none⟩), v3, v4, .pointer (some ⟨tb, 0, none⟩), .pointer (some ⟨P.blk, 0, none⟩), .pointer (some ⟨b7, 0, none⟩), .pointer (some ⟨b8, 0, none⟩), .pointer (some ⟨b9, 0, none⟩), .pointer (some ⟨T.D.blk, 0, none⟩), now] 51 (0, 0)) ∧ TapeAt base w' T ∧ PendAt base w' { P with all := notesP T.O.recs P.all } ∧
  Post w0 w' ∧ Mod (fun k => k = B ∨ P.foot k ∨ M k) W w' := by
 have HLD := Lib.hid (TopW.loaded_none W h.whole.dsk hq.up hn)
 have hss : (T.O.recs.map (·.1)).Pairwise (· < ·) := by rw [h.recs]; exact (recs_sorted h.fits).2
 have hp0 : TapeW.placeL T.O.recs 0 = 0 := by
  unfold TapeW.placeL idI
  rw [List.countP_eq_zero]
  intro i hi
  obtain ⟨y, hy, rfl⟩ := List.mem_map.1 hi
  simp
 have HID : Hid (∀ w, Below W.heap.size W w → Calls Tryz.prog 14 #[.pointer (some ⟨T.O.blk, 0, none⟩), .int .i64 0] w fun e w' => ∃ v, e = .returned v ∧ w'.ownsRow w.heap.size 3 1 v T.O.recs.length (idsL T.O.recs) ∧ Below w.heap.size w w') := fun w hb => ids_any 0 w (h.own.below hb) hss (by omega) hp0
 have c10 := cell_at hB 10 _ rfl
 have HB := Lib.hid hB
 have HH := Lib.hid h
 have HP := Lib.hid hP
 have HAW := Lib.hid haw
 have HTB := Lib.hid hT
 have HBS := Lib.hid hbase
 have HQ := Lib.hid hq
 have HL := Lib.hid hl
 have HK2 := Lib.hid hk2
 have HM := Lib.hid hM
 have HALL := Lib.hid hall
 have HMB := Lib.hid hMb
 have HBB := Lib.hid hBb
 have HSTAB := Lib.hid hstab
 have hBl := (Array.getElem?_eq_some_iff.1 hB).1
 clear hMb hBb hB h hP haw hT hbase hq hn hl hk2 hM hall hstab hss hp0
 go_enter Tryz.func66, Tryz.ntmps66
 go_wp2_with fail
 refine HLD.out.mono ?_
 rintro e w2 ⟨rfl, hb⟩
 have HB2 : Hid (Below W.heap.size W (w2.alloc (.cells #[.int .i64 0, .slice none 0 0] 187))) := hb.alloc hb.size _
 clear hb HLD c10
 go_wp2_with fail
 generalize w2.alloc (.cells #[.int .i64 0, .slice none 0 0] 187) = w3 at *
 obtain ⟨wo, hwo⟩ : ∃ wo : World, wo = w3 := ⟨_, rfl⟩
 go_loopw [30] (fun i wr => wr = wo ∧ i = .int .i64 0) (fun _ _ => 0)
 case atStart => exact ⟨hwo.symm, rfl⟩
 case round =>
  obtain ⟨rfl, rfl⟩ := hrel
  subst hwo
  obtain ⟨wA, rfl⟩ : ∃ wA : World, wA = wr := ⟨_, rfl⟩
  have c0 : wA.cell? ⟨B, 0, none⟩ = some (.pointer (some ⟨T.O.blk, 0, none⟩)) := cell_at ((HB2.out.block B hBl).trans HB.out) 0 _ rfl
  have HI := Lib.hid (HID.out wA HB2.out)
  clear HID
  go_wp2_with fail
  refine HI.out.mono ?_
  rintro e w4 ⟨idv, rfl, hrow, hb4⟩
  obtain ⟨ia, ic, hiv⟩ := own_slice hrow
  have HROW := Lib.hid hrow
  have HB4 : Hid (Below W.heap.size W w4) := HB2.out.trans (hb4.mono HB2.out.size)
  have HIV := Lib.hid hiv
  rw [hiv]
  clear hrow hb4 HI c0 hiv
  go_wp2_with fail
  generalize w2.heap.size = g2 at *
  go_loopw [55] (fun i wl => ∃ k : Nat, k ≤ T.O.recs.length ∧ i = .int .i64 (k : Int) ∧ Hid (PendAt base wl { P with all := notesP (T.O.recs.take k) P.all } ∧ Mod P.foot w4 wl)) (fun i _ => T.O.recs.length - (intOf i).toNat)
  case atStart => exact ⟨0, Nat.zero_le _, rfl, HP.out.below HB4.out, Mod.refl _ _⟩
  case round =>
   obtain ⟨k, hk, rfl, HS⟩ := hrel
   have hl := HL.out
   have hmw : Mod P.foot W wr := (Mod.of_below (M := P.foot) HB4.out).trans HS.out.2
   have HMW := Lib.hid hmw
   have hTr : TapeAt base wr T := HH.out.mod hmw (fun j hj => (HAW.out.1 j hj).2)
   have HTR := Lib.hid hTr
   have hBr : wr.heap[B]? = _ := (hmw.block B hBl (fun h2 => HAW.out.2 B h2 rfl)).trans HB.out
   have HBR := Lib.hid hBr
   have c0 : wr.cell? ⟨B, 0, none⟩ = some (.pointer (some ⟨T.O.blk, 0, none⟩)) := cell_at hBr 0 _ rfl
   clear hBr hmw
   by_cases hlt : k < T.O.recs.length
   ·
    obtain ⟨g, cap, hgv, hgc, hcell⟩ := own_cell (SegW.ownsRow_mod HROW.out HS.out.2 (fun j hj h2 => by have h3 := ownBlock_of_own HROW.out j hj; have h4 := HP.out.lt h2; have := HB2.out.size; omega)) k hlt (.int .i64 (T.O.recs[k].1 : Int)) (by unfold idsL; rw [List.getElem?_map, List.getElem?_eq_getElem hlt]; rfl)
    rw [HIV.out] at hgv
    injection hgv with e1 e2 e3
    subst e1 e3
    obtain ⟨⟨id, m⟩, hid⟩ : ∃ p, p = T.O.recs[k] := ⟨_, rfl⟩
    have hmem : (id, m) ∈ T.O.recs := by rw [hid]; exact List.getElem_mem hlt
    rw [← hid] at hcell
    have hid1 : T.O.recs[k].1 = id := by rw [← hid]
    have hid2 : T.O.recs[k].2 = m := by rw [← hid]
    have HTK : Hid (notesP (T.O.recs.take (k + 1)) P.all = noteP (notesP (T.O.recs.take k) P.all) (id : Int) m) := by
     show _ = _
     rw [notesP_take hlt, hid1, hid2]
    have HRD := Lib.hid (tread_any id m wr hTr HQ.out.up (HTB.out.mod HMW.out (fun j hj => hj.elim (fun e => e ▸ HP.out.low.1) fun e => e ▸ HP.out.low.2)) (Nat.le_trans HBS.out HMW.out.size) hmem)
    have hcell' : wr.cell? ⟨g, k, none⟩ = some (.int .i64 (id : Int)) := hcell
    clear hid hcell hid1 hid2 hmem hTr
    generalize notesP (T.O.recs.take k) P.all = al at *
    generalize hnl : T.O.recs.length = nl at *
    go_wp2_with fail
    refine HRD.out.mono ?_
    rintro e w5 ⟨a, c, rfl, hst, hb5, _⟩
    rw [show cellsM m a c = #[.int .i64 m.kind, .int .i64 m.queue, .int .i64 m.due, .int .i64 m.retry, .int .i64 m.ref, .int .i64 m.born, .string (S m.topic), .string (S m.tag), .string (S m.body), .slice a m.keys.length c] from rfl]
    have HB5 := Lib.hid hb5
    clear HRD hb5 hst c0 hcell'
    go_wp2_with fail
    have hb6 : Below wr.heap.size wr (w5.alloc (.cells #[.int .i64 m.kind, .int .i64 m.queue, .int .i64 m.due, .int .i64 m.retry, .int .i64 m.ref, .int .i64 m.born, .string (S m.topic), .string (S m.tag), .string (S m.body), .slice a m.keys.length c] 56)) := HB5.out.alloc HB5.out.size _
    have HX6 : Hid (RecW.Boxed (w5.alloc (.cells #[.int .i64 m.kind, .int .i64 m.queue, .int .i64 m.due, .int .i64 m.retry, .int .i64 m.ref, .int .i64 m.born, .string (S m.topic), .string (S m.tag), .string (S m.body), .slice a m.keys.length c] 56)) w5.heap.size #[.int .i64 m.kind, .int .i64 m.queue, .int .i64 m.due, .int .i64 m.retry, .int .i64 m.ref, .int .i64 m.born, .string (S m.topic), .string (S m.tag), .string (S m.body), .slice a m.keys.length c]) := RecW.Boxed.new w5 _ _
    generalize w5.alloc (.cells #[.int .i64 m.kind, .int .i64 m.queue, .int .i64 m.due, .int .i64 m.retry, .int .i64 m.ref, .int .i64 m.born, .string (S m.topic), .string (S m.tag), .string (S m.body), .slice a m.keys.length c] 56) = w6 at *
    generalize w5.heap.size = A at *
    have HB6 := Lib.hid hb6
    have d6 : w6.cell? ⟨B, 6, none⟩ = some (.pointer (some ⟨P.blk, 0, none⟩)) := by
     rw [hb6.cell (Array.getElem?_eq_some_iff.1 HBR.out).1]; exact cell_at HBR.out 6 _ rfl
    have HNT := Lib.hid (note_any (id : Int) m a c w6.drew ((HS.out.1.below hb6).below ((Below.refl _ w6).drew)))
    rw [show cellsM m a c = #[.int .i64 m.kind, .int .i64 m.queue, .int .i64 m.due, .int .i64 m.retry, .int .i64 m.ref, .int .i64 m.born, .string (S m.topic), .string (S m.tag), .string (S m.body), .slice a m.keys.length c] from rfl] at HNT
    obtain ⟨k0, k1, k2, k3, k4, k5, k6, k7, k8, k9⟩ := RecW.ten_cells HX6.out
    clear hb6
    refine GrowM.wp_region_s (by kernel_rfl) ?_
    refine GrowM.st_grow 6 [none, none, none, none, none, none] (fun u v => v = u) (by kernel_rfl) (by kernel_rfl) (fun _ => rfl) (fun _ _ _ h k => k.trans h) ?_ ?_
    · exact GrowN.stab0 rfl
    simp only [List.take_succ_cons, List.take_zero, List.drop_succ_cons, List.drop_zero, Nat.reduceSub]
    iterate 6
     refine GrowN.g_det rfl ?_
     apply Exists.intro
     refine ⟨fun w hw hF => ?_, ?_⟩
     · obtain rfl := hw.symm
       clear hF
       go_simp
       first | exact rfl | exact ⟨rfl, rfl⟩
     go_frame
    refine GrowN.g_nil fun wz hwz hF => ?_
    obtain rfl := hwz.symm
    clear hF
    refine GrowM.st_call (fun v w' => PendAt base w' { P with all := noteP al (id : Int) m } ∧ Mod (fun k => k = P.mB) w6.drew w') (by kernel_rfl) rfl rfl ?_ ?_
    · go_simp
      refine HNT.out.mono ?_
      rintro e w' ⟨v, rfl, hb⟩
      first | exact ⟨⟨_, rfl⟩, hb⟩ | exact ⟨_, hb⟩
    rintro v w7 hb
    go_frame
    refine GrowM.st_end rfl ?_
    have HP7 := Lib.hid hb
    clear hb HNT k0 k1 k2 k3 k4 k5 k6 k7 k8 k9 d6
    go_wp2_with fail
    go_roundw
    case rel =>
     refine ⟨k + 1, by omega, by go_num, ?_, ?_⟩
     · rw [HTK.out]; exact HP7.out.1
     · exact (HS.out.2.trans (Mod.of_below (M := P.foot) (HB6.out.drew))).trans (HP7.out.2.mono fun j _ e => .inr e)
    case measure => simp [intOf]; omega
   ·
    have hkn : k = T.O.recs.length := by omega
    subst hkn
    rw [List.take_length] at HS
    have HM0 : Hid (Mod (fun k => k = B ∨ P.foot k) W wr) := HMW.out.mono fun k _ e => .inr e
    have HPW : Hid (PendAt base wr { P with all := notesP T.O.recs P.all }) := HS.out.1
    clear HS HROW HIV c0
    have hBl19 : B < wr.heap.size := (Array.getElem?_eq_some_iff.1 HBR.out).1
    have HCC : Hid (∀ w, OnceG B wr.heap.size (fun b => .cells #[.pointer (some ⟨T.O.blk, 0, none⟩), .pointer (some ⟨cb, 0, none⟩), .pointer (some ⟨kb, 0, none⟩), v3, v4, .pointer (some ⟨tb, 0, none⟩), .pointer (some ⟨P.blk, 0, none⟩), .pointer (some ⟨b, 0, none⟩), .pointer none, .pointer none, .pointer (some ⟨T.D.blk, 0, none⟩), now] 51 (0, 0)) (.cells #[.pointer (some ⟨T.O.blk, 0, none⟩), .pointer (some ⟨cb, 0, none⟩), .pointer (some ⟨kb, 0, none⟩), .int .i64 (T.R.b : Int)] 158 (0, 0)) wr.drew w → w.cell? ⟨B, 0, none⟩ = some (.pointer (some ⟨T.O.blk, 0, none⟩)) ∧ w.cell? ⟨B, 1, none⟩ = some (.pointer (some ⟨cb, 0, none⟩)) ∧ w.cell? ⟨B, 2, none⟩ = some (.pointer (some ⟨kb, 0, none⟩))) := fun w hw => by
     rcases hw.2 with e | ⟨b, e, _⟩
     · have hb := e.trans (show wr.drew.heap[B]? = _ from HBR.out)
       exact ⟨cell_at hb 0 _ rfl, cell_at hb 1 _ rfl, cell_at hb 2 _ rfl⟩
     · exact ⟨cell_at e 0 _ rfl, cell_at e 1 _ rfl, cell_at e 2 _ rfl⟩
    have HNEW : Hid (∀ w, OnceG B wr.heap.size (fun b => .cells #[.pointer (some ⟨T.O.blk, 0, none⟩), .pointer (some ⟨cb, 0, none⟩), .pointer (some ⟨kb, 0, none⟩), v3, v4, .pointer (some ⟨tb, 0, none⟩), .pointer (some ⟨P.blk, 0, none⟩), .pointer (some ⟨b, 0, none⟩), .pointer none, .pointer none, .pointer (some ⟨T.D.blk, 0, none⟩), now] 51 (0, 0)) (.cells #[.pointer (some ⟨T.O.blk, 0, none⟩), .pointer (some ⟨cb, 0, none⟩), .pointer (some ⟨kb, 0, none⟩), .int .i64 (T.R.b : Int)] 158 (0, 0)) wr.drew w → Calls Tryz.prog 118 #[.pointer (some ⟨T.O.blk, 0, none⟩), .pointer (some ⟨cb, 0, none⟩), .pointer (some ⟨kb, 0, none⟩)] w fun e w' => ∃ b, e = .returned (.tuple #[.pointer (some ⟨b, 0, none⟩), .int .i64 0]) ∧ w'.heap[b]? = some (.cells #[.pointer (some ⟨T.O.blk, 0, none⟩), .pointer (some ⟨cb, 0, none⟩), .pointer (some ⟨kb, 0, none⟩), .int .i64 (T.R.b : Int)] 158 (0, 0)) ∧ wr.heap.size ≤ b ∧ OnceG B wr.heap.size (fun b => .cells #[.pointer (some ⟨T.O.blk, 0, none⟩), .pointer (some ⟨cb, 0, none⟩), .pointer (some ⟨kb, 0, none⟩), v3, v4, .pointer (some ⟨tb, 0, none⟩), .pointer (some ⟨P.blk, 0, none⟩), .pointer (some ⟨b, 0, none⟩), .pointer none, .pointer none, .pointer (some ⟨T.D.blk, 0, none⟩), now] 51 (0, 0)) (.cells #[.pointer (some ⟨T.O.blk, 0, none⟩), .pointer (some ⟨cb, 0, none⟩), .pointer (some ⟨kb, 0, none⟩), .int .i64 (T.R.b : Int)] 158 (0, 0)) w w') := fun w hw =>
     (dispnew_any cb kb w ((HTR.out.below ((Below.refl _ wr).drew)).mod hw.1 (fun j hj => (HAW.out.1 j hj).1))).mono fun e w' ⟨b, h1, h2⟩ => ⟨b, h1, h2.cells, Nat.le_trans hw.1.size h2.new, OnceG.below h2.below (Nat.lt_of_lt_of_le hBl19 hw.1.size)⟩
    go_upto_region 19 with fail
    refine GrowN.wp_region_n 20 [none, none, none, none, none, none, none, none, none, none, none, none, none, some (.inr (fun _ => YT wr.heap.size (.cells #[.pointer (some ⟨T.O.blk, 0, none⟩), .pointer (some ⟨cb, 0, none⟩), .pointer (some ⟨kb, 0, none⟩), .int .i64 (T.R.b : Int)] 158 (0, 0)))), some (.inr (fun _ => YT wr.heap.size (.cells #[.pointer (some ⟨T.O.blk, 0, none⟩), .pointer (some ⟨cb, 0, none⟩), .pointer (some ⟨kb, 0, none⟩), .int .i64 (T.R.b : Int)] 158 (0, 0)))), some (.inr (fun _ => YP wr.heap.size (.cells #[.pointer (some ⟨T.O.blk, 0, none⟩), .pointer (some ⟨cb, 0, none⟩), .pointer (some ⟨kb, 0, none⟩), .int .i64 (T.R.b : Int)] 158 (0, 0)))), some (.inl (.int .i64 0)), none, none, some (.inr (fun _ _ => YS B wr.heap.size (fun b => .cells #[.pointer (some ⟨T.O.blk, 0, none⟩), .pointer (some ⟨cb, 0, none⟩), .pointer (some ⟨kb, 0, none⟩), v3, v4, .pointer (some ⟨tb, 0, none⟩), .pointer (some ⟨P.blk, 0, none⟩), .pointer (some ⟨b, 0, none⟩), .pointer none, .pointer none, .pointer (some ⟨T.D.blk, 0, none⟩), now] 51 (0, 0)) (.cells #[.pointer (some ⟨T.O.blk, 0, none⟩), .pointer (some ⟨cb, 0, none⟩), .pointer (some ⟨kb, 0, none⟩), .int .i64 (T.R.b : Int)] 158 (0, 0))))] (OnceG B wr.heap.size (fun b => .cells #[.pointer (some ⟨T.O.blk, 0, none⟩), .pointer (some ⟨cb, 0, none⟩), .pointer (some ⟨kb, 0, none⟩), v3, v4, .pointer (some ⟨tb, 0, none⟩), .pointer (some ⟨P.blk, 0, none⟩), .pointer (some ⟨b, 0, none⟩), .pointer none, .pointer none, .pointer (some ⟨T.D.blk, 0, none⟩), now] 51 (0, 0)) (.cells #[.pointer (some ⟨T.O.blk, 0, none⟩), .pointer (some ⟨cb, 0, none⟩), .pointer (some ⟨kb, 0, none⟩), .int .i64 (T.R.b : Int)] 158 (0, 0))) (by kernel_rfl) (by kernel_rfl) (by kernel_rfl) (OnceG.refl _ _ _ _) (fun _ _ _ => OnceG.trans hBl19) ?_ ?_
    · intro K hK Y hY l v w w' hR
      simp only [List.mem_cons, List.not_mem_nil, or_false] at hK
      rcases hK with rfl | rfl | rfl | rfl | rfl | rfl | rfl | rfl | rfl | rfl | rfl | rfl | rfl | rfl | rfl | rfl | rfl | rfl | rfl | rfl <;> simp only [reduceCtorEq, Option.some.injEq, Sum.inr.injEq] at hY
      iterate 3
       · subst hY; exact fun ⟨b, h1, h2, h3⟩ => ⟨b, h1, OnceG.keep hBl19 hR h3 h2, h3⟩
      · subst hY; exact fun ⟨b, h1, h2, h3⟩ => hR.2.elim (fun e => ⟨b, e.trans h1, OnceG.keep hBl19 hR h3 h2, h3⟩) fun h => h
    simp only [List.take_succ_cons, List.take_zero, List.drop_succ_cons, List.drop_zero]
    iterate 4
     refine GrowN.g_det rfl ?_
     apply Exists.intro
     refine ⟨fun w hw hF => ?_, ?_⟩
     · clear hF
       go_simp
       exact ⟨rfl, OnceG.refl _ _ _ _ _⟩
     go_frame
    iterate 2
     refine GrowN.g_det rfl ?_
     apply Exists.intro
     refine ⟨fun w hw hF => ?_, ?_⟩
     · clear hF
       have hc := (HCC.out w hw)
       obtain ⟨e0, e1, e2⟩ := hc
       go_simp
       exact ⟨rfl, OnceG.refl _ _ _ _ _⟩
     go_frame
     refine GrowN.g_det rfl ?_
     apply Exists.intro
     refine ⟨fun w hw hF => ?_, ?_⟩
     · clear hF
       go_simp
       exact ⟨rfl, OnceG.refl _ _ _ _ _⟩
     go_frame
     refine GrowN.g_det rfl ?_
     apply Exists.intro
     refine ⟨fun w hw hF => ?_, ?_⟩
     · clear hF
       go_simp
       exact ⟨rfl, OnceG.refl _ _ _ _ _⟩
     go_frame
     refine GrowN.g_det rfl ?_
     apply Exists.intro
     refine ⟨fun w hw hF => ?_, ?_⟩
     · clear hF
       go_simp
       exact ⟨rfl, OnceG.refl _ _ _ _ _⟩
     go_frame
    refine GrowN.g_det rfl ?_
    apply Exists.intro
    refine ⟨fun w hw hF => ?_, ?_⟩
    · clear hF
      have hc := (HCC.out w hw)
      obtain ⟨e0, e1, e2⟩ := hc
      go_simp
      exact ⟨rfl, OnceG.refl _ _ _ _ _⟩
    go_frame
    refine GrowN.g_new rfl (fun w hw hF => ?_) (fun v13 => ?_)
    · clear hF
      go_simp
      exact (HNEW.out w hw).mono fun e w' ⟨b, h1, h2, h3, h4⟩ => ⟨_, h1, ⟨b, rfl, h2, h3⟩, h4⟩
    go_frame
    refine GrowN.g_new rfl (fun w hw hF => ?_) (fun v14 => ?_)
    · skip
      obtain ⟨b, rfl, h2, h3⟩ := hF _ (.head _) (by kernel_rfl)
      clear hF
      go_simp
      exact ⟨⟨b, rfl, h2, h3⟩, OnceG.refl _ _ _ _ _⟩
    go_frame
    refine GrowN.g_new rfl (fun w hw hF => ?_) (fun v15 => ?_)
    · skip
      obtain ⟨b, rfl, h2, h3⟩ := hF _ (.head _) (by kernel_rfl)
      clear hF
      go_simp
      exact ⟨⟨b, rfl, h2, h3⟩, OnceG.refl _ _ _ _ _⟩
    go_frame
    refine GrowN.g_con rfl (fun w hw hF => ?_) ?_
    · obtain ⟨b, rfl, h2, h3⟩ := hF _ (.tail _ (.head _)) (by kernel_rfl)
      clear hF
      go_simp
      exact OnceG.refl _ _ _ _ _
    iterate 2
     go_frame
     refine GrowN.g_det rfl ?_
     apply Exists.intro
     refine ⟨fun w hw hF => ?_, ?_⟩
     · clear hF
       go_simp
       exact ⟨rfl, OnceG.refl _ _ _ _ _⟩
    go_frame
    refine GrowN.g_new rfl (fun w hw hF => ?_) (fun vS => ?_)
    ·
     obtain ⟨b, rfl, h2, h3⟩ := hF _ (.head _) (by kernel_rfl)
     clear hF
     rcases hw.2 with e | ⟨b', e, _⟩
     · have hBw := e.trans (show wr.drew.heap[B]? = _ from HBR.out)
       have fz := frozen_at hBw 7
       have dz := cell_at hBw 7 _ rfl
       go_simp
       have hs := heap_setCell_same w B 7 _ _ (.pointer (some ⟨b, 0, none⟩)) hBw
       have hm : Mod (fun k => k = B) w (w.setCell ⟨B, 7, none⟩ (.pointer (some ⟨b, 0, none⟩))) := (Mod.refl (fun k => k = B) w).setCell (.inl rfl) _
       exact ⟨⟨b, hs, heap_mod hm h2 (by omega), h3⟩, hm, .inr ⟨b, hs, heap_mod hm h2 (by omega), h3⟩⟩
     · have hBw := e
       have fz := frozen_at hBw 7
       have dz := cell_at hBw 7 _ rfl
       go_simp
       have hs := heap_setCell_same w B 7 _ _ (.pointer (some ⟨b, 0, none⟩)) hBw
       have hm : Mod (fun k => k = B) w (w.setCell ⟨B, 7, none⟩ (.pointer (some ⟨b, 0, none⟩))) := (Mod.refl (fun k => k = B) w).setCell (.inl rfl) _
       exact ⟨⟨b, hs, heap_mod hm h2 (by omega), h3⟩, hm, .inr ⟨b, hs, heap_mod hm h2 (by omega), h3⟩⟩
    go_frame
    refine GrowN.g_nil fun w19 hwz hF => ?_
    obtain ⟨b7, hBw19, hNb7, hnb7⟩ := hF _ (.head _)
    clear hF
    have hmw19 : Mod (fun k => k = B) wr w19 := (Mod.of_below (M := fun k => k = B) ((Below.refl wr.heap.size wr).drew)).trans hwz.1
    have HMZw19 := Lib.hid hmw19
    have HNCb7 := Lib.hid hNb7
    have HNNb7 := Lib.hid hnb7
    have HM19 : Hid (Mod (fun k => k = B ∨ P.foot k) W w19) := HM0.out.trans (hmw19.mono fun k _ e => .inl e)
    have HB19 : Hid (w19.heap[B]? = _) := hBw19
    have HT19 : Hid (TapeAt base w19 T) := HTR.out.mod hmw19 (fun j hj => (HAW.out.1 j hj).1)
    have HP19 : Hid (PendAt base w19 { P with all := notesP T.O.recs P.all }) := HPW.out.mod hmw19 (fun j hj => HAW.out.2 j hj)
    have HG7 : Hid (W.heap.size ≤ b7) := Nat.le_trans HM0.out.size hnb7
    clear hwz hBw19 hmw19 hNb7 hnb7 HCC HNEW vS
    have hBl20 : B < w19.heap.size := (Array.getElem?_eq_some_iff.1 HB19.out).1
    have HCC : Hid (∀ w, OnceG B w19.heap.size (fun b => .cells #[.pointer (some ⟨T.O.blk, 0, none⟩), .pointer (some ⟨cb, 0, none⟩), .pointer (some ⟨kb, 0, none⟩), v3, v4, .pointer (some ⟨tb, 0, none⟩), .pointer (some ⟨P.blk, 0, none⟩), .pointer (some ⟨b7, 0, none⟩), .pointer (some ⟨b, 0, none⟩), .pointer none, .pointer (some ⟨T.D.blk, 0, none⟩), now] 51 (0, 0)) (.cells #[.pointer (some ⟨T.O.blk, 0, none⟩), .pointer (some ⟨P.blk, 0, none⟩), .pointer (some ⟨tb, 0, none⟩), .int .i64 (T.R.b : Int), .slice none 0 0] 276 (0, 0)) w19.drew w → w.cell? ⟨B, 0, none⟩ = some (.pointer (some ⟨T.O.blk, 0, none⟩)) ∧ w.cell? ⟨B, 6, none⟩ = some (.pointer (some ⟨P.blk, 0, none⟩)) ∧ w.cell? ⟨B, 5, none⟩ = some (.pointer (some ⟨tb, 0, none⟩))) := fun w hw => by
     rcases hw.2 with e | ⟨b, e, _⟩
     · have hb := e.trans (show w19.drew.heap[B]? = _ from HB19.out)
       exact ⟨cell_at hb 0 _ rfl, cell_at hb 6 _ rfl, cell_at hb 5 _ rfl⟩
     · exact ⟨cell_at e 0 _ rfl, cell_at e 6 _ rfl, cell_at e 5 _ rfl⟩
    have HNEW : Hid (∀ w, OnceG B w19.heap.size (fun b => .cells #[.pointer (some ⟨T.O.blk, 0, none⟩), .pointer (some ⟨cb, 0, none⟩), .pointer (some ⟨kb, 0, none⟩), v3, v4, .pointer (some ⟨tb, 0, none⟩), .pointer (some ⟨P.blk, 0, none⟩), .pointer (some ⟨b7, 0, none⟩), .pointer (some ⟨b, 0, none⟩), .pointer none, .pointer (some ⟨T.D.blk, 0, none⟩), now] 51 (0, 0)) (.cells #[.pointer (some ⟨T.O.blk, 0, none⟩), .pointer (some ⟨P.blk, 0, none⟩), .pointer (some ⟨tb, 0, none⟩), .int .i64 (T.R.b : Int), .slice none 0 0] 276 (0, 0)) w19.drew w → Calls Tryz.prog 119 #[.pointer (some ⟨T.O.blk, 0, none⟩), .pointer (some ⟨P.blk, 0, none⟩), .pointer (some ⟨tb, 0, none⟩)] w fun e w' => ∃ b, e = .returned (.tuple #[.pointer (some ⟨b, 0, none⟩), .int .i64 0]) ∧ w'.heap[b]? = some (.cells #[.pointer (some ⟨T.O.blk, 0, none⟩), .pointer (some ⟨P.blk, 0, none⟩), .pointer (some ⟨tb, 0, none⟩), .int .i64 (T.R.b : Int), .slice none 0 0] 276 (0, 0)) ∧ w19.heap.size ≤ b ∧ OnceG B w19.heap.size (fun b => .cells #[.pointer (some ⟨T.O.blk, 0, none⟩), .pointer (some ⟨cb, 0, none⟩), .pointer (some ⟨kb, 0, none⟩), v3, v4, .pointer (some ⟨tb, 0, none⟩), .pointer (some ⟨P.blk, 0, none⟩), .pointer (some ⟨b7, 0, none⟩), .pointer (some ⟨b, 0, none⟩), .pointer none, .pointer (some ⟨T.D.blk, 0, none⟩), now] 51 (0, 0)) (.cells #[.pointer (some ⟨T.O.blk, 0, none⟩), .pointer (some ⟨P.blk, 0, none⟩), .pointer (some ⟨tb, 0, none⟩), .int .i64 (T.R.b : Int), .slice none 0 0] 276 (0, 0)) w w') := fun w hw =>
     (enqnew_any P.blk tb w ((HT19.out.below ((Below.refl _ w19).drew)).mod hw.1 (fun j hj => (HAW.out.1 j hj).1))).mono fun e w' ⟨b, h1, h2⟩ => ⟨b, h1, h2.cells, Nat.le_trans hw.1.size h2.new, OnceG.below h2.below (Nat.lt_of_lt_of_le hBl20 hw.1.size)⟩
    go_upto_region 20 with fail
    refine GrowN.wp_region_n 20 [none, none, none, none, none, none, none, none, none, none, none, none, none, some (.inr (fun _ => YT w19.heap.size (.cells #[.pointer (some ⟨T.O.blk, 0, none⟩), .pointer (some ⟨P.blk, 0, none⟩), .pointer (some ⟨tb, 0, none⟩), .int .i64 (T.R.b : Int), .slice none 0 0] 276 (0, 0)))), some (.inr (fun _ => YT w19.heap.size (.cells #[.pointer (some ⟨T.O.blk, 0, none⟩), .pointer (some ⟨P.blk, 0, none⟩), .pointer (some ⟨tb, 0, none⟩), .int .i64 (T.R.b : Int), .slice none 0 0] 276 (0, 0)))), some (.inr (fun _ => YP w19.heap.size (.cells #[.pointer (some ⟨T.O.blk, 0, none⟩), .pointer (some ⟨P.blk, 0, none⟩), .pointer (some ⟨tb, 0, none⟩), .int .i64 (T.R.b : Int), .slice none 0 0] 276 (0, 0)))), some (.inl (.int .i64 0)), none, none, some (.inr (fun _ _ => YS B w19.heap.size (fun b => .cells #[.pointer (some ⟨T.O.blk, 0, none⟩), .pointer (some ⟨cb, 0, none⟩), .pointer (some ⟨kb, 0, none⟩), v3, v4, .pointer (some ⟨tb, 0, none⟩), .pointer (some ⟨P.blk, 0, none⟩), .pointer (some ⟨b7, 0, none⟩), .pointer (some ⟨b, 0, none⟩), .pointer none, .pointer (some ⟨T.D.blk, 0, none⟩), now] 51 (0, 0)) (.cells #[.pointer (some ⟨T.O.blk, 0, none⟩), .pointer (some ⟨P.blk, 0, none⟩), .pointer (some ⟨tb, 0, none⟩), .int .i64 (T.R.b : Int), .slice none 0 0] 276 (0, 0))))] (OnceG B w19.heap.size (fun b => .cells #[.pointer (some ⟨T.O.blk, 0, none⟩), .pointer (some ⟨cb, 0, none⟩), .pointer (some ⟨kb, 0, none⟩), v3, v4, .pointer (some ⟨tb, 0, none⟩), .pointer (some ⟨P.blk, 0, none⟩), .pointer (some ⟨b7, 0, none⟩), .pointer (some ⟨b, 0, none⟩), .pointer none, .pointer (some ⟨T.D.blk, 0, none⟩), now] 51 (0, 0)) (.cells #[.pointer (some ⟨T.O.blk, 0, none⟩), .pointer (some ⟨P.blk, 0, none⟩), .pointer (some ⟨tb, 0, none⟩), .int .i64 (T.R.b : Int), .slice none 0 0] 276 (0, 0))) (by kernel_rfl) (by kernel_rfl) (by kernel_rfl) (OnceG.refl _ _ _ _) (fun _ _ _ => OnceG.trans hBl20) ?_ ?_
    · intro K hK Y hY l v w w' hR
      simp only [List.mem_cons, List.not_mem_nil, or_false] at hK
      rcases hK with rfl | rfl | rfl | rfl | rfl | rfl | rfl | rfl | rfl | rfl | rfl | rfl | rfl | rfl | rfl | rfl | rfl | rfl | rfl | rfl <;> simp only [reduceCtorEq, Option.some.injEq, Sum.inr.injEq] at hY
      iterate 3
       · subst hY; exact fun ⟨b, h1, h2, h3⟩ => ⟨b, h1, OnceG.keep hBl20 hR h3 h2, h3⟩
      · subst hY; exact fun ⟨b, h1, h2, h3⟩ => hR.2.elim (fun e => ⟨b, e.trans h1, OnceG.keep hBl20 hR h3 h2, h3⟩) fun h => h
    simp only [List.take_succ_cons, List.take_zero, List.drop_succ_cons, List.drop_zero]
    iterate 4
     refine GrowN.g_det rfl ?_
     apply Exists.intro
     refine ⟨fun w hw hF => ?_, ?_⟩
     · clear hF
       go_simp
       exact ⟨rfl, OnceG.refl _ _ _ _ _⟩
     go_frame
    iterate 2
     refine GrowN.g_det rfl ?_
     apply Exists.intro
     refine ⟨fun w hw hF => ?_, ?_⟩
     · clear hF
       have hc := (HCC.out w hw)
       obtain ⟨e0, e6, e5⟩ := hc
       go_simp
       exact ⟨rfl, OnceG.refl _ _ _ _ _⟩
     go_frame
     refine GrowN.g_det rfl ?_
     apply Exists.intro
     refine ⟨fun w hw hF => ?_, ?_⟩
     · clear hF
       go_simp
       exact ⟨rfl, OnceG.refl _ _ _ _ _⟩
     go_frame
     refine GrowN.g_det rfl ?_
     apply Exists.intro
     refine ⟨fun w hw hF => ?_, ?_⟩
     · clear hF
       go_simp
       exact ⟨rfl, OnceG.refl _ _ _ _ _⟩
     go_frame
     refine GrowN.g_det rfl ?_
     apply Exists.intro
     refine ⟨fun w hw hF => ?_, ?_⟩
     · clear hF
       go_simp
       exact ⟨rfl, OnceG.refl _ _ _ _ _⟩
     go_frame
    refine GrowN.g_det rfl ?_
    apply Exists.intro
    refine ⟨fun w hw hF => ?_, ?_⟩
    · clear hF
      have hc := (HCC.out w hw)
      obtain ⟨e0, e6, e5⟩ := hc
      go_simp
      exact ⟨rfl, OnceG.refl _ _ _ _ _⟩
    go_frame
    refine GrowN.g_new rfl (fun w hw hF => ?_) (fun v13 => ?_)
    · clear hF
      go_simp
      exact (HNEW.out w hw).mono fun e w' ⟨b, h1, h2, h3, h4⟩ => ⟨_, h1, ⟨b, rfl, h2, h3⟩, h4⟩
    go_frame
    refine GrowN.g_new rfl (fun w hw hF => ?_) (fun v14 => ?_)
    · skip
      obtain ⟨b, rfl, h2, h3⟩ := hF _ (.head _) (by kernel_rfl)
      clear hF
      go_simp
      exact ⟨⟨b, rfl, h2, h3⟩, OnceG.refl _ _ _ _ _⟩
    go_frame
    refine GrowN.g_new rfl (fun w hw hF => ?_) (fun v15 => ?_)
    · skip
      obtain ⟨b, rfl, h2, h3⟩ := hF _ (.head _) (by kernel_rfl)
      clear hF
      go_simp
      exact ⟨⟨b, rfl, h2, h3⟩, OnceG.refl _ _ _ _ _⟩
    go_frame
    refine GrowN.g_con rfl (fun w hw hF => ?_) ?_
    · obtain ⟨b, rfl, h2, h3⟩ := hF _ (.tail _ (.head _)) (by kernel_rfl)
      clear hF
      go_simp
      exact OnceG.refl _ _ _ _ _
    iterate 2
     go_frame
     refine GrowN.g_det rfl ?_
     apply Exists.intro
     refine ⟨fun w hw hF => ?_, ?_⟩
     · clear hF
       go_simp
       exact ⟨rfl, OnceG.refl _ _ _ _ _⟩
    go_frame
    refine GrowN.g_new rfl (fun w hw hF => ?_) (fun vS => ?_)
    ·
     obtain ⟨b, rfl, h2, h3⟩ := hF _ (.head _) (by kernel_rfl)
     clear hF
     rcases hw.2 with e | ⟨b', e, _⟩
     · have hBw := e.trans (show w19.drew.heap[B]? = _ from HB19.out)
       have fz := frozen_at hBw 8
       have dz := cell_at hBw 8 _ rfl
       go_simp
       have hs := heap_setCell_same w B 8 _ _ (.pointer (some ⟨b, 0, none⟩)) hBw
       have hm : Mod (fun k => k = B) w (w.setCell ⟨B, 8, none⟩ (.pointer (some ⟨b, 0, none⟩))) := (Mod.refl (fun k => k = B) w).setCell (.inl rfl) _
       exact ⟨⟨b, hs, heap_mod hm h2 (by omega), h3⟩, hm, .inr ⟨b, hs, heap_mod hm h2 (by omega), h3⟩⟩
     · have hBw := e
       have fz := frozen_at hBw 8
       have dz := cell_at hBw 8 _ rfl
       go_simp
       have hs := heap_setCell_same w B 8 _ _ (.pointer (some ⟨b, 0, none⟩)) hBw
       have hm : Mod (fun k => k = B) w (w.setCell ⟨B, 8, none⟩ (.pointer (some ⟨b, 0, none⟩))) := (Mod.refl (fun k => k = B) w).setCell (.inl rfl) _
       exact ⟨⟨b, hs, heap_mod hm h2 (by omega), h3⟩, hm, .inr ⟨b, hs, heap_mod hm h2 (by omega), h3⟩⟩
    go_frame
    refine GrowN.g_nil fun w20 hwz hF => ?_
    obtain ⟨b8, hBw20, hNb8, hnb8⟩ := hF _ (.head _)
    clear hF
    have hmw20 : Mod (fun k => k = B) w19 w20 := (Mod.of_below (M := fun k => k = B) ((Below.refl w19.heap.size w19).drew)).trans hwz.1
    have HMZw20 := Lib.hid hmw20
    have HNCb8 := Lib.hid hNb8
    have HNNb8 := Lib.hid hnb8
    have HM20 : Hid (Mod (fun k => k = B ∨ P.foot k) W w20) := HM19.out.trans (hmw20.mono fun k _ e => .inl e)
    have HB20 : Hid (w20.heap[B]? = _) := hBw20
    have HT20 : Hid (TapeAt base w20 T) := HT19.out.mod hmw20 (fun j hj => (HAW.out.1 j hj).1)
    have HP20 : Hid (PendAt base w20 { P with all := notesP T.O.recs P.all }) := HP19.out.mod hmw20 (fun j hj => HAW.out.2 j hj)
    have HG8 : Hid (W.heap.size ≤ b8) := Nat.le_trans HM19.out.size hnb8
    clear hwz hBw20 hmw20 hNb8 hnb8 HCC HNEW vS
    have hBl21 : B < w20.heap.size := (Array.getElem?_eq_some_iff.1 HB20.out).1
    have HCC : Hid (∀ w, OnceG B w20.heap.size (fun b => .cells #[.pointer (some ⟨T.O.blk, 0, none⟩), .pointer (some ⟨cb, 0, none⟩), .pointer (some ⟨kb, 0, none⟩), v3, v4, .pointer (some ⟨tb, 0, none⟩), .pointer (some ⟨P.blk, 0, none⟩), .pointer (some ⟨b7, 0, none⟩), .pointer (some ⟨b8, 0, none⟩), .pointer (some ⟨b, 0, none⟩), .pointer (some ⟨T.D.blk, 0, none⟩), now] 51 (0, 0)) (.cells #[.pointer (some ⟨T.O.blk, 0, none⟩), .pointer (some ⟨P.blk, 0, none⟩), .pointer (some ⟨tb, 0, none⟩), .slice none 0 0] 278 (0, 0)) w20.drew w → w.cell? ⟨B, 0, none⟩ = some (.pointer (some ⟨T.O.blk, 0, none⟩)) ∧ w.cell? ⟨B, 6, none⟩ = some (.pointer (some ⟨P.blk, 0, none⟩)) ∧ w.cell? ⟨B, 5, none⟩ = some (.pointer (some ⟨tb, 0, none⟩))) := fun w hw => by
     rcases hw.2 with e | ⟨b, e, _⟩
     · have hb := e.trans (show w20.drew.heap[B]? = _ from HB20.out)
       exact ⟨cell_at hb 0 _ rfl, cell_at hb 6 _ rfl, cell_at hb 5 _ rfl⟩
     · exact ⟨cell_at e 0 _ rfl, cell_at e 6 _ rfl, cell_at e 5 _ rfl⟩
    have HNEW : Hid (∀ w, OnceG B w20.heap.size (fun b => .cells #[.pointer (some ⟨T.O.blk, 0, none⟩), .pointer (some ⟨cb, 0, none⟩), .pointer (some ⟨kb, 0, none⟩), v3, v4, .pointer (some ⟨tb, 0, none⟩), .pointer (some ⟨P.blk, 0, none⟩), .pointer (some ⟨b7, 0, none⟩), .pointer (some ⟨b8, 0, none⟩), .pointer (some ⟨b, 0, none⟩), .pointer (some ⟨T.D.blk, 0, none⟩), now] 51 (0, 0)) (.cells #[.pointer (some ⟨T.O.blk, 0, none⟩), .pointer (some ⟨P.blk, 0, none⟩), .pointer (some ⟨tb, 0, none⟩), .slice none 0 0] 278 (0, 0)) w20.drew w → Calls Tryz.prog 120 #[.pointer (some ⟨T.O.blk, 0, none⟩), .pointer (some ⟨P.blk, 0, none⟩), .pointer (some ⟨tb, 0, none⟩)] w fun e w' => ∃ b, e = .returned (.tuple #[.pointer (some ⟨b, 0, none⟩), .int .i64 0]) ∧ w'.heap[b]? = some (.cells #[.pointer (some ⟨T.O.blk, 0, none⟩), .pointer (some ⟨P.blk, 0, none⟩), .pointer (some ⟨tb, 0, none⟩), .slice none 0 0] 278 (0, 0)) ∧ w20.heap.size ≤ b ∧ OnceG B w20.heap.size (fun b => .cells #[.pointer (some ⟨T.O.blk, 0, none⟩), .pointer (some ⟨cb, 0, none⟩), .pointer (some ⟨kb, 0, none⟩), v3, v4, .pointer (some ⟨tb, 0, none⟩), .pointer (some ⟨P.blk, 0, none⟩), .pointer (some ⟨b7, 0, none⟩), .pointer (some ⟨b8, 0, none⟩), .pointer (some ⟨b, 0, none⟩), .pointer (some ⟨T.D.blk, 0, none⟩), now] 51 (0, 0)) (.cells #[.pointer (some ⟨T.O.blk, 0, none⟩), .pointer (some ⟨P.blk, 0, none⟩), .pointer (some ⟨tb, 0, none⟩), .slice none 0 0] 278 (0, 0)) w w') := fun w hw =>
     (deqnew_any T.O.blk P.blk tb w).mono fun e w' ⟨b, h1, h2⟩ => ⟨b, h1, h2.cells, Nat.le_trans hw.1.size h2.new, OnceG.below h2.below (Nat.lt_of_lt_of_le hBl21 hw.1.size)⟩
    go_upto_region 21 with fail
    refine GrowN.wp_region_n 20 [none, none, none, none, none, none, none, none, none, none, none, none, none, some (.inr (fun _ => YT w20.heap.size (.cells #[.pointer (some ⟨T.O.blk, 0, none⟩), .pointer (some ⟨P.blk, 0, none⟩), .pointer (some ⟨tb, 0, none⟩), .slice none 0 0] 278 (0, 0)))), some (.inr (fun _ => YT w20.heap.size (.cells #[.pointer (some ⟨T.O.blk, 0, none⟩), .pointer (some ⟨P.blk, 0, none⟩), .pointer (some ⟨tb, 0, none⟩), .slice none 0 0] 278 (0, 0)))), some (.inr (fun _ => YP w20.heap.size (.cells #[.pointer (some ⟨T.O.blk, 0, none⟩), .pointer (some ⟨P.blk, 0, none⟩), .pointer (some ⟨tb, 0, none⟩), .slice none 0 0] 278 (0, 0)))), some (.inl (.int .i64 0)), none, none, some (.inr (fun _ _ => YS B w20.heap.size (fun b => .cells #[.pointer (some ⟨T.O.blk, 0, none⟩), .pointer (some ⟨cb, 0, none⟩), .pointer (some ⟨kb, 0, none⟩), v3, v4, .pointer (some ⟨tb, 0, none⟩), .pointer (some ⟨P.blk, 0, none⟩), .pointer (some ⟨b7, 0, none⟩), .pointer (some ⟨b8, 0, none⟩), .pointer (some ⟨b, 0, none⟩), .pointer (some ⟨T.D.blk, 0, none⟩), now] 51 (0, 0)) (.cells #[.pointer (some ⟨T.O.blk, 0, none⟩), .pointer (some ⟨P.blk, 0, none⟩), .pointer (some ⟨tb, 0, none⟩), .slice none 0 0] 278 (0, 0))))] (OnceG B w20.heap.size (fun b => .cells #[.pointer (some ⟨T.O.blk, 0, none⟩), .pointer (some ⟨cb, 0, none⟩), .pointer (some ⟨kb, 0, none⟩), v3, v4, .pointer (some ⟨tb, 0, none⟩), .pointer (some ⟨P.blk, 0, none⟩), .pointer (some ⟨b7, 0, none⟩), .pointer (some ⟨b8, 0, none⟩), .pointer (some ⟨b, 0, none⟩), .pointer (some ⟨T.D.blk, 0, none⟩), now] 51 (0, 0)) (.cells #[.pointer (some ⟨T.O.blk, 0, none⟩), .pointer (some ⟨P.blk, 0, none⟩), .pointer (some ⟨tb, 0, none⟩), .slice none 0 0] 278 (0, 0))) (by kernel_rfl) (by kernel_rfl) (by kernel_rfl) (OnceG.refl _ _ _ _) (fun _ _ _ => OnceG.trans hBl21) ?_ ?_
    · intro K hK Y hY l v w w' hR
      simp only [List.mem_cons, List.not_mem_nil, or_false] at hK
      rcases hK with rfl | rfl | rfl | rfl | rfl | rfl | rfl | rfl | rfl | rfl | rfl | rfl | rfl | rfl | rfl | rfl | rfl | rfl | rfl | rfl <;> simp only [reduceCtorEq, Option.some.injEq, Sum.inr.injEq] at hY
      iterate 3
       · subst hY; exact fun ⟨b, h1, h2, h3⟩ => ⟨b, h1, OnceG.keep hBl21 hR h3 h2, h3⟩
      · subst hY; exact fun ⟨b, h1, h2, h3⟩ => hR.2.elim (fun e => ⟨b, e.trans h1, OnceG.keep hBl21 hR h3 h2, h3⟩) fun h => h
    simp only [List.take_succ_cons, List.take_zero, List.drop_succ_cons, List.drop_zero]
    iterate 4
     refine GrowN.g_det rfl ?_
     apply Exists.intro
     refine ⟨fun w hw hF => ?_, ?_⟩
     · clear hF
       go_simp
       exact ⟨rfl, OnceG.refl _ _ _ _ _⟩
     go_frame
    iterate 2
     refine GrowN.g_det rfl ?_
     apply Exists.intro
     refine ⟨fun w hw hF => ?_, ?_⟩
     · clear hF
       have hc := (HCC.out w hw)
       obtain ⟨e0, e6, e5⟩ := hc
       go_simp
       exact ⟨rfl, OnceG.refl _ _ _ _ _⟩
     go_frame
     refine GrowN.g_det rfl ?_
     apply Exists.intro
     refine ⟨fun w hw hF => ?_, ?_⟩
     · clear hF
       go_simp
       exact ⟨rfl, OnceG.refl _ _ _ _ _⟩
     go_frame
     refine GrowN.g_det rfl ?_
     apply Exists.intro
     refine ⟨fun w hw hF => ?_, ?_⟩
     · clear hF
       go_simp
       exact ⟨rfl, OnceG.refl _ _ _ _ _⟩
     go_frame
     refine GrowN.g_det rfl ?_
     apply Exists.intro
     refine ⟨fun w hw hF => ?_, ?_⟩
     · clear hF
       go_simp
       exact ⟨rfl, OnceG.refl _ _ _ _ _⟩
     go_frame
    refine GrowN.g_det rfl ?_
    apply Exists.intro
    refine ⟨fun w hw hF => ?_, ?_⟩
    · clear hF
      have hc := (HCC.out w hw)
      obtain ⟨e0, e6, e5⟩ := hc
      go_simp
      exact ⟨rfl, OnceG.refl _ _ _ _ _⟩
    go_frame
    refine GrowN.g_new rfl (fun w hw hF => ?_) (fun v13 => ?_)
    · clear hF
      go_simp
      exact (HNEW.out w hw).mono fun e w' ⟨b, h1, h2, h3, h4⟩ => ⟨_, h1, ⟨b, rfl, h2, h3⟩, h4⟩
    go_frame
    refine GrowN.g_new rfl (fun w hw hF => ?_) (fun v14 => ?_)
    · skip
      obtain ⟨b, rfl, h2, h3⟩ := hF _ (.head _) (by kernel_rfl)
      clear hF
      go_simp
      exact ⟨⟨b, rfl, h2, h3⟩, OnceG.refl _ _ _ _ _⟩
    go_frame
    refine GrowN.g_new rfl (fun w hw hF => ?_) (fun v15 => ?_)
    · skip
      obtain ⟨b, rfl, h2, h3⟩ := hF _ (.head _) (by kernel_rfl)
      clear hF
      go_simp
      exact ⟨⟨b, rfl, h2, h3⟩, OnceG.refl _ _ _ _ _⟩
    go_frame
    refine GrowN.g_con rfl (fun w hw hF => ?_) ?_
    · obtain ⟨b, rfl, h2, h3⟩ := hF _ (.tail _ (.head _)) (by kernel_rfl)
      clear hF
      go_simp
      exact OnceG.refl _ _ _ _ _
    iterate 2
     go_frame
     refine GrowN.g_det rfl ?_
     apply Exists.intro
     refine ⟨fun w hw hF => ?_, ?_⟩
     · clear hF
       go_simp
       exact ⟨rfl, OnceG.refl _ _ _ _ _⟩
    go_frame
    refine GrowN.g_new rfl (fun w hw hF => ?_) (fun vS => ?_)
    ·
     obtain ⟨b, rfl, h2, h3⟩ := hF _ (.head _) (by kernel_rfl)
     clear hF
     rcases hw.2 with e | ⟨b', e, _⟩
     · have hBw := e.trans (show w20.drew.heap[B]? = _ from HB20.out)
       have fz := frozen_at hBw 9
       have dz := cell_at hBw 9 _ rfl
       go_simp
       have hs := heap_setCell_same w B 9 _ _ (.pointer (some ⟨b, 0, none⟩)) hBw
       have hm : Mod (fun k => k = B) w (w.setCell ⟨B, 9, none⟩ (.pointer (some ⟨b, 0, none⟩))) := (Mod.refl (fun k => k = B) w).setCell (.inl rfl) _
       exact ⟨⟨b, hs, heap_mod hm h2 (by omega), h3⟩, hm, .inr ⟨b, hs, heap_mod hm h2 (by omega), h3⟩⟩
     · have hBw := e
       have fz := frozen_at hBw 9
       have dz := cell_at hBw 9 _ rfl
       go_simp
       have hs := heap_setCell_same w B 9 _ _ (.pointer (some ⟨b, 0, none⟩)) hBw
       have hm : Mod (fun k => k = B) w (w.setCell ⟨B, 9, none⟩ (.pointer (some ⟨b, 0, none⟩))) := (Mod.refl (fun k => k = B) w).setCell (.inl rfl) _
       exact ⟨⟨b, hs, heap_mod hm h2 (by omega), h3⟩, hm, .inr ⟨b, hs, heap_mod hm h2 (by omega), h3⟩⟩
    go_frame
    refine GrowN.g_nil fun w21 hwz hF => ?_
    obtain ⟨b9, hBw21, hNb9, hnb9⟩ := hF _ (.head _)
    clear hF
    have hmw21 : Mod (fun k => k = B) w20 w21 := (Mod.of_below (M := fun k => k = B) ((Below.refl w20.heap.size w20).drew)).trans hwz.1
    have HMZw21 := Lib.hid hmw21
    have HNCb9 := Lib.hid hNb9
    have HNNb9 := Lib.hid hnb9
    have HM21 : Hid (Mod (fun k => k = B ∨ P.foot k) W w21) := HM20.out.trans (hmw21.mono fun k _ e => .inl e)
    have HB21 : Hid (w21.heap[B]? = _) := hBw21
    have HT21 : Hid (TapeAt base w21 T) := HT20.out.mod hmw21 (fun j hj => (HAW.out.1 j hj).1)
    have HP21 : Hid (PendAt base w21 { P with all := notesP T.O.recs P.all }) := HP20.out.mod hmw21 (fun j hj => HAW.out.2 j hj)
    have HG9 : Hid (W.heap.size ≤ b9) := Nat.le_trans HM20.out.size hnb9
    clear hwz hBw21 hmw21 hNb9 hnb9 HCC HNEW vS
    have hne : ∀ b, W.heap.size ≤ b → b ≠ B := fun b hb => by omega
    have HN7c : Hid (w21.heap[b7]? = _) := heap_mod HMZw21.out (heap_mod HMZw20.out HNCb7.out (hne _ HG7.out)) (hne _ HG7.out)
    have HN8c : Hid (w21.heap[b8]? = _) := heap_mod HMZw21.out HNCb8.out (hne _ HG8.out)
    have HN9c : Hid (w21.heap[b9]? = _) := HNCb9.out
    have HS8 : Hid (b8 < w21.heap.size) := (Array.getElem?_eq_some_iff.1 HN8c.out).1
    have HS9 : Hid (b9 < w21.heap.size) := (Array.getElem?_eq_some_iff.1 HN9c.out).1
    have h78 : b7 ≠ b8 := by have := HNNb8.out; have := (Array.getElem?_eq_some_iff.1 HNCb7.out).1; omega
    have h79 : b7 ≠ b9 := by have := HNNb9.out; have := (Array.getElem?_eq_some_iff.1 HNCb7.out).1; have := HMZw20.out.size; omega
    have h89 : b8 ≠ b9 := by have := HNNb9.out; have := (Array.getElem?_eq_some_iff.1 HNCb8.out).1; omega
    have HNE := Lib.hid (show b7 ≠ b8 ∧ b7 ≠ b9 ∧ b8 ≠ b9 from ⟨h78, h79, h89⟩)
    have HNEB := Lib.hid hne
    have c7 := cell_at HB21.out 7 _ rfl
    have HA := Lib.hid (HALL.out w21 b7 HM21.out HG7.out HN7c.out)
    clear hne h78 h79 h89
    go_wp2_with fail
    refine HA.out.mono ?_
    rintro e w22 ⟨n, rfl, hpost, hm22⟩
    have hnB : ¬ (M B ∨ B = b7) := fun h => h.elim (fun h => (HM.out B h).2.1 rfl) fun e => HNEB.out b7 HG7.out e.symm
    have hn8 : ¬ (M b8 ∨ b8 = b7) := fun h => h.elim (fun h => by have := (HM.out b8 h).1; have := HG8.out; omega) fun e => HNE.out.1 e.symm
    have hn9 : ¬ (M b9 ∨ b9 = b7) := fun h => h.elim (fun h => by have := (HM.out b9 h).1; have := HG9.out; omega) fun e => HNE.out.2.1 e.symm
    have HB22 : Hid (w22.heap[B]? = _) := heap_mod hm22 HB21.out hnB
    have HN822 : Hid (w22.heap[b8]? = _) := heap_mod hm22 HN8c.out hn8
    have HN922 : Hid (w22.heap[b9]? = _) := heap_mod hm22 HN9c.out hn9
    have HT22 : Hid (TapeAt base w22 T) := HT21.out.mod hm22 (fun j hj h => h.elim (fun h => (HM.out j h).2.2.1 hj) fun e => by have := HH.out.lt hj; have := HG7.out; omega)
    have HP22 : Hid (PendAt base w22 { P with all := notesP T.O.recs P.all }) := HP21.out.mod hm22 (fun j hj h => h.elim (fun h => (HM.out j h).2.2.2 hj) fun e => by have := HP.out.lt (show P.foot j from hj); have := HG7.out; omega)
    have HM22 : Hid (Mod (fun k => k = B ∨ P.foot k ∨ M k) W w22) := ((HM21.out.mono (N := fun k => (k = B ∨ P.foot k ∨ M k) ∨ W.heap.size ≤ k) (fun k _ e => .inl (e.imp (fun h => h) fun h => .inl h))).trans (hm22.mono (fun k _ e => e.elim (fun h => .inl (.inr (.inr h))) fun e => .inr (by have := HG7.out; omega)))).mono (fun k hk e => e.elim (fun h => h) fun h => by omega)
    have HPST := Lib.hid hpost
    have hw22 : W.heap.size ≤ w22.heap.size := HM22.out.size
    have HTB22 : Hid (TabB base w22) := HTB.out.mod (M := fun k => (k = B ∨ P.foot k ∨ M k) ∧ base ≤ k) (HM22.out.mono (fun k hk e => ⟨e, e.elim (fun h => h ▸ HBB.out) fun h => h.elim (fun h => h.elim (fun e => e ▸ HP.out.low.1) fun e => e ▸ HP.out.low.2) fun h => HMB.out k h⟩)) (fun k h => h.2)
    have hrb : 0 ≤ (T.R.b : Int) ∧ (T.R.b : Int) ≤ 200000000 := by
     have h1 := HT22.out.whole.seg.e_le
     have h2 : T.R.b ≤ T.R.e := by unfold SegD.e; omega
     omega
    have HEA := Lib.hid (eall_none (B := b8) _ _ _ _ w22 HT22.out HTB22.out (Nat.le_trans HBS.out hw22) HQ.out.up HN822.out (by have := HL.out; omega) HK2.out hrb)
    have c8 := cell_at HB22.out 8 _ rfl
    clear hpost hm22 hnB hn8 hn9 hw22 c7 HA HALL
    go_wp2_with fail
    refine HEA.out.mono ?_
    rintro e w23 ⟨rfl, hb23⟩
    have HB23 : Hid (w23.heap[B]? = _) := heap_below hb23 HB22.out
    have HN823 : Hid (w23.heap[b8]? = _) := heap_below hb23 HN822.out
    have HN923 : Hid (w23.heap[b9]? = _) := heap_below hb23 HN922.out
    have HBW23 := Lib.hid hb23
    have d8 := cell_at HB23.out 8 _ rfl
    have d9 := cell_at HB23.out 9 _ rfl
    clear hb23 HEA c8
    go_upto_region 26 with fail
    have hoe : w23.drew.heap[b8]? = _ := HN823.out
    have HLT : Hid (∀ w, Once b8 (.cells #[.pointer (some ⟨T.O.blk, 0, none⟩), .pointer (some ⟨P.blk, 0, none⟩), .pointer (some ⟨tb, 0, none⟩), .int .i64 (T.R.b : Int), .slice none 0 0] 276 (0, 0)) w23.drew w → Calls Tryz.prog 123 #[.pointer (some ⟨b8, 0, none⟩)] w fun e w' => e = .returned (.slice none 0 0) ∧ Once b8 (.cells #[.pointer (some ⟨T.O.blk, 0, none⟩), .pointer (some ⟨P.blk, 0, none⟩), .pointer (some ⟨tb, 0, none⟩), .int .i64 (T.R.b : Int), .slice none 0 0] 276 (0, 0)) w w') := fun w hw =>
     (late_nil w (hw.stays hoe)).mono fun e w' h => ⟨h.1, h.2.2, .inr h.2.1⟩
    have HD9 : Hid (∀ w, Once b8 (.cells #[.pointer (some ⟨T.O.blk, 0, none⟩), .pointer (some ⟨P.blk, 0, none⟩), .pointer (some ⟨tb, 0, none⟩), .int .i64 (T.R.b : Int), .slice none 0 0] 276 (0, 0)) w23.drew w → w.cell? ⟨B, 8, none⟩ = some (.pointer (some ⟨b8, 0, none⟩)) ∧ w.cell? ⟨B, 9, none⟩ = some (.pointer (some ⟨b9, 0, none⟩))) := fun w hw => by
     have hBw := heap_mod hw.1 (show w23.drew.heap[B]? = _ from HB23.out) (fun e => HNEB.out b8 HG8.out e.symm)
     exact ⟨cell_at hBw 8 _ rfl, cell_at hBw 9 _ rfl⟩
    clear hoe d8 d9
    refine GrowM.wp_region_s (by kernel_rfl) ?_
    refine GrowM.st_grow 9 [none, none, none, none, none, none, none, none, some (.inl (.slice none 0 0))] (Once b8 (.cells #[.pointer (some ⟨T.O.blk, 0, none⟩), .pointer (some ⟨P.blk, 0, none⟩), .pointer (some ⟨tb, 0, none⟩), .int .i64 (T.R.b : Int), .slice none 0 0] 276 (0, 0))) (by kernel_rfl) (by kernel_rfl) (Once.refl _ _) (fun _ _ _ => Once.trans) ?_ ?_
    · exact GrowN.stab0 rfl
    simp only [List.take_succ_cons, List.take_zero, List.drop_succ_cons, List.drop_zero, Nat.reduceSub]
    iterate 3
     refine GrowN.g_det rfl ?_
     apply Exists.intro
     refine ⟨fun w hw hF => ?_, ?_⟩
     · clear hF
       go_simp
       exact ⟨rfl, Once.refl _ _ _⟩
     go_frame
    refine GrowN.g_det rfl ?_
    apply Exists.intro
    refine ⟨fun w hw hF => ?_, ?_⟩
    · clear hF
      have c9 := (HD9.out w hw).2
      go_simp
      exact ⟨rfl, Once.refl _ _ _⟩
    iterate 3
     go_frame
     refine GrowN.g_det rfl ?_
     apply Exists.intro
     refine ⟨fun w hw hF => ?_, ?_⟩
     · clear hF
       go_simp
       exact ⟨rfl, Once.refl _ _ _⟩
    go_frame
    refine GrowN.g_det rfl ?_
    apply Exists.intro
    refine ⟨fun w hw hF => ?_, ?_⟩
    · clear hF
      have c8 := (HD9.out w hw).1
      go_simp
      exact ⟨rfl, Once.refl _ _ _⟩
    go_frame
    refine GrowN.g_con rfl (fun w hw hF => ?_) ?_
    · clear hF
      go_simp
      exact (HLT.out w hw).mono fun e w' h => ⟨_, h.1, rfl, h.2⟩
    go_frame
    refine GrowN.g_nil fun w24 hw24 hF => ?_
    clear hF
    have HDA := Lib.hid (dadd_nil w24 (heap_mod hw24.1 (show w23.drew.heap[b9]? = _ from HN923.out) (fun e => HNE.out.2.2 e.symm)))
    refine GrowM.st_call (fun v w' => w'.heap[b9]? = some (.cells #[.pointer (some ⟨T.O.blk, 0, none⟩), .pointer (some ⟨P.blk, 0, none⟩), .pointer (some ⟨tb, 0, none⟩), .slice none 0 0] 278 (0, 0)) ∧ Mod (fun k => k = b9) w24 w') (by kernel_rfl) rfl rfl ?_ ?_
    · go_simp
      refine HDA.out.mono ?_
      rintro e w' ⟨v, rfl, hb⟩
      first | exact ⟨⟨_, rfl⟩, hb⟩ | exact ⟨_, hb⟩
    rintro v w25 hb25
    go_frame
    refine GrowM.st_end rfl ?_
    have hm25 : Mod (fun k => k = b8 ∨ k = b9) w22 w25 := (((Mod.of_below (M := fun k => k = b8 ∨ k = b9) HBW23.out).trans (Mod.of_below (M := fun k => k = b8 ∨ k = b9) ((Below.refl _ w23).drew))).trans (hw24.1.mono fun k _ e => .inl e)).trans (hb25.2.mono fun k _ e => .inr e)
    have HM25 := Lib.hid hm25
    clear hm25 hb25 hw24 HDA HLT HD9
    go_wp2_with fail
    go_ret
    have h8 := HG8.out
    have h9 := HG9.out
    refine ⟨rfl, b7, b8, b9, w21, heap_mod HM25.out HB22.out (fun e => e.elim (fun e => HNEB.out b8 h8 e.symm) fun e => HNEB.out b9 h9 e.symm), HT22.out.mod HM25.out (fun j hj e => ?_), HP22.out.mod HM25.out (fun j hj e => ?_), HSTAB.out w21 w22 w25 b8 b9 HPST.out h8 HS8.out h9 HS9.out HM25.out, ?_⟩
    · have := HH.out.lt hj
      rcases e with e | e <;> omega
    · have := HP.out.lt (show P.foot j from hj)
      rcases e with e | e <;> omega
    · exact ((HM22.out.mono (N := fun k => (k = B ∨ P.foot k ∨ M k) ∨ W.heap.size ≤ k) (fun k _ e => .inl e)).trans (HM25.out.mono (fun k _ e => .inr (by rcases e with e | e <;> omega)))).mono (fun k hk e => e.elim (fun h => h) fun h => by omega)
def great1 (m : Msg) : Bool := decide (2000 < m.body.length) || (decide (100 < m.topic.length) || (decide (100 < m.tag.length) || decide (10 < m.keys.length)))
theorem strsame_any (ss : List ByteArray) (a b : Option Addr) (c d : Nat) (W : World) (ha : Strs W a ss) (hb : Strs W b ss) (hl : ss.length ≤ 1073741824) :
 Calls Tryz.prog 84 #[.slice a ss.length c, .slice b ss.length d] W fun e w' => e = .returned (.bool true) ∧ Below W.heap.size W w' := by
 have HA := Lib.hid ha
 have HB := Lib.hid hb
 clear ha hb
 go_enter Tryz.func84, Tryz.ntmps84
 go_wp2_with fail
 go_loopw [5] (fun i wr => ∃ k : Nat, k ≤ ss.length ∧ i = .int .i64 (k : Int) ∧ Hid (Below W.heap.size W wr)) (fun i _ => ss.length - (intOf i).toNat)
 case atStart => exact ⟨0, Nat.zero_le _, rfl, Below.refl _ _⟩
 case round =>
  obtain ⟨k, hk, rfl, HS⟩ := hrel
  by_cases hlt : k < ss.length
  ·
   obtain ⟨g, o, rfl, h1⟩ := (Strs.below HA.out HS.out) k hlt
   obtain ⟨g2, o2, rfl, h2⟩ := (Strs.below HB.out HS.out) k hlt
   generalize ss[k] = t at *
   have HS2 : Hid (Below W.heap.size W wr.drew) := HS.out.drew
   go_upto_region 6 with fail
   refine GrowM.wp_region_s (by kernel_rfl) ?_
   refine GrowM.st_grow 9 [none, none, none, none, none, none, none, none, none] (fun u v => v = u) (by kernel_rfl) (by kernel_rfl) (fun _ => rfl) (fun _ _ _ h k => k.trans h) ?_ ?_
   · exact GrowN.stab0 rfl
   simp only [List.take_succ_cons, List.take_zero, List.drop_succ_cons, List.drop_zero, Nat.reduceSub]
   iterate 9
    refine GrowN.g_det rfl ?_
    apply Exists.intro
    refine ⟨fun w hw hF => ?_, ?_⟩
    · obtain rfl := hw.symm
      clear hF
      go_simp
      first | exact rfl | exact ⟨rfl, rfl⟩
    go_frame
   refine GrowN.g_nil fun w2 hwz hF => ?_
   obtain rfl := hwz.symm
   clear hF
   refine GrowM.st_end rfl ?_
   go_wp2_with fail
   go_roundw
   case rel => exact ⟨k + 1, by omega, by go_num, HS2.out⟩
   case measure => simp [intOf]; omega
  ·
   have hkn : k = ss.length := by omega
   subst hkn
   go_wp2_with fail
   go_ret
   exact ⟨rfl, HS.out⟩
theorem same_true (m : Msg) (a b : Option Addr) (c d : Nat) (W : World) (ha : Strs W a (m.keys.map S)) (hb : Strs W b (m.keys.map S)) (hl : m.keys.length ≤ 1073741824) :
 Calls Tryz.prog 37 #[.agg (cellsM m a c), .agg (cellsM m b d)] W fun e w' => e = .returned (.bool true) ∧ Below W.heap.size W w' := by
 have HB0 : Hid (Below W.heap.size W ((W.alloc (.cells #[.int .i64 m.kind, .int .i64 m.queue, .int .i64 m.due, .int .i64 m.retry, .int .i64 m.ref, .int .i64 m.born, .string (S m.topic), .string (S m.tag), .string (S m.body), .slice a m.keys.length c] 56)).alloc (.cells #[.int .i64 m.kind, .int .i64 m.queue, .int .i64 m.due, .int .i64 m.retry, .int .i64 m.ref, .int .i64 m.born, .string (S m.topic), .string (S m.tag), .string (S m.body), .slice b m.keys.length d] 56))) := ((Below.refl _ W).alloc (Nat.le_refl _) _).alloc (by rw [World.size_alloc]; omega) _
 have HSS : Hid (∀ w, Below W.heap.size W w → Calls Tryz.prog 84 #[.slice a m.keys.length c, .slice b m.keys.length d] w fun e w' => e = .returned (.bool true) ∧ Below w.heap.size w w') := fun w hb2 => by
  have := strsame_any (m.keys.map S) a b c d w (Strs.below ha hb2) (Strs.below hb hb2) (by rw [List.length_map]; exact hl)
  rw [List.length_map] at this
  exact this
 clear ha hb hl
 rw [show cellsM m a c = #[.int .i64 m.kind, .int .i64 m.queue, .int .i64 m.due, .int .i64 m.retry, .int .i64 m.ref, .int .i64 m.born, .string (S m.topic), .string (S m.tag), .string (S m.body), .slice a m.keys.length c] from rfl, show cellsM m b d = #[.int .i64 m.kind, .int .i64 m.queue, .int .i64 m.due, .int .i64 m.retry, .int .i64 m.ref, .int .i64 m.born, .string (S m.topic), .string (S m.tag), .string (S m.body), .slice b m.keys.length d] from rfl]
 have hca : (#[.int .i64 m.kind, .int .i64 m.queue, .int .i64 m.due, .int .i64 m.retry, .int .i64 m.ref, .int .i64 m.born, .string (S m.topic), .string (S m.tag), .string (S m.body), .slice a m.keys.length c] : Array Value).size = 10 := rfl
 have hcb : (#[.int .i64 m.kind, .int .i64 m.queue, .int .i64 m.due, .int .i64 m.retry, .int .i64 m.ref, .int .i64 m.born, .string (S m.topic), .string (S m.tag), .string (S m.body), .slice b m.keys.length d] : Array Value).size = 10 := rfl
 go_enter Tryz.func37, Tryz.ntmps37
 have HS2 := Lib.hid (HSS.out _ HB0.out)
 clear HSS
 go_wp2_with fail
 refine HS2.out.mono ?_
 rintro e w2 ⟨rfl, hb2⟩
 have HB2 := Lib.hid (HB0.out.trans (hb2.mono HB0.out.size))
 clear hb2 HS2 HB0
 go_wp2_with fail
 go_ret
 exact ⟨rfl, HB2.out⟩
end Go.Proofs.YtjjkhbfimpgplaaGreatDoor.StoW
namespace Go.Proofs.YtjjkhbfimpgplaaGreatDoor.StoW
open Go.RowKit Go.MapKept OctMath RecMath RecW TapeMath DskW SegW MapG TapeW PendW CacheW CqW
set_option linter.unusedVariables false
set_option linter.unusedSimpArgs false
set_option maxRecDepth 100000
theorem of_any {base : Nat} {C : CqD} {x : QueD} (q : Nat) (w : World) (h : CqAt base w C) (hx : x ∈ C.qs) (hq : x.q = (q : Int)) (hk : ∀ y ∈ C.qs, ∃ n : Nat, y.q = (n : Int)) :
 Calls Tryz.prog 43 #[.pointer (some ⟨C.blk, 0, none⟩), .string (S x.topic), .int .i64 (q : Int)] w fun e w' => e = .returned (.pointer (some ⟨x.blk, 0, none⟩)) ∧ w' = w := by
 have hl : (Instr.lookup 160 (.map (some C.mB)) (.agg #[.string (S x.topic), .int .i64 (q : Int)]) false).run Tryz.prog w = .ok (.pointer (some ⟨x.blk, 0, none⟩)) w := by
  refine lookup_has Tryz.underlying160 keyedW h.map (fun p hp => ?_) ⟨x.topic, q, rfl⟩ (List.mem_map.2 ⟨x, hx, ?_⟩) false
  · obtain ⟨y, hy, rfl⟩ := List.mem_map.1 hp
    obtain ⟨n, hn⟩ := hk y hy
    exact ⟨y.topic, n, by show QueD.key y = _; unfold QueD.key; rw [hn]⟩
  · unfold QueD.key; rw [hq]
 have c1 : w.cell? ⟨C.blk, 1, none⟩ = some (.map (some C.mB)) := cell_at h.cells 1 _ rfl
 have HL := Lib.hid hl
 clear h hx hq hk
 generalize S x.topic = tt at *
 generalize x.blk = xb at *
 go_enter Tryz.func43, Tryz.ntmps43
 go_wp2_with fail
 go_ret
 exact ⟨rfl, rfl⟩
theorem size_disk : (Tryz.prog.info? 86).map (·.size) = some 5 := by kernel_rfl
theorem eql_disk {a b : Nat} {ca cb : Array Value} {ta tb : TypeId} {w : World} (h : a ≠ b) (ha : w.heap[a]? = some (.cells ca ta (0, 0))) (hb : w.heap[b]? = some (.cells cb tb (0, 0))) : Sem.run Tryz.prog (binOp .eql 25 (.pointer (some ⟨a, 0, none⟩)) (.pointer (some ⟨b, 0, none⟩))) w = .ok (.bool false) w := by
 obtain ⟨j, hj, hs⟩ := Option.map_eq_some_iff.1 size_disk
 exact run_eql_ptr_other w Tryz.underlying25 hj (by rw [hs]; decide) (fun e => h (congrArg Addr.block e)) ha hb
set_option maxHeartbeats 12800000 in
theorem sopen_any {base : Nat} {D D2 : DiskD} {R : SegD} {its : List TapeMath.Item} (now : Nat) (W : World) (hL : LaidOn D R) (hD : DiskAt base W D) (hq : Quiet D) (hfl : D.files.length ≤ 1048576) (hnl : ∀ p ∈ D.files, p.1.length ≤ 1073741824) (hbase : base ≤ W.heap.size) (hT : TabB base W)
 (hh : R.head = tapeH) (hs : R.size = 1024) (ht : R.txt = bytesL its) (hf : Fits R.b its) (hone : ∀ x ∈ its, ∃ m, x = TapeMath.Item.one m) (hil : its.length ≤ 1000000) (hwt : D.waits = []) (hn1 : D.find TopW.topicsN = none) (hn2 : D.find TopW.groupsN = none) (hn3 : D.find TopW.baseN = none)
 (h2 : DiskAt base W D2) (hq2 : Quiet D2) (hf2 : D2.files = []) (hr2 : 120 ≤ D2.room) (hw2 : D2.waits = []) (hdd : ∀ k, D.foot k → ¬ D2.foot k) (hnow : now ≤ 1099511626776) (hk2 : ∀ p ∈ recsOf R.b its, p.2.kind ≠ 2) (hrl : (recsOf R.b its).length ≤ 1000000)
 {Post : CqD → DiskD → World → World → Prop}
 (hall : ∀ (T : TapeD) (C : CqD) (D' : DiskD) (kb : Nat) (w : World) (b7 : Nat), TapeAt base w T → T.its = its → T.R.b = R.b → T.R.synced = T.R.e → Quiet T.D → TabB base w → base ≤ w.heap.size → CqAt base w C → C.qs = [] → C.db = D'.blk → DiskAt base w D' → Grows D2 D' [xlinks, xslots, wslots, wmarks] 120 2 → (∀ k, C.foot k → ¬ D'.foot k) → (∀ k, T.foot k → ¬ C.foot k ∧ ¬ D'.foot k) → (¬ T.foot b7 ∧ ¬ C.foot b7 ∧ ¬ D'.foot b7) →
  w.heap[b7]? = some (.cells #[.pointer (some ⟨T.O.blk, 0, none⟩), .pointer (some ⟨C.blk, 0, none⟩), .pointer (some ⟨kb, 0, none⟩), .int .i64 (T.R.b : Int)] 158 (0, 0)) →
  Calls Tryz.prog 19 #[.pointer (some ⟨b7, 0, none⟩)] w fun e w' => ∃ n : Int, e = .returned (.tuple #[.int .i64 n, .int .i64 0]) ∧ Post C D' w w' ∧ Mod (fun k => (C.foot k ∨ D'.foot k) ∨ k = b7) w w')
 (hstab : ∀ C D' w0 w1 w2 (M : Nat → Prop), Post C D' w0 w1 → Mod M w1 w2 → (∀ k, M k → k < w0.heap.size ∧ ¬ C.foot k ∧ ¬ D'.foot k) → Post C D' w0 w2) :
 Calls Tryz.prog 27 #[.pointer (some ⟨D.blk, 0, none⟩), .pointer (some ⟨D2.blk, 0, none⟩), .int .i64 (now : Int)] W fun e w' => ∃ S C D' w0, e = .returned (.tuple #[.pointer (some ⟨S.blk, 0, none⟩), .int .i64 0]) ∧ StoAt base w' S ∧ S.now = (now : Int) ∧ S.cq = .pointer (some ⟨C.blk, 0, none⟩) ∧ S.T.its = its ∧ S.T.R.b = R.b ∧ S.T.R.synced = S.T.R.e ∧ S.T.D.waits = [] ∧ Quiet S.T.D ∧ S.T.D.blk = D.blk ∧ S.T.D.room = D.room ∧ (∀ n, (S.T.D.find n).isSome = (D.find n).isSome) ∧
  (∃ b3 b4, S.top = .pointer (some ⟨b3, 0, none⟩) ∧ S.off = .pointer (some ⟨b4, 0, none⟩) ∧ S.dk = .pointer (some ⟨D.blk, 0, none⟩) ∧ Pair w' W.heap.size b3 b4 D.blk S.T ∧ ¬ S.foot b3 ∧ ¬ S.foot b4 ∧ S.P.all = notesP S.T.O.recs []) ∧ Post C D' w0 w' ∧ Mod (fun k => D.foot k ∨ D2.foot k) W w' ∧ (∀ k, S.foot k → D.foot k ∨ W.heap.size ≤ k) := by
 have HPN := Lib.hid (PendW.new_any base W hbase)
 have hne : D.blk ≠ D2.blk := fun e => hdd D.blk (.inl rfl) (e ▸ .inl rfl)
 have heq := eql_disk (w := W) hne hD.head h2.head
 have hnow' : (0 : Int) ≤ (now : Int) ∧ (now : Int) ≤ 1099511626776 := by omega
 have HLA : Hid (∀ w B v6, Below W.heap.size W w → w.heap[B]? = some (.cells #[.pointer none, .pointer none, .pointer none, .pointer none, .pointer none, .pointer none, v6, .pointer none, .pointer none, .pointer none, .pointer (some ⟨D.blk, 0, none⟩), .int .i64 (now : Int)] 51 (0, 0)) → W.heap.size ≤ B →
  Calls Tryz.prog 63 #[.pointer (some ⟨B, 0, none⟩)] w fun e w' => e = .returned (.int .i64 0) ∧ ∃ T b3 b4, Lasts base B w w' D its R.b T ∧ Pair w' w.heap.size b3 b4 D.blk T ∧
  w'.heap[B]? = some (.cells #[.pointer (some ⟨T.O.blk, 0, none⟩), .pointer none, .pointer none, .pointer (some ⟨b3, 0, none⟩), .pointer (some ⟨b4, 0, none⟩), .pointer none, v6, .pointer none, .pointer none, .pointer none, .pointer (some ⟨D.blk, 0, none⟩), .int .i64 (now : Int)] 51 (0, 0))) := fun w B v6 hb hB hBW =>
  lasting_any _ _ _ _ _ _ _ _ w hB (fun h => by have := hD.lt h; omega) hL (hD.below hb) hq hfl hnl (Nat.le_trans hbase hb.size) (hT.below hb) hh hs ht hf hone hil hwt hn1 hn2
 have HDER : Hid (∀ w B v0 v3 v4 v6 (hw : DiskAt base w D2) (hz : base ≤ w.heap.size), ¬ D2.foot B → w.heap[B]? = some (.cells #[v0, .pointer none, .pointer none, v3, v4, .pointer none, v6, .pointer none, .pointer none, .pointer none, .pointer (some ⟨D.blk, 0, none⟩), .int .i64 (now : Int)] 51 (0, 0)) → Calls Tryz.prog 65 #[.pointer (some ⟨B, 0, none⟩), .pointer (some ⟨D2.blk, 0, none⟩)] w fun e w' => e = .returned (.int .i64 0) ∧ ∃ C D' kb tb, Derivd base B w w' D2 D' C ∧
  w'.heap[B]? = some (.cells #[v0, .pointer (some ⟨C.blk, 0, none⟩), .pointer (some ⟨kb, 0, none⟩), v3, v4, .pointer (some ⟨tb, 0, none⟩), v6, .pointer none, .pointer none, .pointer none, .pointer (some ⟨D.blk, 0, none⟩), .int .i64 (now : Int)] 51 (0, 0))) := fun w B v0 v3 v4 v6 hw hz hBD hB =>
  derived_q _ _ _ _ _ _ _ _ _ _ _ now (by omega) w hB hBD hw hq2 hf2 hr2 hw2 hz
 have HD2 := Lib.hid h2
 have HDD := Lib.hid hdd
 have HBS := Lib.hid hbase
 have HALL := Lib.hid hall
 have HSTAB := Lib.hid hstab
 have HK2 := Lib.hid hk2
 have HRL := Lib.hid hrl
 have HTB := Lib.hid hT
 have HN3 := Lib.hid hn3
 have HD := Lib.hid hD
 have HQ := Lib.hid hq
 have HDL : Hid (∀ k, D.foot k → k < W.heap.size) := fun k hk => hD.lt hk
 clear hL hD hq hfl hnl hbase hT hh hs ht hf hone hil hwt hn1 hn2 hn3 h2 hq2 hf2 hr2 hw2 hdd hk2 hrl hall hstab
 go_enter Tryz.func27, Tryz.ntmps27
 go_wp2_with fail
 refine HPN.out.mono ?_
 rintro e w2 ⟨P, rfl, hP, hall0, hb2, hg1, hg2⟩
 clear HPN
 go_wp2_with fail
 have hb3 : Below W.heap.size W ((w2.alloc (.cells #[.pointer none, .pointer none, .pointer none, .pointer none, .pointer none, .pointer none, .pointer (some ⟨P.blk, 0, none⟩), .pointer none, .pointer none, .pointer none, .pointer (some ⟨D.blk, 0, none⟩), .int .i64 (now : Int)] 51)).alloc (.cells #[.func (.func 63) #[] #[], .func (.func 64) #[] #[]] 135)) := (hb2.alloc hb2.size _).alloc (Nat.le_trans hb2.size (by rw [World.size_alloc]; omega)) _
 have hB3 : ((w2.alloc (.cells #[.pointer none, .pointer none, .pointer none, .pointer none, .pointer none, .pointer none, .pointer (some ⟨P.blk, 0, none⟩), .pointer none, .pointer none, .pointer none, .pointer (some ⟨D.blk, 0, none⟩), .int .i64 (now : Int)] 51)).alloc (.cells #[.func (.func 63) #[] #[], .func (.func 64) #[] #[]] 135)).heap[w2.heap.size]? = some (.cells #[.pointer none, .pointer none, .pointer none, .pointer none, .pointer none, .pointer none, .pointer (some ⟨P.blk, 0, none⟩), .pointer none, .pointer none, .pointer none, .pointer (some ⟨D.blk, 0, none⟩), .int .i64 (now : Int)] 51 (0, 0)) := heap_below ((Below.refl _ _).alloc (Nat.le_refl _) _) (heap_alloc_new w2 _)
 have hG3 : ((w2.alloc (.cells #[.pointer none, .pointer none, .pointer none, .pointer none, .pointer none, .pointer none, .pointer (some ⟨P.blk, 0, none⟩), .pointer none, .pointer none, .pointer none, .pointer (some ⟨D.blk, 0, none⟩), .int .i64 (now : Int)] 51)).alloc (.cells #[.func (.func 63) #[] #[], .func (.func 64) #[] #[]] 135)).heap[w2.heap.size + 1]? = some (.cells #[.func (.func 63) #[] #[], .func (.func 64) #[] #[]] 135 (0, 0)) := by
  have := heap_alloc_new (w2.alloc (.cells #[.pointer none, .pointer none, .pointer none, .pointer none, .pointer none, .pointer none, .pointer (some ⟨P.blk, 0, none⟩), .pointer none, .pointer none, .pointer none, .pointer (some ⟨D.blk, 0, none⟩), .int .i64 (now : Int)] 51)) (.cells #[.func (.func 63) #[] #[], .func (.func 64) #[] #[]] 135)
  rw [World.size_alloc] at this
  exact this
 have hP3 := (hP.below ((Below.refl w2.heap.size w2).alloc (Nat.le_refl _) (.cells #[.pointer none, .pointer none, .pointer none, .pointer none, .pointer none, .pointer none, .pointer (some ⟨P.blk, 0, none⟩), .pointer none, .pointer none, .pointer none, .pointer (some ⟨D.blk, 0, none⟩), .int .i64 (now : Int)] 51))).below ((Below.refl (w2.alloc (.cells #[.pointer none, .pointer none, .pointer none, .pointer none, .pointer none, .pointer none, .pointer (some ⟨P.blk, 0, none⟩), .pointer none, .pointer none, .pointer none, .pointer (some ⟨D.blk, 0, none⟩), .int .i64 (now : Int)] 51)).heap.size _).alloc (Nat.le_refl _) (.cells #[.func (.func 63) #[] #[], .func (.func 64) #[] #[]] 135))
 generalize (w2.alloc (.cells #[.pointer none, .pointer none, .pointer none, .pointer none, .pointer none, .pointer none, .pointer (some ⟨P.blk, 0, none⟩), .pointer none, .pointer none, .pointer none, .pointer (some ⟨D.blk, 0, none⟩), .int .i64 (now : Int)] 51)).alloc (.cells #[.func (.func 63) #[] #[], .func (.func 64) #[] #[]] 135) = w3 at *
 have hBW : W.heap.size ≤ w2.heap.size := hb2.size
 have HPL : Hid (∀ k, P.foot k → W.heap.size ≤ k ∧ k < w2.heap.size) := fun k hk => ⟨hk.elim (fun e => e ▸ hg1) fun e => e ▸ hg2, hP.lt hk⟩
 generalize w2.heap.size = B at *
 have HB3 := Lib.hid hB3
 have HG3 := Lib.hid hG3
 have HBW := Lib.hid hBW
 have HBE := Lib.hid hb3
 have HL0 := Lib.hid (HLA.out w3 B _ hb3 hB3 hBW)
 clear hB3 hG3 hBW hb3 HLA hb2 hP
 go_loopw [41] (fun i wr => ∃ k : Nat, k ≤ 2 ∧ i = .int .i64 (k : Int) ∧ Hid ((k = 0 → wr = w3) ∧ (1 ≤ k → ∃ T b3 b4, Lasts base B w3 wr D its R.b T ∧ Pair wr w3.heap.size b3 b4 D.blk T ∧ wr.heap[B]? = some (.cells #[.pointer (some ⟨T.O.blk, 0, none⟩), .pointer none, .pointer none, .pointer (some ⟨b3, 0, none⟩), .pointer (some ⟨b4, 0, none⟩), .pointer none, .pointer (some ⟨P.blk, 0, none⟩), .pointer none, .pointer none, .pointer none, .pointer (some ⟨D.blk, 0, none⟩), .int .i64 (now : Int)] 51 (0, 0))))) (fun i _ => 2 - (intOf i).toNat)
 case atStart => exact ⟨0, by omega, rfl, fun _ => rfl, fun h => by omega⟩
 case round =>
  obtain ⟨k, hk, rfl, HS⟩ := hrel
  rcases (show k = 0 ∨ k = 1 ∨ k = 2 by omega) with rfl | rfl | rfl
  ·
   obtain rfl := (HS.out.1 rfl).symm
   have g0 := cell_at HG3.out 0 _ rfl
   clear HS
   go_wp2_with fail
   refine HL0.out.mono ?_
   rintro e w4 ⟨rfl, hpost⟩
   have HPO := Lib.hid hpost
   clear hpost HL0 g0
   go_wp2_with fail
   go_roundw
   case rel => exact ⟨1, by omega, by go_num, fun h => by omega, fun _ => HPO.out⟩
   case measure => simp [intOf]
  ·
   obtain ⟨T, b3, b4, hls, hpr, hBr⟩ := HS.out.2 (by omega)
   have HPR := Lib.hid hpr
   clear hpr
   have hBl := (Array.getElem?_eq_some_iff.1 HB3.out).1
   have hBD : ¬ D.foot B := fun h => by have := HDL.out B h; have := HBW.out; omega
   have hGr : wr.heap[B + 1]? = _ := heap_mod hls.mod HG3.out (fun h => h.elim (fun h => by have := HDL.out _ h; have := HBW.out; omega) fun h => by omega)
   have g1 := cell_at hGr 1 _ rfl
   have HBA := Lib.hid (based_none (D := T.D) wr hBr (by rw [hls.dblk]; rfl) hls.tape.whole.dsk hls.quiet.up (hls.none HN3.out))
   have HLS := Lib.hid hls
   have HBR := Lib.hid hBr
   clear hls hBr hGr HS HL0
   go_wp2_with fail
   refine HBA.out.mono ?_
   rintro e w4 ⟨rfl, hb4⟩
   have HB4 := Lib.hid hb4
   clear hb4 HBA g1
   go_wp2_with fail
   go_roundw
   case rel => exact ⟨2, by omega, by go_num, fun h => by omega, fun _ => ⟨T, b3, b4, HLS.out.then (Mod.of_below (M := fun k => k = B) HB4.out) hBl hBD, HPR.out.mod (M := fun _ => False) (Mod.of_below HB4.out) (fun h => h) (fun h => h), heap_below HB4.out HBR.out⟩⟩
   case measure => simp [intOf]
  ·
   obtain ⟨T, b3, b4, hls, hpr, hBr⟩ := HS.out.2 (by omega)
   have HPR := Lib.hid hpr
   clear hpr
   have HLS := Lib.hid hls
   have HBR := Lib.hid hBr
   have h2l : ∀ k, D2.foot k → k < W.heap.size := fun k hk => HD2.out.lt hk
   have hD2r : DiskAt base wr D2 := (HD2.out.below HBE.out).mod hls.mod (fun k hk h => h.elim (fun h => HDD.out k h hk) fun h => by have := h2l k hk; have := HBW.out; omega)
   have hB2 : ¬ D2.foot B := fun h => by have := h2l B h; have := HBW.out; omega
   have HDE := Lib.hid (HDER.out wr B _ _ _ _ hD2r (Nat.le_trans HBS.out (Nat.le_trans HBE.out.size hls.mod.size)) hB2 hBr)
   clear hls hBr HS HL0 h2l hD2r hB2 HDER
   go_wp2_with fail
   refine HDE.out.mono ?_
   rintro e w5 ⟨rfl, C, D', kb, tb, hder, hB5⟩
   have HDR := Lib.hid hder
   have HB5 := Lib.hid hB5
   clear hder hB5 HDE
   have hBl : B < w3.heap.size := (Array.getElem?_eq_some_iff.1 HB3.out).1
   have hBWo := HBW.out
   have hDl := HDL.out
   have h2l : ∀ k, D2.foot k → k < W.heap.size := fun k hk => HD2.out.lt hk
   have hW3 : W.heap.size ≤ w3.heap.size := HBE.out.size
   have h3r : w3.heap.size ≤ wr.heap.size := HLS.out.mod.size
   have hTf : ∀ k, T.foot k → D.foot k ∨ w3.heap.size ≤ k := fun k hk => by
    rcases hk with h | h | h
    · exact .inr (HLS.out.fresh k (.inl h))
    · exact .inl ((HLS.out.dfoot k).1 h)
    · exact .inr (HLS.out.fresh k (.inr h))
   have hPf : ∀ k, P.foot k → W.heap.size ≤ k ∧ k < B := HPL.out
   have hTr : ∀ k, T.foot k → k < wr.heap.size := fun k hk => HLS.out.tape.lt hk
   have hCf : ∀ k, C.foot k → wr.heap.size ≤ k := HDR.out.cnew
   have hD'f : ∀ k, D'.foot k → D2.foot k ∨ wr.heap.size ≤ k := HDR.out.dnew
   have hTM : ∀ k, T.foot k → ¬ (D2.foot k ∨ k = B) := fun k hk h => by
    rcases hTf k hk with h1 | h1
    · exact h.elim (fun h => HDD.out k h1 h) fun h => by have := hDl k h1; omega
    · exact h.elim (fun h => by have := h2l k h; omega) fun h => by omega
   have hT5 : TapeAt base w5 T := HLS.out.tape.mod HDR.out.mod hTM
   have hP5 : PendAt base w5 P := (hP3.mod HLS.out.mod (fun k hk h => by
    have h1 := hPf k hk
    rcases h with h | h
    · have := hDl k h; omega
    · omega)).mod HDR.out.mod (fun k hk h => by
    have h1 := hPf k hk
    rcases h with h | h
    · have := h2l k h; omega
    · omega)
   have hawx : (∀ k, T.foot k → k ≠ B ∧ ¬ P.foot k) ∧ ∀ k, P.foot k → k ≠ B := ⟨fun k hk => by
    rcases hTf k hk with h1 | h1
    · have h2 := hDl k h1
      exact ⟨by omega, fun h => by have := hPf k h; omega⟩
    · exact ⟨by omega, fun h => by have := hPf k h; omega⟩, fun k hk => by have := hPf k hk; omega⟩
   have hBb : base ≤ B := Nat.le_trans HBS.out hBWo
   have hTb5 : TabB base w5 := ((HTB.out.below HBE.out).mod HLS.out.mod (fun k hk => hk.elim (fun h => HD.out.base_le h) fun e => e ▸ hBb)).mod HDR.out.mod (fun k hk => hk.elim (fun h => HD2.out.base_le h) fun e => e ▸ hBb)
   have h5r : wr.heap.size ≤ w5.heap.size := HDR.out.mod.size
   have hMb : ∀ k, C.foot k ∨ D'.foot k → base ≤ k := fun k hk => hk.elim (fun h => by have := hCf k h; have := HBS.out; omega) fun h => HDR.out.dsk.base_le h
   have hM : ∀ k, C.foot k ∨ D'.foot k → k < w5.heap.size ∧ k ≠ B ∧ ¬ T.foot k ∧ ¬ P.foot k := fun k hk => by
    have hlt : k < w5.heap.size := hk.elim (fun h => HDR.out.cq.lt h) fun h => HDR.out.dsk.lt h
    have ho : D2.foot k ∨ wr.heap.size ≤ k := hk.elim (fun h => .inr (hCf k h)) fun h => hD'f k h
    rcases ho with h | h
    · have := h2l k h
      exact ⟨hlt, by omega, fun h3 => hTM k h3 (.inl h), fun h3 => by have := hPf k h3; omega⟩
    · exact ⟨hlt, by omega, fun h3 => by have := hTr k h3; omega, fun h3 => by have := hPf k h3; omega⟩
   have hdb : C.db = D'.blk := by rw [HDR.out.db, HDR.out.grow.blk]
   have hall5 : ∀ (w : World) (b7 : Nat), Mod (fun k => k = B ∨ P.foot k) w5 w → w5.heap.size ≤ b7 → w.heap[b7]? = some (.cells #[.pointer (some ⟨T.O.blk, 0, none⟩), .pointer (some ⟨C.blk, 0, none⟩), .pointer (some ⟨kb, 0, none⟩), .int .i64 (T.R.b : Int)] 158 (0, 0)) →
    Calls Tryz.prog 19 #[.pointer (some ⟨b7, 0, none⟩)] w fun e w' => ∃ n : Int, e = .returned (.tuple #[.int .i64 n, .int .i64 0]) ∧ Post C D' w w' ∧ Mod (fun k => (C.foot k ∨ D'.foot k) ∨ k = b7) w w' := fun w b7 hm hb7 hc =>
    HALL.out T C D' kb w b7 (hT5.mod hm (fun k hk h => h.elim (fun h => (hawx.1 k hk).1 h) fun h => (hawx.1 k hk).2 h)) HLS.out.its HLS.out.b HLS.out.syn HLS.out.quiet
     (hTb5.mod hm (fun k hk => hk.elim (fun e => e ▸ hBb) fun h => by have := hPf k h; have := HBS.out; omega)) (by have := hm.size; have := HBS.out; omega) (HDR.out.cq.mod hm (fun k hk h => h.elim (fun h => (hM k (.inl hk)).2.1 h) fun h => (hM k (.inl hk)).2.2.2 h)) HDR.out.qs hdb
     (HDR.out.dsk.mod hm (fun k hk h => h.elim (fun h => (hM k (.inr hk)).2.1 h) fun h => (hM k (.inr hk)).2.2.2 h)) HDR.out.grow HDR.out.away (fun k hk => ⟨fun h => (hM k (.inl h)).2.2.1 hk, fun h => (hM k (.inr h)).2.2.1 hk⟩)
     ⟨fun h => by have := hTr _ h; omega, fun h => by have := (hM _ (.inl h)).1; omega, fun h => by have := (hM _ (.inr h)).1; omega⟩ hc
   have hstab5 : ∀ w0 w1 w2 b8 b9, Post C D' w0 w1 → w5.heap.size ≤ b8 → b8 < w0.heap.size → w5.heap.size ≤ b9 → b9 < w0.heap.size → Mod (fun k => k = b8 ∨ k = b9) w1 w2 → Post C D' w0 w2 := fun w0 w1 w2 b8 b9 hp i1 i2 i3 i4 hm =>
    HSTAB.out C D' w0 w1 w2 _ hp hm (fun k hk => ⟨by rcases hk with e | e <;> omega, fun h => by have := (hM _ (.inl h)).1; rcases hk with e | e <;> omega, fun h => by have := (hM _ (.inr h)).1; rcases hk with e | e <;> omega⟩)
   have hrecs : T.O.recs = recsOf R.b its := by rw [hT5.recs, HLS.out.its, HLS.out.b]
   have HRP := Lib.hid (replay_any (M := fun k => C.foot k ∨ D'.foot k) (Post := Post C D') (T := T) (P := P) (cb := C.blk) (kb := kb) (tb := tb) _ _ _ w5 (by rw [HLS.out.dblk]; exact HB5.out) hT5 hP5 hawx hTb5 (by have := HBS.out; omega) HLS.out.quiet (HLS.out.none HN3.out) (by rw [hrecs]; exact HRL.out) (by rw [hrecs]; exact HK2.out) hBb hMb hM hall5 hstab5)
   have HF : Hid ((∀ k, T.foot k → D.foot k ∨ w3.heap.size ≤ k) ∧ (∀ k, P.foot k → W.heap.size ≤ k ∧ k < B) ∧ (∀ k, C.foot k → wr.heap.size ≤ k) ∧ (∀ k, D'.foot k → D2.foot k ∨ wr.heap.size ≤ k)) := ⟨hTf, hPf, hCf, hD'f⟩
   have HAWX := Lib.hid hawx
   have hp3 : b3 < wr.heap.size := (Array.getElem?_eq_some_iff.1 HPR.out.t).1
   have hp4 : b4 < wr.heap.size := (Array.getElem?_eq_some_iff.1 HPR.out.g).1
   have hnot : ∀ b, w3.heap.size ≤ b → b < wr.heap.size → ¬ (D2.foot b ∨ b = B) ∧ ¬ (b = B ∨ P.foot b ∨ C.foot b ∨ D'.foot b) := fun b h1 h2 =>
    ⟨fun h => h.elim (fun h => by have := h2l b h; omega) fun h => by omega, fun h => h.elim (fun h => by omega) fun h => h.elim (fun h => by have := hPf b h; omega) fun h => h.elim (fun h => by have := hCf b h; omega) fun h => (hD'f b h).elim (fun h => by have := h2l b h; omega) fun h => by omega⟩
   have HPS5 : Hid (∀ w6, Mod (fun k => k = B ∨ P.foot k ∨ C.foot k ∨ D'.foot k) w5 w6 → Pair w6 W.heap.size b3 b4 D.blk T ∧ ¬ (b3 = B ∨ T.foot b3 ∨ P.foot b3) ∧ ¬ (b4 = B ∨ T.foot b4 ∨ P.foot b4)) := fun w6 hm => by
    have q := HPR.out
    have q1 := hnot b3 q.lo.1 hp3
    have q2 := hnot b4 q.lo.2.1 hp4
    have q3 := (q.mod HDR.out.mod q1.1 q2.1).mod hm q1.2 q2.2
    refine ⟨{ q3 with lo := ⟨by have := q.lo; omega, by have := q.lo; omega, q.lo.2.2⟩ }, fun h => ?_, fun h => ?_⟩
    · rcases h with h | h | h
      · exact q1.2 (.inl h)
      · exact (q.away _ h).1 rfl
      · exact q1.2 (.inr (.inl h))
    · rcases h with h | h | h
      · exact q2.2 (.inl h)
      · exact (q.away _ h).2 rfl
      · exact q2.2 (.inr (.inl h))
   clear hp3 hp4 hnot
   clear hTf hPf hTr hCf hD'f hTM hall5 hstab5 hM hMb hdb hTb5 hawx hT5 hP5 hrecs h2l hDl
   go_wp2_with fail
   refine HRP.out.mono ?_
   rintro e w6 ⟨rfl, b7, b8, b9, w0, hB6, hT6, hP6, hpost, hm6⟩
   clear HRP
   have HPS := Lib.hid (HPS5.out w6 hm6)
   go_wp2_with fail
   go_ret2
   obtain ⟨f1, f2, f3, f4⟩ := HF.out
   refine ⟨⟨B, T, { P with all := notesP T.O.recs P.all }, .pointer (some ⟨C.blk, 0, none⟩), .pointer (some ⟨kb, 0, none⟩), .pointer (some ⟨b3, 0, none⟩), .pointer (some ⟨b4, 0, none⟩), .pointer (some ⟨tb, 0, none⟩), .pointer (some ⟨b7, 0, none⟩), .pointer (some ⟨b8, 0, none⟩), .pointer (some ⟨b9, 0, none⟩), .pointer (some ⟨T.D.blk, 0, none⟩), (now : Int)⟩, C, D', w0, rfl,
    ⟨hB6, hT6, hP6, Nat.le_trans HBS.out hBWo, HAWX.out⟩, rfl, rfl, HLS.out.its, HLS.out.b, HLS.out.syn, HLS.out.waits, HLS.out.quiet, HLS.out.dblk, HLS.out.room, HLS.out.find, ?_, hpost, ?_, fun k hk => ?_⟩
   · exact ⟨b3, b4, rfl, rfl, by show Value.pointer (some ⟨T.D.blk, 0, none⟩) = _; rw [HLS.out.dblk], HPS.out.1, HPS.out.2.1, HPS.out.2.2, by show notesP T.O.recs P.all = _; rw [hall0]⟩
   · have m1 : Mod (fun k => (D.foot k ∨ D2.foot k) ∨ W.heap.size ≤ k) W w3 := Mod.of_below HBE.out
     have m2 := m1.trans (HLS.out.mod.mono (N := fun k => (D.foot k ∨ D2.foot k) ∨ W.heap.size ≤ k) fun k _ h => h.elim (fun h => .inl (.inl h)) fun h => .inr (by omega))
     have m3 := m2.trans (HDR.out.mod.mono (N := fun k => (D.foot k ∨ D2.foot k) ∨ W.heap.size ≤ k) fun k _ h => h.elim (fun h => .inl (.inr h)) fun h => .inr (by omega))
     have m4 := m3.trans (hm6.mono (N := fun k => (D.foot k ∨ D2.foot k) ∨ W.heap.size ≤ k) fun k _ h => h.elim (fun h => .inr (by omega)) fun h => h.elim (fun h => .inr (f2 k h).1) fun h => h.elim (fun h => .inr (by have := f3 k h; omega)) fun h => (f4 k h).elim (fun h => .inl (.inr h)) fun h => .inr (by omega))
     exact m4.mono fun k hk h => h.elim (fun h => h) fun h => by omega
   · rcases hk with h | h | h
     · exact .inr (by have h' : k = B := h; omega)
     · exact (f1 k h).imp (fun h => h) fun h => by omega
     · exact .inr (f2 k h).1
def freshR (D : DiskD) : SegD := ⟨0, D.blk, tapeH, 1024, 0, 0, [], 0, .slice none 0 0⟩
theorem fresh_laid (D : DiskD) (h : D.files = []) : LaidOn D (freshR D) := by
 refine ⟨⟨show 16 ≤ 1024 by decide, show 1024 ≤ 4096 by decide⟩, fun _ => ⟨rfl, rfl⟩, fun h => absurd h (Nat.lt_irrefl 0), rfl, by show tapeH.length ≤ _; decide, ?_, ?_, rfl⟩
 · intro i hi
   exact absurd hi (Nat.not_lt_zero _)
 · intro p _ _
   exact find_not.2 (by rw [h]; simp)
theorem find_empty {D : DiskD} (h : D.files = []) (n : List UInt8) : D.find n = none := find_not.2 (by rw [h]; simp)
theorem files_nil {D D1 : DiskD} (h : D.files = []) (k : ∀ n, (D1.find n).isSome = (D.find n).isSome) : D1.files = [] := by
 cases hf : D1.files with
 | nil => rfl
 | cons p l =>
   have h1 := k p.1
   rw [find_empty h] at h1
   have h2 : D1.find p.1 = none := by cases hh : D1.find p.1 with
    | none => rfl
    | some f => rw [hh] at h1; cases h1
   exact absurd (List.mem_map.2 ⟨p, by rw [hf]; exact List.mem_cons_self, rfl⟩) (find_not.1 h2)
theorem sopen_fresh {base : Nat} {D D2 : DiskD} (now : Nat) (W : World) (hD : DiskAt base W D) (hq : Quiet D) (hf : D.files = []) (hwt : D.waits = []) (hbase : base ≤ W.heap.size) (hT : TabB base W) (h2 : DiskAt base W D2) (hq2 : Quiet D2) (hf2 : D2.files = []) (hr2 : 120 ≤ D2.room) (hw2 : D2.waits = []) (hdd : ∀ k, D.foot k → ¬ D2.foot k) (hnow : now ≤ 1099511626776) :
 Calls Tryz.prog 27 #[.pointer (some ⟨D.blk, 0, none⟩), .pointer (some ⟨D2.blk, 0, none⟩), .int .i64 (now : Int)] W fun e w' => ∃ S, e = .returned (.tuple #[.pointer (some ⟨S.blk, 0, none⟩), .int .i64 0]) ∧ StoAt base w' S ∧ S.now = (now : Int) ∧ S.T.its = [] ∧ S.T.R.b = 0 ∧ S.T.R.synced = S.T.R.e ∧ S.T.D.waits = [] ∧ Quiet S.T.D ∧ S.T.D.blk = D.blk ∧ S.T.D.room = D.room ∧ S.T.D.files = [] ∧ (∃ b3 b4, S.top = .pointer (some ⟨b3, 0, none⟩) ∧ S.off = .pointer (some ⟨b4, 0, none⟩) ∧ S.dk = .pointer (some ⟨D.blk, 0, none⟩) ∧ Pair w' W.heap.size b3 b4 D.blk S.T ∧ ¬ S.foot b3 ∧ ¬ S.foot b4 ∧ S.P.all = notesP S.T.O.recs []) ∧
  Mod (fun k => D.foot k ∨ D2.foot k) W w' ∧ (∀ k, S.foot k → D.foot k ∨ W.heap.size ≤ k) := by
 refine (sopen_any (R := freshR D) (its := []) (Post := fun _ _ _ _ => True) now W (fresh_laid D hf) hD hq (by rw [hf]; simp) (by rw [hf]; intro p hp; cases hp) hbase hT rfl rfl rfl trivial (fun x hx => by cases hx) (by simp) hwt (find_empty hf _) (find_empty hf _) (find_empty hf _) h2 hq2 hf2 hr2 hw2 hdd hnow (fun p hp => by cases hp) (by simp [recsOf])
  (fun T C D' kb w b7 a1 a2 a3 a4 a5 a6 a7 a8 a9 b1 b2 b3 b4 b5 b6 hc => ?_) (fun _ _ _ _ _ _ _ _ _ => trivial)).mono fun e w' ⟨S, C, D', w0, x1, x2, x3, x4, x5, x6, x7, x8, x9, y1, y2, yf, yp, y3, y4, y5⟩ => ⟨S, x1, x2, x3, x5, x6, x7, x8, x9, y1, y2, files_nil hf yf, yp, y4, y5⟩
 have hr : T.O.recs = [] := by rw [a1.recs, a2]; rfl
 exact (dall_none w a1.own hc (by rw [hr]; exact List.Pairwise.nil) (by rw [hr]; simp) (by rw [hr]; rfl)).mono fun e w' ⟨h1, h2⟩ => ⟨0, h1, trivial, Mod.of_below (h2.below _)⟩
end Go.Proofs.YtjjkhbfimpgplaaGreatDoor.StoW
namespace Go.Proofs.YtjjkhbfimpgplaaGreatDoor.MapG
open Go.RowKit Go.MapKept
set_option linter.unusedVariables false
set_option linter.unusedSimpArgs false
variable {P : Program}
theorem delete_old {mt kt et ty : TypeId} {K : Value → Prop} (hm : P.underlying mt = some (.map kt et)) (hK : Keyed P kt K) {w : World} {b : Nat} {l l1 l2 : List (Value × Value)} (h : PairsAt w b l) (hl : ∀ p ∈ l, K p.1) {k v0 : Value} (hk : K k) (he : l = l1 ++ (k, v0) :: l2) :
 ∃ w', (Builtin.delete_ #[mt, kt] ty #[.map (some b), k]).run P w = .ok (.tuple #[]) w' ∧ PairsAt w' b (l1 ++ l2) ∧ Mod (fun x => x = b) w w' := by
 have hnd := h.nodup
 obtain ⟨es, c, hb, hst, hmap⟩ := h
 rcases hK.find k hk es.toList (keys_of hmap hl) w with ⟨h1, h2⟩ | ⟨j, e, h1, h2, h3⟩
 ·
  exfalso
  have : (k, v0) ∈ es.toList.map (fun e => (e.key, e.val)) := by rw [hmap, he]; simp
  obtain ⟨x, hx, hxe⟩ := List.mem_map.1 this
  exact h1 x hx (Prod.mk.inj hxe).1
 ·
  have hrun : (Builtin.delete_ #[mt, kt] ty #[.map (some b), k]).run P w = .ok (.tuple #[]) { w with heap := w.heap.setIfInBounds b (.map (es.eraseIdxIfInBounds j) c) } := by
   simp [Builtin.delete_, run_underlying hm, Go.MapKept.run_getObj_map hb, hK.check k hk, h1, Go.MapKept.run_setObj_map _ hb, Result.andThen]
  refine ⟨_, hrun, ⟨_, c, (heap_set hb).1, stamped_erase hst _, ?_⟩, ⟨rfl, rfl, rfl, by simp, fun r _ hr => (heap_set hb).2 r hr⟩⟩
  have hjlt : j < es.size := by
   have := (List.getElem?_eq_some_iff.1 h2).1
   simpa using this
  have hjl : l[j]? = some (k, e.val) := by rw [← hmap, List.getElem?_map, h2, Option.map_some, h3]
  have hl1 : l1.length = j := by
   have hx : l[l1.length]? = some (k, v0) := by rw [he]; simp
   have hn1 : (l.map (·.1))[l1.length]? = some k := by rw [List.getElem?_map, hx]; rfl
   have hn2 : (l.map (·.1))[j]? = some k := by rw [List.getElem?_map, hjl]; rfl
   have h6 : l1.length < (l.map (·.1)).length := (List.getElem?_eq_some_iff.1 hn1).1
   exact (List.getElem?_inj h6 hnd).1 (hn1.trans hn2.symm)
  have : (es.eraseIdxIfInBounds j).toList = es.toList.eraseIdx j := by
   unfold Array.eraseIdxIfInBounds
   rw [dif_pos hjlt, Array.toList_eraseIdx]
  have hme : ∀ (xs : List MapEntry) (n : Nat), (xs.eraseIdx n).map (fun e => (e.key, e.val)) = (xs.map fun e => (e.key, e.val)).eraseIdx n := fun xs => by
   induction xs with
   | nil => intro n; rfl
   | cons x xs ih => intro n; cases n with
     | zero => rfl
     | succ n => simp [ih]
  rw [this, hme, hmap, he, ← hl1, List.eraseIdx_append_of_length_le (Nat.le_refl _)]
  simp
end Go.Proofs.YtjjkhbfimpgplaaGreatDoor.MapG
namespace Go.Proofs.YtjjkhbfimpgplaaGreatDoor.DskW
open Go.RowKit Go.MapKept OctMath MapG
set_option linter.unusedVariables false
set_option linter.unusedSimpArgs false
set_option maxRecDepth 100000
def pairsF (l : List (List UInt8 × FileD)) : List (Value × Value) := l.map fun p => (.string (S p.1), .pointer (some ⟨p.2.blk, 0, none⟩))
theorem DiskAt.pairs {base : Nat} {w : World} {D : DiskD} (h : DiskAt base w D) : PairsAt w D.mB (pairsF D.files) := h.map
theorem keyedS : Keyed Tryz.prog 9 (IsKey .string) := Keyed.of_isKey Tryz.underlying9
theorem keysF (l : List (List UInt8 × FileD)) : ∀ p ∈ pairsF l, IsKey .string p.1 := fun p hp => by
 obtain ⟨q, _, rfl⟩ := List.mem_map.1 hp
 trivial
def without (l : List (List UInt8 × FileD)) (n : List UInt8) : List (List UInt8 × FileD) := l.filter fun p => !decide (p.1 = n)
theorem without_split {l l1 l2 : List (List UInt8 × FileD)} {n : List UInt8} {f : FileD} (hn : (l.map (·.1)).Nodup) (h : l = l1 ++ (n, f) :: l2) : without l n = l1 ++ l2 := by
 subst h
 rw [List.map_append, List.map_cons, List.nodup_append] at hn
 obtain ⟨_, h2, h3⟩ := hn
 have a1 : without l1 n = l1 := List.filter_eq_self.2 fun p hp => by
  have := h3 p.1 (List.mem_map.2 ⟨p, hp, rfl⟩) n (.head _)
  simpa using this
 have a2 : without l2 n = l2 := List.filter_eq_self.2 fun p hp => by
  have := (List.nodup_cons.1 h2).1
  have h4 : p.1 ≠ n := fun e => this (e ▸ List.mem_map.2 ⟨p, hp, rfl⟩)
  simpa using h4
 show List.filter _ _ = _
 rw [List.filter_append, List.filter_cons]
 rw [show (!decide (((n, f) : List UInt8 × FileD).1 = n)) = false by simp]
 show without l1 n ++ without l2 n = _
 rw [a1, a2]
theorem mem_without {l : List (List UInt8 × FileD)} {n : List UInt8} {p : List UInt8 × FileD} : p ∈ without l n ↔ p ∈ l ∧ p.1 ≠ n := by
 unfold without; rw [List.mem_filter]; simp
theorem without_sub (l : List (List UInt8 × FileD)) (n : List UInt8) : (without l n).Sublist l := List.filter_sublist
theorem sizeL_without (l : List (List UInt8 × FileD)) (n : List UInt8) : sizeL (without l n) ≤ sizeL l := by
 unfold sizeL
 induction l with
 | nil => exact Nat.le_refl _
 | cons p l ih =>
   unfold without at ih ⊢
   rw [List.filter_cons]
   split
   iterate 2
    · simp only [List.map_cons, List.sum_cons]; omega
theorem pairs_without {l : List (List UInt8 × FileD)} {n : List UInt8} {f : FileD} (hn : (l.map (·.1)).Nodup) (hf : (n, f) ∈ l) : ∃ l1 l2, pairsF l = l1 ++ (.string (S n), .pointer (some ⟨f.blk, 0, none⟩)) :: l2 ∧ pairsF (without l n) = l1 ++ l2 := by
 obtain ⟨a, b, h⟩ := List.append_of_mem hf
 refine ⟨pairsF a, pairsF b, by rw [h]; simp [pairsF], by rw [without_split hn h]; simp [pairsF]⟩
theorem DiskAt.less {base : Nat} {w w' : World} {D : DiskD} (h : DiskAt base w D) (hw : D.waits = []) (n : List UInt8) (hp : PairsAt w' D.mB (pairsF (without D.files n))) (hm : Mod (fun k => k = D.mB) w w') : DiskAt base w' { D with files := without D.files n } := by
 have hsub := without_sub D.files n
 refine ⟨?_, hp, fun p hp => ?_, ?_, h.names.sublist (hsub.map _), h.blocks.sublist (hsub.map _), ⟨h.apart.1, fun p hp => h.apart.2.1 p (mem_without.1 hp).1, fun k hk => ⟨(h.apart.2.2 k hk).1, (h.apart.2.2 k hk).2.1, fun p hp => (h.apart.2.2 k hk).2.2 p (mem_without.1 hp).1⟩⟩, ⟨h.above.1, h.above.2.1, fun p hp => h.above.2.2 p (mem_without.1 hp).1⟩, h.ints, ?_, fun x hx => by rw [show D.waits = [] from hw] at hx; cases hx⟩
 · exact (hm.block _ (h.lt (.inl rfl)) h.apart.1).trans h.head
 · have hp' := (mem_without.1 hp).1
   exact (hm.block _ (h.lt (.inr (.inr (.inl ⟨p, hp', rfl⟩)))) (h.apart.2.1 p hp').2).trans (h.file p hp')
 · exact SegW.ownsRow_mod h.row hm fun k hk e => (h.apart.2.2 k hk).2.1 e
 ·
  have := sizeL_without D.files n
  have h2 := h.fits
  unfold DiskD.size at h2 ⊢
  show ((sizeL (without D.files n) : Nat) : Int) ≤ D.cap
  omega
theorem index_void (a : Option Addr) (cp : Nat) (fv : Value) (w : World) : Calls Tryz.prog 273 #[.slice a 0 cp, fv] w fun e w' => e = .returned (.int .i64 (-1)) ∧ w' = w := by
 go_enter Tryz.func273, Tryz.ntmps273
 go_wp2_with fail
 go_loopw [8] (fun i wr => i = .int .i64 0 ∧ wr = w) (fun i _ => 0)
 case atStart => exact ⟨rfl, rfl⟩
 case round =>
  obtain ⟨rfl, rfl⟩ := hrel
  go_wp2_with fail
  go_ret
  exact ⟨rfl, rfl⟩
theorem delete_void (a : Option Addr) (cp : Nat) (fv : Value) (w : World) : Calls Tryz.prog 244 #[.slice a 0 cp, fv] w fun e w' => e = .returned (.slice a 0 cp) ∧ w' = w := by
 go_enter Tryz.func244, Tryz.ntmps244
 go_wp2_with fail
 refine (index_void a cp fv w).mono ?_
 rintro e w2 ⟨rfl, he⟩
 obtain rfl := he.symm
 go_wp2_with fail
 go_ret
 exact ⟨rfl, rfl⟩
set_option maxHeartbeats 1600000 in
theorem drop_q {base : Nat} {D : DiskD} (a : Option Addr) (cap : Nat) (n : List UInt8) (f : FileD) (w : World) (h : DiskAt base w D) (hw : D.waits = []) (hf : (n, f) ∈ D.files) (hr : Row1 w a [.string (S n)]) (haf : ∀ ad, a = some ad → ¬ D.foot ad.block) :
 Calls Tryz.prog 197 #[.pointer (some ⟨D.blk, 0, none⟩), .slice a 1 cap] w fun e w' => e = .returned (.tuple #[]) ∧ DiskAt base w' { D with files := without D.files n } ∧ Mod D.foot w w' := by
 obtain ⟨b, off, rfl, hcell⟩ := hr 0 (by simp)
 have hab := haf _ rfl
 have hlk := lookup_file h n
 rw [find_of_mem h.names hf] at hlk
 unfold fileV at hlk
 simp only [Option.map_some] at hlk
 obtain ⟨aw, cw, hwv⟩ := own_slice h.row
 rw [hw] at hwv
 replace hwv : D.wv = .slice aw 0 cw := hwv
 have c2 : w.cell? ⟨D.blk, 2, none⟩ = some (.map (some D.mB)) := h.cell 2 _ rfl
 have c3 : w.cell? ⟨D.blk, 3, none⟩ = some (.slice aw 0 cw) := h.cell 3 _ (by show some D.wv = _; rw [hwv])
 have hcell0 : w.cell? ⟨b, off, none⟩ = some (.string (S n)) := hcell
 have HB1 : Hid (Below w.heap.size w (w.alloc (.cells #[.pointer (some ⟨f.blk, 0, none⟩)] 282))) := (Below.refl _ _).alloc (Nat.le_refl _) _
 have HD := Lib.hid h
 have HW := Lib.hid hw
 have HF := Lib.hid hf
 have HWV := Lib.hid hwv
 clear h hw hf hr haf hab hcell hwv
 go_enter Tryz.func197, Tryz.ntmps197
 go_wp2_with fail
 go_loopw [9] (fun i wr => (i = .int .i64 0 ∧ wr = w) ∨ (i = .int .i64 1 ∧ Hid (DiskAt base wr { D with files := without D.files n } ∧ Mod D.foot w wr))) (fun i _ => 1 - (intOf i).toNat)
 case atStart => exact .inl ⟨rfl, rfl⟩
 case round =>
  rcases hrel with ⟨rfl, rfl⟩ | ⟨rfl, HR⟩
  ·
   go_upto_region 4 with fail
   have hd1 := HD.out.below HB1.out
   have d2 : (wr.alloc (.cells #[.pointer (some ⟨f.blk, 0, none⟩)] 282)).cell? ⟨D.blk, 2, none⟩ = some (.map (some D.mB)) := hd1.cell 2 _ rfl
   have d3 : (wr.alloc (.cells #[.pointer (some ⟨f.blk, 0, none⟩)] 282)).cell? ⟨D.blk, 3, none⟩ = some (.slice aw 0 cw) := hd1.cell 3 _ (by show some D.wv = _; rw [HWV.out])
   have d3f : (wr.alloc (.cells #[.pointer (some ⟨f.blk, 0, none⟩)] 282)).frozen? ⟨D.blk, 3, none⟩ = false := by
    unfold World.frozen?; rw [show (wr.alloc (.cells #[.pointer (some ⟨f.blk, 0, none⟩)] 282)).heap[(⟨D.blk, 3, none⟩ : Addr).block]? = _ from hd1.head]; rfl
   have HD1 := Lib.hid hd1
   have HM1 : Hid (Mod D.foot wr (wr.alloc (.cells #[.pointer (some ⟨f.blk, 0, none⟩)] 282))) := Mod.of_below HB1.out
   clear hd1 c2 c3 hlk hcell0 HB1
   generalize wr.alloc (.cells #[.pointer (some ⟨f.blk, 0, none⟩)] 282) = w1 at *
   generalize wr.heap.size = bx at *
   go_wp2_with fail
   refine (delete_void aw cw _ w1).mono ?_
   rintro e w2 ⟨rfl, he⟩
   obtain rfl := he.symm
   obtain ⟨hd2, hm2⟩ := HD1.out.set_waits D.wv D.waits ⟨rfl, rfl, rfl, Nat.le_refl _, fun _ _ _ => rfl⟩ HD1.out.row (fun k hk => .inl hk) HD1.out.waitf
   rw [HWV.out] at hd2 hm2
   have HD2 : Hid (DiskAt base (w1.setCell ⟨D.blk, 3, none⟩ (.slice aw 0 cw)) D) := by
    have e : ({ D with wv := .slice aw 0 cw, waits := D.waits } : DiskD) = D := by rw [← HWV.out]
    rw [e] at hd2
    exact hd2
   have HM2 := Lib.hid (HM1.out.trans hm2)
   clear hd2 hm2 HD1 HM1
   go_upto_region 5 with fail
   clear d2 d3 d3f
   generalize w1.setCell ⟨D.blk, 3, none⟩ (.slice aw 0 cw) = w2 at *
   have e2 : w2.cell? ⟨D.blk, 2, none⟩ = some (.map (some D.mB)) := HD2.out.cell 2 _ rfl
   obtain ⟨l1, l2, hl, hl2⟩ := pairs_without HD2.out.names HF.out
   have hdel : ∃ w3, (∀ ty, (Builtin.delete_ #[83, 9] ty #[.map (some D.mB), .string (S n)]).run Tryz.prog w2 = .ok (.tuple #[]) w3) ∧ PairsAt w3 D.mB (l1 ++ l2) ∧ Mod (fun x => x = D.mB) w2 w3 := by
    obtain ⟨w3, h1, h2, h3⟩ := delete_old (ty := 0) Tryz.underlying83 keyedS HD2.out.pairs (keysF _) (k := .string (S n)) trivial hl
    exact ⟨w3, fun ty => h1, h2, h3⟩
   obtain ⟨w3, hrun, hp3, hm3⟩ := hdel
   rw [← hl2] at hp3
   have HD3 := Lib.hid (HD2.out.less HW.out n hp3 hm3)
   have HM3 := Lib.hid (HM2.out.trans (hm3.mono (fun k _ hk => .inr (.inl hk))))
   clear hp3 hm3 hl hl2
   go_wp2_with fail
   go_roundw
   case rel => exact .inr ⟨by go_num, HD3.out, HM3.out⟩
   case measure => simp [intOf]
  · go_wp2_with fail
    go_end0
    exact ⟨rfl, HR.out.1, HR.out.2⟩
end Go.Proofs.YtjjkhbfimpgplaaGreatDoor.DskW
