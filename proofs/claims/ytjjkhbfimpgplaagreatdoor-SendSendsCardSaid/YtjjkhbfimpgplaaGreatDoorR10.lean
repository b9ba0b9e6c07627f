/- A store with its topics: Made. And what follows. -/
import Derived.Test.YtjjkhbfimpgplaaGreatDoorR09
import Derived.Test.YtjjkhbfimpgplaaGreatDoorR08
import Derived.Test.YtjjkhbfimpgplaaGreatDoorR04
import Derived.Test.YtjjkhbfimpgplaaGreatDoorR05
import Derived.Deep.DeepCutAuto
import Derived.Test.YtjjkhbfimpgplaaGreatDoorR07
import Derived.Test.YtjjkhbfimpgplaaGreatDoorR01
import Derived.Test.YtjjkhbfimpgplaaGreatDoorR02
import Derived.Maps.Own
import Derived.Shelf.SlIterI.Collect
import Derived.Test.YtjjkhbfimpgplaaGreatDoorR00
set_option maxHeartbeats 25600000
namespace Go.Proofs.YtjjkhbfimpgplaaGreatDoor.SndW
open Go.RowKit Go.MapKept Go.Sort OctMath RecMath RecW DskW SegW TapeW TapeMath PendW CacheW StoW TopW NameMath
set_option linter.unusedVariables false
set_option linter.unusedSimpArgs false
set_option maxRecDepth 100000
structure MadeI (base : Nat) (W w : World) (D : DiskD) (now used : Int) (S : StoD) (X : TabD) : Prop where
 st : StoTab base w S X
 now : S.now = now
 its : S.T.its = []
 b : S.T.R.b = 0
 syn : S.T.R.synced = S.T.R.e
 wt : S.T.D.waits = []
 q : Quiet S.T.D
 db : S.T.D.blk = D.blk
 room : D.room - used ≤ S.T.D.room
 files : ∀ p ∈ S.T.D.files, p.1 = topicsN
 fl : S.T.D.files.length ≤ 1
 pend : S.P.all = []
 mod : Mod D.foot W w
 foot : ∀ k, S.foot k → D.foot k ∨ W.heap.size ≤ k
 xfoot : ∀ k, X.foot k → W.heap.size ≤ k
 low : base ≤ W.heap.size
theorem MadeI.below {base : Nat} {W w w' : World} {D : DiskD} {now used : Int} {S : StoD} {X : TabD} (h : MadeI base W w D now used S X) (hb : Below w.heap.size w w') : MadeI base W w' D now used S X :=
 { h with st := h.st.below hb, mod := h.mod.trans (Mod.of_below hb) }
theorem tab_cell {base : Nat} {w : World} {S0 : StoD} {X : TabD} (h : StoTab base w S0 X) : w.cell? ⟨S0.blk, 3, none⟩ = some (.pointer (some ⟨X.blk, 0, none⟩)) :=
 (h.sto.cell 3 _ rfl).trans (by show some S0.top = _; rw [h.top])
theorem topics_not : ∀ p, p ≤ 99999999 → topicsN ≠ nameL tapeH p := not_tape fun x l e => by cases e
theorem MadeI.add {base : Nat} {W w : World} {D : DiskD} {now used : Int} {S0 : StoD} {X : TabD} (h : MadeI base W w D now used S0 X) (n : List UInt8) (q : Nat) (u : Int) (hok : rightT X.l n q = 0) (hn : n.length ≤ 1000) (hl : ∀ x ∈ X.l, x.1.length ≤ 1000 ∧ x.2 ≤ 255)
 (hu : used + ((CrcMath.sealed (putT (X.l ++ [(n, q)]))).length : Int) = u) (hr : u ≤ D.room) :
 Calls Tryz.prog 28 #[.pointer (some ⟨X.blk, 0, none⟩), .string (S n), .int .i64 (q : Int)] w fun e w' => e = .returned (.int .i64 0) ∧ ∃ S1 X1, MadeI base W w' D now u S1 X1 ∧ X1.l = X.l ++ [(n, q)] ∧ X1.blk = X.blk ∧ S1.blk = S0.blk := by
 have ht := h.st.tab
 have hdk := h.st.dk
 have hz := h.mod.size
 obtain ⟨xb, dk, v, l⟩ := X
 dsimp only at *
 subst hdk
 have hc := tadd_q (D := S0.T.D) n q w ht h.st.sto.tape.whole.dsk (fun k hk e => h.st.away k (.inr (.inl (.inr (.inl hk)))) (by subst e; exact .inl rfl)) h.q h.wt (fun x hx => by
  obtain ⟨p, hp, rfl⟩ := List.mem_map.1 hx
  rw [h.files p hp]; decide) (by have := h.fl; omega) (fun p hp => by rw [h.files p hp]; decide) hok hn hl (by have := h.room; omega) (by have := h.low; omega)
 refine hc.mono fun e w' ⟨he, v', b, wv, m, h1, h2, h3, h4, h5, h6, h7⟩ => ⟨he, S0.disk (DiskD.saved S0.T.D topicsN b (CrcMath.sealed (putT (l ++ [(n, q)]))) wv), ⟨xb, S0.T.D.blk, v', l ++ [(n, q)]⟩, ?_, rfl, rfl, rfl⟩
 obtain ⟨hs, hf⟩ := h.st.add topics_not h.wt h2 h1 h3 h4 h5 h6 h7
 have hfl : (DiskD.saved S0.T.D topicsN b (CrcMath.sealed (putT (l ++ [(n, q)]))) wv).files = [(topicsN, ⟨b, CrcMath.sealed (putT (l ++ [(n, q)])), CrcMath.sealed (putT (l ++ [(n, q)]))⟩)] := by
  show without S0.T.D.files topicsN ++ _ = _
  have : without S0.T.D.files topicsN = [] := List.filter_eq_nil_iff.2 fun p hp => by simp [h.files p hp]
  rw [this]; rfl
 have hrm := saved_room (D := S0.T.D) (n := topicsN) (t := CrcMath.sealed (putT (l ++ [(n, q)]))) (b := b) (wv := wv)
 refine ⟨hs, h.now, h.its, h.b, h.syn, h.wt, ⟨h.q.left, h.q.up⟩, h.db, by have := h.room; show _ ≤ (DiskD.saved S0.T.D topicsN b (CrcMath.sealed (putT (l ++ [(n, q)]))) wv).room; omega, fun p hp => ?_, ?_, h.pend, ?_, fun k hk => (hf k hk).elim (h.foot k) fun h => .inr (by omega), fun k hk => ?_, h.low⟩
 · have hp : p ∈ (DiskD.saved S0.T.D topicsN b (CrcMath.sealed (putT (l ++ [(n, q)]))) wv).files := hp
   rw [hfl, List.mem_singleton] at hp; rw [hp]
 · show (DiskD.saved S0.T.D topicsN b (CrcMath.sealed (putT (l ++ [(n, q)]))) wv).files.length ≤ 1
   rw [hfl]; exact Nat.le_refl _
 · exact ((h.mod.mono (N := fun k => D.foot k ∨ W.heap.size ≤ k) fun k _ h9 => .inl h9).trans (h3.mono (N := fun k => D.foot k ∨ W.heap.size ≤ k) fun k _ hk => hk.elim (fun h9 => h.foot k (.inr (.inl (.inr (.inl h9))))) fun e => .inr (h.xfoot k (.inl e)))).mono fun k hk h9 => h9.elim (fun h => h) fun h => by omega
 · rcases hk with hk | hk
   · exact h.xfoot k (.inl hk)
   · have := (h7 k hk).1; omega
def made3 : List (List UInt8 × Nat) := [([97], 1), ([98], 3), ([108, 111, 110, 103, 45, 116, 111, 112, 105, 99, 45, 110, 97, 109, 101, 49], 2)]
theorem made_len1 : ((CrcMath.sealed (putT ([] ++ [([97], 1)]))).length : Int) = 9 := by rw [CrcMath.sealed_length]; decide
theorem made_len2 : ((CrcMath.sealed (putT ([([97], 1)] ++ [([98], 3)]))).length : Int) = 13 := by rw [CrcMath.sealed_length]; decide
theorem made_len3 : ((CrcMath.sealed (putT ([([97], 1), ([98], 3)] ++ [([108, 111, 110, 103, 45, 116, 111, 112, 105, 99, 45, 110, 97, 109, 101, 49], 2)]))).length : Int) = 32 := by rw [CrcMath.sealed_length]; decide
set_option maxHeartbeats 12800000 in
theorem made_any {base : Nat} {D : DiskD} (now : Nat) (W : World) (hD : DiskAt base W D) (hq : Quiet D) (hf : D.files = []) (hwt : D.waits = []) (hbase : base ≤ W.heap.size) (hT : TabB base W) (hnow : now ≤ 1099511626776) (hr : 200 ≤ D.room) :
 Calls Tryz.prog 9 #[.pointer (some ⟨D.blk, 0, none⟩), .int .i64 (now : Int)] W fun e w' => ∃ S X, e = .returned (.tuple #[.pointer (some ⟨S.blk, 0, none⟩), .bool true]) ∧ MadeI base W w' D (now : Int) 54 S X ∧ X.l = made3 := by
 have HN2 := Lib.hid (DskW.new_any 4194304 base W hbase)
 have H1 : Hid (DiskAt base W D ∧ Quiet D ∧ D.files = [] ∧ D.waits = [] ∧ 200 ≤ D.room) := ⟨hD, hq, hf, hwt, hr⟩
 have HTB := Lib.hid hT
 have HBS := Lib.hid hbase
 have HNW := Lib.hid hnow
 clear hD hq hf hwt hT hbase hr hnow
 go_enter Tryz.func9, Tryz.ntmps9
 go_wp2_with fail
 refine HN2.out.mono ?_
 rintro e w4 ⟨D2, rfl, hD2, hb4, h11, h12, h13, h14, h15, h16, h17, h18⟩
 clear HN2
 obtain ⟨hD, hq1, hf1, hw1, hr1⟩ := H1.out
 have HB4 := Lib.hid hb4
 have HO := Lib.hid (sopen_fresh (base := base) now w4 (hD.below hb4) hq1 hf1 hw1 (Nat.le_trans HBS.out hb4.size) (HTB.out.below hb4) hD2 ⟨h13, h14⟩ h15 (by have := room_new (c := 4194304) h15 (by rw [h18]; rfl); omega) h16
  (fun k hk h2 => by have h3 := hD.lt hk; have h4 := foot_new hD2 h15 h17 h11 h12 k h2; omega) HNW.out)
 have HF2 : Hid (∀ k, D2.foot k → W.heap.size ≤ k) := fun k hk => foot_new hD2 h15 h17 h11 h12 k hk
 clear hD2 hb4 h11 h12 h13 h14 h15 h16 h17 h18 hD hq1 hf1 hw1 hr1 HTB HNW
 go_wp2_with fail
 refine HO.out.mono ?_
 rintro e w5 ⟨S0, rfl, hS, hnw, hits, hb, hsy, hwt, hq, hdb, hrm, hfs, ⟨b3, b4, ht3, ht4, hdk, hpr, hn3, hn4, hpd⟩, hm, hft⟩
 clear HO
 have hz4 := HB4.out.size
 have HI0 : Hid (MadeI base W w5 D (now : Int) 0 S0 ⟨b3, D.blk, .slice none 0 0, []⟩) := by
  refine ⟨⟨hS, ⟨hpr.t, ⟨rfl, .inl ⟨rfl, rfl⟩⟩, by have := hpr.lo; have := HBS.out; show base ≤ b3; omega⟩, ht3, hdb.symm, fun k hk h2 => ?_⟩, hnw, hits, hb, hsy, hwt, hq, hdb, by rw [hrm]; omega, by rw [hfs]; simp, by rw [hfs]; simp, ?_, ?_, fun k hk => (hft k hk).imp (fun h => h) fun h => by omega, fun k hk => ?_, HBS.out⟩
  · rcases h2 with h2 | h2
    · have h2 : k = b3 := h2
      subst h2; exact hn3 hk
    · cases h2
  · rw [hpd, recs_zero hS.tape hits]; rfl
  · exact ((Mod.of_below HB4.out).trans (hm.mono (N := fun k => D.foot k ∨ W.heap.size ≤ k) fun k _ hk => hk.imp (fun h => h) (HF2.out k))).mono fun k hk h => h.elim (fun h => h) fun h => by omega
  · rcases hk with h2 | h2
    · have h2 : k = b3 := h2
      have := hpr.lo; omega
    · cases h2
 have hrr := H1.out.2.2.2.2
 clear hS hnw hits hb hsy hwt hq hdb hrm hfs ht3 ht4 hdk hpr hn3 hn4 hpd hm hft hz4 HF2 HB4 H1
 have HRR := Lib.hid hrr
 clear hrr
 obtain ⟨sb, hsb⟩ : ∃ sb, S0.blk = sb := ⟨_, rfl⟩
 have HSB := Lib.hid hsb
 have c3 : w5.cell? ⟨sb, 3, none⟩ = some (.pointer (some ⟨b3, 0, none⟩)) := by rw [← hsb]; exact tab_cell HI0.out.st
 have HAL := Lib.hid (tall_any w5 HI0.out.st.tab (by simp))
 rw [hsb]
 clear hsb
 go_wp2_with fail
 refine HAL.out.mono ?_
 rintro e w6 ⟨v', rfl, ho, hb6⟩
 obtain ⟨a6, cp6, hv6, _⟩ := RowT.own ho
 subst hv6
 have HI6 := Lib.hid (HI0.out.below hb6)
 have c3' : w6.cell? ⟨sb, 3, none⟩ = some (.pointer (some ⟨b3, 0, none⟩)) := by rw [hb6.cell (cell_lt c3)]; exact c3
 clear ho hb6 HAL c3 HI0
 have HA1 := Lib.hid (HI6.out.add [97] 1 9 rfl (by decide) (by simp) (by rw [made_len1]; rfl) (by have := HRR.out; omega))
 rw [show ((1 : Nat) : Int) = 1 from rfl, show S [97] = ⟨#[97]⟩ from rfl] at HA1
 change Hid (Calls _ _ #[.pointer (some ⟨b3, 0, none⟩), _, _] _ _) at HA1
 go_wp2_with fail
 refine HA1.out.mono ?_
 rintro e w7 ⟨rfl, S1, X1, hi7, hl7, hx7, hs7⟩
 have HI7 := Lib.hid hi7
 have HL7 : Hid (X1.l = [([97], 1)]) := hl7
 have c7 : w7.cell? ⟨sb, 3, none⟩ = some (.pointer (some ⟨b3, 0, none⟩)) := by rw [← HSB.out, ← hs7]; exact (tab_cell hi7.st).trans (by rw [hx7])
 have HA2 := Lib.hid (hi7.add [98] 3 22 (by rw [hl7]; rfl) (by decide) (by rw [hl7]; simp) (by rw [hl7]; rw [show ([] ++ [([97], 1)] ++ [([98], 3)] : List (List UInt8 × Nat)) = [([97], 1)] ++ [([98], 3)] from rfl, made_len2]; rfl) (by have := HRR.out; omega))
 rw [show ((3 : Nat) : Int) = 3 from rfl, show S [98] = ⟨#[98]⟩ from rfl, hx7] at HA2
 have HS7 : Hid (S1.blk = sb) := hs7.trans HSB.out
 change Hid (Calls _ _ #[.pointer (some ⟨b3, 0, none⟩), _, _] _ _) at HA2
 clear hi7 hl7 hx7 hs7 HA1 HI6 c3'
 go_wp2_with fail
 refine HA2.out.mono ?_
 rintro e w8 ⟨rfl, S2, X2, hi8, hl8, hx8, hs8⟩
 rw [HL7.out] at hl8
 have HI8 := Lib.hid hi8
 have c8 : w8.cell? ⟨sb, 3, none⟩ = some (.pointer (some ⟨b3, 0, none⟩)) := by rw [← HS7.out, ← hs8]; exact (tab_cell hi8.st).trans (by rw [hx8])
 have HA3 := Lib.hid (hi8.add [108, 111, 110, 103, 45, 116, 111, 112, 105, 99, 45, 110, 97, 109, 101, 49] 2 54 (by rw [hl8]; rfl) (by decide) (by rw [hl8]; simp) (by rw [hl8]; rw [show ([([97], 1)] ++ [([98], 3)] ++ [([108, 111, 110, 103, 45, 116, 111, 112, 105, 99, 45, 110, 97, 109, 101, 49], 2)] : List (List UInt8 × Nat)) = [([97], 1), ([98], 3)] ++ [([108, 111, 110, 103, 45, 116, 111, 112, 105, 99, 45, 110, 97, 109, 101, 49], 2)] from rfl, made_len3]; rfl) (by have := HRR.out; omega))
 rw [show ((2 : Nat) : Int) = 2 from rfl, show S [108, 111, 110, 103, 45, 116, 111, 112, 105, 99, 45, 110, 97, 109, 101, 49] = ⟨#[108, 111, 110, 103, 45, 116, 111, 112, 105, 99, 45, 110, 97, 109, 101, 49]⟩ from rfl, hx8] at HA3
 have HS8 : Hid (S2.blk = sb) := hs8.trans HS7.out
 have HL8 : Hid (X2.l = [([97], 1)] ++ [([98], 3)]) := hl8
 change Hid (Calls _ _ #[.pointer (some ⟨b3, 0, none⟩), _, _] _ _) at HA3
 clear hi8 hl8 hx8 hs8 HA2 HI7 c7 HL7 HS7
 go_wp2_with fail
 refine HA3.out.mono ?_
 rintro e w9 ⟨rfl, S3, X3, hi9, hl9, hx9, hs9⟩
 rw [HL8.out] at hl9
 have HI9 : Hid (MadeI base W w9 D (now : Int) 54 S3 X3 ∧ X3.l = made3 ∧ S3.blk = sb) := ⟨hi9, hl9, hs9.trans HS8.out⟩
 clear hi9 hl9 hx9 hs9 HA3 HI8 c8 HL8 HS8
 go_wp2_with fail
 go_ret2
 obtain ⟨g1, g2, g3⟩ := HI9.out
 exact ⟨S3, X3, by rw [g3]; rfl, g1, g2⟩
def WantRow (w : World) (a : Option Addr) (ms : List (WantD × Option Addr × Nat)) : Prop :=
 ∀ i (h : i < ms.length), ∃ g off, a = some ⟨g, off, none⟩ ∧ (∀ (j : Nat) (v : Value), (cellsW ms[i].1 ms[i].2.1 ms[i].2.2)[j]? = some v → w.cell? ⟨g, off + i * 5 + j, none⟩ = some v) ∧ Strs w ms[i].2.1 (ms[i].1.keys.map S)
theorem WantRow.below {w w' : World} {a : Option Addr} {ms : List (WantD × Option Addr × Nat)} (h : WantRow w a ms) (hb : Below w.heap.size w w') : WantRow w' a ms := fun i hi => by
 obtain ⟨g, off, h1, h2, h3⟩ := h i hi
 exact ⟨g, off, h1, fun j v hv => by have h4 := h2 j v hv; rw [hb.cell (cell_lt h4)]; exact h4, Strs.below h3 hb⟩
def great1 (x : WantD) : Bool := decide (100 < x.topic.length) || (decide (100 < x.tag.length) || (decide (10 < x.keys.length) || decide (1000 < x.body.length)))
def greatX (x : WantD) : Bool := great1 x || x.keys.any fun t => decide (100 < t.length)
theorem want_ok {x : WantD} (hq : inI x.queue) (h : greatX x = false) : WantOk x ∧ x.topic.length ≤ 100 ∧ x.body.length ≤ 1000 ∧ x.keys.length ≤ 10 := by
 unfold greatX great1 at h
 simp only [Bool.or_eq_false_iff, decide_eq_false_iff_not, List.any_eq_false, decide_eq_true_eq] at h
 obtain ⟨⟨g1, g2, g3, g4⟩, g5⟩ := h
 exact ⟨⟨hq, by omega, by omega, by omega, by omega, fun t ht => by have := g5 t ht; omega⟩, by omega, by omega, by omega⟩
set_option maxHeartbeats 6400000 in
theorem great_any (ms : List (WantD × Option Addr × Nat)) (a0 : Option Addr) (c0 : Nat) (W : World) (h : WantRow W a0 ms) (hl : ms.length ≤ 1073741824) :
 Calls Tryz.prog 7 #[.slice a0 ms.length c0] W fun e w' => e = .returned (.bool (ms.any fun p => greatX p.1)) ∧ Below W.heap.size W w' := by
 have HH := Lib.hid h
 have HL := Lib.hid hl
 clear h
 go_enter Tryz.func7, Tryz.ntmps7
 go_wp2_with fail
 go_loopw [9] (fun i wr => ∃ k : Nat, k ≤ ms.length ∧ i = .int .i64 (k : Int) ∧ Hid (((ms.take k).any fun p => greatX p.1) = false ∧ Below W.heap.size W wr)) (fun i _ => ms.length - (intOf i).toNat)
 case atStart => exact ⟨0, Nat.zero_le _, rfl, rfl, Below.refl _ _⟩
 case round =>
  obtain ⟨k, hk, rfl, HS⟩ := hrel
  obtain ⟨wA, rfl⟩ : ∃ wA : World, wA = wr := ⟨_, rfl⟩
  by_cases hlt : k < ms.length
  ·
   obtain ⟨g, off, rfl, hcell, hkeys⟩ := HH.out k hlt
   obtain ⟨p, hp⟩ : ∃ p, p = ms[k] := ⟨_, rfl⟩
   have HANY : Hid (((ms.take (k + 1)).any fun p => greatX p.1) = greatX p.1) := by
    show _ = _
    rw [List.take_succ_eq_append_getElem hlt, List.any_append, HS.out.1, ← hp]; simp
   have HALL : Hid (greatX p.1 = true → (ms.any fun p => greatX p.1) = true) := fun hg => List.any_eq_true.2 ⟨p, by rw [hp]; exact List.getElem_mem hlt, hg⟩
   rw [← hp] at hcell hkeys
   clear hp
   obtain ⟨x, a, c⟩ := p
   have HK := Lib.hid (Strs.below hkeys HS.out.2)
   have hcw : ∀ (j : Nat) (v : Value), (cellsW x a c)[j]? = some v → wA.cell? ⟨g, off + k * 5 + j, none⟩ = some v := fun j v hv => by
    have h1 := hcell j v hv
    rw [HS.out.2.cell (cell_lt h1)]; exact h1
   have k0 : wA.cell? ⟨g, off + k * 5, none⟩ = some (.string (S x.topic)) := hcw 0 _ rfl
   have k1 : wA.cell? ⟨g, off + k * 5 + 1, none⟩ = some (.int .i64 x.queue) := hcw 1 _ rfl
   have k2 : wA.cell? ⟨g, off + k * 5 + 2, none⟩ = some (.string (S x.tag)) := hcw 2 _ rfl
   have k3 : wA.cell? ⟨g, off + k * 5 + 3, none⟩ = some (.slice a x.keys.length c) := hcw 3 _ rfl
   have k4 : wA.cell? ⟨g, off + k * 5 + 4, none⟩ = some (.string (S x.body)) := hcw 4 _ rfl
   clear hcell hkeys hcw
   have HB2 : Hid (Below W.heap.size W (wA.alloc (.cells #[.string (S x.topic), .int .i64 x.queue, .string (S x.tag), .slice a x.keys.length c, .string (S x.body)] 33))) := HS.out.2.alloc HS.out.2.size _
   by_cases h1 : 100 < x.topic.length
   ·
    have z1 : (100 : Int) < ((S x.topic).size : Int) := by rw [S_size]; omega
    have HG : Hid ((ms.any fun p => greatX p.1) = true) := HALL.out (by unfold greatX great1; simp [h1])
    clear h1
    go_wp2_with fail
    go_ret
    exact ⟨by rw [HG.out]; rfl, HB2.out⟩
   have z1 : ((S x.topic).size : Int) ≤ (100 : Int) := by rw [S_size]; omega
   by_cases h2 : 100 < x.tag.length
   ·
    have z2 : (100 : Int) < ((S x.tag).size : Int) := by rw [S_size]; omega
    have HG : Hid ((ms.any fun p => greatX p.1) = true) := HALL.out (by unfold greatX great1; simp [h2])
    clear h2
    go_wp2_with fail
    go_ret
    exact ⟨by rw [HG.out]; rfl, HB2.out⟩
   have z2 : ((S x.tag).size : Int) ≤ (100 : Int) := by rw [S_size]; omega
   by_cases h3 : 10 < x.keys.length
   ·
    have z3 : (10 : Int) < (x.keys.length : Int) := by omega
    have HG : Hid ((ms.any fun p => greatX p.1) = true) := HALL.out (by unfold greatX great1; simp [h3])
    clear h3
    go_wp2_with fail
    go_ret
    exact ⟨by rw [HG.out]; rfl, HB2.out⟩
   have z3 : (x.keys.length : Int) ≤ (10 : Int) := by omega
   by_cases h4 : 1000 < x.body.length
   ·
    have z4 : (1000 : Int) < ((S x.body).size : Int) := by rw [S_size]; omega
    have HG : Hid ((ms.any fun p => greatX p.1) = true) := HALL.out (by unfold greatX great1; simp [h4])
    clear h4
    go_wp2_with fail
    go_ret
    exact ⟨by rw [HG.out]; rfl, HB2.out⟩
   have z4 : ((S x.body).size : Int) ≤ (1000 : Int) := by rw [S_size]; omega
   have HG1 : Hid (great1 x = false) := by show _ = _; unfold great1; simp; omega
   clear h1 h2 h3 h4
   have HK2 : Hid (Strs (wA.alloc (.cells #[.string (S x.topic), .int .i64 x.queue, .string (S x.tag), .slice a x.keys.length c, .string (S x.body)] 33)) a (x.keys.map S)) := Strs.below HK.out ((Below.refl _ _).alloc (Nat.le_refl _) _)
   have hc2 := heap_alloc_new wA (.cells #[.string (S x.topic), .int .i64 x.queue, .string (S x.tag), .slice a x.keys.length c, .string (S x.body)] 33)
   go_upto_region 6 with fail
   clear k0 k1 k2 k3 k4 HK
   generalize (wA.alloc (.cells #[.string (S x.topic), .int .i64 x.queue, .string (S x.tag), .slice a x.keys.length c, .string (S x.body)] 33)) = w5 at *
   generalize wA.heap.size = g5 at *
   have k3 : w5.cell? ⟨g5, 3, none⟩ = some (.slice a x.keys.length c) := cell_at hc2 3 _ rfl
   clear hc2
   go_wp2_with fail
   obtain ⟨w6, hw6⟩ : ∃ w6 : World, w6 = w5 := ⟨_, rfl⟩
   go_loopw [38] (fun i w2 => ∃ j : Nat, j ≤ x.keys.length ∧ i = .int .i64 (j : Int) ∧ w2 = w6 ∧ Hid (∀ t ∈ x.keys.take j, t.length ≤ 100)) (fun i _ => x.keys.length - (intOf i).toNat)
   case atStart => exact ⟨0, Nat.zero_le _, rfl, hw6.symm, fun t ht => by cases ht⟩
   case round =>
    obtain ⟨j, hj, rfl, rfl, HJ⟩ := hrel
    subst hw6
    by_cases hjl : j < x.keys.length
    ·
     obtain ⟨b, o2, rfl, hcj⟩ := HK2.out j (by rw [List.length_map]; exact hjl)
     rw [List.getElem_map] at hcj
     have HTK : Hid (∀ t ∈ x.keys.take (j + 1), t ∈ x.keys.take j ∨ t = x.keys[j]) := fun t ht => by
      rw [List.take_succ_eq_append_getElem hjl] at ht
      rcases List.mem_append.1 ht with h | h
      · exact .inl h
      · exact .inr (by simpa using h)
     have HIN : Hid (x.keys[j] ∈ x.keys) := List.getElem_mem hjl
     generalize x.keys[j] = t at *
     by_cases h5 : 100 < t.length
     · have z5 : (100 : Int) < ((S t).size : Int) := by rw [S_size]; omega
       have HG : Hid ((ms.any fun p => greatX p.1) = true) := HALL.out (by unfold greatX; rw [Bool.or_eq_true]; exact .inr (List.any_eq_true.2 ⟨t, HIN.out, by simpa using h5⟩))
       clear h5
       go_wp2_with fail
       go_ret
       exact ⟨by rw [HG.out]; rfl, HB2.out⟩
     · have z5 : ((S t).size : Int) ≤ (100 : Int) := by rw [S_size]; omega
       have HJ2 : Hid (∀ t ∈ x.keys.take (j + 1), t.length ≤ 100) := fun y hy => (HTK.out y hy).elim (HJ.out y) fun e => by rw [e]; omega
       clear h5
       go_wp2_with fail
       go_roundw
       case rel => exact ⟨j + 1, by omega, by go_num, trivial, HJ2.out⟩
       case measure => simp [intOf]; omega
    ·
     have hjn : j = x.keys.length := by omega
     subst hjn
     rw [List.take_length] at HJ
     have HNG : Hid (greatX x = false) := by
      show _ = _
      unfold greatX
      rw [HG1.out, Bool.false_or, List.any_eq_false]
      intro t ht
      have := HJ.out t ht
      simp; omega
     clear HJ hjl hj
     go_wp2_with fail
     go_roundw
     case rel => exact ⟨k + 1, by omega, by go_num, by rw [HANY.out]; exact HNG.out, HB2.out⟩
     case measure => simp [intOf]; omega
  ·
   have hkn : k = ms.length := by omega
   subst hkn
   have HG : Hid ((ms.any fun p => greatX p.1) = false) := by have h1 := HS.out.1; rw [List.take_length] at h1; exact h1
   go_wp2_with fail
   go_ret
   exact ⟨by rw [HG.out]; rfl, HS.out.2⟩
end Go.Proofs.YtjjkhbfimpgplaaGreatDoor.SndW
namespace Go.Proofs.YtjjkhbfimpgplaaGreatDoor.RecW
open Go.RowKit OctMath NameMath RecMath
set_option maxRecDepth 100000
set_option linter.unusedSimpArgs false
set_option linter.unusedVariables false
set_option maxHeartbeats 1600000 in
theorem rkey_any (l : List UInt8) (hl : l.length ≤ 1099511627776) (W : World) : Calls Tryz.prog 30 #[.string (S l)] W fun e w' => e = .returned (.bool (keyL l)) ∧ Drawn W w' := by
 have hsz := S_size l
 have HE : Hid (keyL l = (decide (l ≠ []) && decide (l.length ≤ 16) && l.all keySign)) := rfl
 go_enter Tryz.func30, Tryz.ntmps30
 go_wp2_with fail
 go_loopw [3] (fun i wr => ∃ k : Nat, k ≤ l.length ∧ i = .int .i64 (k : Int) ∧ Hid ((l.take k).all keySign = true) ∧ Hid (Drawn W wr)) (fun i _ => l.length + 1 - (intOf i).toNat)
 case atStart => exact ⟨0, by omega, rfl, rfl, Drawn.refl _⟩
 case round =>
  obtain ⟨k, hk, rfl, HA, HD⟩ := hrel
  by_cases hlt : k < l.length
  ·
   have hi1 : k < (S l).size := by rw [hsz]; exact hlt
   have hx1 := fun w => NameW.index_at l k (k : Int) rfl hlt .i64 w
   have hstep : (l.take (k + 1)).all keySign = ((l.take k).all keySign && keySign l[k]) := by rw [List.take_succ_eq_append_getElem hlt, List.all_append, List.all_cons, List.all_nil, Bool.and_true]; rfl
   have hmem : keySign l[k] = false → l.all keySign = false := fun h => by rw [List.all_eq_false]; exact ⟨l[k], List.getElem_mem hlt, by rw [h]; simp⟩
   have hdg : keySign l[k] = (decide (33 ≤ l[k].toNat) && decide (l[k].toNat ≤ 126)) := rfl
   generalize l[k] = c at *
   have HST := Lib.hid hstep
   have HMEM := Lib.hid hmem
   have HDG := Lib.hid hdg
   have hc := c.toNat_lt
   clear hstep hmem hdg
   rcases (show (c.toNat < 33) ∨ (126 < c.toNat) ∨ (33 ≤ c.toNat ∧ c.toNat ≤ 126) by omega) with h | h | h
   ·
    have HS : Hid (keySign c = false) := by show _ = _; rw [HDG.out]; simp; omega
    have d33 : decide ((c.toNat : Int) < 33) = true := decide_eq_true (by omega)
    have HT : Hid (keyL l = false) := by show _ = _; rw [HE.out, HMEM.out HS.out, Bool.and_false]
    clear HMEM HST HS h HDG
    go_wp2_with fail
    go_ret
    rw [HT.out]
    exact ⟨rfl, HD.out⟩
   ·
    have HS : Hid (keySign c = false) := by show _ = _; rw [HDG.out]; simp; omega
    have d33 : decide ((c.toNat : Int) < 33) = false := decide_eq_false (by omega)
    have d126 : decide (126 < (c.toNat : Int)) = true := decide_eq_true (by omega)
    have HT : Hid (keyL l = false) := by show _ = _; rw [HE.out, HMEM.out HS.out, Bool.and_false]
    clear HMEM HST HS h HDG
    go_wp2_with fail
    go_ret
    rw [HT.out]
    exact ⟨rfl, HD.out⟩
   ·
    have HS : Hid (keySign c = true) := by show _ = _; rw [HDG.out]; simp; omega
    have d33 : decide ((c.toNat : Int) < 33) = false := decide_eq_false (by omega)
    have d126 : decide (126 < (c.toNat : Int)) = false := decide_eq_false (by omega)
    have HT : Hid ((l.take (k + 1)).all keySign = true) := by show _ = _; rw [HST.out, HA.out, HS.out]; rfl
    clear HMEM HST HS h HDG
    go_wp2_with fail
    go_roundw
    case rel => exact ⟨k + 1, by omega, by go_num, HT, HD⟩
    case measure => simp [intOf]; omega
  ·
   obtain rfl : k = l.length := by omega
   rw [List.take_length] at HA
   have HT : Hid (keyL l = (decide (l ≠ []) && decide (l.length ≤ 16))) := by show _ = _; rw [HE.out, HA.out, Bool.and_true]
   have h1 : decide (1 ≤ (l.length : Int)) = decide (l ≠ []) := by
    rw [decide_eq_decide]
    cases l with
    | nil => simp
    | cons _ _ => simp; omega
   have h2 : decide ((l.length : Int) ≤ 16) = decide (l.length ≤ 16) := decide_eq_decide.2 (by omega)
   clear HA HE
   generalize decide (l ≠ []) = b1 at *
   generalize decide (l.length ≤ 16) = b2 at *
   cases b1 <;>
   (go_wp2_with fail
    go_ret
    rw [HT.out]
    exact ⟨rfl, HD.out⟩)
theorem nodup_snoc {α : Type} {xs : List α} {x : α} (h : xs.Nodup) (hx : x ∉ xs) : (xs ++ [x]).Nodup := by
 rw [List.nodup_append]
 refine ⟨h, List.nodup_cons.2 ⟨by simp, List.nodup_nil⟩, fun a ha b hb => ?_⟩
 rw [List.mem_singleton.1 hb]
 rintro rfl
 exact hx ha
theorem nodup_snoc2 {α : Type} {xs : List α} {x : α} (h : (xs ++ [x]).Nodup) : x ∉ xs := by
 rw [List.nodup_append] at h
 exact fun hx => h.2.2 x hx x (List.mem_singleton.2 rfl) rfl
end Go.Proofs.YtjjkhbfimpgplaaGreatDoor.RecW
namespace Go.Proofs.YtjjkhbfimpgplaaGreatDoor.SndW
open Go.RowKit Go.MapKept Go.Sort OctMath RecMath RecW DskW SegW MapG TapeW TapeMath PendW CacheW StoW TopW NameMath
set_option linter.unusedVariables false
set_option linter.unusedSimpArgs false
set_option maxRecDepth 100000
def queues3 (t : List UInt8) : Nat := if t = [97] then 1 else if t = [98] then 3 else if t = [108, 111, 110, 103, 45, 116, 111, 112, 105, 99, 45, 110, 97, 109, 101, 49] then 2 else 0
theorem queues3_eq (t : List UInt8) : ((ofL t).isEmpty = true → queues3 t = queuesT made3 t) ∧ ((ofL t).isEmpty = false → queues3 t = 0) := by
 unfold queues3
 by_cases h1 : t = [97]
 · subst h1; exact ⟨fun _ => by decide, fun h => by exact absurd h (by decide)⟩
 by_cases h2 : t = [98]
 · subst h2; exact ⟨fun _ => by decide, fun h => by exact absurd h (by decide)⟩
 by_cases h3 : t = [108, 111, 110, 103, 45, 116, 111, 112, 105, 99, 45, 110, 97, 109, 101, 49]
 · subst h3; exact ⟨fun _ => by decide, fun h => by exact absurd h (by decide)⟩
 rw [if_neg h1, if_neg h2, if_neg h3]
 refine ⟨fun h => ?_, fun _ => rfl⟩
 unfold queuesT
 rw [if_pos h, find_out t made3 (fun x hx => by
  unfold made3 at hx
  simp only [List.mem_cons, List.not_mem_nil, or_false] at hx
  rcases hx with rfl | rfl | rfl
  · exact fun e => h1 e.symm
  · exact fun e => h2 e.symm
  · exact fun e => h3 e.symm)]
 rfl
def rightW (x : WantD) : Int := if queues3 x.topic = 0 then 12 else if x.queue < 0 ∨ (queues3 x.topic : Int) ≤ x.queue then 13 else if (tagL x.tag && x.keys.all keyL) = false then 11 else if 3 < x.keys.length ∨ 200 < x.body.length then 6 else if x.keys.Nodup then 0 else 10
theorem right_check (x : WantD) : rightW x = checkW made3 x := by
 obtain ⟨q1, q2⟩ := queues3_eq x.topic
 unfold rightW checkW checkT
 cases h : (ofL x.topic).isEmpty with
 | false => rw [q2 h]; rfl
 | true =>
   rw [if_neg (show ¬ (true = false) by decide), ← q1 h]
   by_cases h1 : queues3 x.topic = 0
   · simp [h1]
   · by_cases h2 : x.queue < 0 ∨ (queues3 x.topic : Int) ≤ x.queue
     · simp [h1, h2]
     · simp [h1, h2]
theorem keyedT : Keyed Tryz.prog 9 (IsKey .string) := keyedS
theorem zero_int (w : World) : (zeroValue 3).run Tryz.prog w = .ok (.int .i64 0) w := by rfl
theorem map3 (w : World) : ∃ w1 w2 w3, (Instr.mapUpdate 90 (.map (some w.heap.size)) (.string ⟨#[97]⟩) (.int .i64 1)).run Tryz.prog (w.alloc (.map #[] 0)) = .ok () w1 ∧
 (Instr.mapUpdate 90 (.map (some w.heap.size)) (.string ⟨#[98]⟩) (.int .i64 3)).run Tryz.prog w1 = .ok () w2 ∧
 (Instr.mapUpdate 90 (.map (some w.heap.size)) (.string ⟨#[108, 111, 110, 103, 45, 116, 111, 112, 105, 99, 45, 110, 97, 109, 101, 49]⟩) (.int .i64 2)).run Tryz.prog w2 = .ok () w3 ∧ Below w.heap.size w w3 ∧
 ∀ t : List UInt8, (Instr.lookup 90 (.map (some w.heap.size)) (.string (S t)) false).run Tryz.prog w3 = .ok (.int .i64 (queues3 t : Int)) w3 := by
 have hm : Tryz.prog.underlying 90 = some (.map 9 3) := Tryz.underlying90
 have hk : ∀ s : ByteArray, IsKey .string (.string s) := fun s => trivial
 have e1 : (⟨#[97]⟩ : ByteArray) = S [97] := rfl
 have e2 : (⟨#[98]⟩ : ByteArray) = S [98] := rfl
 have e3 : (⟨#[108, 111, 110, 103, 45, 116, 111, 112, 105, 99, 45, 110, 97, 109, 101, 49]⟩ : ByteArray) = S [108, 111, 110, 103, 45, 116, 111, 112, 105, 99, 45, 110, 97, 109, 101, 49] := rfl
 rw [e1, e2, e3]
 have hi : ∀ {a b : List UInt8}, Value.string (S a) = Value.string (S b) → a = b := fun h => by injection h with h; exact OctMath.S_inj h
 have p0 := PairsAt.new w
 obtain ⟨w1, r1, p1, m1⟩ := update_new hm keyedT p0 (fun p hp => by cases hp) (hk (S [97])) (fun p hp => by cases hp) (.int .i64 1)
 have k1 : ∀ p ∈ ([] ++ [(Value.string (S [97]), Value.int .i64 1)] : List (Value × Value)), IsKey .string p.1 := fun p hp => by
  rw [List.nil_append, List.mem_singleton] at hp; subst hp; exact hk _
 obtain ⟨w2, r2, p2, m2⟩ := update_new hm keyedT p1 k1 (hk (S [98])) (fun p hp e => by
  rw [List.nil_append, List.mem_singleton] at hp; subst hp; exact absurd (hi e) (by decide)) (.int .i64 3)
 have k2 : ∀ p ∈ ([] ++ [(Value.string (S [97]), Value.int .i64 1)] ++ [(Value.string (S [98]), Value.int .i64 3)] : List (Value × Value)), IsKey .string p.1 := fun p hp => by
  rcases List.mem_append.1 hp with h | h
  · exact k1 p h
  · rw [List.mem_singleton] at h; subst h; exact hk _
 obtain ⟨w3, r3, p3, m3⟩ := update_new hm keyedT p2 k2 (hk (S [108, 111, 110, 103, 45, 116, 111, 112, 105, 99, 45, 110, 97, 109, 101, 49])) (fun p hp e => by
  rcases List.mem_append.1 hp with h | h
  · rw [List.nil_append, List.mem_singleton] at h; subst h; exact absurd (hi e) (by decide)
  · rw [List.mem_singleton] at h; subst h; exact absurd (hi e) (by decide)) (.int .i64 2)
 refine ⟨w1, w2, w3, r1, r2, r3, ?_, fun t => ?_⟩
 · have hm4 : Mod (fun x => x = w.heap.size) w w3 := (((Mod.of_below ((Below.refl _ w).alloc (Nat.le_refl _) (.map #[] 0))).trans m1).trans m2).trans m3
   exact hm4.to_below _ (Nat.le_refl _) fun k e => by omega
 ·
  have k3 : ∀ p ∈ ([] ++ [(Value.string (S [97]), Value.int .i64 1)] ++ [(Value.string (S [98]), Value.int .i64 3)] ++ [(Value.string (S [108, 111, 110, 103, 45, 116, 111, 112, 105, 99, 45, 110, 97, 109, 101, 49]), Value.int .i64 2)] : List (Value × Value)), IsKey .string p.1 := fun p hp => by
   rcases List.mem_append.1 hp with h | h
   · exact k2 p h
   · rw [List.mem_singleton] at h; subst h; exact hk _
  unfold queues3
  by_cases h1 : t = [97]
  · subst h1; exact lookup_has hm keyedT p3 k3 (hk _) (by simp) false
  by_cases h2 : t = [98]
  · subst h2; exact lookup_has hm keyedT p3 k3 (hk _) (by simp) false
  by_cases h3 : t = [108, 111, 110, 103, 45, 116, 111, 112, 105, 99, 45, 110, 97, 109, 101, 49]
  · subst h3; exact lookup_has hm keyedT p3 k3 (hk _) (by simp) false
  rw [if_neg h1, if_neg h2, if_neg h3]
  exact lookup_not hm keyedT p3 k3 (hk _) (fun p hp e => by
   simp only [List.nil_append, List.cons_append, List.mem_cons, List.not_mem_nil, or_false] at hp
   rcases hp with rfl | rfl | rfl
   · exact h1 (hi e).symm
   · exact h2 (hi e).symm
   · exact h3 (hi e).symm) zero_int false
theorem nodup_take {ks : List (List UInt8)} {k : Nat} (h : k < ks.length) : decide ((ks.take (k + 1)).Nodup) = (decide ((ks.take k).Nodup) && (ks.take k).all fun y => decide (y ≠ ks[k])) := by
 have hst : ks.take (k + 1) = ks.take k ++ [ks[k]] := List.take_succ_eq_append_getElem h
 rw [hst]
 by_cases h1 : (ks.take k).Nodup
 ·
  rw [decide_eq_true h1, Bool.true_and]
  by_cases h2 : ks[k] ∈ ks.take k
  · rw [decide_eq_false (fun h3 => nodup_snoc2 h3 h2)]
    exact (List.all_eq_false.2 ⟨ks[k], h2, by simp⟩).symm
  · rw [decide_eq_true (nodup_snoc h1 h2)]
    exact (List.all_eq_true.2 fun y hy => by
     have h3 : y ≠ ks[k] := fun e => h2 (by rw [← e]; exact hy)
     simpa using h3).symm
 · rw [decide_eq_false h1, Bool.false_and]
   exact decide_eq_false fun h3 => h1 (h3.sublist (List.sublist_append_left _ _))
set_option maxHeartbeats 12800000 in
theorem right_any (x : WantD) (hx : WantOk x) (a : Option Addr) (c : Nat) (hcap : x.keys.length ≤ c) (W : World) (hS : Strs W a (x.keys.map S)) :
 Calls Tryz.prog 10 #[.agg (cellsW x a c)] W fun e w' => e = .returned (.int .i64 (rightW x)) ∧ Below W.heap.size W w' := by
 have hb1 : Below W.heap.size W (W.alloc (.cells (cellsW x a c) 33)) := (Below.refl _ W).alloc (Nat.le_refl _) _
 have hX1 : RecW.Boxed (W.alloc (.cells (cellsW x a c) 33)) W.heap.size (cellsW x a c) := RecW.Boxed.new W _ _
 obtain ⟨v1, v2, v3, r1, r2, r3, hb3, hlk⟩ := map3 (W.alloc (.cells (cellsW x a c) 33))
 have hl := hlk x.topic
 have HI3 : Hid (Below W.heap.size W v3 ∧ RecW.Boxed v3 W.heap.size (cellsW x a c) ∧ Strs v3 a (x.keys.map S)) := ⟨hb1.trans (hb3.mono hb1.size), hX1.below hb3, Strs.below (Strs.below hS hb1) hb3⟩
 have hcu : (cellsW x a c).size = 5 := rfl
 have HTG := Lib.hid (fun w => NameW.rtag_any x.tag (by have := hx.tag; omega) w)
 have HRK := Lib.hid (fun (t : List UInt8) (ht : t ∈ x.keys) w => rkey_any t (by have := hx.key t ht; omega) w)
 have HRW : Hid (rightW x = if queues3 x.topic = 0 then 12 else if x.queue < 0 ∨ (queues3 x.topic : Int) ≤ x.queue then 13 else if ((x.tag.isEmpty || plainL x.tag) && x.keys.all keyL) = false then 11 else if 3 < x.keys.length ∨ 200 < x.body.length then 6 else if x.keys.Nodup then 0 else 10) := rfl
 have hbl := S_size x.body
 have hkl := hx.keys
 have hkl2 : (x.keys.length : Int) ≤ (c : Int) := by omega
 generalize rightW x = R at *
 generalize queues3 x.topic = q3 at *
 generalize (x.tag.isEmpty || plainL x.tag) = tg at *
 have k0 : v3.cell? ⟨W.heap.size, 0, none⟩ = some (.string (S x.topic)) := HI3.out.2.1 0 _ rfl
 have k2 : v3.cell? ⟨W.heap.size, 2, none⟩ = some (.string (S x.tag)) := HI3.out.2.1 2 _ rfl
 clear hb1 hX1 hb3 hlk hS hx
 have hmk : ∀ w : World, (Instr.makeMap 90 none).run Tryz.prog w = .ok (.map (some w.heap.size)) (w.alloc (.map #[] 0)) := fun _ => rfl
 go_enter Tryz.func10, Tryz.ntmps10
 go_upto_region 1 with fail
 generalize W.alloc (.cells (cellsW x a c) 33) = w1 at *
 clear hcu
 obtain ⟨A, hA⟩ : ∃ A, W.heap.size = A := ⟨_, rfl⟩
 rw [hA] at k0 k2 ⊢
 have HI3 : Hid (Below W.heap.size W v3 ∧ RecW.Boxed v3 A (cellsW x a c) ∧ Strs v3 a (x.keys.map S)) := hA ▸ HI3.out
 clear hA
 go_wp2_with fail
 refine (HTG.out _).mono ?_
 rintro e w3 ⟨rfl, hd3⟩
 have HI4 : Hid (Below W.heap.size W w3 ∧ RecW.Boxed w3 A (cellsW x a c) ∧ Strs w3 a (x.keys.map S)) := ⟨HI3.out.1.trans ((hd3.below _).mono HI3.out.1.size), HI3.out.2.1.below (hd3.below _), Strs.below HI3.out.2.2 (hd3.below _)⟩
 clear hd3 HTG HI3 k0 k2 r1 r2 r3 hl hmk
 have k3 : w3.cell? ⟨A, 3, none⟩ = some (.slice a x.keys.length c) := HI4.out.2.1 3 _ rfl
 go_wp2_with fail
 go_loopw [21, 4, 5] (fun i t u wr => ∃ k : Nat, k ≤ x.keys.length ∧ i = .int .i64 (k : Int) ∧ t = .bool (tg && (x.keys.take k).all keyL) ∧ u = .bool (decide (x.keys.take k).Nodup) ∧ Hid (Below W.heap.size W wr ∧ RecW.Boxed wr A (cellsW x a c) ∧ Strs wr a (x.keys.map S))) (fun i _ _ _ => x.keys.length + 1 - (intOf i).toNat)
 case atStart => exact ⟨0, by omega, rfl, by simp, by simp, HI4.out⟩
 case round =>
  clear k3 HI4
  obtain ⟨k, hk, rfl, rfl, rfl, HI⟩ := hrel
  have k3 : wr.cell? ⟨A, 3, none⟩ = some (.slice a x.keys.length c) := HI.out.2.1 3 _ rfl
  by_cases hlt : k < x.keys.length
  ·
   obtain ⟨b, off, rfl, hcell⟩ := HI.out.2.2 k (by rw [List.length_map]; exact hlt)
   rw [List.getElem_map] at hcell
   have HST : Hid ((x.keys.take (k + 1)).all keyL = ((x.keys.take k).all keyL && keyL x.keys[k])) := by show _ = _; rw [List.take_succ_eq_append_getElem hlt, List.all_append]; simp
   have HND := Lib.hid (nodup_take hlt)
   have HPC := Lib.hid (HRK.out x.keys[k] (List.getElem_mem hlt))
   have HJN : Hid (∀ j, j < k → ∃ hj : j < x.keys.length, ((x.keys.take (j + 1)).all fun y => decide (y ≠ x.keys[k])) = (((x.keys.take j).all fun y => decide (y ≠ x.keys[k])) && decide (x.keys[j] ≠ x.keys[k]))) := fun j hj => ⟨by omega, by rw [List.take_succ_eq_append_getElem (by omega), List.all_append]; simp⟩
   generalize x.keys[k] = y at *
   generalize decide (x.keys.take k).Nodup = nd at *
   generalize hbb : (tg && (x.keys.take k).all keyL) = bb at *
   have HBB : Hid ((tg && (x.keys.take (k + 1)).all keyL) = (bb && keyL y)) := by show _ = _; rw [HST.out, ← hbb, Bool.and_assoc]
   have HCL := Lib.hid hcell
   clear hbb HST
   go_upto_region 7 with fail
   go_cut [4] (fun t wx => t = .bool (bb && keyL y) ∧ Hid (Drawn wr wx))
   case first =>
    cases bb with
    | false =>
      go_wp2_with fail
      go_meet
      case rel => exact ⟨rfl, Drawn.refl _⟩
    | true =>
      go_wp2_with fail
      refine (HPC.out _).mono ?_
      rintro e w5 ⟨rfl, hd⟩
      go_wp2_with fail
      go_meet
      case rel => exact ⟨by simp, hd⟩
   case rest =>
   obtain ⟨rfl, HDR⟩ := hcut
   have HI5 : Hid (Below W.heap.size W wc ∧ RecW.Boxed wc A (cellsW x (some ⟨b, off, none⟩) c) ∧ Strs wc (some ⟨b, off, none⟩) (x.keys.map S)) := ⟨HI.out.1.trans ((HDR.out.below _).mono HI.out.1.size), HI.out.2.1.below (HDR.out.below _), Strs.below HI.out.2.2 (HDR.out.below _)⟩
   have k5 : wc.cell? ⟨A, 3, none⟩ = some (.slice (some ⟨b, off, none⟩) x.keys.length c) := HI5.out.2.1 3 _ rfl
   have hkc : (k : Int) ≤ (c : Int) := by omega
   clear k3 hcell HI HCL HDR HPC
   go_wp2_with fail
   obtain ⟨w6, hw6⟩ : ∃ w6 : World, w6 = wc := ⟨_, rfl⟩
   go_loopw [36, 5] (fun i u w2 => ∃ j : Nat, j ≤ k ∧ i = .int .i64 (j : Int) ∧ u = .bool (nd && (x.keys.take j).all fun z => decide (z ≠ y)) ∧ w2 = w6) (fun i _ _ => k + 1 - (intOf i).toNat)
   case atStart => exact ⟨0, Nat.zero_le _, rfl, by simp, hw6.symm⟩
   case round =>
    obtain ⟨j, hj, rfl, rfl, rfl⟩ := hrel
    subst hw6
    by_cases hjl : j < k
    ·
     obtain ⟨hjn, HJ⟩ := HJN.out j hjl
     obtain ⟨b', off', hbo, hcj⟩ := HI5.out.2.2 j (by rw [List.length_map]; exact hjn)
     cases hbo
     rw [List.getElem_map] at hcj
     have HJ2 := Lib.hid HJ
     clear HJ
     generalize x.keys[j] = z at *
     generalize hga : (nd && (x.keys.take j).all fun z => decide (z ≠ y)) = ga at *
     have HG : Hid ((nd && (x.keys.take (j + 1)).all fun z => decide (z ≠ y)) = (ga && decide (z ≠ y))) := by show _ = _; rw [HJ2.out, ← hga, Bool.and_assoc]
     clear hga HJ2
     have htl := fun t => NameW.S_toList t
     cases ga with
     | false =>
       go_wp2_with fail
       go_roundw
       case rel => exact ⟨j + 1, by omega, by go_num, by rw [HG.out]; rfl, trivial⟩
       case measure => simp [intOf]; omega
     | true =>
       by_cases hz : z = y
       · subst hz
         have HG2 : Hid ((nd && (x.keys.take (j + 1)).all fun w => decide (w ≠ z)) = false) := by show _ = _; rw [HG.out]; simp
         clear HG
         go_wp2_with fail
         go_roundw
         case rel => exact ⟨j + 1, by omega, by go_num, by rw [HG2.out], trivial⟩
         case measure => simp [intOf]; omega
       · have hzb : ((S z).toList == (S y).toList) = false := by rw [NameW.S_toList, NameW.S_toList]; simp [hz]
         have HG2 : Hid ((nd && (x.keys.take (j + 1)).all fun w => decide (w ≠ y)) = true) := by show _ = _; rw [HG.out]; simp [hz]
         clear HG htl hz
         go_wp2_with fail
         go_roundw
         case rel => exact ⟨j + 1, by omega, by go_num, by rw [HG2.out], trivial⟩
         case measure => simp [intOf]; omega
    ·
     obtain rfl : j = k := by omega
     have HN2 : Hid ((nd && (x.keys.take j).all fun z => decide (z ≠ y)) = decide (x.keys.take (j + 1)).Nodup) := HND.out.symm
     clear HND hjl hj
     rw [HN2.out]
     go_wp2_with fail
     go_roundw
     case rel => exact ⟨j + 1, by omega, by go_num, by rw [HBB.out], rfl, HI5.out⟩
     case measure => simp [intOf]; omega
  ·
   obtain rfl : k = x.keys.length := by omega
   rw [List.take_length]
   generalize (tg && x.keys.all keyL) = nm at *
   have HDN : Hid (∀ b, decide x.keys.Nodup = b → (if x.keys.Nodup then (0 : Int) else 10) = if b = true then 0 else 10) := fun b hb => by subst hb; simp
   have HRW2 : Hid (R = if q3 = 0 then 12 else if x.queue < 0 ∨ (q3 : Int) ≤ x.queue then 13 else if nm = false then 11 else if 3 < x.keys.length ∨ 200 < x.body.length then 6 else if decide x.keys.Nodup = true then 0 else 10) := by show _ = _; rw [HRW.out, HDN.out _ rfl]
   generalize decide x.keys.Nodup = nd at *
   clear HRW HDN hlt hk HRK
   have k1 : wr.cell? ⟨A, 1, none⟩ = some (.int .i64 x.queue) := HI.out.2.1 1 _ rfl
   have k4 : wr.cell? ⟨A, 4, none⟩ = some (.string (S x.body)) := HI.out.2.1 4 _ rfl
   by_cases h0 : q3 = 0
   ·
    have HR : Hid (R = 12) := by show _ = _; rw [HRW2.out, if_pos h0]
    subst h0
    clear HRW2
    go_wp2_with fail
    go_ret
    rw [HR.out]
    exact ⟨rfl, HI.out.1⟩
   have h0i : ((q3 : Int) == 0) = false := beq_eq_false_iff_ne.2 (by omega)
   by_cases h1 : x.queue < 0
   ·
    have HR : Hid (R = 13) := by show _ = _; rw [HRW2.out, if_neg h0, if_pos (.inl h1)]
    have hd : decide (x.queue < 0) = true := decide_eq_true h1
    clear HRW2 h1 h0
    go_wp2_with fail
    go_ret
    rw [HR.out]
    exact ⟨rfl, HI.out.1⟩
   have hd : decide (x.queue < 0) = false := decide_eq_false h1
   by_cases h2 : (q3 : Int) ≤ x.queue
   ·
    have HR : Hid (R = 13) := by show _ = _; rw [HRW2.out, if_neg h0, if_pos (.inr h2)]
    have hd2 : decide ((q3 : Int) ≤ x.queue) = true := decide_eq_true h2
    clear HRW2 h1 h2 h0
    go_wp2_with fail
    go_ret
    rw [HR.out]
    exact ⟨rfl, HI.out.1⟩
   have hd2 : decide ((q3 : Int) ≤ x.queue) = false := decide_eq_false h2
   have HRW3 : Hid (R = if nm = false then 11 else if 3 < x.keys.length ∨ 200 < x.body.length then 6 else if nd = true then 0 else 10) := by show _ = _; rw [HRW2.out, if_neg h0, if_neg (by omega)]
   clear HRW2 h1 h2 h0
   cases nm with
   | false =>
     have HR : Hid (R = 11) := by show _ = _; rw [HRW3.out, if_pos rfl]
     clear HRW3
     go_wp2_with fail
     go_ret
     rw [HR.out]
     exact ⟨rfl, HI.out.1⟩
   | true =>
   by_cases h3 : 3 < x.keys.length
   ·
    have HR : Hid (R = 6) := by show _ = _; rw [HRW3.out, if_neg (by decide), if_pos (.inl h3)]
    have h3i : (3 : Int) < (x.keys.length : Int) := by omega
    clear HRW3 h3
    go_wp2_with fail
    go_ret
    rw [HR.out]
    exact ⟨rfl, HI.out.1⟩
   have h3i : (x.keys.length : Int) ≤ (3 : Int) := by omega
   by_cases h4 : 200 < x.body.length
   ·
    have HR : Hid (R = 6) := by show _ = _; rw [HRW3.out, if_neg (by decide), if_pos (.inr h4)]
    have h4i : (200 : Int) < ((S x.body).size : Int) := by omega
    clear HRW3 h3 h4 hbl
    go_wp2_with fail
    go_ret
    rw [HR.out]
    exact ⟨rfl, HI.out.1⟩
   have h4i : ((S x.body).size : Int) ≤ (200 : Int) := by omega
   have HRW4 : Hid (R = if nd = true then 0 else 10) := by show _ = _; rw [HRW3.out, if_neg (by decide), if_neg (by omega)]
   clear HRW3 h3 h4 hbl
   cases nd with
   | false =>
     go_wp2_with fail
     go_ret
     exact ⟨by rw [HRW4.out]; rfl, HI.out.1⟩
   | true =>
     go_wp2_with fail
     go_ret
     exact ⟨by rw [HRW4.out]; rfl, HI.out.1⟩
theorem like_any (x : WantD) (ki due now : Int) (a a2 : Option Addr) (c c2 : Nat) (hl : x.keys.length ≤ 1048576) (W : World) (hS : Strs W a (x.keys.map S)) (hS2 : Strs W a2 (x.keys.map S)) :
 Calls Tryz.prog 17 #[.agg (cellsM (recW x ki due now) a2 c2), .agg (cellsW x a c), .int .i64 ki, .int .i64 due, .int .i64 now] W fun e w' => e = .returned (.bool true) ∧ Below W.heap.size W w' := by
 have hb1 : Below W.heap.size W ((W.alloc (.cells (cellsM (recW x ki due now) a2 c2) 56)).alloc (.cells (cellsW x a c) 33)) := ((Below.refl _ W).alloc (Nat.le_refl _) _).alloc (by rw [World.size_alloc]; omega) _
 have hA1 : ((W.alloc (.cells (cellsM (recW x ki due now) a2 c2) 56)).alloc (.cells (cellsW x a c) 33)).heap[W.heap.size]? = some (.cells (cellsM (recW x ki due now) a2 c2) 56 (0, 0)) := heap_below ((Below.refl _ _).alloc (Nat.le_refl _) _) (heap_alloc_new W _)
 have hA2 : ((W.alloc (.cells (cellsM (recW x ki due now) a2 c2) 56)).alloc (.cells (cellsW x a c) 33)).heap[W.heap.size + 1]? = some (.cells (cellsW x a c) 33 (0, 0)) := by
  have := heap_alloc_new (W.alloc (.cells (cellsM (recW x ki due now) a2 c2) 56)) (.cells (cellsW x a c) 33)
  rw [World.size_alloc] at this
  exact this
 have HB1 := Lib.hid hb1
 have HSM := Lib.hid (same_true (recW x ki due now) a2 a c2 c _ (Strs.below hS2 hb1) (Strs.below hS hb1) (by show x.keys.length ≤ _; omega))
 have hcu : (cellsW x a c).size = 5 := rfl
 have hcm : (cellsM (recW x ki due now) a2 c2).size = 10 := rfl
 have HA1 := Lib.hid hA1
 have HA2 := Lib.hid hA2
 clear hb1 hA1 hA2 hS hS2
 go_enter Tryz.func17, Tryz.ntmps17
 go_upto_region 1 with fail
 generalize (W.alloc (.cells (cellsM (recW x ki due now) a2 c2) 56)).alloc (.cells (cellsW x a c) 33) = w1 at *
 clear hcu hcm
 obtain ⟨A, hA⟩ : ∃ A, W.heap.size = A := ⟨_, rfl⟩
 rw [hA] at HA1 HA2 ⊢
 clear hA
 rw [show cellsM (recW x ki due now) a2 c2 = #[.int .i64 ki, .int .i64 x.queue, .int .i64 due, .int .i64 0, .int .i64 0, .int .i64 now, .string (S x.topic), .string (S x.tag), .string (S x.body), .slice a2 x.keys.length c2] from rfl] at HSM HA1
 rw [show cellsM (recW x ki due now) a c = #[.int .i64 ki, .int .i64 x.queue, .int .i64 due, .int .i64 0, .int .i64 0, .int .i64 now, .string (S x.topic), .string (S x.tag), .string (S x.body), .slice a x.keys.length c] from rfl] at HSM
 have p0 := cell_at HA1.out 0 _ rfl
 have p1 := cell_at HA1.out 1 _ rfl
 have p2 := cell_at HA1.out 2 _ rfl
 have p3 := cell_at HA1.out 3 _ rfl
 have p4 := cell_at HA1.out 4 _ rfl
 have p5 := cell_at HA1.out 5 _ rfl
 have p6 := cell_at HA1.out 6 _ rfl
 have p7 := cell_at HA1.out 7 _ rfl
 have p8 := cell_at HA1.out 8 _ rfl
 have p9 := cell_at HA1.out 9 _ rfl
 have k0 : w1.cell? ⟨A + 1, 0, none⟩ = some (.string (S x.topic)) := cell_at HA2.out 0 _ rfl
 have k1 : w1.cell? ⟨A + 1, 1, none⟩ = some (.int .i64 x.queue) := cell_at HA2.out 1 _ rfl
 have k2 : w1.cell? ⟨A + 1, 2, none⟩ = some (.string (S x.tag)) := cell_at HA2.out 2 _ rfl
 have k3 : w1.cell? ⟨A + 1, 3, none⟩ = some (.slice a x.keys.length c) := cell_at HA2.out 3 _ rfl
 have k4 : w1.cell? ⟨A + 1, 4, none⟩ = some (.string (S x.body)) := cell_at HA2.out 4 _ rfl
 go_wp2_with fail
 refine HSM.out.mono ?_
 rintro e w2 ⟨rfl, hb⟩
 have HB2 : Hid (Below W.heap.size W w2) := HB1.out.trans (hb.mono HB1.out.size)
 clear hb HSM
 go_wp2_with fail
 go_ret
 exact ⟨rfl, HB2.out⟩
theorem made_plain : ∀ y ∈ made3, plainL y.1 = true ∧ y.2 ≤ 3 := by decide
def wantN : WantD := ⟨[110, 111, 110, 101], 0, [], [], []⟩
def wantA : WantD := ⟨[97], 0, [], [], []⟩
theorem wantN_ok : WantOk wantN := ⟨⟨by decide, by decide⟩, by decide, by decide, by decide, by decide, fun t ht => by cases ht⟩
theorem wantA_ok : WantOk wantA := ⟨⟨by decide, by decide⟩, by decide, by decide, by decide, by decide, fun t ht => by cases ht⟩
theorem wantN_c : checkW made3 wantN = 12 := by decide
theorem wantA_c : checkW made3 wantA = 0 := by decide
theorem MadeI.fits {base : Nat} {W w : World} {D : DiskD} {now used : Int} {S0 : StoD} {X : TabD} (h : MadeI base W w D now used S0 X) : S0.T.R.e = 0 ∧ S0.T.O.recs = [] ∧ S0.T.D.waits.length = 0 := ⟨e_zero h.st.sto.tape h.its h.b, recs_zero h.st.sto.tape h.its, by rw [h.wt]; rfl⟩
theorem awake_any (W : World) (hT : Tab W) :
 Calls Tryz.prog 6 #[] W fun e w' => e = .returned (.bool true) ∧ Below W.heap.size W w' := by
 have HTB : Hid (∀ w, Below W.heap.size W w → TabB W.heap.size w) := fun w hb => ⟨W, hT, Nat.le_refl _, hb⟩
 have HN1 := Lib.hid (DskW.new_any 10000 W.heap.size W (Nat.le_refl _))
 clear hT
 go_enter Tryz.func6, Tryz.ntmps6
 go_wp2_with fail
 refine HN1.out.mono ?_
 rintro e w3 ⟨D, rfl, hD, hb3, h11, h12, h13, h14, h15, h16, h17, h18⟩
 have hrm : D.room = 10000 := room_new h15 (by rw [h18]; rfl)
 have HM := Lib.hid (made_any 0 w3 hD ⟨h13, h14⟩ h15 h16 hb3.size (HTB.out w3 hb3) (by decide) (by omega))
 rw [show ((0 : Nat) : Int) = 0 from rfl] at HM
 have HB3 := Lib.hid hb3
 have HRM := Lib.hid hrm
 have HDF : Hid (∀ k, D.foot k → W.heap.size ≤ k) := fun k hk => hD.base_le hk
 clear hD hb3 h11 h12 h13 h14 h15 h16 h17 h18 hrm HN1
 go_wp2_with fail
 refine HM.out.mono ?_
 rintro e w4 ⟨S0, X, rfl, hmi, hxl⟩
 have HMI := Lib.hid hmi
 have HXL := Lib.hid hxl
 have HB4 : Hid (Below W.heap.size W w4) := HB3.out.trans (hmi.mod.to_below _ HB3.out.size HDF.out)
 have HS1 := Lib.hid (send_bad wantN true wantN_ok 12 (by rw [hxl]; exact wantN_c) (by decide) none 0 w4 hmi.st (by rw [hxl]; decide) (fun i hi => absurd hi (Nat.not_lt_zero _)))
 change Hid (Calls _ _ #[_, .agg #[.string ⟨#[110, 111, 110, 101]⟩, .int .i64 0, .string ⟨#[]⟩, .slice none 0 0, .string ⟨#[]⟩], _] _ _) at HS1
 clear hmi hxl HM
 go_wp2_with fail
 refine HS1.out.mono ?_
 rintro e w5 ⟨rfl, hb5⟩
 have HB5 : Hid (Below W.heap.size W w5) := HB4.out.trans (hb5.mono HB4.out.size)
 have hmi := HMI.out.below hb5
 obtain ⟨f1, f2, f3⟩ := hmi.fits
 have hc : checkW X.l wantA = 0 := by rw [HXL.out]; exact wantA_c
 have hr := checkW_zero (ki := 1) (due := 0) (now := S0.now) (by rw [HXL.out]; exact made_plain) hc (.inl ⟨rfl, rfl⟩) rfl (by rw [hmi.now]; rfl)
 obtain ⟨g1, g2⟩ := fill_nil hr (by show (1 : Int) ≠ 0; decide)
 have hrl := (rec_len hr (by show (1 : Int) ≠ 0; decide)).2
 have HS2 := Lib.hid (send_ok wantA true wantA_ok hc (by rw [HXL.out]; exact made_plain) none 0 w5 hmi.st (by rw [HXL.out]; decide) (fun i hi => absurd hi (Nat.not_lt_zero _)) hmi.q (HTB.out w5 HB5.out) HB5.out.size (by rw [hmi.now]; rfl)
  (by rw [f1, g1]; have := hmi.room; have := HRM.out; show ((0 + (recL _).length : Nat) : Int) ≤ _; omega) (by rw [f3]; decide) (by omega) (by rw [f2]; decide))
 change Hid (Calls _ _ #[_, .agg #[.string ⟨#[97]⟩, .int .i64 0, .string ⟨#[]⟩, .slice none 0 0, .string ⟨#[]⟩], _] _ _) at HS2
 have HFT : Hid (∀ k, S0.foot k → W.heap.size ≤ k) := fun k hk => (hmi.foot k hk).elim (HDF.out k) fun h => by have := HB3.out.size; omega
 generalize ((S0.T.R.e + (fillOf S0.T.R.e (recW wantA 1 0 S0.now)).length : Nat) : Int) = idn at *
 clear hb5 hmi f1 f2 f3 hc hr g1 g2 hrl HS1 HMI
 go_wp2_with fail
 refine HS2.out.mono ?_
 rintro e w6 ⟨rfl, S1, hs, hp, hm⟩
 have HB6 : Hid (Below W.heap.size W w6) := HB5.out.trans (hm.to_below _ HB5.out.size HFT.out)
 clear hs hp hm HS2
 go_wp2_with fail
 go_ret
 exact ⟨rfl, HB6.out⟩
end Go.Proofs.YtjjkhbfimpgplaaGreatDoor.SndW
namespace Go.Proofs.YtjjkhbfimpgplaaGreatDoor.SndW
open Go.RowKit Go.MapKept Go.Sort OctMath RecMath RecW DskW SegW TapeW TapeMath PendW CacheW StoW TopW NameMath
set_option linter.unusedVariables false
set_option linter.unusedSimpArgs false
set_option maxRecDepth 100000
theorem time_ok (n : Int) (h1 : 0 ≤ n) (h2 : n ≤ 1099511626776) (g c : Nat) (w : World) (hc : w.cell? ⟨g, 0, none⟩ = some (.int .i64 n)) :
 Calls Tryz.prog 101 #[.slice (some ⟨g, 0, none⟩) 1 c] w fun e w' => e = .returned (.bool true) ∧ w' = w := by
 have d1 : decide (n < 0) = false := decide_eq_false (by omega)
 have d2 : decide (1099511626776 < n) = false := decide_eq_false (by omega)
 have n1 : ¬ n < 0 := by omega
 have n2 : ¬ (1099511626776 : Int) < n := by omega
 clear h1 h2
 go_enter Tryz.func101, Tryz.ntmps101
 go_wp2_with fail
 go_loopw [7] (fun i wr => ∃ k : Nat, k ≤ 1 ∧ i = .int .i64 (k : Int) ∧ wr = w) (fun i _ => 1 - (intOf i).toNat)
 case atStart => exact ⟨0, by omega, rfl, rfl⟩
 case round =>
  obtain ⟨k, hk, rfl, rfl⟩ := hrel
  rcases (show k = 0 ∨ k = 1 by omega) with rfl | rfl
  · go_wp2_with fail
    go_roundw
    case rel => exact ⟨1, by omega, by go_num, trivial⟩
    case measure => simp [intOf]
  · go_wp2_with fail
    go_ret
    exact ⟨rfl, rfl⟩
theorem due_late (at1 now : Int) (h1 : 0 ≤ now) (h2 : now ≤ 1099511626776) (hd : now + 200 < at1) (W : World) :
 Calls Tryz.prog 52 #[.int .i64 at1, .int .i64 now] W fun e w' => e = .returned (.tuple #[.int .i64 0, .int .i64 15]) ∧ Below W.heap.size W w' := by
 have HB : Hid (Below W.heap.size W (W.alloc (.cells #[.int .i64 now] 3))) := (Below.refl _ W).alloc (Nat.le_refl _) _
 have HT := Lib.hid (time_ok now h1 h2 W.heap.size 1 (W.alloc (.cells #[.int .i64 now] 3)) (by rw [World.cell?_alloc_new]; rfl))
 have hw : IntKind.i64.wrap (now + 200) = now + 200 := IntWalk.i64_in _ (by omega)
 go_enter Tryz.func52, Tryz.ntmps52
 go_wp2_with fail
 refine HT.out.mono ?_
 rintro e w2 ⟨rfl, he⟩
 obtain rfl := he.symm
 clear HT
 have hd2 : decide (now + 200 < at1) = true := decide_eq_true hd
 clear hd
 go_wp2_with fail
 go_ret2
 exact ⟨rfl, HB.out⟩
theorem due_ok (at1 now : Int) (h1 : 0 ≤ now) (h2 : now ≤ 1099511626776) (hd : at1 ≤ now + 200) (W : World) :
 Calls Tryz.prog 52 #[.int .i64 at1, .int .i64 now] W fun e w' => e = .returned (.tuple #[.int .i64 (max at1 now), .int .i64 0]) ∧ Below W.heap.size W w' := by
 have HB : Hid (Below W.heap.size W (W.alloc (.cells #[.int .i64 now] 3))) := (Below.refl _ W).alloc (Nat.le_refl _) _
 have HT := Lib.hid (time_ok now h1 h2 W.heap.size 1 (W.alloc (.cells #[.int .i64 now] 3)) (by rw [World.cell?_alloc_new]; rfl))
 have hw : IntKind.i64.wrap (now + 200) = now + 200 := IntWalk.i64_in _ (by omega)
 go_enter Tryz.func52, Tryz.ntmps52
 go_wp2_with fail
 refine HT.out.mono ?_
 rintro e w2 ⟨rfl, he⟩
 obtain rfl := he.symm
 clear HT
 have hd2 : decide (now + 200 < at1) = false := decide_eq_false (by omega)
 clear hd
 go_wp2_with fail
 go_ret2
 exact ⟨rfl, HB.out⟩
theorem sched_bad {base : Nat} {S0 : StoD} {X : TabD} (x : WantD) (at1 : Int) (sy : Bool) (hx : WantOk x) (r : Int) (hc : checkW X.l x = r) (h0 : r ≠ 0) (a : Option Addr) (c : Nat) (W : World) (h : StoTab base W S0 X) (hl : X.l.length ≤ 1000) (hS : Strs W a (x.keys.map S)) :
 Calls Tryz.prog 24 #[.pointer (some ⟨S0.blk, 0, none⟩), .agg (cellsW x a c), .int .i64 at1, .bool sy] W fun e w' => e = .returned (.tuple #[.int .i64 0, .int .i64 r]) ∧ Below W.heap.size W w' := by
 have HB0 : Hid (Below W.heap.size W (W.alloc (.cells (cellsW x a c) 33))) := (Below.refl _ W).alloc (Nat.le_refl _) _
 have HX0 : Hid (RecW.Boxed (W.alloc (.cells (cellsW x a c) 33)) W.heap.size (cellsW x a c)) := RecW.Boxed.new W _ _
 have HC := Lib.hid (scheck_any x hx a c _ (h.below HB0.out) hl (Strs.below hS HB0.out))
 rw [hc] at HC
 have hcu : (cellsW x a c).size = 5 := rfl
 have hne : (r != 0) = true := bne_iff_ne.2 h0
 clear h hS hx hc h0
 go_enter Tryz.func24, Tryz.ntmps24
 go_upto_region 1 with fail
 generalize W.alloc (.cells (cellsW x a c) 33) = w1 at *
 clear hcu
 obtain ⟨A, hA⟩ : ∃ A, W.heap.size = A := ⟨_, rfl⟩
 rw [hA] at HX0 ⊢
 have k0 : w1.cell? ⟨A, 0, none⟩ = some (.string (S x.topic)) := HX0.out 0 _ rfl
 have k1 : w1.cell? ⟨A, 1, none⟩ = some (.int .i64 x.queue) := HX0.out 1 _ rfl
 have k2 : w1.cell? ⟨A, 2, none⟩ = some (.string (S x.tag)) := HX0.out 2 _ rfl
 have k3 : w1.cell? ⟨A, 3, none⟩ = some (.slice a x.keys.length c) := HX0.out 3 _ rfl
 have k4 : w1.cell? ⟨A, 4, none⟩ = some (.string (S x.body)) := HX0.out 4 _ rfl
 rw [show cellsW x a c = #[.string (S x.topic), .int .i64 x.queue, .string (S x.tag), .slice a x.keys.length c, .string (S x.body)] from rfl] at HC
 clear hA
 go_wp2_with fail
 refine HC.out.mono ?_
 rintro e w2 ⟨rfl, hb⟩
 have HB2 : Hid (Below W.heap.size W w2) := HB0.out.trans (hb.mono HB0.out.size)
 clear hb HC k0 k1 k2 k3 k4
 go_wp2_with fail
 go_ret2
 exact ⟨rfl, HB2.out⟩
theorem sched_ok {base : Nat} {S0 : StoD} {X : TabD} (x : WantD) (at1 : Int) (sy : Bool) (hx : WantOk x) (hc : checkW X.l x = 0) (hp : ∀ y ∈ X.l, plainL y.1 = true ∧ y.2 ≤ 3) (a : Option Addr) (c : Nat) (W : World) (h : StoTab base W S0 X) (hl : X.l.length ≤ 1000) (hS : Strs W a (x.keys.map S)) (hq : Quiet S0.T.D) (hT : TabB base W) (hbase : base ≤ W.heap.size)
 (hnow : 0 ≤ S0.now ∧ S0.now ≤ 1099511626776) (hat : inI at1) (hdue : at1 ≤ S0.now + 200) (hroom : (((fillOf S0.T.R.e (recW x 2 (max at1 S0.now) S0.now)).length + (recL (recW x 2 (max at1 S0.now) S0.now)).length : Nat) : Int) ≤ S0.T.D.room) (hwl : S0.T.D.waits.length ≤ 1000000) (hfar : S0.T.R.e ≤ 80000000) (hrl : S0.T.O.recs.length ≤ 1000000) :
 Calls Tryz.prog 24 #[.pointer (some ⟨S0.blk, 0, none⟩), .agg (cellsW x a c), .int .i64 at1, .bool sy] W fun e w' => e = .returned (.tuple #[.int .i64 ((S0.T.R.e + (fillOf S0.T.R.e (recW x 2 (max at1 S0.now) S0.now)).length : Nat) : Int), .int .i64 0]) ∧
  ∃ S1, StoTab base w' S1 X ∧ Put W.heap.size S0 S1 (recW x 2 (max at1 S0.now) S0.now) sy ∧ Mod S0.foot W w' := by
 have HB0 : Hid (Below W.heap.size W (W.alloc (.cells (cellsW x a c) 33))) := (Below.refl _ W).alloc (Nat.le_refl _) _
 have HX0 : Hid (RecW.Boxed (W.alloc (.cells (cellsW x a c) 33)) W.heap.size (cellsW x a c)) := RecW.Boxed.new W _ _
 have HC := Lib.hid (scheck_any x hx a c _ (h.below HB0.out) hl (Strs.below hS HB0.out))
 rw [hc] at HC
 have hcu : (cellsW x a c).size = 5 := rfl
 have hni : inI S0.now := ⟨by omega, by omega⟩
 have hbn : badNum S0.now = false := by unfold badNum; rw [decide_eq_false (by omega), decide_eq_false (by omega)]; rfl
 have hbd : badNum (max at1 S0.now) = false := by unfold badNum; rw [decide_eq_false (by omega), decide_eq_false (by omega)]; rfl
 have hdi : inI (max at1 S0.now) := ⟨by have := hat.1; omega, by have := hat.2; omega⟩
 have HDU : Hid (∀ w, Calls Tryz.prog 52 #[.int .i64 at1, .int .i64 S0.now] w fun e w' => e = .returned (.tuple #[.int .i64 (max at1 S0.now), .int .i64 0]) ∧ Below w.heap.size w w') := fun w => by
  exact due_ok at1 S0.now hnow.1 hnow.2 hdue w
 have HPO := Lib.hid (fun (a' : Option Addr) (c' : Nat) (w : World) (hb : Below W.heap.size W w) (hs : Strs w a' (x.keys.map S)) => put_ok (recW x 2 (max at1 S0.now) S0.now) sy (recW_ok hx (by unfold inI; decide) hdi hni) (checkW_zero hp hc (.inr rfl) hbd hbn) (by show (2 : Int) ≠ 0; decide) a' c' w (h.sto.below hb) hs hq (hT.below hb) (Nat.le_trans hbase hb.size) hroom hwl hfar hrl)
 have HRE := Lib.hid (fun (w : World) (hb : Below W.heap.size W w) => record_any x hx 2 (max at1 S0.now) S0.now a c w (Strs.below hS hb))
 have HNO := Lib.hid (fun (w : World) (hb : Below W.heap.size W w) => now_any w (h.sto.below hb))
 have HST := Lib.hid h
 generalize hid : ((S0.T.R.e + (fillOf S0.T.R.e (recW x 2 (max at1 S0.now) S0.now)).length : Nat) : Int) = idn at *
 clear h hS hx hc hp hq hT hbase hroom hwl hfar hrl hid hnow hni hat hdue hbn hbd hdi
 go_enter Tryz.func24, Tryz.ntmps24
 go_upto_region 1 with fail
 generalize W.alloc (.cells (cellsW x a c) 33) = w1 at *
 clear hcu
 obtain ⟨A, hA⟩ : ∃ A, W.heap.size = A := ⟨_, rfl⟩
 have HAA := Lib.hid hA
 rw [hA] at HX0 ⊢
 have k0 : w1.cell? ⟨A, 0, none⟩ = some (.string (S x.topic)) := HX0.out 0 _ rfl
 have k1 : w1.cell? ⟨A, 1, none⟩ = some (.int .i64 x.queue) := HX0.out 1 _ rfl
 have k2 : w1.cell? ⟨A, 2, none⟩ = some (.string (S x.tag)) := HX0.out 2 _ rfl
 have k3 : w1.cell? ⟨A, 3, none⟩ = some (.slice a x.keys.length c) := HX0.out 3 _ rfl
 have k4 : w1.cell? ⟨A, 4, none⟩ = some (.string (S x.body)) := HX0.out 4 _ rfl
 rw [show cellsW x a c = #[.string (S x.topic), .int .i64 x.queue, .string (S x.tag), .slice a x.keys.length c, .string (S x.body)] from rfl] at HC
 clear hA
 go_wp2_with fail
 refine HC.out.mono ?_
 rintro e w2 ⟨rfl, hb⟩
 have HB2 : Hid (Below W.heap.size W w2) := HB0.out.trans (hb.mono HB0.out.size)
 have HX2 := Lib.hid (HX0.out.below hb)
 clear hb HC k0 k1 k2 k3 k4 HX0 HB0
 have HNW := Lib.hid (HNO.out w2 HB2.out)
 go_wp2_with fail
 refine HNW.out.mono ?_
 rintro e w ⟨rfl, he⟩
 obtain rfl := he.symm
 clear HNW
 go_wp2_with fail
 refine (HDU.out _).mono ?_
 rintro e w2b ⟨rfl, hb2b⟩
 have HB2 : Hid (Below W.heap.size W w2b) := HB2.out.trans (hb2b.mono HB2.out.size)
 have HX2 := Lib.hid (HX2.out.below hb2b)
 clear hb2b HDU
 go_upto_region 7 with fail
 rw [show cellsW x a c = #[.string (S x.topic), .int .i64 x.queue, .string (S x.tag), .slice a x.keys.length c, .string (S x.body)] from rfl] at HRE
 have HK : Hid (∀ w, RecW.ExtR w2b.drew w → w.cell? ⟨A, 0, none⟩ = some (.string (S x.topic)) ∧ w.cell? ⟨A, 1, none⟩ = some (.int .i64 x.queue) ∧ w.cell? ⟨A, 2, none⟩ = some (.string (S x.tag)) ∧ w.cell? ⟨A, 3, none⟩ = some (.slice a x.keys.length c) ∧ w.cell? ⟨A, 4, none⟩ = some (.string (S x.body)) ∧ Below w2b.heap.size w2b w) := fun w hw => by
  have hb : Below w2b.heap.size w2b w := ((Below.refl _ w2b).drew).trans hw
  have hc := HX2.out.below hb
  exact ⟨hc 0 _ rfl, hc 1 _ rfl, hc 2 _ rfl, hc 3 _ rfl, hc 4 _ rfl, hb⟩
 refine GrowM.wp_region_s (by kernel_rfl) ?_
 refine GrowM.st_grow 7 [none, none, none, none, some (.inl (.int .i64 S0.now)), some (.inr (fun _ v w => ∃ a' c', v = .agg (cellsM (recW x 2 (max at1 S0.now) S0.now) a' c') ∧ Strs w a' (x.keys.map S))), none] RecW.ExtR (by kernel_rfl) (by kernel_rfl) RecW.ExtR.refl (fun _ _ _ => RecW.ExtR.trans) ?_ ?_
 ·
  intro K hK Y hY l v w w' hR h
  simp only [List.mem_cons, List.not_mem_nil, or_false] at hK
  rcases hK with rfl | rfl | rfl | rfl | rfl | rfl | rfl <;> simp only [reduceCtorEq, Option.some.injEq, Sum.inr.injEq] at hY
  subst hY; obtain ⟨a', c', e, hs⟩ := h; exact ⟨a', c', e, Strs.below hs hR⟩
 simp only [List.take_succ_cons, List.take_zero, List.drop_succ_cons, List.drop_zero, Nat.reduceSub]
 iterate 4
  refine GrowN.g_det rfl ?_
  apply Exists.intro
  refine ⟨fun w hw hF => ?_, ?_⟩
  · clear hF
    obtain ⟨k0, k1, k2, k3, k4, _⟩ := HK.out w hw
    go_simp
    exact ⟨rfl, RecW.ExtR.refl _⟩
  go_frame
 refine GrowN.g_con rfl (fun w hw hF => ?_) ?_
 ·
  clear hF
  obtain ⟨_, _, _, _, _, hb⟩ := HK.out w hw
  have HNW := Lib.hid (HNO.out w (HB2.out.trans (hb.mono HB2.out.size)))
  clear hb
  go_simp
  exact HNW.out.mono fun e w3 ⟨h1, h2⟩ => ⟨_, h1, rfl, h2 ▸ RecW.ExtR.refl _⟩
 go_frame
 refine GrowN.g_new rfl (fun w hw hF => ?_) (fun v4 => ?_)
 ·
  clear hF
  obtain ⟨_, _, _, _, _, hb⟩ := HK.out w hw
  have HRW := Lib.hid (HRE.out w (HB2.out.trans (hb.mono HB2.out.size)))
  clear hb
  go_simp
  exact HRW.out.mono fun e w3 ⟨a', c', h1, h2, h3⟩ => ⟨_, h1, ⟨a', ⟨c', rfl⟩, h2⟩, h3⟩
 go_frame
 refine GrowN.g_det rfl ?_
 apply Exists.intro
 refine ⟨fun w hw hF => ?_, ?_⟩
 · clear hF
   go_simp
   exact ⟨rfl, RecW.ExtR.refl _⟩
 go_frame
 refine GrowN.g_nil fun w3 hw3 hF => ?_
 obtain ⟨a', c', rfl, hs3⟩ := hF _ (.head _)
 clear hF
 obtain ⟨_, _, _, _, _, hb3⟩ := HK.out w3 hw3
 have HB3 : Hid (Below W.heap.size W w3) := HB2.out.trans (hb3.mono HB2.out.size)
 have HPW := Lib.hid (HPO.out a' c' w3 HB3.out hs3)
 clear hs3 hb3 hw3 HPO HRE HNO HK HX2
 generalize cellsM (recW x 2 (max at1 S0.now) S0.now) a' c' = cm at *
 refine GrowM.st_call (fun v w' => v = .tuple #[.int .i64 idn, .int .i64 0] ∧ ∃ S1, StoAt base w' S1 ∧ Put w3.heap.size S0 S1 (recW x 2 (max at1 S0.now) S0.now) sy ∧ Mod S0.foot w3 w') (by kernel_rfl) rfl rfl ?_ ?_
 ·
  go_simp
  refine HPW.out.mono ?_
  rintro e w' ⟨rfl, hb⟩
  exact ⟨_, rfl, rfl, hb⟩
 rintro v w4 ⟨rfl, S1, hs1, hput, hm⟩
 go_frame
 have HM : Hid (StoAt base w4 S1 ∧ Put w3.heap.size S0 S1 (recW x 2 (max at1 S0.now) S0.now) sy ∧ Mod S0.foot w3 w4) := ⟨hs1, hput, hm⟩
 clear hs1 hput hm HPW
 refine GrowM.st_grow 12 [none, none, none, none] (fun u v => v = u) (by kernel_rfl) (by kernel_rfl) (fun _ => rfl) (fun _ _ _ h k => k.trans h) ?_ ?_
 · exact GrowN.stab0 rfl
 simp only [List.take_succ_cons, List.take_zero, List.drop_succ_cons, List.drop_zero, Nat.reduceSub]
 iterate 4
  refine GrowN.g_det rfl ?_
  apply Exists.intro
  refine ⟨fun w hw hF => ?_, ?_⟩
  · obtain rfl := hw.symm
    clear hF
    go_simp
    first | exact rfl | exact ⟨rfl, rfl⟩
  go_frame
 refine GrowN.g_nil fun wz hwz hF => ?_
 obtain rfl := hwz.symm
 clear hF
 refine GrowM.st_end rfl ?_
 go_wp2_with fail
 go_ret2
 obtain ⟨hs1, hput, hm⟩ := HM.out
 have hbw : Below W.heap.size W w3 := HB3.out
 have hst : StoTab base w3 S0 X := HST.out.below hbw
 exact ⟨rfl, S1, StoTab.put hst hs1 hput hm (Nat.le_refl _), Put.mono hput hbw.size, (Mod.of_below hbw).trans hm⟩
theorem sched_late {base : Nat} {S0 : StoD} {X : TabD} (x : WantD) (at1 : Int) (sy : Bool) (hx : WantOk x) (hc : checkW X.l x = 0) (hnow : 0 ≤ S0.now ∧ S0.now ≤ 1099511626776) (hlate : S0.now + 200 < at1) (a : Option Addr) (c : Nat) (W : World) (h : StoTab base W S0 X) (hl : X.l.length ≤ 1000) (hS : Strs W a (x.keys.map S)) :
 Calls Tryz.prog 24 #[.pointer (some ⟨S0.blk, 0, none⟩), .agg (cellsW x a c), .int .i64 at1, .bool sy] W fun e w' => e = .returned (.tuple #[.int .i64 0, .int .i64 15]) ∧ Below W.heap.size W w' := by
 have HB0 : Hid (Below W.heap.size W (W.alloc (.cells (cellsW x a c) 33))) := (Below.refl _ W).alloc (Nat.le_refl _) _
 have HX0 : Hid (RecW.Boxed (W.alloc (.cells (cellsW x a c) 33)) W.heap.size (cellsW x a c)) := RecW.Boxed.new W _ _
 have HC := Lib.hid (scheck_any x hx a c _ (h.below HB0.out) hl (Strs.below hS HB0.out))
 rw [hc] at HC
 have hcu : (cellsW x a c).size = 5 := rfl
 have HNO := Lib.hid (fun (w : World) (hb : Below W.heap.size W w) => now_any w (h.sto.below hb))
 have HDU : Hid (∀ w, Calls Tryz.prog 52 #[.int .i64 at1, .int .i64 S0.now] w fun e w' => e = .returned (.tuple #[.int .i64 0, .int .i64 15]) ∧ Below w.heap.size w w') := fun w => by
  exact due_late at1 S0.now hnow.1 hnow.2 hlate w
 clear h hS hx hc hnow hlate
 go_enter Tryz.func24, Tryz.ntmps24
 go_upto_region 1 with fail
 generalize W.alloc (.cells (cellsW x a c) 33) = w1 at *
 clear hcu
 obtain ⟨A, hA⟩ : ∃ A, W.heap.size = A := ⟨_, rfl⟩
 rw [hA] at HX0 ⊢
 have k0 : w1.cell? ⟨A, 0, none⟩ = some (.string (S x.topic)) := HX0.out 0 _ rfl
 have k1 : w1.cell? ⟨A, 1, none⟩ = some (.int .i64 x.queue) := HX0.out 1 _ rfl
 have k2 : w1.cell? ⟨A, 2, none⟩ = some (.string (S x.tag)) := HX0.out 2 _ rfl
 have k3 : w1.cell? ⟨A, 3, none⟩ = some (.slice a x.keys.length c) := HX0.out 3 _ rfl
 have k4 : w1.cell? ⟨A, 4, none⟩ = some (.string (S x.body)) := HX0.out 4 _ rfl
 rw [show cellsW x a c = #[.string (S x.topic), .int .i64 x.queue, .string (S x.tag), .slice a x.keys.length c, .string (S x.body)] from rfl] at HC
 clear hA
 go_wp2_with fail
 refine HC.out.mono ?_
 rintro e w2 ⟨rfl, hb⟩
 have HB2 : Hid (Below W.heap.size W w2) := HB0.out.trans (hb.mono HB0.out.size)
 clear hb HC k0 k1 k2 k3 k4
 have HNW := Lib.hid (HNO.out w2 HB2.out)
 go_wp2_with fail
 refine HNW.out.mono ?_
 rintro e w ⟨rfl, he⟩
 obtain rfl := he.symm
 clear HNW
 go_wp2_with fail
 refine (HDU.out _).mono ?_
 rintro e w2b ⟨rfl, hb2b⟩
 have HB3 : Hid (Below W.heap.size W w2b) := HB2.out.trans (hb2b.mono HB2.out.size)
 clear hb2b HDU
 go_wp2_with fail
 go_ret2
 exact ⟨rfl, HB3.out⟩
end Go.Proofs.YtjjkhbfimpgplaaGreatDoor.SndW
namespace Go.Proofs.YtjjkhbfimpgplaaGreatDoor.PendW
open Go.RowKit Go.MapKept Go.Shelf OctMath RecMath RecW MapG
set_option linter.unusedVariables false
set_option linter.unusedSimpArgs false
set_option maxRecDepth 100000
theorem due_wait {base : Nat} {P : PendD} (id d : Int) (w : World) (h : PendAt base w P) (hg : getP P.all id = (1, d)) :
 Calls Tryz.prog 26 #[.pointer (some ⟨P.blk, 0, none⟩), .int .i64 id] w fun e w' => e = .returned (.int .i64 d) ∧ w' = w := by
 have HS := Lib.hid (state_any id w h)
 have HL := lookupP h id
 have c0 := h.cell
 rw [hg] at HS HL
 have HF1 : (Instr.field 126 (.agg #[.int .i64 1, .int .i64 d]) 1).run Tryz.prog w = .ok (.int .i64 d) w := rfl
 unfold oneV at HL
 clear h hg
 go_enter Tryz.func26, Tryz.ntmps26
 go_wp2_with fail
 refine HS.out.mono ?_
 rintro e w' ⟨rfl, he⟩
 obtain rfl := he.symm
 clear HS
 go_wp2_with fail
 go_ret
 exact ⟨rfl, rfl⟩
theorem over_any {base : Nat} {P : PendD} (id : Int) (w : World) (h : PendAt base w P) :
 Calls Tryz.prog 56 #[.pointer (some ⟨P.blk, 0, none⟩), .int .i64 id] w fun e w' => e = .returned (.bool ((getP P.all id).1 != 1)) ∧ w' = w := by
 have HS := Lib.hid (state_any id w h)
 generalize (getP P.all id).1 = g1 at *
 clear h
 go_enter Tryz.func56, Tryz.ntmps56
 go_wp2_with fail
 refine HS.out.mono ?_
 rintro e w' ⟨rfl, he⟩
 obtain rfl := he.symm
 go_wp2_with fail
 go_ret
 exact ⟨rfl, rfl⟩
def anyI (v : Value) : Option (DataW Unit × List MemPlace) := some (.lit (.bool true), [])
theorem rd_id {x : MapEntry} {n : Int} (h : x.key = .int .i64 n) (hn : (Lit.int .i64 n).wf = true) : Go.WideElems.rd Tryz.prog 3 anyI x = some (.int .i64 n, .lit (.bool true)) := by
 have hkey := Maps.keyOf_int_mk (P := Tryz.prog) Tryz.underlying3 hn
 unfold Go.WideElems.rd anyI
 rw [h, hkey]; rfl
theorem PendAt.owns {base : Nat} {w : World} {P : PendD} (h : PendAt base w P) (hfl : P.all.length ≤ maxLen) (hid : ∀ p ∈ P.all, (Lit.int .i64 p.1).wf = true) :
 ∃ D0 : DataW Unit, w.ownsMap Tryz.prog 3 anyI P.mB P.all.length D0 ∧ (∀ ss : List Int, ss.Perm (intKeys D0) → ss.Perm (P.all.map (·.1))) ∧ Maps.size D0 = P.all.length := by
 obtain ⟨es, c, hb, hst, hmap⟩ := h.map
 have hlen : es.size = P.all.length := by have := congrArg List.length hmap; simpa using this
 have hrg : es.toList.map (Go.WideElems.rg Tryz.prog 3 anyI) = P.all.map (fun p => ((Lit.int .i64 p.1, DataW.lit (.bool true)) : Lit × DataW Unit)) := by
  have h1 : es.toList.map (Go.WideElems.rg Tryz.prog 3 anyI) = (es.toList.map (fun e : MapEntry => (e.key, e.val))).map (fun q => Go.WideElems.rg Tryz.prog 3 anyI ⟨q.1, q.2, 0⟩) := by
   rw [List.map_map]; rfl
  rw [h1, hmap, List.map_map]
  apply List.map_congr_left
  intro p hp
  exact Go.WideElems.rg_of (rd_id rfl (hid p hp))
 refine ⟨_, ⟨es, c, hb, ⟨by omega, hst, fun x hx => ?_⟩, by omega, rfl⟩, fun ss hss => ?_, ?_⟩
 · have h1 : (x.key, x.val) ∈ P.all.map oneP := by rw [← hmap]; exact List.mem_map.2 ⟨x, hx, rfl⟩
   obtain ⟨p, hp, hq⟩ := List.mem_map.1 h1
   exact ⟨_, rd_id (Prod.mk.inj hq).1.symm (hid p hp)⟩
 ·
  refine hss.trans ?_
  show (((es.toList.map (Go.WideElems.rg Tryz.prog 3 anyI)).foldr DataW.insert []).map fun p => Go.intOf p.1).Perm _
  rw [hrg]
  refine ((Go.WideShapes.sorted_perm _).map _).trans ?_
  rw [List.map_map]
  exact List.Perm.refl _
 · show ((es.toList.map (Go.WideElems.rg Tryz.prog 3 anyI)).foldr DataW.insert []).length = _
   rw [(Go.WideShapes.sorted_perm _).length_eq, List.length_map, Array.length_toList]; exact hlen
theorem pkeys_any (m : Option Nat) (w : World) :
 Calls Tryz.prog 54 #[.map m] w fun e w' => e = .returned (.func (.func 103) #[] #[.pointer (some ⟨w.heap.size, 0, none⟩)]) ∧ w' = w.alloc (.cells #[.map m] 124) :=
 (callsIn_wide (n := 6)).1 (AnyZI.keys_in Tryz.keysP Fence.wide 6 trivial rfl m w)
theorem pcollect_any {base : Nat} {P : PendD} (Bm : Nat) (w : World) (h : PendAt base w P) (hfl : P.all.length ≤ 1048576) (hid : ∀ p ∈ P.all, (Lit.int .i64 p.1).wf = true) (hBl : Bm < w.heap.size) (hBm : w.cell? ⟨Bm, 0, none⟩ = some (.map (some P.mB))) :
 Calls Tryz.prog 53 #[.func (.func 103) #[] #[.pointer (some ⟨Bm, 0, none⟩)]] w fun e w' => ∃ (v : Value) (ss : List Int), e = .returned v ∧ ss.Perm (P.all.map (·.1)) ∧
  w'.ownsRow w.heap.size 3 1 v ss.length (ss.map fun x => .int .i64 x) ∧ Below w.heap.size w w' := by
 obtain ⟨D0, hown, hperm, hsize⟩ := h.owns (by unfold maxLen; omega) hid
 refine (callsIn_wide (n := 6)).1 ?_
 have := AnyZI.collect_in Tryz.collP Fence.wide 6 trivial trivial rfl (by omega) 103 #[.pointer (some ⟨Bm, 0, none⟩)] trivial (enters_of Tryz.func103 (by kernel_rfl) rfl) _ _ (by rw [hsize]; unfold maxLen; omega) (by rw [hsize]; omega) w
  (AnyZI.keys_gives Tryz.keysP1 Fence.wide 4 trivial rfl (by omega) Bm P.mB P.all.length D0 w hBl hBm hown)
 refine this.mono ?_
 rintro e w' ⟨v, ss, rfl, hS, hrow, _, hb⟩
 exact ⟨v, ss, rfl, hperm ss hS, hrow, hb⟩
theorem pindex_none {base : Nat} {P : PendD} (a : Option Addr) (c : Nat) (xs : List Int) (w : World) (h : PendAt base w P) (hI : OctW.Ints w a xs) (hx : xs.length ≤ 1048576) (hov : ∀ x ∈ xs, (getP P.all x).1 = 1) :
 Calls Tryz.prog 104 #[.slice a xs.length c, .func (.func 56) #[.pointer (some ⟨P.blk, 0, none⟩)] #[]] w fun e w' => e = .returned (.int .i64 (-1)) ∧ w' = w := by
 have HP := Lib.hid h
 have HI := Lib.hid hI
 have HO := Lib.hid hov
 clear h hI hov
 go_enter Tryz.func104, Tryz.ntmps104
 go_wp2_with fail
 go_loopw [8] (fun i wr => ∃ k : Nat, k ≤ xs.length ∧ i = .int .i64 (k : Int) ∧ wr = w) (fun i _ => xs.length - (intOf i).toNat)
 case atStart => exact ⟨0, Nat.zero_le _, rfl, rfl⟩
 case round =>
  obtain ⟨k, hk, rfl, rfl⟩ := hrel
  by_cases hlt : k < xs.length
  ·
   obtain ⟨b, off, rfl, hc⟩ := HI.out k hlt
   have ho := HO.out xs[k] (List.getElem_mem hlt)
   generalize xs[k] = x at *
   have HV := Lib.hid (over_any x wr HP.out)
   rw [ho] at HV
   clear ho
   go_wp2_with fail
   refine HV.out.mono ?_
   rintro e w' ⟨rfl, he⟩
   obtain rfl := he.symm
   go_wp2_with fail
   go_roundw
   case rel => exact ⟨k + 1, by omega, by go_num, trivial⟩
   case measure => simp [intOf]; omega
  · obtain rfl : k = xs.length := by omega
    go_wp2_with fail
    go_ret
    exact ⟨rfl, rfl⟩
theorem pdelete_none {base : Nat} {P : PendD} (a : Option Addr) (c : Nat) (xs : List Int) (w : World) (h : PendAt base w P) (hI : OctW.Ints w a xs) (hx : xs.length ≤ 1048576) (hov : ∀ x ∈ xs, (getP P.all x).1 = 1) :
 Calls Tryz.prog 55 #[.slice a xs.length c, .func (.func 56) #[.pointer (some ⟨P.blk, 0, none⟩)] #[]] w fun e w' => e = .returned (.slice a xs.length c) ∧ w' = w := by
 have HX := Lib.hid (pindex_none a c xs w h hI hx hov)
 clear h hI hov
 go_enter Tryz.func55, Tryz.ntmps55
 go_wp2_with fail
 refine HX.out.mono ?_
 rintro e w' ⟨rfl, he⟩
 obtain rfl := he.symm
 go_wp2_with fail
 go_ret
 exact ⟨rfl, rfl⟩
theorem insort_one (a : Option Addr) (c n : Nat) (fv : Value) (hn : n ≤ 1) (w : World) :
 Calls Tryz.prog 165 #[.slice a n c, .int .i64 0, .int .i64 (n : Int), fv] w fun e w' => (∃ v, e = .returned v) ∧ w' = w := by
 have hl : decide ((1 : Int) < (n : Int)) = false := decide_eq_false (by omega)
 have hl2 : ¬ (1 : Int) < (n : Int) := by omega
 have hl3 : (n : Int) ≤ 1 := by omega
 go_enter Tryz.func165, Tryz.ntmps165
 go_wp2_with fail
 go_loopw [8] (fun i wr => i = .int .i64 1 ∧ wr = w) (fun i _ => 0)
 case atStart => exact ⟨rfl, rfl⟩
 case round =>
  obtain ⟨rfl, rfl⟩ := hrel
  go_wp2_with fail
  go_end0
  exact ⟨⟨_, rfl⟩, rfl⟩
theorem pdq_one (a : Option Addr) (c n : Nat) (fv : Value) (l : Int) (hn : n ≤ 1) (w : World) :
 Calls Tryz.prog 105 #[.slice a n c, .int .i64 0, .int .i64 (n : Int), .int .i64 l, fv] w fun e w' => (∃ v, e = .returned v) ∧ w' = w := by
 have HI := Lib.hid (insort_one a c n fv hn w)
 have hl3 : (n : Int) ≤ 12 := by omega
 go_enter Tryz.func105, Tryz.ntmps105
 go_wp2_with fail
 go_loopw [1, 2] (fun x y wr => x = .int .i64 0 ∧ y = .int .i64 (n : Int) ∧ wr = w) (fun x _ _ => 0)
 case atStart => exact ⟨rfl, rfl, rfl⟩
 case round =>
  obtain ⟨rfl, rfl, rfl⟩ := hrel
  go_wp2_with fail
  refine HI.out.mono ?_
  rintro e w' ⟨⟨v, rfl⟩, he⟩
  obtain rfl := he.symm
  go_wp2_with fail
  exact bodyPost_ret (results_none rfl _ _ _) rfl ⟨⟨_, rfl⟩, rfl⟩
theorem psort_one (a : Option Addr) (c n : Nat) (fv : Value) (hn : n ≤ 1) (w : World) :
 Calls Tryz.prog 57 #[.slice a n c, fv] w fun e w' => (∃ v, e = .returned v) ∧ w' = w := by
 have HI := Lib.hid (fun l => pdq_one a c n fv l hn w)
 have HB := Lib.hid (Tryz.bits_Len (n : Int) w (by omega) (by omega))
 go_enter Tryz.func57, Tryz.ntmps57
 go_wp2_with fail
 refine HB.out.mono ?_
 rintro e w' ⟨rfl, he⟩
 obtain rfl := he.symm
 go_wp2_with fail
 refine (HI.out _).mono ?_
 rintro e w' ⟨⟨v, rfl⟩, he⟩
 obtain rfl := he.symm
 go_wp2_with fail
 go_end0
 exact ⟨⟨_, rfl⟩, rfl⟩
theorem pending_one {base : Nat} {P : PendD} (W : World) (h : PendAt base W P) (hl : P.all.length ≤ 1) (hid : ∀ p ∈ P.all, (Lit.int .i64 p.1).wf = true ∧ p.2.1 = 1) :
 Calls Tryz.prog 25 #[.pointer (some ⟨P.blk, 0, none⟩)] W fun e w' => ∃ a c, e = .returned (.slice a P.all.length c) ∧ OctW.Ints w' a (P.all.map (·.1)) ∧ Below W.heap.size W w' := by
 have hb1 : Below W.heap.size W (W.alloc (.cells #[.pointer (some ⟨P.blk, 0, none⟩)] 44)) := (Below.refl _ W).alloc (Nat.le_refl _) _
 have hc1 := heap_alloc_new W (.cells #[.pointer (some ⟨P.blk, 0, none⟩)] 44)
 have HB1 := Lib.hid hb1
 have HP1 := Lib.hid (h.below hb1)
 have HL := Lib.hid hl
 have HID : Hid (∀ p ∈ P.all, (Lit.int .i64 p.1).wf = true) := fun p hp => (hid p hp).1
 have HOV : Hid (∀ x ∈ P.all.map (·.1), (getP P.all x).1 = 1) := fun x hx => by
  obtain ⟨p, hp, rfl⟩ := List.mem_map.1 hx
  have hpl : P.all = [p] := by
   match hq : P.all, hl with
   | [], _ => rw [hq] at hp; cases hp
   | [y], _ => rw [hq, List.mem_singleton] at hp; rw [hp]
  unfold getP
  rw [hpl, List.find?_cons_of_pos (by simp)]
  exact (hid p hp).2
 clear h hl hid hb1
 go_enter Tryz.func25, Tryz.ntmps25
 go_upto_region 1 with fail
 generalize W.alloc (.cells #[.pointer (some ⟨P.blk, 0, none⟩)] 44) = w1 at *
 obtain ⟨A, hA⟩ : ∃ A, W.heap.size = A := ⟨_, rfl⟩
 rw [hA] at hc1 ⊢
 have HC1 := Lib.hid hc1
 have k0 : w1.cell? ⟨A, 0, none⟩ = some (.pointer (some ⟨P.blk, 0, none⟩)) := by rw [Lib.cell_of_heap hc1]; rfl
 have c0 := HP1.out.cell
 clear hc1 hA
 go_wp2_with fail
 refine (pkeys_any (some P.mB) w1).mono ?_
 rintro e w2 ⟨rfl, rfl⟩
 have hb2 : Below w1.heap.size w1 (w1.alloc (.cells #[.map (some P.mB)] 124)) := (Below.refl _ w1).alloc (Nat.le_refl _) _
 have HC := Lib.hid (pcollect_any w1.heap.size _ (HP1.out.below hb2) (by have := HL.out; omega) HID.out (by rw [World.size_alloc]; omega) (by rw [World.cell?_alloc_new]; rfl))
 have HB2 : Hid (Below W.heap.size W (w1.alloc (.cells #[.map (some P.mB)] 124))) := HB1.out.trans (hb2.mono HB1.out.size)
 have HC2 : Hid ((w1.alloc (.cells #[.map (some P.mB)] 124)).heap[A]? = _) := (hb2.block A (Array.getElem?_eq_some_iff.1 HC1.out).1).trans HC1.out
 have HP2 := Lib.hid (HP1.out.below hb2)
 clear hb2 k0 c0 HC1 HP1 HB1
 go_wp2_with fail
 refine HC.out.mono ?_
 rintro e w3 ⟨v, ss, rfl, hperm, hrow, hb3⟩
 have hss : ss = P.all.map (·.1) := by
  have h1 := hperm.length_eq
  rw [List.length_map] at h1
  have h2 := HL.out
  match hq : P.all, ss, h1, hperm with
  | [], [], _, _ => rfl
  | [y], [z], _, hp => exact List.perm_singleton.1 hp
  | _ :: _ :: _, _, _, _ => rw [hq] at h2; simp at h2
 subst hss
 obtain ⟨a, c, hv, hr1, _⟩ := Row1.of_own hrow
 subst hv
 have hI : OctW.Ints w3 a (P.all.map (·.1)) := fun i hi => by
  obtain ⟨b, off, e, hc⟩ := hr1 i (by simpa using hi)
  exact ⟨b, off, e, by rw [hc]; simp⟩
 have HI := Lib.hid hI
 have HB3 : Hid (Below W.heap.size W w3) := HB2.out.trans (hb3.mono HB2.out.size)
 have HP3 := Lib.hid (HP2.out.below hb3)
 have k0 : w3.cell? ⟨A, 0, none⟩ = some (.pointer (some ⟨P.blk, 0, none⟩)) := by rw [Lib.cell_of_heap ((hb3.block A (Array.getElem?_eq_some_iff.1 HC2.out).1).trans HC2.out)]; rfl
 have HD := Lib.hid (pdelete_none a c (P.all.map (·.1)) w3 HP3.out HI.out (by rw [List.length_map]; have := HL.out; omega) HOV.out)
 have HS := Lib.hid (fun fv => psort_one a c (P.all.map (·.1)).length fv (by rw [List.length_map]; exact HL.out) w3)
 have HN : Hid ((P.all.map (·.1)).length = P.all.length) := List.length_map _
 clear hperm hrow hr1 hI hb3 HC HC2 HB2 HP2
 generalize (P.all.map (·.1)).length = n at *
 go_wp2_with fail
 refine HD.out.mono ?_
 rintro e w' ⟨rfl, he⟩
 obtain rfl := he.symm
 clear HD
 go_wp2_with fail
 refine (HS.out _).mono ?_
 rintro e w' ⟨⟨v, rfl⟩, he⟩
 obtain rfl := he.symm
 clear HS k0
 go_wp2_with fail
 go_ret
 exact ⟨a, c, by rw [HN.out]; rfl, HI.out, HB3.out⟩
end Go.Proofs.YtjjkhbfimpgplaaGreatDoor.PendW
namespace Go.Proofs.YtjjkhbfimpgplaaGreatDoor.SndW
open Go.RowKit Go.MapKept Go.Sort OctMath RecMath RecW DskW SegW MapG TapeW TapeMath PendW CacheW StoW TopW NameMath
set_option linter.unusedVariables false
set_option linter.unusedSimpArgs false
set_option maxRecDepth 100000
structure SentI (base : Nat) (W w : World) (sb db ob most k : Nat) (nw : Int) (ws : List WantD) (S0 : StoD) (X : TabD) : Prop where
 st : StoTab base w S0 X
 quiet : Quiet S0.T.D
 now : S0.now = nw
 blk : S0.blk = sb
 dblk : S0.T.D.blk = db
 oblk : S0.T.O.blk = ob
 room : (((most - k) * 1531 : Nat) : Int) ≤ S0.T.D.room
 wl : S0.T.D.waits.length ≤ 2 * k
 e : S0.T.R.e ≤ 1531 * k
 recs : S0.T.O.recs.map (·.2) = (ws.take k).map fun x => recW x 1 0 nw
 ft : ∀ j, S0.foot j → base ≤ j
 low : Below base W w
theorem SentI.below {base : Nat} {W w w' : World} {sb db ob most k : Nat} {now : Int} {ws : List WantD} {S0 : StoD} {X : TabD} (h : SentI base W w sb db ob most k now ws S0 X) (hb : Below w.heap.size w w') (hs : base ≤ w.heap.size) : SentI base W w' sb db ob most k now ws S0 X :=
 { h with st := h.st.below hb, low := h.low.trans (hb.mono hs) }
theorem SentI.rl {base : Nat} {W w : World} {sb db ob most k : Nat} {now : Int} {ws : List WantD} {S0 : StoD} {X : TabD} (h : SentI base W w sb db ob most k now ws S0 X) : S0.T.O.recs.length ≤ k := by
 have := congrArg List.length h.recs
 rw [List.length_map, List.length_map, List.length_take] at this
 omega
theorem rec_room {e : Nat} {m : Msg} (hl : 3 ≤ roomL e) (hr : rightL m = true) (h0 : m.kind ≠ 0) : (fillOf e m).length ≤ 1024 ∧ (recL m).length ≤ 507 := by
 obtain ⟨l1, l2⟩ := rec_len hr h0
 have hf := fillOf_len e m hl
 have hroom := room_le e
 refine ⟨?_, l2⟩
 rcases hf with ⟨e, _⟩ | ⟨e, _⟩
 · rw [e]; exact Nat.zero_le _
 · omega
theorem SentI.next {base : Nat} {W w w2 : World} {sb db ob most k : Nat} {now : Int} {ws : List WantD} {S0 S1 : StoD} {X : TabD} {sy : Bool} (h : SentI base W w sb db ob most k now ws S0 X) (hk : k < most) (hkl : k < ws.length) (hr : rightL (recW ws[k] 1 0 S0.now) = true) (hs : base ≤ w.heap.size)
 (h1 : StoTab base w2 S1 X) (hp : Put w.heap.size S0 S1 (recW ws[k] 1 0 S0.now) sy) (hm : Mod S0.foot w w2) : SentI base W w2 sb db ob most (k + 1) now ws S1 X := by
 have h0 : (recW ws[k] 1 0 S0.now).kind ≠ 0 := by show (1 : Int) ≠ 0; decide
 obtain ⟨l1, l2⟩ := rec_room (loose_e h.st.sto.tape) hr h0
 obtain ⟨_, r2, r3⟩ := put_recs h.st.sto h1.sto hp
 have hsn := put_snoc h.st.sto h1.sto hp
 have hlen : (bytesL (laidOf S0.T.R.e (recW ws[k] 1 0 S0.now))).length = (fillOf S0.T.R.e (recW ws[k] 1 0 S0.now)).length + (recL (recW ws[k] 1 0 S0.now)).length := by rw [bytes_laid, List.length_append]
 refine ⟨h1, hp.quiet, by rw [hp.same]; exact h.now, by rw [hp.same]; exact h.blk, hp.dblk.trans h.dblk, hp.oblk.trans h.oblk, ?_, ?_, ?_, ?_, fun j hj => (hp.foot j hj).elim (h.ft j) fun h2 => by omega, h.low.trans (hm.to_below _ hs h.ft)⟩
 · rw [hp.room, hlen]; have := h.room; omega
 · have := hp.wl; have := h.wl; omega
 · have := h.e; omega
 · rw [hsn, List.map_append, h.recs, List.take_succ_eq_append_getElem hkl, List.map_append, h.now]; rfl
theorem SentI.fits {base : Nat} {W w : World} {sb db ob most k : Nat} {now : Int} {ws : List WantD} {S0 : StoD} {X : TabD} (h : SentI base W w sb db ob most k now ws S0 X) (hk : k < most) {m : Msg} (hr : rightL m = true) (h0 : m.kind ≠ 0) : (((fillOf S0.T.R.e m).length + (recL m).length : Nat) : Int) ≤ S0.T.D.room := by
 obtain ⟨l1, l2⟩ := rec_room (loose_e h.st.sto.tape) hr h0
 have := h.room
 omega
end Go.Proofs.YtjjkhbfimpgplaaGreatDoor.SndW
namespace Go.Proofs.YtjjkhbfimpgplaaGreatDoor.RefW
open Go.RowKit OctMath OctW
set_option linter.unusedVariables false
set_option linter.unusedSimpArgs false
set_option maxRecDepth 100000
set_option maxHeartbeats 3200000 in
theorem ints_any (a b : Option Addr) (c d : Nat) (xs ys : List Int) (hx : xs.length ≤ 1048576) (hy : ys.length ≤ 1048576) (w : World) (ha : Ints w a xs) (hb : Ints w b ys) :
 Calls Tryz.prog 13 #[.slice a xs.length c, .slice b ys.length d] w fun e w' => e = .returned (.bool (decide (xs = ys))) ∧ Below w.heap.size w w' := by
 have HA := Lib.hid ha
 have HB := Lib.hid hb
 clear ha hb
 by_cases hl : xs.length = ys.length
 ·
  have hne : ((xs.length : Int) != (ys.length : Int)) = false := by rw [hl]; simp
  have HL := Lib.hid hl
  go_enter Tryz.func13, Tryz.ntmps13
  go_wp2_with fail
  go_loopw [5] (fun i wr => ∃ k : Nat, k ≤ xs.length ∧ i = .int .i64 (k : Int) ∧ Hid (xs.take k = ys.take k) ∧ Hid (Below w.heap.size w wr)) (fun i _ => xs.length + 1 - (intOf i).toNat)
  case atStart => exact ⟨0, by omega, rfl, rfl, Below.refl _ _⟩
  case round =>
   obtain ⟨k, hk, rfl, HE, HW⟩ := hrel
   by_cases hlt : k < xs.length
   ·
    obtain ⟨g, o, rfl, h1⟩ := (HA.out.below HW.out) k hlt
    obtain ⟨g2, o2, rfl, h2⟩ := (HB.out.below HW.out) k (by omega)
    have hkl : k < ys.length := by omega
    have s1 : xs.take (k + 1) = xs.take k ++ [xs[k]] := List.take_succ_eq_append_getElem hlt
    have s2 : ys.take (k + 1) = ys.take k ++ [ys[k]] := List.take_succ_eq_append_getElem hkl
    have HS1 := Lib.hid s1
    have HS2 := Lib.hid s2
    have HX : Hid (xs = ys → xs[k] = ys[k]) := fun e => by subst e; rfl
    clear s1 s2
    generalize xs[k] = x at *
    generalize ys[k] = y at *
    go_wp2_with fail
    have HWD : Hid (Below w.heap.size w wr.drew) := HW.out.drew
    have e1 : wr.drew.cell? ⟨g, o + k, none⟩ = some (.int .i64 x) := h1
    have e2 : wr.drew.cell? ⟨g2, o2 + k, none⟩ = some (.int .i64 y) := h2
    clear h1 h2
    refine GrowM.wp_region_s (by kernel_rfl) ?_
    refine GrowM.st_grow 9 [none, none, none, none, none, none, none, none, none] (fun u v => v = u) (by kernel_rfl) (by kernel_rfl) (fun _ => rfl) (fun _ _ _ h k => k.trans h) ?_ ?_
    · exact GrowN.stab0 rfl
    simp only [List.take_succ_cons, List.take_zero, List.drop_succ_cons, List.drop_zero, Nat.reduceSub]
    iterate 9
     refine GrowN.g_det rfl ?_
     apply Exists.intro
     refine ⟨fun w hw hF => ?_, ?_⟩
     · obtain rfl := hw.symm
       clear hF
       go_simp
       first | exact rfl | exact ⟨rfl, rfl⟩
     go_frame
    refine GrowN.g_nil fun wz hwz hF => ?_
    obtain rfl := hwz.symm
    clear hF
    refine GrowM.st_end rfl ?_
    by_cases hxy : x = y
    ·
     have hn : (x != y) = false := by simp [hxy]
     have HE2 : Hid (xs.take (k + 1) = ys.take (k + 1)) := by show _ = _; rw [HS1.out, HS2.out, HE.out, hxy]
     clear hxy
     go_wp2_with fail
     go_roundw
     case rel => exact ⟨k + 1, by omega, by go_num, HE2, HWD⟩
     case measure => simp [intOf]; omega
    ·
     have hn : (x != y) = true := by simp [hxy]
     have HF : Hid (decide (xs = ys) = false) := decide_eq_false fun e => hxy (HX.out e)
     clear hxy
     go_wp2_with fail
     go_ret
     rw [HF.out]
     exact ⟨rfl, HWD.out⟩
   ·
    obtain rfl : k = xs.length := by omega
    have HT : Hid (decide (xs = ys) = true) := by
     refine decide_eq_true ?_
     have := HE.out
     rw [List.take_length, HL.out, List.take_length] at this
     exact this
    go_wp2_with fail
    go_ret
    rw [HT.out]
    exact ⟨rfl, HW.out⟩
 ·
  have hne : ((xs.length : Int) != (ys.length : Int)) = true := by simp; omega
  have HF : Hid (decide (xs = ys) = false) := decide_eq_false fun e => hl (by rw [e])
  go_enter Tryz.func13, Tryz.ntmps13
  go_wp2_with fail
  go_ret
  rw [HF.out]
  exact ⟨rfl, Below.refl _ _⟩
end Go.Proofs.YtjjkhbfimpgplaaGreatDoor.RefW
namespace Go.Proofs.YtjjkhbfimpgplaaGreatDoor.SndW
open Go.RowKit Go.MapKept Go.Sort OctMath RecMath RecW DskW SegW MapG TapeW TapeMath PendW CacheW StoW TopW NameMath
set_option linter.unusedVariables false
set_option linter.unusedSimpArgs false
set_option maxRecDepth 100000
structure EnvS (W : World) (A : Nat) (cw cn : Array Value) (w : World) : Prop where
 low : Below W.heap.size W w
 bx : RecW.Boxed w A cw
 bn : RecW.Boxed w (A + 1) cn
 sz : A + 2 ≤ w.heap.size
theorem EnvS.mod {W w w' : World} {A : Nat} {cw cn : Array Value} {M : Nat → Prop} (h : EnvS W A cw cn w) (hA : W.heap.size = A) (hm : Mod M w w') (hM : ∀ k, M k → A + 2 ≤ k) : EnvS W A cw cn w' := by
 have hz := h.sz
 refine ⟨h.low.trans (hm.to_below _ h.low.size fun k hk => by have := hM k hk; omega), fun i v hv => ?_, fun i v hv => ?_, Nat.le_trans h.sz hm.size⟩
 · have h1 := h.bx i v hv
   rw [hm.cell (p := ⟨A, i, none⟩) (by show A < _; omega) (fun h2 => by have h3 : A + 2 ≤ A := hM _ h2; omega)]; exact h1
 · have h1 := h.bn i v hv
   rw [hm.cell (p := ⟨A + 1, i, none⟩) (by show A + 1 < _; omega) (fun h2 => by have h3 : A + 2 ≤ A + 1 := hM _ h2; omega)]; exact h1
theorem EnvS.below {W w w' : World} {A : Nat} {cw cn : Array Value} (h : EnvS W A cw cn w) (hA : W.heap.size = A) (hb : Below w.heap.size w w') : EnvS W A cw cn w' :=
 h.mod (M := fun _ => False) hA (Mod.of_below hb) (fun _ h => h.elim)
theorem noteP_one (id : Int) (m : Msg) (h : m.kind = 1) : noteP [] id m = [] := by
 unfold noteP
 split
 · rfl
 · rw [if_neg (by omega), if_neg (by omega), if_neg (by omega)]
theorem noteP_two (id : Int) (m : Msg) (h : m.kind = 2) (h0 : 0 ≤ id) : noteP [] id m = [(id, (1, m.due))] := by
 unfold noteP
 rw [if_neg (by omega), if_neg (by omega), if_neg (by omega), if_pos ⟨h, rfl⟩]
 rfl
set_option maxHeartbeats 25600000 in
theorem sendsends_any (x : WantD) (now at1 : Int) (sy : Bool) (full : Int) (hIq : inI x.queue) (hnw : inI now) (hat : inI at1) (hfl : 0 ≤ full ∧ full ≤ 255) (a : Option Addr) (c : Nat) (hcap : x.keys.length ≤ c) (W : World) (hT : Tab W) (hS : Strs W a (x.keys.map S)) :
 Calls Tryz.prog 5 #[.agg (cellsW x a c), .agg #[.int .i64 now, .int .i64 at1, .bool sy, .int .u8 full]] W fun e w' => e = .returned (.bool true) ∧ Below W.heap.size W w' := by
 have hb1 : Below W.heap.size W ((W.alloc (.cells (cellsW x a c) 33)).alloc (.cells #[.int .i64 now, .int .i64 at1, .bool sy, .int .u8 full] 75)) := ((Below.refl _ W).alloc (Nat.le_refl _) _).alloc (by rw [World.size_alloc]; omega) _
 have hA1 : ((W.alloc (.cells (cellsW x a c) 33)).alloc (.cells #[.int .i64 now, .int .i64 at1, .bool sy, .int .u8 full] 75)).heap[W.heap.size]? = some (.cells (cellsW x a c) 33 (0, 0)) := heap_below ((Below.refl _ _).alloc (Nat.le_refl _) _) (heap_alloc_new W _)
 have hA2 : ((W.alloc (.cells (cellsW x a c) 33)).alloc (.cells #[.int .i64 now, .int .i64 at1, .bool sy, .int .u8 full] 75)).heap[W.heap.size + 1]? = some (.cells #[.int .i64 now, .int .i64 at1, .bool sy, .int .u8 full] 75 (0, 0)) := by
  have := heap_alloc_new (W.alloc (.cells (cellsW x a c) 33)) (.cells #[.int .i64 now, .int .i64 at1, .bool sy, .int .u8 full] 75)
  rw [World.size_alloc] at this
  exact this
 have HE1 : Hid (EnvS W W.heap.size #[.string (S x.topic), .int .i64 x.queue, .string (S x.tag), .slice a x.keys.length c, .string (S x.body)] #[.int .i64 now, .int .i64 at1, .bool sy, .int .u8 full] ((W.alloc (.cells (cellsW x a c) 33)).alloc (.cells #[.int .i64 now, .int .i64 at1, .bool sy, .int .u8 full] 75))) := ⟨hb1, fun i v hv => cell_at hA1 i v hv, fun i v hv => cell_at hA2 i v hv, (Array.getElem?_eq_some_iff.1 hA2).1⟩
 have HTB : Hid (∀ w, Below W.heap.size W w → TabB (W.heap.size + 2) w) := fun w hb => ⟨W, hT, by omega, hb⟩
 have HTT : Hid (∀ w, Below W.heap.size W w → Tab w) := fun w hb => (HTB.out w hb).tab
 have HSS : Hid (∀ w, Below W.heap.size W w → Strs w a (x.keys.map S)) := fun w hb => Strs.below hS hb
 have HIQ := Lib.hid hIq
 have HNW := Lib.hid hnw
 have HAT := Lib.hid hat
 have HCP := Lib.hid hcap
 have hcu : (cellsW x a c).size = 5 := rfl
 have hfw : IntKind.i64.wrap (65536 - full) = 65536 - full := IntWalk.i64_in _ (by omega)
 have hfw2 : IntKind.i64.wrap full = full := IntWalk.i64_in _ (by omega)
 have HFL := Lib.hid hfl
 clear hb1 hA1 hA2 hT hS hIq hnw hat hcap
 go_enter Tryz.func5, Tryz.ntmps5
 go_upto_region 1 with fail
 generalize (W.alloc (.cells (cellsW x a c) 33)).alloc (.cells #[.int .i64 now, .int .i64 at1, .bool sy, .int .u8 full] 75) = w1 at *
 clear hcu
 obtain ⟨A, hA⟩ : ∃ A, W.heap.size = A := ⟨_, rfl⟩
 have HAA := Lib.hid hA
 have HE1 : Hid (EnvS W A #[.string (S x.topic), .int .i64 x.queue, .string (S x.tag), .slice a x.keys.length c, .string (S x.body)] #[.int .i64 now, .int .i64 at1, .bool sy, .int .u8 full] w1) := hA ▸ HE1.out
 have HTB : Hid (∀ w, Below W.heap.size W w → TabB (A + 2) w) := hA ▸ HTB.out
 rw [hA]
 clear hA
 have HAW := Lib.hid (awake_any w1 (HTT.out w1 HE1.out.low))
 go_wp2_with fail
 refine HAW.out.mono ?_
 rintro e w2 ⟨rfl, hb⟩
 have HE2 := Lib.hid (HE1.out.below HAA.out hb)
 clear hb HAW HE1
 have k0 : w2.cell? ⟨A, 0, none⟩ = some (.string (S x.topic)) := HE2.out.bx 0 _ rfl
 have k1 : w2.cell? ⟨A, 1, none⟩ = some (.int .i64 x.queue) := HE2.out.bx 1 _ rfl
 have k2 : w2.cell? ⟨A, 2, none⟩ = some (.string (S x.tag)) := HE2.out.bx 2 _ rfl
 have k3 : w2.cell? ⟨A, 3, none⟩ = some (.slice a x.keys.length c) := HE2.out.bx 3 _ rfl
 have k4 : w2.cell? ⟨A, 4, none⟩ = some (.string (S x.body)) := HE2.out.bx 4 _ rfl
 have m0 : w2.cell? ⟨A + 1, 0, none⟩ = some (.int .i64 now) := HE2.out.bn 0 _ rfl
 have m1 : w2.cell? ⟨A + 1, 1, none⟩ = some (.int .i64 at1) := HE2.out.bn 1 _ rfl
 have m2 : w2.cell? ⟨A + 1, 2, none⟩ = some (.bool sy) := HE2.out.bn 2 _ rfl
 have m3 : w2.cell? ⟨A + 1, 3, none⟩ = some (.int .u8 full) := HE2.out.bn 3 _ rfl
 have HGR : Hid (Calls Tryz.prog 7 #[.slice (some ⟨w2.heap.size, 0, none⟩) 1 1] (w2.alloc (.cells #[.string (S x.topic), .int .i64 x.queue, .string (S x.tag), .slice a x.keys.length c, .string (S x.body)] 33)) fun e w' => e = .returned (.bool (greatX x)) ∧ Below w2.heap.size w2 w') := by
  have hba : Below w2.heap.size w2 (w2.alloc (.cells #[.string (S x.topic), .int .i64 x.queue, .string (S x.tag), .slice a x.keys.length c, .string (S x.body)] 33)) := (Below.refl _ w2).alloc (Nat.le_refl _) _
  have hca := heap_alloc_new w2 (.cells #[.string (S x.topic), .int .i64 x.queue, .string (S x.tag), .slice a x.keys.length c, .string (S x.body)] 33)
  have hrow : WantRow (w2.alloc (.cells #[.string (S x.topic), .int .i64 x.queue, .string (S x.tag), .slice a x.keys.length c, .string (S x.body)] 33)) (some ⟨w2.heap.size, 0, none⟩) [(x, a, c)] := fun i hi => by
   obtain rfl : i = 0 := by simp at hi; exact hi
   refine ⟨w2.heap.size, 0, rfl, fun j v hv => ?_, HSS.out _ (HE2.out.low.trans (hba.mono HE2.out.low.size))⟩
   rw [show 0 + 0 * 5 + j = j by omega]
   exact cell_at hca j v hv
  have h1 := great_any [(x, a, c)] (some ⟨w2.heap.size, 0, none⟩) 1 _ hrow (by simp)
  refine h1.mono fun e w' ⟨he, hb⟩ => ⟨by rw [he]; simp, hba.trans (hb.mono hba.size)⟩
 obtain ⟨gr, hgr⟩ : ∃ gr, gr = greatX x := ⟨_, rfl⟩
 rw [← hgr] at HGR
 have HGRE := Lib.hid hgr
 clear hgr
 go_wp2_with fail
 refine HGR.out.mono ?_
 rintro e w3 ⟨rfl, hb⟩
 have HE3 := Lib.hid (HE2.out.below HAA.out hb)
 clear hb HGR HE2 k0 k1 k2 k3 k4 m0 m1 m2 m3
 have k0 : w3.cell? ⟨A, 0, none⟩ = some (.string (S x.topic)) := HE3.out.bx 0 _ rfl
 have k1 : w3.cell? ⟨A, 1, none⟩ = some (.int .i64 x.queue) := HE3.out.bx 1 _ rfl
 have k2 : w3.cell? ⟨A, 2, none⟩ = some (.string (S x.tag)) := HE3.out.bx 2 _ rfl
 have k3 : w3.cell? ⟨A, 3, none⟩ = some (.slice a x.keys.length c) := HE3.out.bx 3 _ rfl
 have k4 : w3.cell? ⟨A, 4, none⟩ = some (.string (S x.body)) := HE3.out.bx 4 _ rfl
 have m0 : w3.cell? ⟨A + 1, 0, none⟩ = some (.int .i64 now) := HE3.out.bn 0 _ rfl
 have m1 : w3.cell? ⟨A + 1, 1, none⟩ = some (.int .i64 at1) := HE3.out.bn 1 _ rfl
 have m2 : w3.cell? ⟨A + 1, 2, none⟩ = some (.bool sy) := HE3.out.bn 2 _ rfl
 have m3 : w3.cell? ⟨A + 1, 3, none⟩ = some (.int .u8 full) := HE3.out.bn 3 _ rfl
 cases gr with
 | true =>
   go_wp2_with fail
   go_ret
   exact ⟨rfl, HE3.out.low⟩
 | false =>
 obtain ⟨hwo, _, _, hk10⟩ := want_ok HIQ.out HGRE.out.symm
 have HWO := Lib.hid hwo
 have HK10 := Lib.hid hk10
 clear hwo hk10 HGRE
 by_cases hn0 : now < 0
 ·
  have hd : decide (now < 0) = true := decide_eq_true hn0
  clear hn0
  go_wp2_with fail
  go_ret
  exact ⟨rfl, HE3.out.low⟩
 have hd0 : decide (now < 0) = false := decide_eq_false hn0
 by_cases hn1 : 1099511626776 < now
 ·
  have hd : decide (1099511626776 < now) = true := decide_eq_true hn1
  clear hn0 hn1
  go_wp2_with fail
  go_ret
  exact ⟨rfl, HE3.out.low⟩
 have hd1 : decide (1099511626776 < now) = false := decide_eq_false hn1
 have HNN : Hid (0 ≤ now ∧ now ≤ 1099511626776) := ⟨by omega, by omega⟩
 clear hn0 hn1
 have HN1 := Lib.hid (DskW.new_any (65536 - full) (A + 2) w3 HE3.out.sz)
 go_wp2_with fail
 refine HN1.out.mono ?_
 rintro e w4 ⟨D, rfl, hD, hb, h11, h12, h13, h14, h15, h16, h17, h18⟩
 have hrm : D.room = 65536 - full := by rw [room_new h15 h18]; have := HFL.out; omega
 have HE4 := Lib.hid (HE3.out.below HAA.out hb)
 obtain ⟨nn, hnn⟩ : ∃ nn : Nat, (nn : Int) = now := ⟨now.toNat, Int.toNat_of_nonneg HNN.out.1⟩
 have HM := Lib.hid (made_any nn w4 hD ⟨h13, h14⟩ h15 h16 HE4.out.sz (HTB.out w4 HE4.out.low) (by have := HNN.out; omega) (by have := HFL.out; omega))
 rw [hnn] at HM
 have HRM : Hid (65281 ≤ D.room) := by have := HFL.out; show _ ≤ D.room; omega
 have HDF : Hid (∀ k, D.foot k → A + 2 ≤ k) := fun k hk => hD.base_le hk
 have HZ4 : Hid (A + 2 ≤ w4.heap.size) := HE4.out.sz
 clear hD hb h11 h12 h13 h14 h15 h16 h17 h18 hrm HN1 HE3 hnn hd0 hd1 k0 k1 k2 k3 k4 m0 m1 m2 m3
 have k0 : w4.cell? ⟨A, 0, none⟩ = some (.string (S x.topic)) := HE4.out.bx 0 _ rfl
 have k1 : w4.cell? ⟨A, 1, none⟩ = some (.int .i64 x.queue) := HE4.out.bx 1 _ rfl
 have k2 : w4.cell? ⟨A, 2, none⟩ = some (.string (S x.tag)) := HE4.out.bx 2 _ rfl
 have k3 : w4.cell? ⟨A, 3, none⟩ = some (.slice a x.keys.length c) := HE4.out.bx 3 _ rfl
 have k4 : w4.cell? ⟨A, 4, none⟩ = some (.string (S x.body)) := HE4.out.bx 4 _ rfl
 have m0 : w4.cell? ⟨A + 1, 0, none⟩ = some (.int .i64 now) := HE4.out.bn 0 _ rfl
 have m1 : w4.cell? ⟨A + 1, 1, none⟩ = some (.int .i64 at1) := HE4.out.bn 1 _ rfl
 have m2 : w4.cell? ⟨A + 1, 2, none⟩ = some (.bool sy) := HE4.out.bn 2 _ rfl
 have m3 : w4.cell? ⟨A + 1, 3, none⟩ = some (.int .u8 full) := HE4.out.bn 3 _ rfl
 go_wp2_with fail
 refine HM.out.mono ?_
 rintro e w5 ⟨S0, X, rfl, hmi, hxl⟩
 have HFT : Hid (∀ k, S0.foot k → A + 2 ≤ k) := fun k hk => (hmi.foot k hk).elim (HDF.out k) fun h => by have := HZ4.out; omega
 have HE5 := Lib.hid (HE4.out.mod HAA.out hmi.mod HDF.out)
 have HMI := Lib.hid hmi
 have HXL := Lib.hid hxl
 have HXN : Hid (X.l.length ≤ 1000) := by show _ ≤ _; rw [hxl]; decide
 have HXP : Hid (∀ y ∈ X.l, plainL y.1 = true ∧ y.2 ≤ 3) := by show ∀ y ∈ X.l, _; rw [hxl]; exact made_plain
 have HRI := Lib.hid (right_any x HWO.out a c HCP.out w5 (HSS.out w5 HE5.out.low))
 rw [right_check, show cellsW x a c = #[.string (S x.topic), .int .i64 x.queue, .string (S x.tag), .slice a x.keys.length c, .string (S x.body)] from rfl] at HRI
 clear hmi hxl HM HE4 k0 k1 k2 k3 k4 m0 m1 m2 m3
 have k0 : w5.cell? ⟨A, 0, none⟩ = some (.string (S x.topic)) := HE5.out.bx 0 _ rfl
 have k1 : w5.cell? ⟨A, 1, none⟩ = some (.int .i64 x.queue) := HE5.out.bx 1 _ rfl
 have k2 : w5.cell? ⟨A, 2, none⟩ = some (.string (S x.tag)) := HE5.out.bx 2 _ rfl
 have k3 : w5.cell? ⟨A, 3, none⟩ = some (.slice a x.keys.length c) := HE5.out.bx 3 _ rfl
 have k4 : w5.cell? ⟨A, 4, none⟩ = some (.string (S x.body)) := HE5.out.bx 4 _ rfl
 have m0 : w5.cell? ⟨A + 1, 0, none⟩ = some (.int .i64 now) := HE5.out.bn 0 _ rfl
 have m1 : w5.cell? ⟨A + 1, 1, none⟩ = some (.int .i64 at1) := HE5.out.bn 1 _ rfl
 have m2 : w5.cell? ⟨A + 1, 2, none⟩ = some (.bool sy) := HE5.out.bn 2 _ rfl
 have m3 : w5.cell? ⟨A + 1, 3, none⟩ = some (.int .u8 full) := HE5.out.bn 3 _ rfl
 go_wp2_with fail
 refine HRI.out.mono ?_
 rintro e w6 ⟨rfl, hb⟩
 have HE6 := Lib.hid (HE5.out.below HAA.out hb)
 have HM6 := Lib.hid (HMI.out.below hb)
 have HCK := Lib.hid (scheck_any x HWO.out a c w6 HM6.out.st HXN.out (HSS.out w6 HE6.out.low))
 rw [HXL.out, show cellsW x a c = #[.string (S x.topic), .int .i64 x.queue, .string (S x.tag), .slice a x.keys.length c, .string (S x.body)] from rfl] at HCK
 clear hb HRI HE5 HMI k0 k1 k2 k3 k4 m0 m1 m2 m3
 have k0 : w6.cell? ⟨A, 0, none⟩ = some (.string (S x.topic)) := HE6.out.bx 0 _ rfl
 have k1 : w6.cell? ⟨A, 1, none⟩ = some (.int .i64 x.queue) := HE6.out.bx 1 _ rfl
 have k2 : w6.cell? ⟨A, 2, none⟩ = some (.string (S x.tag)) := HE6.out.bx 2 _ rfl
 have k3 : w6.cell? ⟨A, 3, none⟩ = some (.slice a x.keys.length c) := HE6.out.bx 3 _ rfl
 have k4 : w6.cell? ⟨A, 4, none⟩ = some (.string (S x.body)) := HE6.out.bx 4 _ rfl
 have m0 : w6.cell? ⟨A + 1, 0, none⟩ = some (.int .i64 now) := HE6.out.bn 0 _ rfl
 have m1 : w6.cell? ⟨A + 1, 1, none⟩ = some (.int .i64 at1) := HE6.out.bn 1 _ rfl
 have m2 : w6.cell? ⟨A + 1, 2, none⟩ = some (.bool sy) := HE6.out.bn 2 _ rfl
 have m3 : w6.cell? ⟨A + 1, 3, none⟩ = some (.int .u8 full) := HE6.out.bn 3 _ rfl
 obtain ⟨r, hr⟩ : ∃ r, r = checkW made3 x := ⟨_, rfl⟩
 rw [← hr] at HCK ⊢
 have HRE := Lib.hid hr
 clear hr
 go_wp2_with fail
 refine HCK.out.mono ?_
 rintro e w7 ⟨rfl, hb⟩
 have HE7 := Lib.hid (HE6.out.below HAA.out hb)
 have HM7 := Lib.hid (HM6.out.below hb)
 clear hb HCK HE6 HM6 k0 k1 k2 k3 k4 m0 m1 m2 m3
 have k0 : w7.cell? ⟨A, 0, none⟩ = some (.string (S x.topic)) := HE7.out.bx 0 _ rfl
 have k1 : w7.cell? ⟨A, 1, none⟩ = some (.int .i64 x.queue) := HE7.out.bx 1 _ rfl
 have k2 : w7.cell? ⟨A, 2, none⟩ = some (.string (S x.tag)) := HE7.out.bx 2 _ rfl
 have k3 : w7.cell? ⟨A, 3, none⟩ = some (.slice a x.keys.length c) := HE7.out.bx 3 _ rfl
 have k4 : w7.cell? ⟨A, 4, none⟩ = some (.string (S x.body)) := HE7.out.bx 4 _ rfl
 have m0 : w7.cell? ⟨A + 1, 0, none⟩ = some (.int .i64 now) := HE7.out.bn 0 _ rfl
 have m1 : w7.cell? ⟨A + 1, 1, none⟩ = some (.int .i64 at1) := HE7.out.bn 1 _ rfl
 have m2 : w7.cell? ⟨A + 1, 2, none⟩ = some (.bool sy) := HE7.out.bn 2 _ rfl
 have m3 : w7.cell? ⟨A + 1, 3, none⟩ = some (.int .u8 full) := HE7.out.bn 3 _ rfl
 have hrr : (r != r) = false := bne_self_eq_false r
 obtain ⟨sb, hsb⟩ : ∃ sb, sb = S0.blk := ⟨_, rfl⟩
 have HSB := Lib.hid hsb
 rw [← hsb]
 clear hsb
 by_cases h0 : r = 0
 case neg =>
  have hne : (r != 0) = true := bne_iff_ne.2 h0
  have heq0 : (r == 0) = false := beq_eq_false_iff_ne.2 h0
  have HSD := Lib.hid (send_bad x sy HWO.out r (by rw [HXL.out]; exact HRE.out.symm) h0 a c w7 HM7.out.st HXN.out (HSS.out w7 HE7.out.low))
  have HSC := Lib.hid (fun w (h : StoTab (A + 2) w S0 X) (hs : Strs w a (x.keys.map S)) => sched_bad x at1 sy HWO.out r (by rw [HXL.out]; exact HRE.out.symm) h0 a c w h HXN.out hs)
  rw [← HSB.out, show cellsW x a c = #[.string (S x.topic), .int .i64 x.queue, .string (S x.tag), .slice a x.keys.length c, .string (S x.body)] from rfl] at HSD HSC
  have HF0 : Hid (S0.T.R.e = 0 ∧ S0.P.all = []) := ⟨HM7.out.fits.1, HM7.out.pend⟩
  clear h0
  go_wp2_with fail
  refine HSD.out.mono ?_
  rintro e w8 ⟨rfl, hb⟩
  have HE8 := Lib.hid (HE7.out.below HAA.out hb)
  have HT8 := Lib.hid (HM7.out.st.below hb)
  have c0 : w8.cell? ⟨sb, 0, none⟩ = some (.pointer (some ⟨S0.T.O.blk, 0, none⟩)) := by rw [HSB.out]; exact HT8.out.sto.cell 0 _ rfl
  have HEN := Lib.hid (TapeW.end_any w8 HT8.out.sto.tape)
  rw [HF0.out.1] at HEN
  clear hb HSD HE7 HM7 k0 k1 k2 k3 k4 m0 m1 m2 m3
  iterate 2
   go_wp2_with fail
   refine HEN.out.mono ?_
   rintro e w ⟨rfl, he⟩
   obtain rfl := he.symm
  have k0 : w8.cell? ⟨A, 0, none⟩ = some (.string (S x.topic)) := HE8.out.bx 0 _ rfl
  have k1 : w8.cell? ⟨A, 1, none⟩ = some (.int .i64 x.queue) := HE8.out.bx 1 _ rfl
  have k2 : w8.cell? ⟨A, 2, none⟩ = some (.string (S x.tag)) := HE8.out.bx 2 _ rfl
  have k3 : w8.cell? ⟨A, 3, none⟩ = some (.slice a x.keys.length c) := HE8.out.bx 3 _ rfl
  have k4 : w8.cell? ⟨A, 4, none⟩ = some (.string (S x.body)) := HE8.out.bx 4 _ rfl
  have m0 : w8.cell? ⟨A + 1, 0, none⟩ = some (.int .i64 now) := HE8.out.bn 0 _ rfl
  have m1 : w8.cell? ⟨A + 1, 1, none⟩ = some (.int .i64 at1) := HE8.out.bn 1 _ rfl
  have m2 : w8.cell? ⟨A + 1, 2, none⟩ = some (.bool sy) := HE8.out.bn 2 _ rfl
  have m3 : w8.cell? ⟨A + 1, 3, none⟩ = some (.int .u8 full) := HE8.out.bn 3 _ rfl
  go_wp2_with fail
  refine (HSC.out w8 HT8.out (HSS.out w8 HE8.out.low)).mono ?_
  rintro e w9 ⟨rfl, hb⟩
  have HE9 := Lib.hid (HE8.out.below HAA.out hb)
  have HT9 := Lib.hid (HT8.out.below hb)
  have c0' : w9.cell? ⟨sb, 0, none⟩ = some (.pointer (some ⟨S0.T.O.blk, 0, none⟩)) := by rw [HSB.out]; exact HT9.out.sto.cell 0 _ rfl
  have c6 : w9.cell? ⟨sb, 6, none⟩ = some (.pointer (some ⟨S0.P.blk, 0, none⟩)) := by rw [HSB.out]; exact HT9.out.sto.cell 6 _ rfl
  have HEN9 := Lib.hid (TapeW.end_any w9 HT9.out.sto.tape)
  rw [HF0.out.1] at HEN9
  have HPN := Lib.hid (PendW.pending_one w9 HT9.out.sto.pend (by rw [HF0.out.2]; decide) (by rw [HF0.out.2]; intro p hp; cases hp))
  rw [HF0.out.2] at HPN
  clear hb HSC HEN HE8 HT8 c0 k0 k1 k2 k3 k4 m0 m1 m2 m3
  go_wp2_with fail
  refine HEN9.out.mono ?_
  rintro e w ⟨rfl, he⟩
  obtain rfl := he.symm
  go_wp2_with fail
  refine HPN.out.mono ?_
  rintro e w10 ⟨a10, c10, rfl, _, hb⟩
  have HL := Lib.hid (HE9.out.below HAA.out hb).low
  clear hb HPN HEN9
  go_wp2_with fail
  go_ret
  exact ⟨rfl, HL.out⟩
 case pos =>
 subst h0
 have hnw0 : S0.now = now := HM7.out.now
 obtain ⟨f1, f2, f3⟩ := HM7.out.fits
 have hc0 : checkW X.l x = 0 := by rw [HXL.out]; exact HRE.out.symm
 have hbn : badNum now = false := by have := HNN.out; unfold badNum; rw [decide_eq_false (by omega), decide_eq_false (by omega)]; rfl
 have hr1 := checkW_zero (ki := 1) (due := 0) (now := S0.now) HXP.out hc0 (.inl ⟨rfl, rfl⟩) rfl (by rw [hnw0]; exact hbn)
 have hl1 := rec_room (e := S0.T.R.e) (loose_e HM7.out.st.sto.tape) hr1 (by show (1 : Int) ≠ 0; decide)
 have hrm0 : 65227 ≤ S0.T.D.room := by have := HM7.out.room; have := HRM.out; omega
 have HSD := Lib.hid (send_ok x sy HWO.out hc0 HXP.out a c w7 HM7.out.st HXN.out (HSS.out w7 HE7.out.low) HM7.out.q (HTB.out w7 HE7.out.low) HE7.out.sz (by rw [hnw0]; exact hbn) (by omega) (by rw [f3]; decide) (by omega) (by rw [f2]; decide))
 have HP0 : Hid (S0.P.all = [] ∧ S0.T.D.waits.length = 0 ∧ S0.T.R.e = 0 ∧ S0.T.O.recs = [] ∧ 65227 ≤ S0.T.D.room) := ⟨HM7.out.pend, f3, f1, f2, hrm0⟩
 have HDB : Hid (S0.T.D.blk = D.blk) := HM7.out.db
 have HT7 := Lib.hid HM7.out.st
 have HL1 := Lib.hid hl1
 have HC0 := Lib.hid hc0
 have HBN := Lib.hid hbn
 rw [← HSB.out, show cellsW x a c = #[.string (S x.topic), .int .i64 x.queue, .string (S x.tag), .slice a x.keys.length c, .string (S x.body)] from rfl, hnw0] at HSD
 rw [hnw0] at HL1
 have HN0 := Lib.hid hnw0
 obtain ⟨idn, hid⟩ : ∃ idn : Nat, idn = S0.T.R.e + (fillOf S0.T.R.e (recW x 1 0 now)).length := ⟨_, rfl⟩
 rw [← hid] at HSD
 have HID := Lib.hid hid
 clear hnw0 f1 f2 f3 hc0 hbn hr1 hl1 hrm0 hid HM7
 go_wp2_with fail
 refine HSD.out.mono ?_
 rintro e w8 ⟨rfl, S1, hs1, hp1, hm1⟩
 have HE8 := Lib.hid (HE7.out.mod HAA.out hm1 HFT.out)
 have HT8 := Lib.hid hs1
 have HP1 := Lib.hid hp1
 obtain ⟨r1, r2, r3⟩ := put_recs HT7.out.sto hs1.sto hp1
 rw [← HID.out] at r1 r3
 have HR1 : Hid ((idn, recW x 1 0 now) ∈ S1.T.O.recs ∧ S1.T.O.recs.length = 1 ∧ S1.T.R.e ≤ 1531) := ⟨r1, by rw [r2, HP0.out.2.2.2.1]; rfl, by have := HL1.out; have := HP0.out.2.2.1; have := HID.out; omega⟩
 have HS1B : Hid (S1.blk = sb ∧ S1.T.D.blk = D.blk ∧ S1.now = now) := ⟨by rw [hp1.same]; exact HSB.out.symm, hp1.dblk.trans HDB.out, by rw [hp1.same]; exact HN0.out⟩
 have HPA : Hid (S1.P.all = []) := by
  show _ = _
  rw [hp1.pall, HP0.out.1]; exact noteP_one _ _ rfl
 have HRM1 : Hid (63000 ≤ S1.T.D.room ∧ S1.T.D.waits.length ≤ 2) := by
  have h1 := hp1.room
  have h2 : (bytesL (laidOf S0.T.R.e (recW x 1 0 now))).length = (fillOf S0.T.R.e (recW x 1 0 now)).length + (recL (recW x 1 0 now)).length := by rw [bytes_laid, List.length_append]
  have h3 := HL1.out
  have h4 := HP0.out
  have h5 := hp1.wl
  exact ⟨by omega, by omega⟩
 have HQ1 : Hid (S1.T.D.left = -1 ∧ S1.T.D.down = false) := ⟨hp1.quiet.left, hp1.quiet.up⟩
 have HF1 : Hid (∀ k, S1.foot k → A + 2 ≤ k) := fun k hk => (hp1.foot k hk).elim (HFT.out k) fun h => Nat.le_trans HE7.out.sz h
 have HWL : Hid ((((S1.T.D.waits.length : Nat) : Int) == 0) = sy) := by
  have h1 := hp1.waits
  show _ = _
  cases sy with
  | true => rw [h1.1]; rfl
  | false =>
    have h2 : S1.T.D.waits ≠ [] := h1.1
    have h3 : 0 < S1.T.D.waits.length := List.length_pos_iff.2 h2
    exact beq_eq_false_iff_ne.2 (by omega)
 have HRD := Lib.hid (TapeW.tread_any idn _ w8 hs1.sto.tape hp1.quiet.up (HTB.out w8 HE8.out.low) HE8.out.sz r1)
 have c0 : w8.cell? ⟨sb, 0, none⟩ = some (.pointer (some ⟨S1.T.O.blk, 0, none⟩)) := by rw [← HS1B.out.1]; exact hs1.sto.cell 0 _ rfl
 clear hs1 hp1 hm1 r1 r2 r3 HSD HE7 HT7 HL1 HP0 HDB HSB HN0 HFT k0 k1 k2 k3 k4 m0 m1 m2 m3
 go_wp2_with fail
 refine HRD.out.mono ?_
 rintro e w9 ⟨a2, c2, rfl, hs9, hb9, _⟩
 rw [show cellsM (recW x 1 0 now) a2 c2 = #[.int .i64 1, .int .i64 x.queue, .int .i64 0, .int .i64 0, .int .i64 0, .int .i64 now, .string (S x.topic), .string (S x.tag), .string (S x.body), .slice a2 x.keys.length c2] from rfl]
 have hba : Below w9.heap.size w9 (w9.alloc (.cells #[.int .i64 1, .int .i64 x.queue, .int .i64 0, .int .i64 0, .int .i64 0, .int .i64 now, .string (S x.topic), .string (S x.tag), .string (S x.body), .slice a2 x.keys.length c2] 56)) := (Below.refl _ w9).alloc (Nat.le_refl _) _
 have hb10 : Below w8.heap.size w8 (w9.alloc (.cells #[.int .i64 1, .int .i64 x.queue, .int .i64 0, .int .i64 0, .int .i64 0, .int .i64 now, .string (S x.topic), .string (S x.tag), .string (S x.body), .slice a2 x.keys.length c2] 56)) := hb9.trans (hba.mono hb9.size)
 have HE10 := Lib.hid (HE8.out.below HAA.out hb10)
 have HT10 := Lib.hid (HT8.out.below hb10)
 have hc10 := heap_alloc_new w9 (.cells #[.int .i64 1, .int .i64 x.queue, .int .i64 0, .int .i64 0, .int .i64 0, .int .i64 now, .string (S x.topic), .string (S x.tag), .string (S x.body), .slice a2 x.keys.length c2] 56)
 have HC10 := Lib.hid hc10
 have HS10 := Lib.hid (Strs.below hs9 hba)
 clear hs9 hb9 hba hb10 hc10 HRD c0 HE8 HT8
 go_upto_region 18 with fail
 generalize w9.alloc (.cells #[.int .i64 1, .int .i64 x.queue, .int .i64 0, .int .i64 0, .int .i64 0, .int .i64 now, .string (S x.topic), .string (S x.tag), .string (S x.body), .slice a2 x.keys.length c2] 56) = w10 at *
 obtain ⟨A4, hA4⟩ : ∃ A4, w9.heap.size = A4 := ⟨_, rfl⟩
 rw [hA4] at HC10 ⊢
 clear hA4
 obtain ⟨wl, hwl⟩ : ∃ wl : Nat, wl = S1.T.D.waits.length := ⟨_, rfl⟩
 rw [← hwl] at HWL
 have HWLE := Lib.hid hwl
 clear hwl
 have HK : Hid (∀ w, RecW.ExtR w10.drew w → RecW.Boxed w A4 #[.int .i64 1, .int .i64 x.queue, .int .i64 0, .int .i64 0, .int .i64 0, .int .i64 now, .string (S x.topic), .string (S x.tag), .string (S x.body), .slice a2 x.keys.length c2] ∧ EnvS W A #[.string (S x.topic), .int .i64 x.queue, .string (S x.tag), .slice a x.keys.length c, .string (S x.body)] #[.int .i64 now, .int .i64 at1, .bool sy, .int .u8 full] w ∧ Below w10.heap.size w10 w) := fun w hw => by
  have hb : Below w10.heap.size w10 w := ((Below.refl _ w10).drew).trans hw
  exact ⟨fun j v hv => cell_at (heap_below hb HC10.out) j v hv, HE10.out.below HAA.out hb, hb⟩
 have hwe := HWL.out
 have hss : (sy != sy) = false := by cases sy <;> rfl
 refine GrowN.wp_region_n 18 [none, none, none, none, none, none, none, some (.inl (.bool true)), none, none, none, none, none, none, some (.inl (.int .i64 (wl : Int))), none, none, none] RecW.ExtR (by kernel_rfl) (by kernel_rfl) (by kernel_rfl) RecW.ExtR.refl (fun _ _ _ => RecW.ExtR.trans) ?_ ?_
 · exact GrowN.stab0 rfl
 simp only [List.take_succ_cons, List.take_zero, List.drop_succ_cons, List.drop_zero]
 iterate 7
  refine GrowN.g_det rfl ?_
  apply Exists.intro
  refine ⟨fun w hw hF => ?_, ?_⟩
  ·
   clear hF
   obtain ⟨hp, he, _⟩ := HK.out w hw
   have p0 := hp 0 _ rfl
   have p1 := hp 1 _ rfl
   have p2 := hp 2 _ rfl
   have p3 := hp 3 _ rfl
   have p4 := hp 4 _ rfl
   have p5 := hp 5 _ rfl
   have p6 := hp 6 _ rfl
   have p7 := hp 7 _ rfl
   have p8 := hp 8 _ rfl
   have p9 := hp 9 _ rfl
   have k0 : w.cell? ⟨A, 0, none⟩ = some (.string (S x.topic)) := he.bx 0 _ rfl
   have k1 : w.cell? ⟨A, 1, none⟩ = some (.int .i64 x.queue) := he.bx 1 _ rfl
   have k2 : w.cell? ⟨A, 2, none⟩ = some (.string (S x.tag)) := he.bx 2 _ rfl
   have k3 : w.cell? ⟨A, 3, none⟩ = some (.slice a x.keys.length c) := he.bx 3 _ rfl
   have k4 : w.cell? ⟨A, 4, none⟩ = some (.string (S x.body)) := he.bx 4 _ rfl
   have m0 : w.cell? ⟨A + 1, 0, none⟩ = some (.int .i64 now) := he.bn 0 _ rfl
   have m1 : w.cell? ⟨A + 1, 1, none⟩ = some (.int .i64 at1) := he.bn 1 _ rfl
   have m2 : w.cell? ⟨A + 1, 2, none⟩ = some (.bool sy) := he.bn 2 _ rfl
   have m3 : w.cell? ⟨A + 1, 3, none⟩ = some (.int .u8 full) := he.bn 3 _ rfl
   clear hp he
   go_simp
   exact ⟨rfl, RecW.ExtR.refl _⟩
  go_frame
 refine GrowN.g_con rfl (fun w hw hF => ?_) ?_
 ·
  clear hF
  obtain ⟨_, _, hb⟩ := HK.out w hw
  have HLI := Lib.hid (like_any x 1 0 now a a2 c c2 (Nat.le_trans HK10.out (by decide)) w (HSS.out w (HE10.out.low.trans (hb.mono HE10.out.low.size))) (Strs.below HS10.out hb))
  rw [show cellsM (recW x 1 0 now) a2 c2 = #[.int .i64 1, .int .i64 x.queue, .int .i64 0, .int .i64 0, .int .i64 0, .int .i64 now, .string (S x.topic), .string (S x.tag), .string (S x.body), .slice a2 x.keys.length c2] from rfl, show cellsW x a c = #[.string (S x.topic), .int .i64 x.queue, .string (S x.tag), .slice a x.keys.length c, .string (S x.body)] from rfl] at HLI
  clear hb
  go_simp
  exact HLI.out.mono fun e w3 ⟨h1, h2⟩ => ⟨_, h1, rfl, h2⟩
 go_frame
 iterate 6
  refine GrowN.g_det rfl ?_
  apply Exists.intro
  refine ⟨fun w hw hF => ?_, ?_⟩
  ·
   clear hF
   obtain ⟨hp, he, _⟩ := HK.out w hw
   have p0 := hp 0 _ rfl
   have p1 := hp 1 _ rfl
   have p2 := hp 2 _ rfl
   have p3 := hp 3 _ rfl
   have p4 := hp 4 _ rfl
   have p5 := hp 5 _ rfl
   have p6 := hp 6 _ rfl
   have p7 := hp 7 _ rfl
   have p8 := hp 8 _ rfl
   have p9 := hp 9 _ rfl
   have k0 : w.cell? ⟨A, 0, none⟩ = some (.string (S x.topic)) := he.bx 0 _ rfl
   have k1 : w.cell? ⟨A, 1, none⟩ = some (.int .i64 x.queue) := he.bx 1 _ rfl
   have k2 : w.cell? ⟨A, 2, none⟩ = some (.string (S x.tag)) := he.bx 2 _ rfl
   have k3 : w.cell? ⟨A, 3, none⟩ = some (.slice a x.keys.length c) := he.bx 3 _ rfl
   have k4 : w.cell? ⟨A, 4, none⟩ = some (.string (S x.body)) := he.bx 4 _ rfl
   have m0 : w.cell? ⟨A + 1, 0, none⟩ = some (.int .i64 now) := he.bn 0 _ rfl
   have m1 : w.cell? ⟨A + 1, 1, none⟩ = some (.int .i64 at1) := he.bn 1 _ rfl
   have m2 : w.cell? ⟨A + 1, 2, none⟩ = some (.bool sy) := he.bn 2 _ rfl
   have m3 : w.cell? ⟨A + 1, 3, none⟩ = some (.int .u8 full) := he.bn 3 _ rfl
   clear hp he
   go_simp
   exact ⟨rfl, RecW.ExtR.refl _⟩
  go_frame
 refine GrowN.g_con rfl (fun w hw hF => ?_) ?_
 ·
  clear hF
  obtain ⟨_, _, hb⟩ := HK.out w hw
  have HWA := Lib.hid (DskW.waits_any w (HT10.out.below hb).sto.tape.whole.dsk)
  rw [HS1B.out.2.1, ← HWLE.out] at HWA
  clear hb
  go_simp
  exact HWA.out.mono fun e w3 ⟨h1, h2⟩ => ⟨_, h1, rfl, h2 ▸ RecW.ExtR.refl _⟩
 go_frame
 iterate 3
  refine GrowN.g_det rfl ?_
  apply Exists.intro
  refine ⟨fun w hw hF => ?_, ?_⟩
  ·
   clear hF
   obtain ⟨hp, he, _⟩ := HK.out w hw
   have p0 := hp 0 _ rfl
   have p1 := hp 1 _ rfl
   have p2 := hp 2 _ rfl
   have p3 := hp 3 _ rfl
   have p4 := hp 4 _ rfl
   have p5 := hp 5 _ rfl
   have p6 := hp 6 _ rfl
   have p7 := hp 7 _ rfl
   have p8 := hp 8 _ rfl
   have p9 := hp 9 _ rfl
   have k0 : w.cell? ⟨A, 0, none⟩ = some (.string (S x.topic)) := he.bx 0 _ rfl
   have k1 : w.cell? ⟨A, 1, none⟩ = some (.int .i64 x.queue) := he.bx 1 _ rfl
   have k2 : w.cell? ⟨A, 2, none⟩ = some (.string (S x.tag)) := he.bx 2 _ rfl
   have k3 : w.cell? ⟨A, 3, none⟩ = some (.slice a x.keys.length c) := he.bx 3 _ rfl
   have k4 : w.cell? ⟨A, 4, none⟩ = some (.string (S x.body)) := he.bx 4 _ rfl
   have m0 : w.cell? ⟨A + 1, 0, none⟩ = some (.int .i64 now) := he.bn 0 _ rfl
   have m1 : w.cell? ⟨A + 1, 1, none⟩ = some (.int .i64 at1) := he.bn 1 _ rfl
   have m2 : w.cell? ⟨A + 1, 2, none⟩ = some (.bool sy) := he.bn 2 _ rfl
   have m3 : w.cell? ⟨A + 1, 3, none⟩ = some (.int .u8 full) := he.bn 3 _ rfl
   clear hp he
   go_simp
   exact ⟨rfl, RecW.ExtR.refl _⟩
  go_frame
 refine GrowN.g_nil fun w11 hw11 hF => ?_
 clear hF
 obtain ⟨_, _, hb11⟩ := HK.out w11 hw11
 have HE11 := Lib.hid (HE10.out.below HAA.out hb11)
 have HT11 := Lib.hid (HT10.out.below hb11)
 have c0 : w11.cell? ⟨sb, 0, none⟩ = some (.pointer (some ⟨S1.T.O.blk, 0, none⟩)) := by rw [← HS1B.out.1]; exact HT11.out.sto.cell 0 _ rfl
 have HEN := Lib.hid (TapeW.end_any w11 HT11.out.sto.tape)
 clear hw11 hb11 HK HC10 HS10 HE10 HT10 HWL HWLE hwe hss
 have k0 : w11.cell? ⟨A, 0, none⟩ = some (.string (S x.topic)) := HE11.out.bx 0 _ rfl
 have k1 : w11.cell? ⟨A, 1, none⟩ = some (.int .i64 x.queue) := HE11.out.bx 1 _ rfl
 have k2 : w11.cell? ⟨A, 2, none⟩ = some (.string (S x.tag)) := HE11.out.bx 2 _ rfl
 have k3 : w11.cell? ⟨A, 3, none⟩ = some (.slice a x.keys.length c) := HE11.out.bx 3 _ rfl
 have k4 : w11.cell? ⟨A, 4, none⟩ = some (.string (S x.body)) := HE11.out.bx 4 _ rfl
 have m0 : w11.cell? ⟨A + 1, 0, none⟩ = some (.int .i64 now) := HE11.out.bn 0 _ rfl
 have m1 : w11.cell? ⟨A + 1, 1, none⟩ = some (.int .i64 at1) := HE11.out.bn 1 _ rfl
 have m2 : w11.cell? ⟨A + 1, 2, none⟩ = some (.bool sy) := HE11.out.bn 2 _ rfl
 have m3 : w11.cell? ⟨A + 1, 3, none⟩ = some (.int .u8 full) := HE11.out.bn 3 _ rfl
 go_wp2_with fail
 refine HEN.out.mono ?_
 rintro e w ⟨rfl, he⟩
 obtain rfl := he.symm
 clear HEN
 obtain ⟨en, hen⟩ : ∃ en : Nat, en = S1.T.R.e := ⟨_, rfl⟩
 rw [← hen]
 have HEE := Lib.hid hen
 clear hen
 have hwr : IntKind.i64.wrap (now + 200) = now + 200 := IntWalk.i64_in _ (by have := HNN.out; omega)
 by_cases hlate : now + 200 < at1
 ·
  have hd2 : decide (now + 200 < at1) = true := decide_eq_true hlate
  have HSC := Lib.hid (sched_late x at1 sy HWO.out HC0.out (by rw [HS1B.out.2.2]; exact HNN.out) (by rw [HS1B.out.2.2]; exact hlate) a c w11 HT11.out HXN.out (HSS.out w11 HE11.out.low))
  rw [HS1B.out.1, show cellsW x a c = #[.string (S x.topic), .int .i64 x.queue, .string (S x.tag), .slice a x.keys.length c, .string (S x.body)] from rfl] at HSC
  clear hlate
  go_wp2_with fail
  refine HSC.out.mono ?_
  rintro e w12 ⟨rfl, hb⟩
  have HE12 := Lib.hid (HE11.out.below HAA.out hb)
  have HT12 := Lib.hid (HT11.out.below hb)
  clear hb HSC HE11 HT11 c0 k0 k1 k2 k3 k4 m0 m1 m2 m3
  have k0 : w12.cell? ⟨A, 0, none⟩ = some (.string (S x.topic)) := HE12.out.bx 0 _ rfl
  have k1 : w12.cell? ⟨A, 1, none⟩ = some (.int .i64 x.queue) := HE12.out.bx 1 _ rfl
  have k2 : w12.cell? ⟨A, 2, none⟩ = some (.string (S x.tag)) := HE12.out.bx 2 _ rfl
  have k3 : w12.cell? ⟨A, 3, none⟩ = some (.slice a x.keys.length c) := HE12.out.bx 3 _ rfl
  have k4 : w12.cell? ⟨A, 4, none⟩ = some (.string (S x.body)) := HE12.out.bx 4 _ rfl
  have m0 : w12.cell? ⟨A + 1, 0, none⟩ = some (.int .i64 now) := HE12.out.bn 0 _ rfl
  have m1 : w12.cell? ⟨A + 1, 1, none⟩ = some (.int .i64 at1) := HE12.out.bn 1 _ rfl
  have m2 : w12.cell? ⟨A + 1, 2, none⟩ = some (.bool sy) := HE12.out.bn 2 _ rfl
  have m3 : w12.cell? ⟨A + 1, 3, none⟩ = some (.int .u8 full) := HE12.out.bn 3 _ rfl
  have c0 : w12.cell? ⟨sb, 0, none⟩ = some (.pointer (some ⟨S1.T.O.blk, 0, none⟩)) := by rw [← HS1B.out.1]; exact HT12.out.sto.cell 0 _ rfl
  have c6 : w12.cell? ⟨sb, 6, none⟩ = some (.pointer (some ⟨S1.P.blk, 0, none⟩)) := by rw [← HS1B.out.1]; exact HT12.out.sto.cell 6 _ rfl
  have HEN := Lib.hid (TapeW.end_any w12 HT12.out.sto.tape)
  rw [← HEE.out] at HEN
  have HPN := Lib.hid (PendW.pending_one w12 HT12.out.sto.pend (by rw [HPA.out]; decide) (by rw [HPA.out]; intro p hp; cases hp))
  rw [HPA.out] at HPN
  go_wp2_with fail
  refine HEN.out.mono ?_
  rintro e w ⟨rfl, he⟩
  obtain rfl := he.symm
  go_wp2_with fail
  refine HPN.out.mono ?_
  rintro e w13 ⟨a10, c10, rfl, _, hb⟩
  have HL := Lib.hid (HE12.out.below HAA.out hb).low
  clear hb HPN HEN
  go_wp2_with fail
  go_ret
  exact ⟨rfl, HL.out⟩
 have hd2 : decide (now + 200 < at1) = false := decide_eq_false hlate
 have hle : at1 ≤ now + 200 := by omega
 have hat1 := HAT.out
 have hnn := HNN.out
 obtain ⟨mx, hmx⟩ : ∃ mx, mx = max at1 now := ⟨_, rfl⟩
 have hbd : badNum mx = false := by unfold badNum; rw [decide_eq_false (by omega), decide_eq_false (by omega)]; rfl
 have hr2 := checkW_zero (ki := 2) (due := mx) (now := now) HXP.out HC0.out (.inr rfl) hbd HBN.out
 have hl2 := rec_room (e := S1.T.R.e) (loose_e HT11.out.sto.tape) hr2 (by show (2 : Int) ≠ 0; decide)
 have HSC := Lib.hid (sched_ok x at1 sy HWO.out HC0.out HXP.out a c w11 HT11.out HXN.out (HSS.out w11 HE11.out.low) ⟨HQ1.out.1, HQ1.out.2⟩ (HTB.out w11 HE11.out.low) HE11.out.sz (by rw [HS1B.out.2.2]; exact HNN.out) HAT.out (by rw [HS1B.out.2.2]; exact hle)
  (by rw [HS1B.out.2.2, ← hmx]; have := HRM1.out; omega) (by have := HRM1.out; omega) (by have := HR1.out; omega) (by have := HR1.out; omega))
 rw [HS1B.out.1, HS1B.out.2.2, ← hmx, show cellsW x a c = #[.string (S x.topic), .int .i64 x.queue, .string (S x.tag), .slice a x.keys.length c, .string (S x.body)] from rfl] at HSC
 obtain ⟨lat, hlat⟩ : ∃ lat : Nat, lat = S1.T.R.e + (fillOf S1.T.R.e (recW x 2 mx now)).length := ⟨_, rfl⟩
 rw [← hlat] at HSC
 have HLA := Lib.hid hlat
 have HL2 := Lib.hid hl2
 have HMX := Lib.hid hmx
 have HT11b := Lib.hid HT11.out
 clear hlat hl2 hmx hr2 hbd hat1 hnn hle hlate HEE
 go_wp2_with fail
 refine HSC.out.mono ?_
 rintro e w12 ⟨rfl, S2, hs2, hp2, hm2⟩
 have HE12 := Lib.hid (HE11.out.mod HAA.out hm2 HF1.out)
 obtain ⟨r1, r2, r3⟩ := put_recs HT11.out.sto hs2.sto hp2
 rw [← HLA.out] at r1 r3
 have HPA2 : Hid (S2.P.all = [((lat : Int), (1, mx))]) := by
  have h1 := hp2.pall
  rw [← HLA.out, HPA.out, noteP_two _ _ rfl (by omega)] at h1
  exact h1
 have HLT : Hid (lat ≤ 100000) := by have := HLA.out; have := HL2.out; have := HR1.out; show _ ≤ _; omega
 have HS2B : Hid (S2.blk = sb) := by show _ = _; rw [hp2.same]; exact HS1B.out.1
 have HRD := Lib.hid (TapeW.tread_any lat _ w12 hs2.sto.tape hp2.quiet.up (HTB.out w12 HE12.out.low) HE12.out.sz r1)
 have HT12 := Lib.hid hs2
 have c0 : w12.cell? ⟨sb, 0, none⟩ = some (.pointer (some ⟨S2.T.O.blk, 0, none⟩)) := by rw [← HS2B.out]; exact hs2.sto.cell 0 _ rfl
 clear hs2 hp2 hm2 r1 r2 r3 HSC HE11 HT11 HT11b k0 k1 k2 k3 k4 m0 m1 m2 m3
 have k0 : w12.cell? ⟨A, 0, none⟩ = some (.string (S x.topic)) := HE12.out.bx 0 _ rfl
 have k1 : w12.cell? ⟨A, 1, none⟩ = some (.int .i64 x.queue) := HE12.out.bx 1 _ rfl
 have k2 : w12.cell? ⟨A, 2, none⟩ = some (.string (S x.tag)) := HE12.out.bx 2 _ rfl
 have k3 : w12.cell? ⟨A, 3, none⟩ = some (.slice a x.keys.length c) := HE12.out.bx 3 _ rfl
 have k4 : w12.cell? ⟨A, 4, none⟩ = some (.string (S x.body)) := HE12.out.bx 4 _ rfl
 have m0 : w12.cell? ⟨A + 1, 0, none⟩ = some (.int .i64 now) := HE12.out.bn 0 _ rfl
 have m1 : w12.cell? ⟨A + 1, 1, none⟩ = some (.int .i64 at1) := HE12.out.bn 1 _ rfl
 have m2 : w12.cell? ⟨A + 1, 2, none⟩ = some (.bool sy) := HE12.out.bn 2 _ rfl
 have m3 : w12.cell? ⟨A + 1, 3, none⟩ = some (.int .u8 full) := HE12.out.bn 3 _ rfl
 go_wp2_with fail
 refine HRD.out.mono ?_
 rintro e w13 ⟨a3, c3, rfl, hs13, hb13, _⟩
 rw [show cellsM (recW x 2 mx now) a3 c3 = #[.int .i64 2, .int .i64 x.queue, .int .i64 mx, .int .i64 0, .int .i64 0, .int .i64 now, .string (S x.topic), .string (S x.tag), .string (S x.body), .slice a3 x.keys.length c3] from rfl]
 have hba : Below w13.heap.size w13 (w13.alloc (.cells #[.int .i64 2, .int .i64 x.queue, .int .i64 mx, .int .i64 0, .int .i64 0, .int .i64 now, .string (S x.topic), .string (S x.tag), .string (S x.body), .slice a3 x.keys.length c3] 56)) := (Below.refl _ w13).alloc (Nat.le_refl _) _
 have hb14 : Below w12.heap.size w12 (w13.alloc (.cells #[.int .i64 2, .int .i64 x.queue, .int .i64 mx, .int .i64 0, .int .i64 0, .int .i64 now, .string (S x.topic), .string (S x.tag), .string (S x.body), .slice a3 x.keys.length c3] 56)) := hb13.trans (hba.mono hb13.size)
 have HE14 := Lib.hid (HE12.out.below HAA.out hb14)
 have HT14 := Lib.hid (HT12.out.below hb14)
 have hc14 := heap_alloc_new w13 (.cells #[.int .i64 2, .int .i64 x.queue, .int .i64 mx, .int .i64 0, .int .i64 0, .int .i64 now, .string (S x.topic), .string (S x.tag), .string (S x.body), .slice a3 x.keys.length c3] 56)
 have HC14 := Lib.hid hc14
 have HS14 := Lib.hid (Strs.below hs13 hba)
 clear hs13 hb13 hba hb14 hc14 HRD c0 HE12 HT12 k0 k1 k2 k3 k4 m0 m1 m2 m3
 go_upto_region 31 with fail
 generalize w13.alloc (.cells #[.int .i64 2, .int .i64 x.queue, .int .i64 mx, .int .i64 0, .int .i64 0, .int .i64 now, .string (S x.topic), .string (S x.tag), .string (S x.body), .slice a3 x.keys.length c3] 56) = w14 at *
 obtain ⟨A5, hA5⟩ : ∃ A5, w13.heap.size = A5 := ⟨_, rfl⟩
 rw [hA5] at HC14 ⊢
 clear hA5
 have HK : Hid (∀ w, RecW.ExtR w14.drew w → RecW.Boxed w A5 #[.int .i64 2, .int .i64 x.queue, .int .i64 mx, .int .i64 0, .int .i64 0, .int .i64 now, .string (S x.topic), .string (S x.tag), .string (S x.body), .slice a3 x.keys.length c3] ∧ EnvS W A #[.string (S x.topic), .int .i64 x.queue, .string (S x.tag), .slice a x.keys.length c, .string (S x.body)] #[.int .i64 now, .int .i64 at1, .bool sy, .int .u8 full] w ∧ w.cell? ⟨sb, 6, none⟩ = some (.pointer (some ⟨S2.P.blk, 0, none⟩)) ∧ Below w14.heap.size w14 w) := fun w hw => by
  have hb : Below w14.heap.size w14 w := ((Below.refl _ w14).drew).trans hw
  exact ⟨fun j v hv => cell_at (heap_below hb HC14.out) j v hv, HE14.out.below HAA.out hb, by rw [← HS2B.out]; exact (HT14.out.below hb).sto.cell 6 _ rfl, hb⟩
 have hmxe := HMX.out
 refine GrowN.wp_region_n 39 [none, none, none, none, none, none, none, none, none, none, none, none, some (.inl (.bool true)), none, none, none, none, none, none, some (.inr (fun _ v w => ∃ a9 c9, v = .slice a9 1 c9 ∧ OctW.Ints w a9 [(lat : Int)])), none, some (.inr (fun _ v w => ∃ b9, v = .slice (some ⟨b9, 0, none⟩) 1 1 ∧ OctW.Ints w (some ⟨b9, 0, none⟩) [(lat : Int)])), some (.inl (.bool true)), none, none, none, none, none, none, none, some (.inl (.int .i64 mx)), none, none, none, none, none, none, none, none] RecW.ExtR (by kernel_rfl) (by kernel_rfl) (by kernel_rfl) RecW.ExtR.refl (fun _ _ _ => RecW.ExtR.trans) ?_ ?_
 ·
  intro K hK Y hY l v w w' hR h
  simp only [List.mem_cons, List.not_mem_nil, or_false] at hK
  rcases hK with rfl | rfl | rfl | rfl | rfl | rfl | rfl | rfl | rfl | rfl | rfl | rfl | rfl | rfl | rfl | rfl | rfl | rfl | rfl | rfl | rfl | rfl | rfl | rfl | rfl | rfl | rfl | rfl | rfl | rfl | rfl | rfl | rfl | rfl | rfl | rfl | rfl | rfl | rfl <;> simp only [reduceCtorEq, Option.some.injEq, Sum.inr.injEq] at hY
  · subst hY; obtain ⟨a9, c9, e, h9⟩ := h; exact ⟨a9, c9, e, h9.below hR⟩
  · subst hY; obtain ⟨b9, e, h9⟩ := h; exact ⟨b9, e, h9.below hR⟩
 simp only [List.take_succ_cons, List.take_zero, List.drop_succ_cons, List.drop_zero]
 iterate 9
  refine GrowN.g_det rfl ?_
  apply Exists.intro
  refine ⟨fun w hw hF => ?_, ?_⟩
  ·
   clear hF
   obtain ⟨hp, he, q6, _⟩ := HK.out w hw
   have p0 := hp 0 _ rfl
   have p1 := hp 1 _ rfl
   have p2 := hp 2 _ rfl
   have p3 := hp 3 _ rfl
   have p4 := hp 4 _ rfl
   have p5 := hp 5 _ rfl
   have p6 := hp 6 _ rfl
   have p7 := hp 7 _ rfl
   have p8 := hp 8 _ rfl
   have p9 := hp 9 _ rfl
   have k0 : w.cell? ⟨A, 0, none⟩ = some (.string (S x.topic)) := he.bx 0 _ rfl
   have k1 : w.cell? ⟨A, 1, none⟩ = some (.int .i64 x.queue) := he.bx 1 _ rfl
   have k2 : w.cell? ⟨A, 2, none⟩ = some (.string (S x.tag)) := he.bx 2 _ rfl
   have k3 : w.cell? ⟨A, 3, none⟩ = some (.slice a x.keys.length c) := he.bx 3 _ rfl
   have k4 : w.cell? ⟨A, 4, none⟩ = some (.string (S x.body)) := he.bx 4 _ rfl
   have m0 : w.cell? ⟨A + 1, 0, none⟩ = some (.int .i64 now) := he.bn 0 _ rfl
   have m1 : w.cell? ⟨A + 1, 1, none⟩ = some (.int .i64 at1) := he.bn 1 _ rfl
   have m2 : w.cell? ⟨A + 1, 2, none⟩ = some (.bool sy) := he.bn 2 _ rfl
   have m3 : w.cell? ⟨A + 1, 3, none⟩ = some (.int .u8 full) := he.bn 3 _ rfl
   clear hp he
   go_simp
   exact ⟨rfl, RecW.ExtR.refl _⟩
  go_frame
 refine GrowN.g_det rfl ?_
 apply Exists.intro
 refine ⟨fun w hw hF => ?_, ?_⟩
 ·
  clear hF
  obtain ⟨hp, he, q6, _⟩ := HK.out w hw
  have p0 := hp 0 _ rfl
  have p1 := hp 1 _ rfl
  have p2 := hp 2 _ rfl
  have p3 := hp 3 _ rfl
  have p4 := hp 4 _ rfl
  have p5 := hp 5 _ rfl
  have p6 := hp 6 _ rfl
  have p7 := hp 7 _ rfl
  have p8 := hp 8 _ rfl
  have p9 := hp 9 _ rfl
  have k0 : w.cell? ⟨A, 0, none⟩ = some (.string (S x.topic)) := he.bx 0 _ rfl
  have k1 : w.cell? ⟨A, 1, none⟩ = some (.int .i64 x.queue) := he.bx 1 _ rfl
  have k2 : w.cell? ⟨A, 2, none⟩ = some (.string (S x.tag)) := he.bx 2 _ rfl
  have k3 : w.cell? ⟨A, 3, none⟩ = some (.slice a x.keys.length c) := he.bx 3 _ rfl
  have k4 : w.cell? ⟨A, 4, none⟩ = some (.string (S x.body)) := he.bx 4 _ rfl
  have m0 : w.cell? ⟨A + 1, 0, none⟩ = some (.int .i64 now) := he.bn 0 _ rfl
  have m1 : w.cell? ⟨A + 1, 1, none⟩ = some (.int .i64 at1) := he.bn 1 _ rfl
  have m2 : w.cell? ⟨A + 1, 2, none⟩ = some (.bool sy) := he.bn 2 _ rfl
  have m3 : w.cell? ⟨A + 1, 3, none⟩ = some (.int .u8 full) := he.bn 3 _ rfl
  clear hp he
  go_simp
  exact ⟨rfl, RecW.ExtR.refl _⟩
 go_frame
 iterate 2
  refine GrowN.g_det rfl ?_
  apply Exists.intro
  refine ⟨fun w hw hF => ?_, ?_⟩
  ·
   clear hF
   obtain ⟨hp, he, q6, _⟩ := HK.out w hw
   have p0 := hp 0 _ rfl
   have p1 := hp 1 _ rfl
   have p2 := hp 2 _ rfl
   have p3 := hp 3 _ rfl
   have p4 := hp 4 _ rfl
   have p5 := hp 5 _ rfl
   have p6 := hp 6 _ rfl
   have p7 := hp 7 _ rfl
   have p8 := hp 8 _ rfl
   have p9 := hp 9 _ rfl
   have k0 : w.cell? ⟨A, 0, none⟩ = some (.string (S x.topic)) := he.bx 0 _ rfl
   have k1 : w.cell? ⟨A, 1, none⟩ = some (.int .i64 x.queue) := he.bx 1 _ rfl
   have k2 : w.cell? ⟨A, 2, none⟩ = some (.string (S x.tag)) := he.bx 2 _ rfl
   have k3 : w.cell? ⟨A, 3, none⟩ = some (.slice a x.keys.length c) := he.bx 3 _ rfl
   have k4 : w.cell? ⟨A, 4, none⟩ = some (.string (S x.body)) := he.bx 4 _ rfl
   have m0 : w.cell? ⟨A + 1, 0, none⟩ = some (.int .i64 now) := he.bn 0 _ rfl
   have m1 : w.cell? ⟨A + 1, 1, none⟩ = some (.int .i64 at1) := he.bn 1 _ rfl
   have m2 : w.cell? ⟨A + 1, 2, none⟩ = some (.bool sy) := he.bn 2 _ rfl
   have m3 : w.cell? ⟨A + 1, 3, none⟩ = some (.int .u8 full) := he.bn 3 _ rfl
   clear hp he
   go_simp
   exact ⟨rfl, RecW.ExtR.refl _⟩
  go_frame
 refine GrowN.g_con rfl (fun w hw hF => ?_) ?_
 ·
  clear hF
  obtain ⟨_, _, _, hb⟩ := HK.out w hw
  have HLI := Lib.hid (like_any x 2 mx now a a3 c c3 (Nat.le_trans HK10.out (by decide)) w (HSS.out w (HE14.out.low.trans (hb.mono HE14.out.low.size))) (Strs.below HS14.out hb))
  rw [show cellsM (recW x 2 mx now) a3 c3 = #[.int .i64 2, .int .i64 x.queue, .int .i64 mx, .int .i64 0, .int .i64 0, .int .i64 now, .string (S x.topic), .string (S x.tag), .string (S x.body), .slice a3 x.keys.length c3] from rfl, show cellsW x a c = #[.string (S x.topic), .int .i64 x.queue, .string (S x.tag), .slice a x.keys.length c, .string (S x.body)] from rfl, HMX.out] at HLI
  clear hb
  go_simp
  exact HLI.out.mono fun e w3 ⟨h1, h2⟩ => ⟨_, h1, rfl, h2⟩
 go_frame
 iterate 6
  refine GrowN.g_det rfl ?_
  apply Exists.intro
  refine ⟨fun w hw hF => ?_, ?_⟩
  ·
   clear hF
   obtain ⟨hp, he, q6, _⟩ := HK.out w hw
   have p0 := hp 0 _ rfl
   have p1 := hp 1 _ rfl
   have p2 := hp 2 _ rfl
   have p3 := hp 3 _ rfl
   have p4 := hp 4 _ rfl
   have p5 := hp 5 _ rfl
   have p6 := hp 6 _ rfl
   have p7 := hp 7 _ rfl
   have p8 := hp 8 _ rfl
   have p9 := hp 9 _ rfl
   have k0 : w.cell? ⟨A, 0, none⟩ = some (.string (S x.topic)) := he.bx 0 _ rfl
   have k1 : w.cell? ⟨A, 1, none⟩ = some (.int .i64 x.queue) := he.bx 1 _ rfl
   have k2 : w.cell? ⟨A, 2, none⟩ = some (.string (S x.tag)) := he.bx 2 _ rfl
   have k3 : w.cell? ⟨A, 3, none⟩ = some (.slice a x.keys.length c) := he.bx 3 _ rfl
   have k4 : w.cell? ⟨A, 4, none⟩ = some (.string (S x.body)) := he.bx 4 _ rfl
   have m0 : w.cell? ⟨A + 1, 0, none⟩ = some (.int .i64 now) := he.bn 0 _ rfl
   have m1 : w.cell? ⟨A + 1, 1, none⟩ = some (.int .i64 at1) := he.bn 1 _ rfl
   have m2 : w.cell? ⟨A + 1, 2, none⟩ = some (.bool sy) := he.bn 2 _ rfl
   have m3 : w.cell? ⟨A + 1, 3, none⟩ = some (.int .u8 full) := he.bn 3 _ rfl
   clear hp he
   go_simp
   exact ⟨rfl, RecW.ExtR.refl _⟩
  go_frame
 refine GrowN.g_new rfl (fun w hw hF => ?_) (fun v19 => ?_)
 ·
  clear hF
  obtain ⟨_, _, _, hb⟩ := HK.out w hw
  have HPN := Lib.hid (PendW.pending_one w (HT14.out.below hb).sto.pend (by rw [HPA2.out]; exact Nat.le_refl _) (by rw [HPA2.out]; intro p hp; rw [List.mem_singleton] at hp; subst hp; have := HLT.out; exact ⟨by simp [Lit.wf, IntKind.min, IntKind.max, IntKind.signed, IntKind.bits]; omega, rfl⟩))
  rw [HPA2.out] at HPN
  clear hb
  go_simp
  exact HPN.out.mono fun e w3 ⟨a9, c9, h1, h2, h3⟩ => ⟨_, h1, ⟨a9, ⟨c9, rfl⟩, h2⟩, h3⟩
 go_frame
 refine GrowN.g_det rfl ?_
 apply Exists.intro
 refine ⟨fun w hw hF => ?_, ?_⟩
 ·
  clear hF
  obtain ⟨hp, he, q6, _⟩ := HK.out w hw
  have p0 := hp 0 _ rfl
  have p1 := hp 1 _ rfl
  have p2 := hp 2 _ rfl
  have p3 := hp 3 _ rfl
  have p4 := hp 4 _ rfl
  have p5 := hp 5 _ rfl
  have p6 := hp 6 _ rfl
  have p7 := hp 7 _ rfl
  have p8 := hp 8 _ rfl
  have p9 := hp 9 _ rfl
  have k0 : w.cell? ⟨A, 0, none⟩ = some (.string (S x.topic)) := he.bx 0 _ rfl
  have k1 : w.cell? ⟨A, 1, none⟩ = some (.int .i64 x.queue) := he.bx 1 _ rfl
  have k2 : w.cell? ⟨A, 2, none⟩ = some (.string (S x.tag)) := he.bx 2 _ rfl
  have k3 : w.cell? ⟨A, 3, none⟩ = some (.slice a x.keys.length c) := he.bx 3 _ rfl
  have k4 : w.cell? ⟨A, 4, none⟩ = some (.string (S x.body)) := he.bx 4 _ rfl
  have m0 : w.cell? ⟨A + 1, 0, none⟩ = some (.int .i64 now) := he.bn 0 _ rfl
  have m1 : w.cell? ⟨A + 1, 1, none⟩ = some (.int .i64 at1) := he.bn 1 _ rfl
  have m2 : w.cell? ⟨A + 1, 2, none⟩ = some (.bool sy) := he.bn 2 _ rfl
  have m3 : w.cell? ⟨A + 1, 3, none⟩ = some (.int .u8 full) := he.bn 3 _ rfl
  clear hp he
  go_simp
  exact ⟨rfl, RecW.ExtR.refl _⟩
 go_frame
 refine GrowN.g_new rfl (fun w hw hF => ?_) (fun v21 => ?_)
 · clear hF
   go_simp
   exact ⟨⟨_, rfl, RecW.ints_new w [(lat : Int)] 3⟩, (Below.refl _ w).alloc (Nat.le_refl _) _⟩
 go_frame
 refine GrowN.g_con rfl (fun w hw hF => ?_) ?_
 ·
  obtain ⟨b9, rfl, h9⟩ := hF _ (.head _) (by kernel_rfl)
  obtain ⟨a9, c9, rfl, h8⟩ := hF _ (.tail _ (.head _)) (by kernel_rfl)
  clear hF
  have HIN := Lib.hid (RefW.ints_any a9 (some ⟨b9, 0, none⟩) c9 1 [(lat : Int)] [(lat : Int)] (by simp) (by simp) w h8 h9)
  rw [decide_eq_true rfl] at HIN
  clear h8 h9
  go_simp
  exact HIN.out.mono fun e w3 ⟨h1, h2⟩ => ⟨_, h1, rfl, h2⟩
 go_frame
 iterate 7
  refine GrowN.g_det rfl ?_
  apply Exists.intro
  refine ⟨fun w hw hF => ?_, ?_⟩
  ·
   clear hF
   obtain ⟨hp, he, q6, _⟩ := HK.out w hw
   have p0 := hp 0 _ rfl
   have p1 := hp 1 _ rfl
   have p2 := hp 2 _ rfl
   have p3 := hp 3 _ rfl
   have p4 := hp 4 _ rfl
   have p5 := hp 5 _ rfl
   have p6 := hp 6 _ rfl
   have p7 := hp 7 _ rfl
   have p8 := hp 8 _ rfl
   have p9 := hp 9 _ rfl
   have k0 : w.cell? ⟨A, 0, none⟩ = some (.string (S x.topic)) := he.bx 0 _ rfl
   have k1 : w.cell? ⟨A, 1, none⟩ = some (.int .i64 x.queue) := he.bx 1 _ rfl
   have k2 : w.cell? ⟨A, 2, none⟩ = some (.string (S x.tag)) := he.bx 2 _ rfl
   have k3 : w.cell? ⟨A, 3, none⟩ = some (.slice a x.keys.length c) := he.bx 3 _ rfl
   have k4 : w.cell? ⟨A, 4, none⟩ = some (.string (S x.body)) := he.bx 4 _ rfl
   have m0 : w.cell? ⟨A + 1, 0, none⟩ = some (.int .i64 now) := he.bn 0 _ rfl
   have m1 : w.cell? ⟨A + 1, 1, none⟩ = some (.int .i64 at1) := he.bn 1 _ rfl
   have m2 : w.cell? ⟨A + 1, 2, none⟩ = some (.bool sy) := he.bn 2 _ rfl
   have m3 : w.cell? ⟨A + 1, 3, none⟩ = some (.int .u8 full) := he.bn 3 _ rfl
   clear hp he
   go_simp
   exact ⟨rfl, RecW.ExtR.refl _⟩
  go_frame
 refine GrowN.g_con rfl (fun w hw hF => ?_) ?_
 ·
  clear hF
  obtain ⟨_, _, _, hb⟩ := HK.out w hw
  have HDU := Lib.hid (PendW.due_wait (lat : Int) mx w (HT14.out.below hb).sto.pend (by rw [HPA2.out]; unfold getP; rw [List.find?_cons_of_pos (by simp)]; rfl))
  clear hb
  go_simp
  exact HDU.out.mono fun e w3 ⟨h1, h2⟩ => ⟨_, h1, by first | rfl | exact congrArg _ HMX.out, h2 ▸ RecW.ExtR.refl _⟩
 go_frame
 iterate 8
  refine GrowN.g_det rfl ?_
  apply Exists.intro
  refine ⟨fun w hw hF => ?_, ?_⟩
  ·
   clear hF
   obtain ⟨hp, he, q6, _⟩ := HK.out w hw
   have p0 := hp 0 _ rfl
   have p1 := hp 1 _ rfl
   have p2 := hp 2 _ rfl
   have p3 := hp 3 _ rfl
   have p4 := hp 4 _ rfl
   have p5 := hp 5 _ rfl
   have p6 := hp 6 _ rfl
   have p7 := hp 7 _ rfl
   have p8 := hp 8 _ rfl
   have p9 := hp 9 _ rfl
   have k0 : w.cell? ⟨A, 0, none⟩ = some (.string (S x.topic)) := he.bx 0 _ rfl
   have k1 : w.cell? ⟨A, 1, none⟩ = some (.int .i64 x.queue) := he.bx 1 _ rfl
   have k2 : w.cell? ⟨A, 2, none⟩ = some (.string (S x.tag)) := he.bx 2 _ rfl
   have k3 : w.cell? ⟨A, 3, none⟩ = some (.slice a x.keys.length c) := he.bx 3 _ rfl
   have k4 : w.cell? ⟨A, 4, none⟩ = some (.string (S x.body)) := he.bx 4 _ rfl
   have m0 : w.cell? ⟨A + 1, 0, none⟩ = some (.int .i64 now) := he.bn 0 _ rfl
   have m1 : w.cell? ⟨A + 1, 1, none⟩ = some (.int .i64 at1) := he.bn 1 _ rfl
   have m2 : w.cell? ⟨A + 1, 2, none⟩ = some (.bool sy) := he.bn 2 _ rfl
   have m3 : w.cell? ⟨A + 1, 3, none⟩ = some (.int .u8 full) := he.bn 3 _ rfl
   clear hp he
   go_simp
   exact ⟨rfl, RecW.ExtR.refl _⟩
  go_frame
 refine GrowN.g_nil fun w15 hw15 hF => ?_
 clear hF
 obtain ⟨_, _, _, hb15⟩ := HK.out w15 hw15
 have HL := Lib.hid (HE14.out.below HAA.out hb15).low
 clear hw15 hb15 HK
 go_wp2_with fail
 go_ret
 exact ⟨rfl, HL.out⟩
end Go.Proofs.YtjjkhbfimpgplaaGreatDoor.SndW
