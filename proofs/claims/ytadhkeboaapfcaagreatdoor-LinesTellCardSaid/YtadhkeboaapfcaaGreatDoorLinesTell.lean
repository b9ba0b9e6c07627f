/- The statement LinesTell: any answer has the line that the document says, numbers below 2^50, up to 60. No condition. -/
import Derived.Test.YtadhkeboaapfcaaGreatDoorAwake
import Derived.Test.YtadhkeboaapfcaaGreatDoorLinLaid
import Derived.Test.YtadhkeboaapfcaaGreatDoorTell
import Derived.Test.YtadhkeboaapfcaaGreatDoorCards
import Derived.Test.YtadhkeboaapfcaaGreatDoorTie
import Derived.SevenTiedAt
import Derived.ChangeSlices
import Derived.Deep.DeepCutAuto
namespace Go.Proofs.YtadhkeboaapfcaaGreatDoor.linesTell
open Go.ChangeShapes Go.WideShapes Go.ChangeAt Go.RowKit OctMath HexMath EvW
set_option maxRecDepth 100000
set_option linter.unusedSimpArgs false
set_option linter.unusedVariables false

set_option maxHeartbeats 12800000 in
theorem law (W : World) (e n : Int) (did : Bool) (ids : List Int) (a : Option Addr) (cap : Nat) (he : I64 e) (hn : I64 n) (hids : ∀ i ∈ ids, I64 i) (hr : Row1 W a (ids.map fun x => .int .i64 x)) (henv : Env W) :
    Calls Tryz.prog 6 #[.agg #[.int .i64 e, .int .i64 n, .bool did, .slice a ids.length cap]] W fun r w' => r = .returned (.bool true) ∧ Below W.heap.size W w' := by
  obtain ⟨i0, hi0, hz0, hz1, hz2⟩ := info_parts (show (Tryz.prog.info? 3).map (fun i => (i.zero, i.size, i.bytes)) = some (some (.int .i64 0), 1, 8) by kernel_rfl)
  have HI0 := Lib.hid hi0
  have HZ0 := Lib.hid hz0
  have HZ1 := Lib.hid hz1
  have HZ2 := Lib.hid hz2
  clear hi0 hz0 hz1 hz2
  have HB0 : Hid (Below W.heap.size W (W.alloc (.cells #[.int .i64 e, .int .i64 n, .bool did, .slice a ids.length cap] 43))) := (Below.refl _ _).alloc (Nat.le_refl _) _
  have HQ := Lib.hid (EvW.Boxed.new W #[.int .i64 e, .int .i64 n, .bool did, .slice a ids.length cap] 43)
  have HR := Lib.hid (hr.below HB0.out)
  have HE := Lib.hid (henv.below HB0.out)
  have HN1 := Lib.hid hn
  have HE1 := Lib.hid he
  have HI := Lib.hid hids
  clear hr henv he hn hids
  go_enter Tryz.func6, Tryz.ntmps6
  go_upto_region 1 with fail
  generalize (W.alloc (.cells #[.int .i64 e, .int .i64 n, .bool did, .slice a ids.length cap] 43)) = w0 at *
  obtain ⟨B, hB⟩ : ∃ B, W.heap.size = B := ⟨_, rfl⟩
  rw [hB] at HQ HB0 ⊢
  go_wp2_with fail
  refine (awake_any _ HE.out).mono ?_
  rintro r w1 ⟨rfl, hb⟩
  replace HQ := Lib.hid (HQ.out.below hb)
  replace HR := Lib.hid (HR.out.below hb)
  replace HE := Lib.hid (HE.out.below hb)
  replace HB0 := Lib.hid (HB0.out.trans (hb.mono (by have := HB0.out.size; omega)))
  clear hb
  have q3 : w1.cell? ⟨B, 3, none⟩ = some (.slice a ids.length cap) := HQ.out 3 _ rfl
  have q0 : w1.cell? ⟨B, 0, none⟩ = some (.int .i64 e) := HQ.out 0 _ rfl
  have q1 : w1.cell? ⟨B, 1, none⟩ = some (.int .i64 n) := HQ.out 1 _ rfl
  by_cases h60 : 60 < ids.length
  · go_wp2_with fail
    go_ret
    rw [hB]
    exact ⟨rfl, HB0.out⟩
  have hkl : (ids.map fun x => Value.int .i64 x).length = ids.length := List.length_map _
  have HOWN : Hid ((w1.alloc (.cells #[.int .i64 n, .int .i64 e] 3)).ownsRow w1.heap.size 3 1 (.slice (some ⟨w1.heap.size, 0, none⟩) 2 2) 2 [.int .i64 n, .int .i64 e]) := ⟨rfl, .inr ⟨w1.heap.size, 2, #[.int .i64 n, .int .i64 e], rfl, Nat.le_refl _, heap_alloc_new w1 _, by omega, by unfold maxLen; omega, rfl, rfl⟩⟩
  have HX2 : Hid (LinW.Ext w1 (w1.alloc (.cells #[.int .i64 n, .int .i64 e] 3))) := (Below.refl _ _).alloc (Nat.le_refl _) _
  have HRX := Lib.hid (HR.out.below HX2.out)
  have q32 : (w1.alloc (.cells #[.int .i64 n, .int .i64 e] 3)).cell? ⟨B, 3, none⟩ = some (.slice a ids.length cap) := (HQ.out.below HX2.out) 3 _ rfl
  have hsz1 : (w1.alloc (.cells #[.int .i64 n, .int .i64 e] 3)).heap.size = w1.heap.size + 1 := World.size_alloc _ _
  go_wp2_with (at_builtin; refine wpList_append_row rfl (.tmp 18) (.tmp 20) 41 rfl w1.heap.size 3 i0 (.int .i64 0) 8 Tryz.underlying41 HI0.out HZ0.out HZ1.out HZ2.out rfl (.slice (some ⟨w1.heap.size, 0, none⟩) 2 2) 2 [.int .i64 n, .int .i64 e] rfl HOWN.out a ids.length cap (ids.map fun x => .int .i64 x) rfl hkl.symm HRX.out ?c2 ?c3 ?c4 ?c5 ?_)
  case c2 => intro u hu; obtain ⟨x, _, rfl⟩ := List.mem_map.1 hu; rfl
  case c3 => unfold maxLen; omega
  case c4 => omega
  case c5 => omega
  intro v4 w4 hown4 hg4
  have HB4 : Hid (Below w1.heap.size w1 w4) := HX2.out.grown hg4 (by omega) (ownBlock_of_own HOWN.out)
  have hr4 := Row1.of_own hown4
  obtain ⟨a4, c4, rfl, hrw4, _⟩ := hr4
  have HR4 : Hid (Row1 w4 a4 ((n :: e :: ids).map fun x => .int .i64 x)) := hrw4
  replace HQ := Lib.hid (HQ.out.below HB4.out)
  replace HR := Lib.hid (HR.out.below HB4.out)
  replace HE := Lib.hid (HE.out.below HB4.out)
  replace HB0 := Lib.hid (HB0.out.trans (HB4.out.mono (by have := HB0.out.size; omega)))
  clear q0 q1 q3 q32 HOWN HX2 HRX hown4 hg4 hrw4 HB4 hsz1 HI0 HZ0 HZ1 HZ2
  generalize hal : n :: e :: ids = al at *
  have hall : al.length = 2 + ids.length := by rw [← hal]; simp; omega
  have hali : ∀ i ∈ al, I64 i := fun i hi => by
    rw [← hal] at hi
    rcases List.mem_cons.1 hi with rfl | hi
    · exact HN1.out
    · rcases List.mem_cons.1 hi with rfl | hi
      · exact HE1.out
      · exact HI.out i hi
  have HAL := Lib.hid hali
  clear hali hal
  go_wp2_with fail
  go_loopw [23] (fun i wr => ∃ k : Nat, k ≤ al.length ∧ i = .int .i64 (k : Int) ∧ wr = w4) (fun i _ => al.length + 1 - (intOf i).toNat)
  case atStart => exact ⟨0, by omega, rfl, rfl⟩
  case round =>
    obtain ⟨k, hk, rfl, rfl⟩ := hrel
    by_cases hlt : k < al.length
    · obtain ⟨b, off, hbo, hcell⟩ := HR4.out k (by rw [List.length_map]; exact hlt)
      cases hbo
      rw [List.getElem_map] at hcell
      generalize al[k] = x at *
      by_cases hx1 : x < -1125899906842624
      · go_wp2_with fail
        go_ret
        first
        | exact ⟨rfl, HB0.out⟩
        | (rw [hB]; exact ⟨rfl, HB0.out⟩)
        | (subst hB; exact ⟨rfl, HB0.out⟩)
      by_cases hx2 : 1125899906842624 < x
      · go_wp2_with fail
        go_ret
        first
        | exact ⟨rfl, HB0.out⟩
        | (rw [hB]; exact ⟨rfl, HB0.out⟩)
        | (subst hB; exact ⟨rfl, HB0.out⟩)
      go_wp2_with fail
      go_roundw
      case rel => exact ⟨k + 1, by omega, by go_num, trivial⟩
      case measure => simp [intOf]; omega
    · obtain rfl : k = 2 + ids.length := by omega
      clear HR4 HAL hall hk hlt
      have q0 : wr.cell? ⟨B, 0, none⟩ = some (.int .i64 e) := HQ.out 0 _ rfl
      have q1 : wr.cell? ⟨B, 1, none⟩ = some (.int .i64 n) := HQ.out 1 _ rfl
      have q2 : wr.cell? ⟨B, 2, none⟩ = some (.bool did) := HQ.out 2 _ rfl
      have q3 : wr.cell? ⟨B, 3, none⟩ = some (.slice a ids.length cap) := HQ.out 3 _ rfl
      have htl := fun t => NameW.S_toList t
      go_upto_if 36 with fail
      generalize 2 + ids.length = N2 at *
      go_cut [5] (fun s wx => s = .string (S (tA e)) ∧ wx = wr)
      case first =>
        by_cases h0 : e = 0
        · have HTA : Hid (tA e = [111, 107]) := by show _ = _; unfold tA; rw [if_pos h0]
          subst h0
          go_wp2_with fail
          go_meet
          case rel => rw [HTA.out]; exact ⟨rfl, rfl⟩
        · have HTA : Hid (S (tA e) = ⟨#[101, 114, 114, 111, 114, 32]⟩ ++ S (Lib.itoa e)) := by show _ = _; unfold tA; rw [if_neg h0]; exact (S_append [101, 114, 114, 111, 114, 32] _).symm
          have hsl : (S (Lib.itoa e)).size ≤ 21 := by rw [S_size]; exact itoa_len HE1.out
          have HC := Lib.hid (fun w => digits_any e HE1.out.1 HE1.out.2 w)
          generalize Lib.itoa e = il at *
          go_wp2_with fail
          refine (HC.out _).mono ?_
          rintro r w2 ⟨rfl, rfl⟩
          go_wp2_with fail
          go_meet
          case rel => rw [HTA.out]; exact ⟨rfl, rfl⟩
      case rest =>
      obtain ⟨rfl, rfl⟩ := hcut
      have hs1 : (S (tA e)).size ≤ 30 := by rw [S_size]; exact tA_len HE1.out
      go_upto_if 43 with fail
      go_cut [5] (fun s wx => s = .string (S (tB e n)) ∧ wx = wc)
      case first =>
        by_cases h0 : n = 0
        · have HTA : Hid (tB e n = tA e) := by show _ = _; unfold tB; rw [if_pos h0]
          subst h0
          go_wp2_with fail
          go_meet
          case rel => rw [HTA.out]; exact ⟨rfl, rfl⟩
        · have HTA : Hid (S (tB e n) = S (tA e) ++ (⟨#[32]⟩ ++ S (Lib.itoa n))) := by
            show _ = _; unfold tB; rw [if_neg h0, ← S_append]; congr 1
          have hsl : (S (Lib.itoa n)).size ≤ 21 := by rw [S_size]; exact itoa_len HN1.out
          have HC := Lib.hid (fun w => digits_any n HN1.out.1 HN1.out.2 w)
          generalize Lib.itoa n = il at *
          go_wp2_with fail
          refine (HC.out _).mono ?_
          rintro r w3 ⟨rfl, rfl⟩
          go_wp2_with fail
          go_meet
          case rel => rw [HTA.out]; exact ⟨rfl, rfl⟩
      case rest =>
      obtain ⟨rfl, rfl⟩ := hcut
      clear hs1
      have hs2 : (S (tB e n)).size ≤ 60 := by rw [S_size]; exact tB_len HE1.out HN1.out
      go_upto_if 51 with fail
      go_cut [5] (fun s wx => s = .string (S (tC e n did)) ∧ wx = wc)
      case first =>
        by_cases hdd : did = true
        · have HTA : Hid (S (tC e n did) = S (tB e n) ++ ⟨#[32, 100, 105, 100]⟩) := by subst hdd; exact (S_append (tB e n) [32, 100, 105, 100]).symm
          subst hdd
          go_wp2_with fail
          go_meet
          case rel => rw [HTA.out]; exact ⟨rfl, rfl⟩
        · have hdf : did = false := by cases did <;> simp_all
          have HTA : Hid (tC e n did = tB e n) := by subst hdf; rfl
          subst hdf
          go_wp2_with fail
          go_meet
          case rel => rw [HTA.out]; exact ⟨rfl, rfl⟩
      case rest =>
      obtain ⟨rfl, rfl⟩ := hcut
      clear hs2
      go_wp2_with fail
      obtain ⟨wo, hwo⟩ : ∃ wo : World, wo = wc := ⟨_, rfl⟩
      subst hwo
      go_loopw [5, 57] (fun s i wr => ∃ k : Nat, k ≤ ids.length ∧ i = .int .i64 (k : Int) ∧ s = .string (S (tD e n did (ids.take k))) ∧ wr = wo) (fun _ i _ => ids.length + 1 - (intOf i).toNat)
      case atStart => exact ⟨0, by omega, rfl, rfl, rfl⟩
      case round =>
        obtain ⟨k, hk, rfl, rfl, rfl⟩ := hrel
        by_cases hlt : k < ids.length
        · obtain ⟨b, off, hbo, hcell⟩ := HR.out k (by rw [List.length_map]; exact hlt)
          cases hbo
          rw [List.getElem_map] at hcell
          have hix := HI.out ids[k] (List.getElem_mem hlt)
          have hst : ids.take (k + 1) = ids.take k ++ [ids[k]] := List.take_succ_eq_append_getElem hlt
          have hsl := tD_len HE1.out HN1.out did (ids.take k) (fun i hi => HI.out i (List.mem_of_mem_take hi))
          rw [List.length_take, Nat.min_eq_left hk] at hsl
          generalize ids[k] = x at *
          have HTA : Hid (S (tD e n did (ids.take (k + 1))) = S (tD e n did (ids.take k)) ++ (⟨#[32]⟩ ++ S (Lib.itoa x))) := by
            show _ = _
            rw [hst, tD_snoc, ← S_append]; congr 1
          have hs1 : (S (tD e n did (ids.take k))).size ≤ 1400 := by rw [S_size]; omega
          have hs2 : (S (Lib.itoa x)).size ≤ 21 := by rw [S_size]; exact itoa_len hix
          have HC := Lib.hid (fun w => digits_any x hix.1 hix.2 w)
          clear hst hsl
          generalize tD e n did (ids.take k) = dl at *
          generalize Lib.itoa x = il at *
          go_wp2_with fail
          refine (HC.out _).mono ?_
          rintro r w3 ⟨rfl, rfl⟩
          go_wp2_with fail
          go_roundw
          case rel => exact ⟨k + 1, by omega, by go_num, by rw [HTA.out], trivial⟩
          case measure => simp [intOf]; omega
        · obtain rfl : k = ids.length := by omega
          rw [List.take_length]
          have HTL := Lib.hid (tell_any e n did ids a cap HE1.out HN1.out HI.out (by omega) wr HR.out HE.out.tab)
          generalize tD e n did ids = dl at *
          go_wp2_with fail
          refine HTL.out.mono ?_
          rintro r w5 ⟨rfl, hb⟩
          have HB5 : Hid (Below B W w5) := HB0.out.trans (hb.mono (by have := HB0.out.size; omega))
          clear hb
          go_wp2_with fail
          go_ret
          subst hB
          first
          | exact ⟨rfl, HB5.out⟩
          | exact ⟨ret_bool (by simp), HB5.out⟩

theorem open_answer {H : Type} {enc : TypeId × Value → H} {W : World} {base : Nat} {v : Value} {d : DataW H} {p : List MemPlace} (hval : Value.okWide Tryz.prog W .any base 43 v) (h0 : DataW.Trod enc Tryz.prog W 0 (fun _ => true) true 43 v d p) :
    ∃ e n did a cap, ∃ ids : List Int, v = .agg #[.int .i64 e, .int .i64 n, .bool did, .slice a ids.length cap] ∧ Row1 W a (ids.map fun x => .int .i64 x) ∧ I64 e ∧ I64 n ∧ ∀ i ∈ ids, I64 i := by
  obtain ⟨cs, rfl, hsz⟩ := okWide_struct Tryz.underlying43 hval
  have hc4 : cs.size = 4 := hsz.trans (by kernel_rfl)
  obtain ⟨c0, c1, c2, c3, rfl⟩ : ∃ c0 c1 c2 c3, cs = #[c0, c1, c2, c3] := by
    obtain ⟨l⟩ := cs
    match l, hc4 with
    | [c0, c1, c2, c3], _ => exact ⟨c0, c1, c2, c3, rfl⟩
  obtain ⟨fuel, hf⟩ := h0
  obtain ⟨xs, m, _, _, _, hlen, hel⟩ := DataW.trod_struct Tryz.underlying43 hf
  have hlen' : xs.length = 4 := hlen
  have ce : Tryz.prog.cellsOf 29 = 1 := by kernel_rfl
  have ci : Tryz.prog.cellsOf 3 = 1 := by kernel_rfl
  have cb : Tryz.prog.cellsOf 4 = 1 := by kernel_rfl
  have cl : Tryz.prog.cellsOf 41 = 1 := by kernel_rfl
  match xs, hlen' with
  | [y0, y1, y2, y3], _ =>
    have k0 : DataW.trod enc Tryz.prog W 0 (fun _ => true) true m 29 [c0] = some y0 := by
      have h : DataW.trod enc Tryz.prog W 0 (fun _ => true) true m 29 (([c0, c1, c2, c3].drop 0).take (Tryz.prog.cellsOf 29)) = some y0 := hel 0 _ rfl
      rw [ce] at h
      exact h
    have k1 : DataW.trod enc Tryz.prog W 0 (fun _ => true) true m 3 [c1] = some y1 := by
      have h : DataW.trod enc Tryz.prog W 0 (fun _ => true) true m 3 (([c0, c1, c2, c3].drop 1).take (Tryz.prog.cellsOf 3)) = some y1 := hel 1 _ rfl
      rw [ci] at h
      exact h
    have k2 : DataW.trod enc Tryz.prog W 0 (fun _ => true) true m 4 [c2] = some y2 := by
      have h : DataW.trod enc Tryz.prog W 0 (fun _ => true) true m 4 (([c0, c1, c2, c3].drop 2).take (Tryz.prog.cellsOf 4)) = some y2 := hel 2 _ rfl
      rw [cb] at h
      exact h
    have k3 : DataW.trod enc Tryz.prog W 0 (fun _ => true) true m 41 [c3] = some y3 := by
      have h : DataW.trod enc Tryz.prog W 0 (fun _ => true) true m 41 (([c0, c1, c2, c3].drop 3).take (Tryz.prog.cellsOf 41)) = some y3 := hel 3 _ rfl
      rw [cl] at h
      exact h
    obtain ⟨z0, e0, _, w0⟩ := DataW.trod_int Tryz.underlying29 k0
    obtain rfl := List.singleton_inj.1 e0
    obtain ⟨z1, e1, _, w1⟩ := DataW.trod_int Tryz.underlying3 k1
    obtain rfl := List.singleton_inj.1 e1
    obtain ⟨z2, e2, _⟩ := DataW.trod_bool Tryz.underlying4 k2
    obtain rfl := List.singleton_inj.1 e2
    have i64 : ∀ {z : Int}, (Lit.int .i64 z).wf = true → I64 z := fun h => by
      unfold I64; simpa [Lit.wf, IntKind.min, IntKind.max, IntKind.signed, IntKind.bits] using h
    rcases open_ints Tryz.underlying41 Tryz.underlying3 (by kernel_rfl) k3 with ⟨hcs, _⟩ | ⟨a, len, cap, zs, hcs, _, hl, hm, hz, _, hcell, hwf⟩
    · obtain rfl := List.singleton_inj.1 hcs
      exact ⟨z0, z1, z2, none, 0, [], rfl, fun i hi => absurd hi (by simp), i64 w0, i64 w1, fun i hi => by cases hi⟩
    · obtain rfl := List.singleton_inj.1 hcs
      have hz' : zs.length = cap := by rw [hz]; simp
      refine ⟨z0, z1, z2, some a, cap, zs.take len, by rw [List.length_take, Nat.min_eq_left (by omega)], fun i hi => ?_, i64 w0, i64 w1, fun i hi => i64 (hwf i (List.mem_of_mem_take hi))⟩
      have hi' : i < len := by simp at hi; omega
      have hc := hcell i (by omega)
      have hs := World.cell?_spot (hcell 0 (by omega))
      obtain ⟨b, off, spot⟩ := a
      have hspot : spot = none := by simpa [Addr.add] using hs
      subst hspot
      refine ⟨b, off, rfl, ?_⟩
      have hiz : i < zs.length := by omega
      simp only [List.getElem_map, List.getElem_take]
      have e : zs.getD i 0 = zs[i] := by simp [List.getD, hiz]
      rw [e] at hc
      rw [← hc]
      unfold Addr.add
      split
      · rename_i e; subst e; rfl
      · rfl

theorem lifted (os : Os) (started : os.Started) (H : Type) (enc : TypeId × Value → H) :
    ReturnsInHanded {} Tryz.checked os 6 .any (fun w args => (Rows.linesTellSpec.pre enc Tryz.prog Tryz.f6 [] false w args ∧ laidMetH Tryz.prog laidL w) ∧ sizedMet enc Tryz.prog Tryz.f6 (OpenSpec.ofChange Rows.linesTellSpec) false w args) (Rows.linesTellSpec.post enc Tryz.prog Tryz.f6 false true false false) := by
  refine returns_laid started (by kernel_rfl) Tryz.func6
    (ChangeSpec.witness_shaped (enc := enc) (C := Tryz.checked) (os := os) (X := fun w _ => laidMetH Tryz.prog laidL w) false (World.laidAll Tryz.prog os laidL) #[.agg #[.int .i64 0, .int .i64 0, .bool false, .slice none 0 0]] 8 (World.laidAll_os _ _ _)
      (laid_shaped _ _) (by kernel_rfl) (by kernel_rfl) (by kernel_rfl) (laid_met os _)) ?_
  intro W base args ds gs before hval0 hW hsz0 henv
  have hval : ∀ (j : Nat) t v, Tryz.f6.params[j]? = some t → args[j]? = some v → Value.okWide Tryz.prog W .any base t v := hval0
  have hW' := hW
  obtain ⟨p, q, hA0, hV, rfl, hfz, hnd⟩ := hW
  have hA : DataW.TrodAll enc Tryz.prog W 0 (fun _ => true) true Tryz.f6.params.toList args.toList ds p := hA0
  rw [Tryz.params6] at hA hval
  obtain ⟨v0, d0, rfl, rfl, h0⟩ := trodAll_one hA
  obtain ⟨rfl, rfl⟩ := trodVars_none hV
  obtain ⟨e, n, did, a, cap, ids, rfl, hr, he, hn, hi⟩ := open_answer (hval 0 43 v0 rfl rfl) h0
  clear hA0 hval0
  refine (law W e n did ids a cap he hn hi hr henv).mono fun e W' ⟨he, hb⟩ => ?_
  subst he
  refine ⟨_, rfl, law_post hW' ?_ (tb := 4) (by kernel_rfl) Tryz.underlying4 rfl ⟨rfl, rfl, rfl⟩ hb⟩
  rw [Tryz.params6]
  intro t ht
  have : t = 43 := by simpa using ht
  subst this
  exact ⟨by kernel_rfl, of_decide_eq_true (by kernel_rfl)⟩

theorem said : Rows.LinesTellSaid :=
  OpenClaim.holds_of_wide 6 Tryz.f6 rfl rfl rfl rfl rfl rfl rfl ⟨rfl, rfl, rfl, rfl, rfl⟩ rfl rfl rfl rfl rfl (by kernel_rfl) Tryz.func6 (by kernel_rfl)
    (of_decide_eq_true (by kernel_rfl)) (by unfold Func.isWrapper; first | (rw [if_pos (by decide +kernel)]; kernel_rfl) | (rw [if_neg (by decide +kernel)]; exact ⟨rfl, rfl⟩))
    (fun os started H enc _ => lifted os started H enc)
theorem proved : Rows.LinesTellCardSaid :=
  Claim7.holds_tied_plain_at .later [] [.data, .data, .data, .data, .sentinel, .sentinel, .pinned] true (true, "782409fd5045ed57317292997b71c8142b395dc0847e11fe0ede1823ea1308cd") true
    said (fun _ h => by cases h) (by kernel_rfl) (fun _ h => by cases h) linesTell_row_tie rfl ⟨rfl, rfl⟩ (by kernel_rfl) rfl
    (fun f fn hf hfn => by
      obtain rfl : f = 6 := Option.some.inj ((show Tryz.prog.funcNamed "reveille/reveillelaw30.LinesTell" = some 6 by kernel_rfl).symm.trans hf) |>.symm
      obtain rfl : fn = Tryz.f6 := (Option.some.inj (Tryz.func6.symm.trans hfn)).symm
      exact ⟨by kernel_rfl, fun j t ht => by
        rw [Tryz.params6] at ht
        have hm : t ∈ [43] := by simpa using Array.mem_of_getElem? ht
        have hall : ([43].all fun u => !Tryz.prog.wantsStandIn u) = true := by kernel_rfl
        exact (show Tryz.prog.wantsStandIn t = false by simpa using List.all_eq_true.1 hall t hm)⟩)
    (by kernel_rfl)
end Go.Proofs.YtadhkeboaapfcaaGreatDoor.linesTell
