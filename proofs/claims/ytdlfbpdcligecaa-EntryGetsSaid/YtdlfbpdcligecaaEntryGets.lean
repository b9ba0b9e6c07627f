/- The statement EntryGets: just twenty bytes are an entry of each kind, which has them; others are none; bytes are cut in pieces of twenty, if that comes out even. No condition. -/
import Derived.Test.YtdlfbpdcligecaaEntF
import Derived.Test.YtdlfbpdcligecaaEntryPuts
namespace Go.Proofs.Ytdlfbpdcligecaa.entryGets
open Go.ChangeShapes Go.WideShapes Go.ChangeAt Go.RowKit OctW OctMath EntW entryPuts
set_option maxRecDepth 100000
set_option linter.unusedSimpArgs false
set_option linter.unusedVariables false

theorem place_read (l : List UInt8) (hl : l.length ≤ 2000) : ∃ p0 p1 p2 p3 : Nat, (¬ l.length = 20 → p0 = 0 ∧ p1 = 0 ∧ p2 = 0 ∧ p3 = 0) ∧
    (∀ w, Calls Try.prog 33 #[.string (S l)] w fun e w' => e = .returned (.tuple #[.agg #[.int .i64 p0, .int .i64 p1, .int .i64 p2, .int .i64 p3], .bool (decide (l.length = 20))]) ∧ Below w.heap.size w w') ∧
    (l.length = 20 → ∀ w, Calls Try.prog 13 #[.agg #[.int .i64 p0, .int .i64 p1, .int .i64 p2, .int .i64 p3]] w fun e w' => e = .returned (.tuple #[.string (S l), .bool true]) ∧ Below w.heap.size w w') := by
  have hg := fun w => place_get l (by omega) w
  obtain ⟨p0, p1, p2, p3, h1, h2, h3, h4, b0, b1, b2, b3⟩ := entry_read 6 2 5 7 l (by decide) rfl
  rw [h1, h2] at hg
  refine ⟨p0, p1, p2, p3, h4, hg, fun h => ?_⟩
  obtain ⟨e1, e2⟩ := h3 h
  intro w
  have hp := place_put p0 p1 p2 p3 (by omega) (by omega) (by omega) (by omega) w
  rw [show placeWs p0 p1 p2 p3 = ws4 6 2 5 7 p0 p1 p2 p3 from rfl, e1, e2] at hp
  exact hp
theorem link_read (l : List UInt8) (hl : l.length ≤ 2000) : ∃ p0 p1 p2 p3 : Nat, (¬ l.length = 20 → p0 = 0 ∧ p1 = 0 ∧ p2 = 0 ∧ p3 = 0) ∧
    (∀ w, Calls Try.prog 34 #[.string (S l)] w fun e w' => e = .returned (.tuple #[.agg #[.int .i64 p0, .int .i64 p1, .int .i64 p2, .int .i64 p3], .bool (decide (l.length = 20))]) ∧ Below w.heap.size w w') ∧
    (l.length = 20 → ∀ w, Calls Try.prog 31 #[.agg #[.int .i64 p0, .int .i64 p1, .int .i64 p2, .int .i64 p3]] w fun e w' => e = .returned (.tuple #[.string (S l), .bool true]) ∧ Below w.heap.size w w') := by
  have hg := fun w => link_get l (by omega) w
  obtain ⟨p0, p1, p2, p3, h1, h2, h3, h4, b0, b1, b2, b3⟩ := entry_read 5 6 6 3 l (by decide) rfl
  rw [h1, h2] at hg
  refine ⟨p0, p1, p2, p3, h4, hg, fun h => ?_⟩
  obtain ⟨e1, e2⟩ := h3 h
  intro w
  have hp := link_put p0 p1 p2 p3 (by omega) (by omega) (by omega) (by omega) w
  rw [show linkWs p0 p1 p2 p3 = ws4 5 6 6 3 p0 p1 p2 p3 from rfl, e1, e2] at hp
  exact hp
theorem mark_read (l : List UInt8) (hl : l.length ≤ 2000) : ∃ p0 p1 p2 p3 : Nat, (¬ l.length = 20 → p0 = 0 ∧ p1 = 0 ∧ p2 = 0 ∧ p3 = 0) ∧
    (∀ w, Calls Try.prog 35 #[.string (S l)] w fun e w' => e = .returned (.tuple #[.agg #[.int .i64 p0, .int .i64 p1, .int .i64 p2, .int .i64 p3], .bool (decide (l.length = 20))]) ∧ Below w.heap.size w w') ∧
    (l.length = 20 → ∀ w, Calls Try.prog 14 #[.agg #[.int .i64 p0, .int .i64 p1, .int .i64 p2, .int .i64 p3]] w fun e w' => e = .returned (.tuple #[.string (S l), .bool true]) ∧ Below w.heap.size w w') := by
  have hg := fun w => mark_get l (by omega) w
  obtain ⟨p0, p1, p2, p3, h1, h2, h3, h4, b0, b1, b2, b3⟩ := entry_read 6 6 6 2 l (by decide) rfl
  rw [h1, h2] at hg
  refine ⟨p0, p1, p2, p3, h4, hg, fun h => ?_⟩
  obtain ⟨e1, e2⟩ := h3 h
  intro w
  have hp := mark_put p0 p1 p2 p3 (by omega) (by omega) (by omega) (by omega) w
  rw [show markWs p0 p1 p2 p3 = ws4 6 6 6 2 p0 p1 p2 p3 from rfl, e1, e2] at hp
  exact hp

set_option maxHeartbeats 4000000 in
theorem law (W : World) (s : ByteArray) (hs : s.size ≤ 140737488351232) :
    Calls Try.prog 11 #[.string s] W fun e w' => e = .returned (.bool true) ∧ Below W.heap.size W w' := by
  obtain ⟨l, rfl⟩ : ∃ l, s = S l := ⟨s.data.toList, (S_of s).symm⟩
  have hsz := S_size l
  rw [hsz] at hs
  go_enter Try.func11, Try.ntmps11
  go_wp2_with fail
  refine (awake07_any _).mono ?_
  rintro e w1 ⟨rfl, hb1⟩
  have HB1 := Lib.hid hb1
  clear hb1
  by_cases hlen : 2000 < l.length
  · go_wp2_with fail
    go_ret
    exact ⟨rfl, HB1.out⟩
  obtain ⟨p0P, p1P, p2P, p3P, zP, gP, uP⟩ := place_read l (by omega)
  have ZP := Lib.hid zP
  have GP := Lib.hid gP
  have UP := Lib.hid uP
  clear zP gP uP
  obtain ⟨p0L, p1L, p2L, p3L, zL, gL, uL⟩ := link_read l (by omega)
  have ZL := Lib.hid zL
  have GL := Lib.hid gL
  have UL := Lib.hid uL
  clear zL gL uL
  obtain ⟨p0M, p1M, p2M, p3M, zM, gM, uM⟩ := mark_read l (by omega)
  have ZM := Lib.hid zM
  have GM := Lib.hid gM
  have UM := Lib.hid uM
  clear zM gM uM
  go_wp2_with fail
  refine (GP.out _).mono ?_
  rintro e y0 ⟨rfl, hb1⟩
  have F0 : Hid (Below W.heap.size W (y0.alloc (.cells #[.int .i64 p0P, .int .i64 p1P, .int .i64 p2P, .int .i64 p3P] 23))) := (HB1.out.trans (hb1.mono HB1.out.size)).alloc (Nat.le_trans HB1.out.size hb1.size) _
  have K0_0 : Hid ((y0.alloc (.cells #[.int .i64 p0P, .int .i64 p1P, .int .i64 p2P, .int .i64 p3P] 23)).heap[y0.heap.size]? = some (.cells #[.int .i64 p0P, .int .i64 p1P, .int .i64 p2P, .int .i64 p3P] 23 (0, 0))) := heap_at rfl
  clear hb1 HB1
  go_wp2_with fail
  refine (GL.out _).mono ?_
  rintro e y1 ⟨rfl, hb1⟩
  have F1 : Hid (Below W.heap.size W (y1.alloc (.cells #[.int .i64 p0L, .int .i64 p1L, .int .i64 p2L, .int .i64 p3L] 56))) := (F0.out.trans (hb1.mono F0.out.size)).alloc (Nat.le_trans F0.out.size hb1.size) _
  have K0_1 : Hid ((y1.alloc (.cells #[.int .i64 p0L, .int .i64 p1L, .int .i64 p2L, .int .i64 p3L] 56)).heap[y0.heap.size]? = some (.cells #[.int .i64 p0P, .int .i64 p1P, .int .i64 p2P, .int .i64 p3P] 23 (0, 0))) := (heap_old (Nat.lt_of_lt_of_le (Array.getElem?_eq_some_iff.1 K0_0.out).1 hb1.size)).trans ((hb1.block _ (Array.getElem?_eq_some_iff.1 K0_0.out).1).trans K0_0.out)
  have K1_1 : Hid ((y1.alloc (.cells #[.int .i64 p0L, .int .i64 p1L, .int .i64 p2L, .int .i64 p3L] 56)).heap[y1.heap.size]? = some (.cells #[.int .i64 p0L, .int .i64 p1L, .int .i64 p2L, .int .i64 p3L] 56 (0, 0))) := heap_at rfl
  clear hb1 F0 K0_0
  go_wp2_with fail
  refine (GM.out _).mono ?_
  rintro e y2 ⟨rfl, hb1⟩
  have F2 : Hid (Below W.heap.size W (y2.alloc (.cells #[.int .i64 p0M, .int .i64 p1M, .int .i64 p2M, .int .i64 p3M] 26))) := (F1.out.trans (hb1.mono F1.out.size)).alloc (Nat.le_trans F1.out.size hb1.size) _
  have K0_2 : Hid ((y2.alloc (.cells #[.int .i64 p0M, .int .i64 p1M, .int .i64 p2M, .int .i64 p3M] 26)).heap[y0.heap.size]? = some (.cells #[.int .i64 p0P, .int .i64 p1P, .int .i64 p2P, .int .i64 p3P] 23 (0, 0))) := (heap_old (Nat.lt_of_lt_of_le (Array.getElem?_eq_some_iff.1 K0_1.out).1 hb1.size)).trans ((hb1.block _ (Array.getElem?_eq_some_iff.1 K0_1.out).1).trans K0_1.out)
  have K1_2 : Hid ((y2.alloc (.cells #[.int .i64 p0M, .int .i64 p1M, .int .i64 p2M, .int .i64 p3M] 26)).heap[y1.heap.size]? = some (.cells #[.int .i64 p0L, .int .i64 p1L, .int .i64 p2L, .int .i64 p3L] 56 (0, 0))) := (heap_old (Nat.lt_of_lt_of_le (Array.getElem?_eq_some_iff.1 K1_1.out).1 hb1.size)).trans ((hb1.block _ (Array.getElem?_eq_some_iff.1 K1_1.out).1).trans K1_1.out)
  have K2_2 : Hid ((y2.alloc (.cells #[.int .i64 p0M, .int .i64 p1M, .int .i64 p2M, .int .i64 p3M] 26)).heap[y2.heap.size]? = some (.cells #[.int .i64 p0M, .int .i64 p1M, .int .i64 p2M, .int .i64 p3M] 26 (0, 0))) := heap_at rfl
  clear hb1 F1 K0_1 K1_1
  go_upto_region 8 with fail
  clear GP GL GM
  generalize hY : y2.alloc (.cells #[.int .i64 p0M, .int .i64 p1M, .int .i64 p2M, .int .i64 p3M] 26) = Y at *
  clear hY
  generalize y0.heap.size = g0 at *
  generalize y1.heap.size = g1 at *
  generalize y2.heap.size = g2 at *
  clear y0 y1 y2
  have hl2 : l.length ≤ 2000 := by omega
  have HCUT := Lib.hid (fun w => cut_any l (by omega) w)
  have hlist : (S l).toList = l := S_toList l
  have l4 := cells4 K0_2.out
  have l5 := cells4 K1_2.out
  have l6 := cells4 K2_2.out
  by_cases h20 : l.length = 20
  case' pos =>
    have hd : decide (l.length = 20) = true := decide_eq_true h20
    have hb : ((l.length : Int) == 20) = true := beq_iff_eq.2 (by omega)
    rw [hd]
    have HUP := Lib.hid (UP.out h20)
    have HUL := Lib.hid (UL.out h20)
    have HUM := Lib.hid (UM.out h20)
    have H20 := Lib.hid h20
    clear h20 hd UP UL UM ZP ZL ZM
    obtain ⟨l40, l41, l42, l43⟩ := l4
    obtain ⟨l50, l51, l52, l53⟩ := l5
    obtain ⟨l60, l61, l62, l63⟩ := l6
    go_wp2_with fail
    refine (HUP.out _).mono ?_
    rintro e z1 ⟨rfl, hb1⟩
    have M1 : Hid (Below W.heap.size W z1) := F2.out.trans (hb1.mono F2.out.size)
    clear l40 l41 l42 l43 l50 l51 l52 l53 l60 l61 l62 l63
    obtain ⟨l50, l51, l52, l53⟩ := cells4 ((hb1.block _ (Array.getElem?_eq_some_iff.1 K1_2.out).1).trans K1_2.out)
    have K2_3 := Lib.hid ((hb1.block _ (Array.getElem?_eq_some_iff.1 K2_2.out).1).trans K2_2.out)
    clear hb1 F2
    go_wp2_with fail
    refine (HUL.out _).mono ?_
    rintro e z2 ⟨rfl, hb1⟩
    have M2 : Hid (Below W.heap.size W z2) := M1.out.trans (hb1.mono M1.out.size)
    clear l50 l51 l52 l53
    obtain ⟨l60, l61, l62, l63⟩ := cells4 ((hb1.block _ (Array.getElem?_eq_some_iff.1 K2_3.out).1).trans K2_3.out)
    clear hb1 M1
    go_wp2_with fail
    refine (HUM.out _).mono ?_
    rintro e z3 ⟨rfl, hb1⟩
    have M3 : Hid (Below W.heap.size W z3) := M2.out.trans (hb1.mono M2.out.size)
    clear l60 l61 l62 l63 hb1 M2 K0_2 K1_2 K2_2 K2_3 HUP HUL HUM hb H20
    have MZ := M3
    clear M3
    go_wp2_with fail
  case' neg =>
    have hd : decide (l.length = 20) = false := decide_eq_false h20
    have hb : ((l.length : Int) == 20) = false := beq_eq_false_iff_ne.2 (by omega)
    rw [hd]
    obtain ⟨rfl, rfl, rfl, rfl⟩ := ZP.out h20
    obtain ⟨rfl, rfl, rfl, rfl⟩ := ZL.out h20
    obtain ⟨rfl, rfl, rfl, rfl⟩ := ZM.out h20
    have H20 := Lib.hid h20
    clear h20 hd UP UL UM ZP ZL ZM
    obtain ⟨l40, l41, l42, l43⟩ := l4
    obtain ⟨l50, l51, l52, l53⟩ := l5
    obtain ⟨l60, l61, l62, l63⟩ := l6
    have MZ := F2
    go_wp2_with fail
    clear l40 l41 l42 l43 l50 l51 l52 l53 l60 l61 l62 l63 F2 K0_2 K1_2 K2_2 hb H20
  all_goals
    refine (HCUT.out _).mono ?_
    rintro e q1 ⟨v, rfl, htx, hb1⟩
    have MQ : Hid (Below W.heap.size W q1) := MZ.out.trans (hb1.mono MZ.out.size)
    clear MZ hb1 HCUT
    by_cases hm : l.length % 20 = 0
    · rw [decide_eq_true hm]
      rw [if_pos hm] at htx
      have hmi : ((l.length : Int) % 20 == 0) = true := beq_iff_eq.2 (by omega)
      have hflat := cut20_flat (l.length / 20) l
      rw [List.take_of_length_le (show l.length ≤ 20 * (l.length / 20) by omega)] at hflat
      have hsizes := cut20_sizes (l.length / 20) l (by omega)
      have hcl := cut20_length (l.length / 20) l
      have hpl : (cut20 l (l.length / 20)).length ≤ 100 := by omega
      generalize cut20 l (l.length / 20) = ps at *
      obtain ⟨ad, cp, rfl, hst⟩ := htx.strs
      have HST := Lib.hid hst
      have HFL := Lib.hid hflat
      have HSI := Lib.hid hsizes
      clear hst htx hflat hsizes hcl hm
      go_wp2_with fail
      go_loopw [17, 121] (fun s i wr => ∃ k : Nat, k ≤ ps.length ∧ i = .int .i64 k ∧ s = .string (S (ps.take k).flatten) ∧ q1 = wr) (fun _ i _ => ps.length - (intOf i).toNat)
      case atStart => exact ⟨0, by omega, rfl, rfl, rfl⟩
      case round =>
        obtain ⟨k, hk, rfl, rfl, rfl⟩ := hrel
        by_cases hlt : k < ps.length
        · obtain ⟨b, off, rfl, hc⟩ := HST.out k (by simpa using hlt)
          rw [List.getElem_map] at hc
          have h20 := HSI.out ps[k] (by simp)
          have hnl : (ps.take (k + 1)).flatten = (ps.take k).flatten ++ ps[k] := by rw [List.take_succ_eq_append_getElem hlt, List.flatten_append, List.flatten_cons, List.flatten_nil, List.append_nil]
          have hll : (ps.take k).flatten.length ≤ l.length := by
            have := congrArg List.length (List.take_append_drop k ps ▸ HFL.out)
            rw [List.flatten_append, List.length_append] at this
            omega
          generalize ps[k] = x at *
          have hsx := S_size x
          have hs1 : (S (ps.take k).flatten).size ≤ 2000 := by rw [S_size]; omega
          have hcat : Hid (S (ps.take k).flatten ++ S x = S (ps.take (k + 1)).flatten) := by rw [hnl, S_append]; rfl
          have h20i : ((x.length : Int) != 20) = false := bne_eq_false_iff_eq.2 (by omega)
          clear hnl hll
          generalize S (ps.take k).flatten = s1 at *
          have hs20 : x.length ≤ 20 := by omega
          clear h20
          go_wp2_with fail
          rw [hcat.out]
          go_wp2_with fail
          go_roundw
          case rel => exact ⟨k + 1, by omega, by go_num, rfl, trivial⟩
          case measure => simp [intOf]; omega
        · have ek : k = ps.length := by omega
          subst ek
          rw [List.take_length, HFL.out]
          go_wp2_with fail
          go_ret
          exact ⟨ret_bool (by simp), MQ.out⟩
    · rw [decide_eq_false hm]
      rw [if_neg hm] at htx
      have hmi : ((l.length : Int) % 20 == 0) = false := beq_eq_false_iff_ne.2 (by omega)
      obtain ⟨ad, cp, rfl, _⟩ := htx.strs
      clear htx hm
      go_wp2_with fail
      go_ret
      exact ⟨ret_bool (by simp), MQ.out⟩

theorem lifted (os : Os) (started : os.Started) (H : Type) (enc : TypeId × Value → H) :
    ReturnsInHanded {} Try.checked os 11 .any (Rows.entryGetsSpec.pre6 enc Try.prog Try.f11 Rows.entryGetsRow.domain false) (Rows.entryGetsSpec.post enc Try.prog Try.f11 false true false false) := by
  refine returnsInHanded_of_change_sized (C := Try.checked) own started (by kernel_rfl) Try.func11
    (ChangeSpec.witness6 (enc := enc) (C := Try.checked) false ⟨#[], #[.string ⟨#[]⟩], []⟩ 8 (by kernel_rfl) (by kernel_rfl) (by kernel_rfl) (by kernel_rfl)) ?_
  intro W base args ds gs before hval0 hW hcnd0 hsz0 hholds
  have hval : ∀ (j : Nat) t v, Try.f11.params[j]? = some t → args[j]? = some v → Value.okWide Try.prog W .any base t v := hval0
  have hsz : (DataW.weightsEach Try.prog (Try.f11.params.toList ++ Rows.entryGetsSpec.plain.varTypes Try.prog) (ds ++ gs)).all (· ≤ reachBytes) = true := hsz0
  have hW' := hW
  obtain ⟨p, q, hA0, hV, rfl, hfz, hnd⟩ := hW
  have hA : DataW.TrodAll enc Try.prog W 0 (fun _ => true) true Try.f11.params.toList args.toList ds p := hA0
  rw [Try.params11] at hA hval hsz
  obtain ⟨v0, d0, rfl, rfl, h0⟩ := trodAll_one hA
  obtain ⟨rfl, rfl⟩ := trodVars_none hV
  obtain ⟨x0, rfl, rfl, rfl, hx0⟩ := Go.ChangeMaps.open_string Try.underlying9 (hval 0 9 v0 rfl rfl) h0
  have z0 : x0.size ≤ 140737488351232 := of_decide_eq_true (List.all_eq_true.1 hsz _ (DataW.weights_mem_each (j := 0) (t := 9) rfl rfl x0.data.toList.length (by simp [DataW.weights])))
  clear hA0 hval0
  refine (law W x0 z0).mono fun e W' ⟨he, hb⟩ => ?_
  subst he
  refine ⟨_, rfl, law_post hW' ?_ (tb := 4) (by kernel_rfl) Try.underlying4 rfl ⟨rfl, rfl, rfl⟩ hb⟩
  rw [Try.params11]
  intro t ht
  have : t = 9 := by simpa using ht
  rcases this with rfl
  exact ⟨by kernel_rfl, of_decide_eq_true (by kernel_rfl)⟩

theorem proved : Rows.EntryGetsSaid :=
  OpenClaim.holds_of_wide 11 Try.f11 rfl rfl rfl rfl rfl rfl rfl ⟨rfl, rfl, rfl, rfl, rfl⟩ rfl rfl rfl rfl rfl (by kernel_rfl) Try.func11 (by kernel_rfl)
    (of_decide_eq_true (by kernel_rfl)) (by unfold Func.isWrapper; rw [if_neg (of_decide_eq_false (by kernel_rfl))]; exact ⟨rfl, rfl⟩)
    (fun os started H enc _ => lifted os started H enc)
end Go.Proofs.Ytdlfbpdcligecaa.entryGets
