/- The tables: what New makes, what At tells. -/
import Derived.Test.YtfndekonkcdboaaCrcA
namespace Go.Proofs.Ytfndekonkcdboaa.CrcW
open Go.RowKit CrcMath
set_option maxRecDepth 100000

/-- a table's cells when it is new -/
def noughts : Array Value := Array.replicate 1024 (.int .u32 0)
theorem noughts_at (i : Nat) (h : i < 1024) : noughts[i]? = some (.int .u32 0) := by
  unfold noughts; rw [Array.getElem?_replicate]; simp [h]
theorem build_table (w : World) : (zeroValue 45).run Try.prog w = .ok (.agg noughts) w := by kernel_rfl

/-- what the tables hold, one behind the other -/
def TE (i : Nat) : Int := ((tab (i / 256) (BitVec.ofNat 8 i)).toNat : Int)

theorem first_byte (k : Nat) (h : k < 256) (w : World) :
    Calls Try.prog 18 #[.int .u32 (k : Int)] w fun e w' => e = .returned (.int .u32 (TE k)) ∧ w = w' := by
  have h1 := first_any (BitVec.ofNat 32 k) w
  rw [BitVec.toNat_ofNat, Nat.mod_eq_of_lt (by omega)] at h1
  have h2 : steps 8 (BitVec.ofNat 32 k) = tab (k / 256) (BitVec.ofNat 8 k) := by
    rw [Nat.div_eq_of_lt h]
    unfold tab ext
    congr 1
    apply BitVec.eq_of_toNat_eq
    simp; omega
  rw [h2] at h1
  exact h1

/-- the first n places of block B hold what the tables hold; below the call's own memory nothing has turned -/
structure Laid (B n : Nat) (W w : World) : Prop where
  below : Below W.heap.size W w
  old : W.heap.size ≤ B
  size : B < w.heap.size
  there : ∀ i, i < 1024 → ∃ v, w.cell? ⟨B, i, none⟩ = some v
  free : ∀ i, w.frozen? ⟨B, i, none⟩ = false
  has : ∀ i, i < n → w.cell? ⟨B, i, none⟩ = some (.int .u32 (TE i))

theorem Laid.drew {B n : Nat} {W w : World} (h : Laid B n W w) (m : Nat) : Laid B n W (w.drewN m) :=
  ⟨below_drewN h.below m, h.old, h.size, h.there, h.free, h.has⟩

theorem Laid.set {B n : Nat} {W w : World} (h : Laid B n W w) (hn : n < 1024) : Laid B (n + 1) W (w.setCell ⟨B, n, none⟩ (.int .u32 (TE n))) := by
  obtain ⟨v, hv⟩ := h.there n hn
  have key : ∀ i, (w.setCell ⟨B, n, none⟩ (.int .u32 (TE n))).cell? ⟨B, i, none⟩ = if i = n then some (.int .u32 (TE n)) else w.cell? ⟨B, i, none⟩ := by
    intro i
    by_cases e : i = n
    · subst e; rw [if_pos rfl]; exact World.cell?_setCell_same _ _ _ hv
    · rw [if_neg e]; exact World.cell?_setCell_other _ _ _ _ (fun h => e (by simpa using h.symm))
  refine ⟨h.below.setCell (by have := h.old; simpa using this) _, h.old, by simpa using h.size, fun i hi => ?_, fun i => ?_, fun i hi => ?_⟩
  · rw [key]; split
    · exact ⟨_, rfl⟩
    · exact h.there i hi
  · rw [World.frozen?_setCell]; exact h.free i
  · rw [key]; split
    · rename_i e; rw [e]
    · exact h.has i (by omega)

theorem Laid.tabs {B : Nat} {W w : World} (h : Laid B 1024 W w) : Tabs w B := by
  intro k j hk hj
  have := h.has (256 * k + j) (by omega)
  rw [this]; unfold TE
  rw [show (256 * k + j) / 256 = k by omega]
  rw [show BitVec.ofNat 8 (256 * k + j) = BitVec.ofNat 8 j from by apply BitVec.eq_of_toNat_eq; rw [BitVec.toNat_ofNat, BitVec.toNat_ofNat]; omega]

theorem TE_next (k b : Nat) (hk : 1 ≤ k) (hb : b < 256) :
    ∃ x : BitVec 32, TE ((k - 1) * 256 + b) = (x.toNat : Int) ∧ bits .xor .u32 (TE (x.setWidth 8).toNat) ((x.toNat : Int) / (256 : Int)) = TE (256 * k + b) := by
  obtain ⟨j, rfl⟩ : ∃ j, k = j + 1 := ⟨k - 1, by omega⟩
  refine ⟨tab j (BitVec.ofNat 8 b), ?_, ?_⟩
  · unfold TE
    rw [show (j + 1 - 1) * 256 + b = 256 * j + b by omega, show (256 * j + b) / 256 = j by omega, show BitVec.ofNat 8 (256 * j + b) = BitVec.ofNat 8 b from by apply BitVec.eq_of_toNat_eq; rw [BitVec.toNat_ofNat, BitVec.toNat_ofNat]; omega]
  · unfold TE
    rw [show (256 * (j + 1) + b) / 256 = j + 1 by omega, show BitVec.ofNat 8 (256 * (j + 1) + b) = BitVec.ofNat 8 b from by apply BitVec.eq_of_toNat_eq; rw [BitVec.toNat_ofNat, BitVec.toNat_ofNat]; omega, tab_succ, shr8]
    have h8 : ((tab j (BitVec.ofNat 8 b)).setWidth 8).toNat < 256 := ((tab j (BitVec.ofNat 8 b)).setWidth 8).isLt
    rw [Nat.div_eq_of_lt h8, BitVec.ofNat_toNat, BitVec.setWidth_eq, xor_u32]

set_option maxHeartbeats 1000000 in
theorem new_any (W : World) :
    Calls Try.prog 10 #[] W fun e w' => ∃ B, e = .returned (.pointer (some ⟨B, 0, none⟩)) ∧ Laid B 1024 W w' := by
  have hb := build_table
  go_enter Try.func10, Try.ntmps10
  go_wp2_with fail
  clear hb
  go_loopw [8] (fun i wr => ∃ k : Nat, k ≤ 256 ∧ i = .int .i64 k ∧ Laid W.heap.size k W wr) (fun i _ => 256 - (intOf i).toNat)
  case atStart =>
    refine ⟨0, by omega, rfl, ?_⟩
    refine ⟨(Below.refl _ _).alloc (Nat.le_refl _) _, Nat.le_refl _, by simp, fun i hi => ⟨.int .u32 0, ?_⟩, fun i => ?_, fun i hi => by omega⟩
    · rw [World.cell?_alloc_new]; exact noughts_at i hi
    · simp [go_sem]
  case round =>
    obtain ⟨k, hk, rfl, hl⟩ := hrel
    by_cases hlt : k < 256
    · obtain ⟨v, hv⟩ := hl.there k (by omega)
      have hf := hl.free k
      have HL := Lib.hid hl; clear hl
      go_wp2_with fail
      have hwr : IntKind.u32.wrap (k : Int) = (k : Int) := by rw [IntKind.wrap_u32']; omega
      go_region_with (go_at_call 18; refine (first_byte k (by omega) _).mono ?_; rintro e w' ⟨rfl, rfl⟩)
      go_wp2_with fail
      go_roundw
      case rel => exact ⟨k + 1, by omega, by go_num, (HL.out.set (by omega)).drew 1⟩
      case measure => simp [intOf]; omega
    · have ek : k = 256 := by omega
      subst ek
      go_wp2_with fail
      go_loopw [3] (fun i wr => ∃ k : Nat, 1 ≤ k ∧ k ≤ 4 ∧ i = .int .i64 k ∧ Laid W.heap.size (256 * k) W wr) (fun i _ => 4 - (intOf i).toNat)
      case atStart => exact ⟨1, by omega, by omega, rfl, hl⟩
      case round =>
        clear hl
        obtain ⟨k, hk1, hk2, rfl, hl⟩ := hrel
        by_cases hlt : k < 4
        · have HL := Lib.hid hl; clear hl
          go_wp2_with fail
          obtain ⟨wo, rfl⟩ : ∃ wo : World, wo = wr := ⟨_, rfl⟩
          go_loopw [25] (fun i wr => ∃ b : Nat, b ≤ 256 ∧ i = .int .i64 b ∧ Laid W.heap.size (256 * k + b) W wr) (fun i _ => 256 - (intOf i).toNat)
          case atStart => exact ⟨0, by omega, rfl, HL.out⟩
          case round =>
            clear HL
            obtain ⟨b, hb, rfl, hl⟩ := hrel
            by_cases hb2 : b < 256
            · obtain ⟨x, hx, hx2⟩ := TE_next k b hk1 hb2
              have hc := hl.has ((k - 1) * 256 + b) (by omega)
              rw [hx] at hc
              have h8 : (x.setWidth 8).toNat < 256 := (x.setWidth 8).isLt
              have hc0 := hl.has (x.setWidth 8).toNat (by omega)
              have ha := and255 x
              have hxb := bv_lt x
              generalize (x.setWidth 8).toNat = i at *
              obtain ⟨v, hv⟩ := hl.there (k * 256 + b) (by omega)
              have hf := hl.free (k * 256 + b)
              have HL := Lib.hid hl; clear hl
              have HX2 := Lib.hid hx2; clear hx2
              have HX := Lib.hid hx; clear hx
              go_wp2_with fail
              go_region
              go_wp2_with fail
              go_roundw
              case rel => 
                refine ⟨b + 1, by omega, by go_num, ?_⟩
                have := (HL.out.set (by omega)).drew 1
                rw [← HX2.out, show 256 * k + b = k * 256 + b by omega] at this
                rw [show 256 * k + (b + 1) = k * 256 + b + 1 by omega]
                exact this
              case measure => simp [intOf]; omega
            · go_wp2_with fail
              go_roundw
              case rel => exact ⟨k + 1, by omega, by omega, by go_num, by rw [show 256 * (k + 1) = 256 * k + b by omega]; exact hl⟩
              case measure => simp [intOf]; omega
        · go_wp2_with fail
          go_ret
          exact ⟨_, rfl, by rw [show 1024 = 256 * k by omega]; exact hl⟩

set_option maxHeartbeats 400000 in
theorem at_nil (k b : Int) (w : World) :
    Calls Try.prog 13 #[.pointer none, .int .i64 k, .int .i64 b] w fun e w' => e = .returned (.int .i64 0) ∧ w = w' := by
  go_enter Try.func13, Try.ntmps13
  go_wp2
  go_ret
  exact ⟨rfl, rfl⟩

set_option maxHeartbeats 400000 in
theorem at_out (B : Nat) (k b : Int) (h : k < 0 ∨ 4 ≤ k ∨ b < 0 ∨ 256 ≤ b) (w : World) :
    Calls Try.prog 13 #[.pointer (some ⟨B, 0, none⟩), .int .i64 k, .int .i64 b] w fun e w' => e = .returned (.int .i64 0) ∧ w = w' := by
  by_cases h1 : k < 0
  · go_enter Try.func13, Try.ntmps13
    go_wp2
    go_ret
    exact ⟨rfl, rfl⟩
  by_cases h2 : 4 ≤ k
  · go_enter Try.func13, Try.ntmps13
    go_wp2
    go_ret
    exact ⟨rfl, rfl⟩
  by_cases h3 : b < 0
  · go_enter Try.func13, Try.ntmps13
    go_wp2
    go_ret
    exact ⟨rfl, rfl⟩
  have h4 : 256 ≤ b := by omega
  · go_enter Try.func13, Try.ntmps13
    go_wp2
    go_ret
    exact ⟨rfl, rfl⟩

set_option maxHeartbeats 400000 in
theorem at_in (B : Nat) (k b : Nat) (hk : k < 4) (hb : b < 256) (w : World) (hT : Tabs w B) :
    Calls Try.prog 13 #[.pointer (some ⟨B, 0, none⟩), .int .i64 k, .int .i64 b] w fun e w' => e = .returned (.int .i64 (tab k (BitVec.ofNat 8 b)).toNat) ∧ w = w' := by
  have hc := hT k b hk hb
  rw [Nat.mul_comm] at hc
  have hv := bv_lt (tab k (BitVec.ofNat 8 b))
  generalize (tab k (BitVec.ofNat 8 b)).toNat = v at *
  have HT := Lib.hid hT; clear hT
  go_enter Try.func13, Try.ntmps13
  go_wp2
  go_ret
  exact ⟨rfl, rfl⟩
end Go.Proofs.Ytfndekonkcdboaa.CrcW
