/- entry: bytes in pieces of twenty; just twenty bytes are an entry. -/
import Derived.Test.YtdlfbpdcligecaaEntE
namespace Go.Proofs.Ytdlfbpdcligecaa.EntW
open Go.RowKit OctW OctMath
set_option maxRecDepth 100000
set_option linter.unusedSimpArgs false
set_option linter.unusedVariables false

/-- pieces of twenty bytes -/
def cut20 (l : List UInt8) : Nat → List (List UInt8)
  | 0 => []
  | n + 1 => l.take 20 :: cut20 (l.drop 20) n
theorem cut20_succ (n : Nat) : ∀ l : List UInt8, cut20 l (n + 1) = cut20 l n ++ [(l.drop (20 * n)).take 20] := by
  induction n with
  | zero => intro l; simp [cut20]
  | succ n ih =>
    intro l
    show l.take 20 :: cut20 (l.drop 20) (n + 1) = (l.take 20 :: cut20 (l.drop 20) n) ++ _
    rw [ih, List.drop_drop, show 20 + 20 * n = 20 * (n + 1) by omega]; rfl
theorem cut20_length (n : Nat) : ∀ l : List UInt8, (cut20 l n).length = n := by
  induction n with
  | zero => intro l; rfl
  | succ n ih => intro l; simp [cut20, ih]
theorem cut20_flat (n : Nat) : ∀ l : List UInt8, (cut20 l n).flatten = l.take (20 * n) := by
  induction n with
  | zero => intro l; simp [cut20]
  | succ n ih =>
    intro l
    show (l.take 20 :: cut20 (l.drop 20) n).flatten = _
    rw [List.flatten_cons, ih, show 20 * (n + 1) = 20 + 20 * n by omega, List.take_add]
theorem cut20_sizes (n : Nat) : ∀ (l : List UInt8), 20 * n ≤ l.length → ∀ t ∈ cut20 l n, t.length = 20 := by
  induction n with
  | zero => intro l _ t h; cases h
  | succ n ih =>
    intro l h t ht
    rcases List.mem_cons.1 ht with rfl | ht
    · simp; omega
    · exact ih (l.drop 20) (by simp; omega) t ht

def strLen : Value → Nat
  | .string b => b.size
  | _ => 0
theorem S_toList' (l : List UInt8) : (S l).toList = l := by rw [ByteArray.toList_eq, S_list]
set_option maxHeartbeats 1600000 in
theorem cut_any (l : List UInt8) (hl : l.length ≤ 1048576) (w : World) :
    Calls Try.prog 40 #[.string (S l)] w fun e w' => ∃ v, e = .returned (.tuple #[v, .bool (decide (l.length % 20 = 0))]) ∧ Texts w.heap.size v (if l.length % 20 = 0 then cut20 l (l.length / 20) else []) w' ∧ Below w.heap.size w w' := by
  obtain ⟨i0, hi0, hz0, hz1, hz2⟩ := info_parts (show (Try.prog.info? 9).map (fun i => (i.zero, i.size, i.bytes)) = some (some (.string ⟨#[]⟩), 1, 16) by kernel_rfl)
  have hsz := S_size l
  by_cases hm : l.length % 20 = 0
  · rw [if_pos hm, decide_eq_true hm]
    obtain ⟨n, hn⟩ : ∃ n, l.length = 20 * n := ⟨l.length / 20, by omega⟩
    have hn2 : l.length / 20 = n := by omega
    rw [hn2]
    have hmi : ((l.length : Int) % 20 != 0) = false := bne_eq_false_iff_eq.2 (by omega)
    have hnb : n ≤ 60000 := by omega
    have HN := Lib.hid hn
    clear hn hn2 hm
    go_enter Try.func40, Try.ntmps40
    go_wp2_with fail
    go_loopw [0, 4] (fun s v wr => ∃ k : Nat, k ≤ n ∧ s = .string (S (l.drop (20 * k))) ∧ Hid (Texts w.heap.size v (cut20 l k) wr) ∧ Hid (Below w.heap.size w wr)) (fun s _ _ => strLen s)
    case atStart => exact ⟨0, by omega, rfl, ⟨rfl, .inl ⟨rfl, rfl⟩⟩, Below.refl _ _⟩
    case round =>
      obtain ⟨k, hk, rfl, HTX, HB⟩ := hrel
      have hdl : (l.drop (20 * k)).length = 20 * (n - k) := by rw [List.length_drop, HN.out]; omega
      have hdd : (l.drop (20 * k)).drop 20 = l.drop (20 * (k + 1)) := by rw [List.drop_drop]; congr 1
      have hcs := cut20_succ k l
      by_cases hlt : k < n
      · have hge : 20 ≤ (l.drop (20 * k)).length := by omega
        have hle : (l.drop (20 * k)).length ≤ 1048576 := by rw [List.length_drop]; omega
        have hdl2 : (l.drop (20 * (k + 1))).length < (l.drop (20 * k)).length := by rw [← hdd, List.length_drop]; omega
        clear hdl
        generalize l.drop (20 * k) = d at *
        have hem : (S d).toList.isEmpty = false := by
          rw [ByteArray.toList_eq, S_list]
          cases d with
          | nil => simp at hge
          | cons x d => rfl
        have hds := S_size d
        have ht : (S d).extract 0 20 = S (d.take 20) := S_take d 20
        have hr : (S d).extract 20 d.length = S (d.drop 20) := by have := S_drop d 20; rw [S_size] at this; exact this
        rw [hdd] at hr
        have hgi : (20 : Int) ≤ d.length := by omega
        have hcl := cut20_length k l
        have HTX3 : Hid (wr.ownsRow w.heap.size 9 1 u4 k ((cut20 l k).map fun l => .string (S l))) := by
          have := HTX.out
          unfold Texts at this
          rw [hcl] at this; exact this
        have HCS := Lib.hid hcs
        have HR := Lib.hid hr
        clear hdd hcs hcl HTX hr
        go_wp2_with (at_builtin; refine wpList_append_own _ rfl (.tmp 13) (.tmp 16) 48 rfl w.heap.size 9 i0 (.string ⟨#[]⟩) 1 16 Try.underlying48 hi0 hz0 hz1 hz2 rfl (by decide) _ k ((cut20 l k).map fun l => .string (S l)) rfl (HTX3.out.alloc _) ⟨wr.heap.size, 0, none⟩ 1 1 [.string (S (d.take 20))] rfl rfl ?c1 ?c2 ?c3 ?c4 ?c5 ?_)
        case c1 => exact cell_one_new _ _ _
        case c2 => intro u hu; simp at hu; subst hu; rfl
        case c3 => unfold maxLen; omega
        case c4 => omega
        case c5 => have := HB.out.size; simp; omega
        intro v2 w4 hown2 hgrow _
        have HO4 : Hid (Texts w.heap.size v2 (cut20 l (k + 1)) w4) := by
          show w4.ownsRow _ _ _ _ (cut20 l (k + 1)).length _
          rw [cut20_length, HCS.out, List.map_append]; exact hown2
        have hrow : ∀ g, u4.ownBlock = some g → w.heap.size ≤ g := ownsRow_block HTX3.out
        have HB4 : Hid (Below w.heap.size w w4) := (HB.out.alloc HB.out.size _).grown hgrow (by have := HB.out.size; simp; omega) hrow
        clear hown2 hgrow HTX3 hrow HB HCS
        go_wp2_with fail
        rw [HR.out]
        go_roundw
        case rel => exact ⟨k + 1, by omega, rfl, HO4, HB4⟩
        case measure => simp [strLen, S_size] at hdl2 ⊢; omega
      · have ek : k = n := by omega
        subst ek
        have hnil : l.drop (20 * k) = [] := List.eq_nil_of_length_eq_zero (by omega)
        rw [hnil]
        have hem : (S []).toList.isEmpty = true := by rw [ByteArray.toList_eq, S_list]; rfl
        have hem2 : (S []).toList = [] := by rw [ByteArray.toList_eq, S_list]
        clear hnil hdl hdd hcs
        go_wp2_with fail
        go_ret2
        exact ⟨_, rfl, HTX.out, HB.out⟩
  · rw [if_neg hm, decide_eq_false hm]
    have hmi : ((l.length : Int) % 20 != 0) = true := bne_iff_ne.2 (by omega)
    clear hm
    go_enter Try.func40, Try.ntmps40
    go_wp2_with fail
    go_ret2
    exact ⟨_, rfl, ⟨rfl, .inl ⟨rfl, rfl⟩⟩, Below.refl _ _⟩

theorem numsR_read : ∀ (ns : List Nat) (l : List UInt8), (∀ n ∈ ns, 1 ≤ n ∧ n ≤ 7) →
    (ns.sum ≤ l.length → (numsR ns ⟨l, 0⟩).2 = ⟨l.drop ns.sum, 0⟩ ∧ widL (ns.zip ((numsR ns ⟨l, 0⟩).1.map Int.ofNat)) = l.take ns.sum ∧ ∀ p ∈ ns.zip ((numsR ns ⟨l, 0⟩).1.map Int.ofNat), fits p.1 p.2) ∧
    (l.length < ns.sum → (numsR ns ⟨l, 0⟩).2.e ≠ 0) := by
  intro ns
  induction ns with
  | nil => intro l _; exact ⟨fun _ => ⟨rfl, rfl, fun p hp => by cases hp⟩, fun h => by simp at h⟩
  | cons n ns ih =>
    intro l h
    obtain ⟨h1, h7⟩ := h n (List.mem_cons_self ..)
    have hg := numR_get n l h1 h7
    have herr : ∀ (ns : List Nat) (r : RS), r.e ≠ 0 → (numsR ns r).2 = r := by
      intro ns
      induction ns with
      | nil => intro r _; rfl
      | cons m ns ih =>
        intro r hr
        have : numR (m : Int) r = (0, r) := by unfold numR; rw [if_pos hr]
        simp only [numsR, this]
        exact ih r hr
    obtain ⟨i1, i2⟩ := ih (l.drop n) (fun m hm => h m (List.mem_cons_of_mem _ hm))
    by_cases hn : l.length < n
    · rw [if_pos hn] at hg
      refine ⟨fun hs => by rw [List.sum_cons] at hs; omega, fun _ => ?_⟩
      simp only [numsR, hg]
      rw [herr _ _ (by simp)]; simp
    · rw [if_neg hn] at hg
      have htl : (l.take n).length = n := by rw [List.length_take]; omega
      have hval : val (l.take n) < 256 ^ n := by have := val_lt (l.take n); rw [htl] at this; exact this
      have hbe : be n (val (l.take n)) = l.take n := by have := be_val (l.take n); rw [htl] at this; exact this
      simp only [numsR, hg, List.sum_cons, List.map_cons, List.zip_cons_cons]
      refine ⟨fun hs => ?_, fun hs => i2 (by rw [List.length_drop]; omega)⟩
      obtain ⟨j1, j2, j3⟩ := i1 (by rw [List.length_drop]; omega)
      refine ⟨by rw [j1, List.drop_drop], ?_, fun p hp => ?_⟩
      · have : ∀ (p : Nat × Int) (q : List (Nat × Int)), widL (p :: q) = be p.1 p.2.toNat ++ widL q := fun p q => by simp [widL]
        rw [this, j2, List.take_add]
        simp only
        rw [show (Int.ofNat (val (l.take n))).toNat = val (l.take n) from rfl, hbe]
      · rcases List.mem_cons.1 hp with rfl | hp
        · exact ⟨Int.natCast_nonneg _, by show ((val (l.take n) : Nat) : Int) < _; exact_mod_cast hval⟩
        · exact j3 p hp
theorem entry_read (n0 n1 n2 n3 : Nat) (l : List UInt8) (h : ∀ n ∈ [n0, n1, n2, n3], 1 ≤ n ∧ n ≤ 7) (hs : n0 + n1 + n2 + n3 = 20) :
    ∃ p0 p1 p2 p3 : Nat, agg4 (getW [n0, n1, n2, n3] l).1 = .agg #[.int .i64 p0, .int .i64 p1, .int .i64 p2, .int .i64 p3] ∧ (getW [n0, n1, n2, n3] l).2 = decide (l.length = 20) ∧
      (l.length = 20 → widW (ws4 n0 n1 n2 n3 p0 p1 p2 p3) = l ∧ widOk (ws4 n0 n1 n2 n3 p0 p1 p2 p3) = true) ∧ (¬ l.length = 20 → p0 = 0 ∧ p1 = 0 ∧ p2 = 0 ∧ p3 = 0) ∧ p0 < 72057594037927936 ∧ p1 < 72057594037927936 ∧ p2 < 72057594037927936 ∧ p3 < 72057594037927936 := by
  have hsum : [n0, n1, n2, n3].sum = 20 := by simp; omega
  have hr := numsR_read [n0, n1, n2, n3] l h
  rw [hsum] at hr
  have hlen := numsR_length [n0, n1, n2, n3] ⟨l, 0⟩
  unfold getW
  generalize numsR [n0, n1, n2, n3] ⟨l, 0⟩ = q at *
  obtain ⟨xs, r⟩ := q
  simp only at *
  match xs, hlen with
  | [p0, p1, p2, p3], _ =>
    have none : ∀ b : Bool, ¬ l.length = 20 → (if endR r = 0 then ([p0, p1, p2, p3], true) else (([] : List Nat), false)) = ([], false) → ∃ q0 q1 q2 q3 : Nat, agg4 (if endR r = 0 then ([p0, p1, p2, p3], true) else (([] : List Nat), false)).1 = .agg #[.int .i64 q0, .int .i64 q1, .int .i64 q2, .int .i64 q3] ∧
        (if endR r = 0 then ([p0, p1, p2, p3], true) else (([] : List Nat), false)).2 = decide (l.length = 20) ∧ (l.length = 20 → widW (ws4 n0 n1 n2 n3 q0 q1 q2 q3) = l ∧ widOk (ws4 n0 n1 n2 n3 q0 q1 q2 q3) = true) ∧ (¬ l.length = 20 → q0 = 0 ∧ q1 = 0 ∧ q2 = 0 ∧ q3 = 0) ∧ q0 < 72057594037927936 ∧ q1 < 72057594037927936 ∧ q2 < 72057594037927936 ∧ q3 < 72057594037927936 := by
      intro _ hne he
      rw [he]
      exact ⟨0, 0, 0, 0, rfl, (decide_eq_false hne).symm, fun h => absurd h hne, fun _ => ⟨rfl, rfl, rfl, rfl⟩, by omega, by omega, by omega, by omega⟩
    rcases Nat.lt_trichotomy l.length 20 with hlt | heq | hgt
    · refine none true (by omega) ?_
      have := hr.2 hlt
      rw [if_neg]
      unfold endR; rw [if_pos this]; exact this
    · obtain ⟨rfl, hw, hf⟩ := hr.1 (by omega)
      have hz : (l.drop 20).length = 0 := by rw [List.length_drop]; omega
      have hend : endR ⟨l.drop 20, 0⟩ = 0 := by unfold endR; rw [if_neg (by simp), if_pos hz]
      rw [if_pos hend]
      have hok : widOk (ws4 n0 n1 n2 n3 p0 p1 p2 p3) = true := decide_eq_true hf
      have hww : widW (ws4 n0 n1 n2 n3 p0 p1 p2 p3) = l := by
        unfold widW; rw [hok, if_pos rfl]
        refine Eq.trans hw (List.take_of_length_le (by omega))
      have hb : ∀ (n p : Nat), n ∈ [n0, n1, n2, n3] → fits n (p : Int) → p < 72057594037927936 := by
        intro n p hn hf
        have := hf.2
        have h7 := (h n hn).2
        have h256 : 256 ^ n ≤ 256 ^ 7 := Nat.pow_le_pow_right (by omega) h7
        have : p < 256 ^ n := by exact_mod_cast this
        omega
      exact ⟨p0, p1, p2, p3, rfl, (decide_eq_true heq).symm, fun _ => ⟨hww, hok⟩, fun h => absurd heq h, hb n0 p0 (by simp) (hf (n0, (p0 : Int)) (by simp)), hb n1 p1 (by simp) (hf (n1, (p1 : Int)) (by simp)), hb n2 p2 (by simp) (hf (n2, (p2 : Int)) (by simp)), hb n3 p3 (by simp) (hf (n3, (p3 : Int)) (by simp))⟩
    · refine none true (by omega) ?_
      obtain ⟨rfl, hw, hf⟩ := hr.1 (by omega)
      rw [if_neg]
      unfold endR
      rw [if_neg (by simp), if_neg (by rw [List.length_drop]; omega)]
      simp
end Go.Proofs.Ytdlfbpdcligecaa.EntW
