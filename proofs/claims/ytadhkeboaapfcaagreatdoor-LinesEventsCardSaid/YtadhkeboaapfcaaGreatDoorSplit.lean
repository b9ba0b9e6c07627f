/- strings.Split at one byte, plain and walked; the environment that the lines' functions read. -/
import Derived.Test.YtadhkeboaapfcaaGreatDoorWordC
namespace Go.Proofs.YtadhkeboaapfcaaGreatDoor.EvW
open Go.RowKit OctMath NameMath
set_option linter.unusedVariables false
set_option linter.unusedSimpArgs false

/-- a text cut at each c -/
def splitC (c : UInt8) : List UInt8 → List (List UInt8)
  | [] => [[]]
  | b :: l => if b = c then [] :: splitC c l else (b :: (splitC c l).headD []) :: (splitC c l).tail
theorem splitC_ne (c : UInt8) (l : List UInt8) : splitC c l ≠ [] := by
  cases l with
  | nil => simp [splitC]
  | cons b l => unfold splitC; split <;> simp
theorem splitC_free (c : UInt8) (l : List UInt8) (h : c ∉ l) : splitC c l = [l] := by
  induction l with
  | nil => rfl
  | cons b l ih =>
    have h1 : ¬ b = c := fun e => h (by rw [e]; exact List.mem_cons_self ..)
    unfold splitC
    rw [if_neg h1, ih (fun e => h (List.mem_cons_of_mem _ e))]
    rfl
theorem splitC_cut (c : UInt8) (p r : List UInt8) (h : c ∉ p) : splitC c (p ++ c :: r) = p :: splitC c r := by
  induction p with
  | nil => show splitC c (c :: r) = _; conv => lhs; unfold splitC
           rw [if_pos rfl]
  | cons b p ih =>
    have h1 : ¬ b = c := fun e => h (by rw [e]; exact List.mem_cons_self ..)
    show splitC c (b :: (p ++ c :: r)) = _
    conv => lhs; unfold splitC
    rw [if_neg h1, ih (fun e => h (List.mem_cons_of_mem _ e))]
    rfl
theorem join_tail_cons (sep x : List UInt8) (r : List (List UInt8)) : Lib.joinTail sep (x :: r) = sep ++ x ++ Lib.joinTail sep r := by
  simp [Lib.joinTail, List.append_assoc]
/-- cut of what was joined -/
theorem splitC_join (c : UInt8) (ws : List (List UInt8)) (hne : ws ≠ []) (h : ∀ w ∈ ws, c ∉ w) : splitC c (Lib.join ws [c]) = ws := by
  cases ws with
  | nil => exact absurd rfl hne
  | cons x r =>
    rw [Lib.join_cons]
    clear hne
    induction r generalizing x with
    | nil => simp [Lib.joinTail]; exact splitC_free c x (h x (List.mem_cons_self ..))
    | cons y r ih =>
      rw [join_tail_cons, show x ++ ([c] ++ y ++ Lib.joinTail [c] r) = x ++ c :: (y ++ Lib.joinTail [c] r) by simp]
      rw [splitC_cut c x _ (h x (List.mem_cons_self ..)), ih y (fun w hw => h w (List.mem_cons_of_mem _ hw))]
theorem splitC_len (c : UInt8) (l : List UInt8) : (splitC c l).length ≤ l.length + 1 := by
  induction l with
  | nil => exact Nat.le_refl _
  | cons b l ih =>
    unfold splitC
    split
    · simp only [List.length_cons]; omega
    · have := splitC_ne c l
      simp only [List.length_cons, List.length_tail]
      have : 0 < (splitC c l).length := List.length_pos_iff.2 this
      omega
theorem splitC_elem (c : UInt8) (l : List UInt8) : ∀ x ∈ splitC c l, x.length ≤ l.length := by
  induction l with
  | nil => intro x hx; simp [splitC] at hx; subst hx; exact Nat.le_refl _
  | cons b l ih =>
    intro x hx
    unfold splitC at hx
    split at hx
    · rcases List.mem_cons.1 hx with rfl | hx
      · exact Nat.zero_le _
      · have := ih x hx; simp only [List.length_cons]; omega
    · rcases List.mem_cons.1 hx with rfl | hx
      · have : (splitC c l).headD [] ∈ splitC c l := by
          cases hs : splitC c l with
          | nil => exact absurd hs (splitC_ne c l)
          | cons a r => exact List.mem_cons_self ..
        have := ih _ this
        simp only [List.length_cons]; omega
      · have := ih x (List.mem_of_mem_tail hx); simp only [List.length_cons]; omega

theorem idx1 (c : UInt8) (l : List UInt8) : (c ∉ l ∧ Lib.index l [c] = -1) ∨ (∃ p r, l = p ++ c :: r ∧ c ∉ p ∧ Lib.index l [c] = (p.length : Int)) := by
  induction l with
  | nil => exact .inl ⟨by simp, rfl⟩
  | cons b l ih =>
    unfold Lib.index
    by_cases hb : b = c
    · subst hb
      exact .inr ⟨[], l, rfl, by simp, by simp [List.isPrefixOf]⟩
    · have hp : ([c].isPrefixOf (b :: l)) = false := by simp [List.isPrefixOf]; exact fun e => absurd e.symm hb
      rw [hp]
      rcases ih with ⟨h1, h2⟩ | ⟨p, r, h1, h2, h3⟩
      · refine .inl ⟨fun h => ?_, by rw [h2]; rfl⟩
        rcases List.mem_cons.1 h with e | e
        · exact hb e.symm
        · exact h1 e
      · refine .inr ⟨b :: p, r, by rw [h1]; rfl, fun h => ?_, ?_⟩
        · rcases List.mem_cons.1 h with e | e
          · exact hb e.symm
          · exact h2 e
        · rw [h3]
          have : ((p.length : Int) == -1) = false := beq_eq_false_iff_ne.2 (by omega)
          rw [this]
          simp
theorem split_eq (c : UInt8) : ∀ (n : Nat) (l : List UInt8), l.length ≤ n → Lib.splitB (S [c]) 0 (Lib.countB (S l) (S [c])) (S l) = (splitC c l).map S ∧ Lib.countB (S l) (S [c]) + 1 = (splitC c l).length := by
  intro n
  induction n with
  | zero =>
    intro l hl
    have : l = [] := List.eq_nil_of_length_eq_zero (by omega)
    subst this
    exact ⟨rfl, rfl⟩
  | succ n ih =>
    intro l hl
    have hi : Lib.indexB (S l) (S [c]) = Lib.index l [c] := by show Lib.index (S l).data.toList (S [c]).data.toList = _; rw [S_list, S_list]
    rcases idx1 c l with ⟨h1, h2⟩ | ⟨p, r, h1, h2, h3⟩
    · rw [h2] at hi
      rw [Lib.splitB_miss _ _ _ _ hi, Lib.countB_miss _ _ hi, splitC_free c l h1]
      exact ⟨rfl, rfl⟩
    · rw [h3] at hi
      have hs1 : (S [c]).size = 1 := rfl
      have hd : (S l).extract (p.length + (S [c]).size) (S l).size = S r := by
        rw [S_drop, hs1, h1]
        congr 1
        rw [List.drop_append, List.drop_of_length_le (by omega)]
        simp
      have ht : (S l).extract 0 p.length = S p := by
        rw [S_take, h1, List.take_left]
      have hlen : r.length ≤ n := by rw [h1] at hl; simp at hl; omega
      have hc := Lib.countB_hit (S l) (S [c]) p.length (by rw [hs1]; exact Nat.le_refl _) hi
      rw [hd] at hc
      obtain ⟨i1, i2⟩ := ih r hlen
      rw [hc, Nat.add_comm 1, Lib.splitB_hit _ _ _ _ _ hi, hd, Nat.add_zero, ht, i1, h1, splitC_cut c p r h2, List.map_cons]
      exact ⟨rfl, by rw [List.length_cons]; omega⟩

/-- what the lines' functions read of the program's variables -/
structure Env (w : World) : Prop where
  tab : Tab w
  len : ∃ m, w.cell? ⟨0, 0, none⟩ = some (.int .i64 m)
  syn : ∃ te pe, w.var? Tryz.prog "strconv.ErrSyntax" = some #[.iface te pe]
  ran : ∃ te pe, w.var? Tryz.prog "strconv.ErrRange" = some #[.iface te pe]
theorem var_below {P : Program} {W w : World} {name : String} {cs : Array Value} (h : W.var? P name = some cs) (hb : Below W.heap.size W w) : w.var? P name = some cs := by
  unfold World.var? at *
  cases hg : P.globalNamed name with
  | none => rw [hg] at h; cases h
  | some g =>
    rw [hg] at h
    simp only [Option.bind_some] at h ⊢
    have hlt : g < W.heap.size := by
      rcases Nat.lt_or_ge g W.heap.size with h' | h'
      · exact h'
      · rw [Array.getElem?_eq_none h'] at h; cases h
    rw [hb.block g hlt]; exact h
theorem Env.below {W w : World} (h : Env W) (hb : Below W.heap.size W w) : Env w := by
  obtain ⟨h1, ⟨m, h2⟩, ⟨a, b, h3⟩, ⟨c, d, h4⟩⟩ := h
  exact ⟨h1.below hb, ⟨m, by rw [hb.cell (cell_lt h2)]; exact h2⟩, ⟨a, b, var_below h3 hb⟩, ⟨c, d, var_below h4 hb⟩⟩

theorem split_any (c : UInt8) (l : List UInt8) (hl : l.length ≤ 1073741824) (w : World) (h : Env w) :
    Calls Tryz.prog 56 #[.string (S l), .string (S [c])] w fun e w' => e = .returned (.slice (some ⟨w.heap.size, 0, none⟩) (splitC c l).length (splitC c l).length) ∧ w' = w.alloc (.cells ((splitC c l).map fun x => .string (S x)).toArray 9) := by
  obtain ⟨m, hm⟩ := h.len
  refine (Tryz.strings_Split (S l) (S [c]) m w (by rw [S_size]; omega) hm (Nat.le_refl 1)).mono ?_
  obtain ⟨h1, h2⟩ := split_eq c l.length l (Nat.le_refl _)
  rintro e w' ⟨rfl, rfl⟩
  rw [h1, h2, List.map_map]
  exact ⟨rfl, rfl⟩
/-- the int that strconv.Atoi gives, told wrong or not -/
def atoiV (l : List UInt8) : Int := match Lib.atoiAll l with
  | .ok v => v
  | .range => Lib.atoiSat l
  | _ => 0
theorem atoi_any (l : List UInt8) (hl : l.length ≤ 1099511627776) (w : World) (h : Env w) :
    Calls Tryz.prog 78 #[.string (S l)] w fun e w' => ∃ x, e = .returned (.tuple #[.int .i64 (atoiV l), x]) ∧ Below w.heap.size w w' := by
  have hs : (S l).size ≤ 281474976710656 := by rw [S_size]; omega
  have hsl := S_list l
  cases ha : Lib.atoiAll l with
  | ok v =>
    have hv : atoiV l = v := by unfold atoiV; rw [ha]
    refine (Tryz.strconv_Atoi_ok (S l) (by omega) v (by rw [hsl]; exact ha) w).mono ?_
    rintro e w' ⟨rfl, hw⟩
    refine ⟨_, by rw [hv], ?_⟩
    rcases hw with rfl | ⟨t, rfl⟩
    · exact Below.refl _ _
    · exact Lib.bytesWorld_below _ _ _
  | range =>
    have hv : atoiV l = Lib.atoiSat l := by unfold atoiV; rw [ha]
    obtain ⟨te, pe, hr⟩ := h.ran
    refine (Tryz.strconv_Atoi_range_var (S l) hs (by rw [hsl]; exact ha) te pe w hr).mono ?_
    rintro e w' ⟨N, rfl, _, _, hb⟩
    exact ⟨_, by rw [hv, hsl], hb⟩
  | «syntax» =>
    have hv : atoiV l = 0 := by unfold atoiV; rw [ha]
    obtain ⟨te, pe, hr⟩ := h.syn
    refine (Tryz.strconv_Atoi_syntax_var (S l) hs (by rw [hsl]; exact ha) te pe w hr).mono ?_
    rintro e w' ⟨N, rfl, _, _, hb⟩
    exact ⟨_, by rw [hv], hb⟩
end Go.Proofs.YtadhkeboaapfcaaGreatDoor.EvW
