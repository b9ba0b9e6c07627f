/- octet.Reader: Num, Text, List. And what follows. -/
import Derived.Test.YtnoehodmmkioaaaGreatDoorS00
import Derived.Shelf.Strings.Builder1
import Derived.Test.YtnoehodmmkioaaaGreatDoorProg
import Derived.Shelf.GgClosure.StringsIndexFunc
import Derived.Lib.AtoiAll
import Derived.Lib.ItoaNum
import Derived.Lib.Strings
import Derived.Lib.Repeat
import Derived.Lib.SlTrimSet
import Derived.Shelf.SlIter.Sorted
import Derived.Ground.GgzProg
import Derived.Shelf.SlicesE.DeleteFunc
import Derived.Ground.SlgfProg
import Derived.Shelf.Strings.Builder2
import Derived.Shelf.Strings.Trim
import Derived.Shelf.Small.Utf8
import Derived.Shelf.Small.Bits
import Derived.Shelf.Small.Strs
import Derived.Shelf.Small.Wraps
import Derived.Shelf.Strings.BuilderF
import Derived.Shelf.Strconv.Atoi
import Derived.Shelf.Strconv.Itoa0
import Derived.Shelf.Strconv.Itoa1
import Derived.Shelf.LaysM
import Derived.Shelf.Strconv.Itoa2
import Derived.Shelf.Strconv.Itoa3
import Derived.Shelf.Strconv.AtoiErrFast
import Derived.Shelf.Strconv.ParseIntEmpty
import Derived.Shelf.Strconv.AtoiFail
import Derived.Shelf.Strconv.Clone
import Derived.Shelf.Strconv.SyntaxError
import Derived.Shelf.LaysC
import Derived.Shelf.Strconv.ToError
import Derived.Shelf.Strconv.Lower
import Derived.Shelf.Strconv.ParseUint10
import Derived.Shelf.Strconv.ParseUint10Empty
import Derived.Shelf.Strconv.ParseUint10Any
import Derived.Shelf.Strconv.ParseInt10
import Derived.Shelf.Strconv.AtoiLong
import Derived.Shelf.Strconv.AtoiInnerAll
import Derived.Shelf.Strconv.RangeError
import Derived.Shelf.Strconv.ToErrorRange
import Derived.Shelf.Strconv.AtoiAll
import Derived.Shelf.Strconv.ErrVarAll
import Derived.Shelf.Strings.Search1
import Derived.Shelf.Sort.Plain
import Derived.Ground.GgwProg
import Derived.Shelf.GgClosure.StringsIndexFuncTop
import Derived.Shelf.GgClosure.StringsRunes
import Derived.Shelf.Strings.Prefix
import Derived.Shelf.Strings.Runes
import Derived.Shelf.Strings.AsciiSet
import Derived.Shelf.Bits.Mul64
import Derived.Shelf.Strings.Repeat
import Derived.Shelf.Unicode.DecodeSlow
import Derived.Shelf.Unicode.DecodeAny
import Derived.Shelf.Unicode.DecodeLast
import Derived.Shelf.Strings.FuncGrows
import Derived.Shelf.Slices.Turned
import Derived.Shelf.Slices.Equal
import Derived.Ground.Names2Prog
import Derived.Shelf.Slices.Clone
import Derived.Shelf.Slices.CompactS
import Derived.Shelf.Slices.SearchI
import Derived.Shelf.Slices.Cells
import Derived.Shelf.Slices.In.SortNone
import Derived.Shelf.Slices.Empties
import Derived.Shelf.Slices.Empties2
import Derived.Ground.SlgnProg
import Derived.Shelf.SlicesE.Equal
import Derived.Shelf.SlicesE.Compact
import Derived.Shelf.SlicesE.IndexFunc
set_option maxHeartbeats 25600000
set_option maxRecDepth 100000
set_option linter.unusedVariables false
set_option linter.unusedSimpArgs false
namespace Go.Proofs.YtnoehodmmkioaaaGreatDoor.OctW
open Go.RowKit OctMath
theorem takeR_len (n:Int) (r:RS):(takeR n r).2.s.length≤r.s.length:=by
 unfold takeR; split
 · exact Nat.le_refl _
 ·
  split
  · exact Nat.le_refl _
  · split
    · exact Nat.le_refl _
    · simp
theorem takeR_out (n:Int) (r:RS):(takeR n r).1.length≤n.toNat:=by
 unfold takeR; split
 · simp
 ·
  split
  · simp
  · split
    · simp
    · simp; omega
theorem numR_len (n:Int) (r:RS):(numR n r).2.s.length≤r.s.length:=by
 unfold numR; split
 · exact Nat.le_refl _
 · split
   · exact Nat.le_refl _
   · exact takeR_len _ _
theorem numR_lt (n:Int) (r:RS):(numR n r).1 < 256 ^ n.toNat:=by
 have hp:0 < 256 ^ n.toNat:=Nat.pow_pos (by omega)
 unfold numR; split
 · exact hp
 · split
   · exact hp
   · exact Nat.lt_of_lt_of_le (val_lt _) (Nat.pow_le_pow_right (by omega) (takeR_out n r))
theorem num_any (B:Nat) (r:RS) (n:Int) (hn0 : -9223372036854775808≤n) (hn1:n≤9223372036854775807) (hl:r.s.length≤1152921504606846976) (w:World) (h:Rd B r w) :
 Calls Tryz.prog 119 #[.pointer (some ⟨B,0,none⟩),.int .i64 n] w fun e w'=>e=.returned (.int .i64 ((numR n r).1:Int))∧Rd B (numR n r).2 w'∧One B w w':=by
 have HR:=Lib.hid h
 have hef:=h.e_free
 have he:=h.e_cell
 go_enter Tryz.func119,Tryz.ntmps119
 go_wp2_with (go_at_call 179; refine (err_any B r _ HR.out).mono ?_)
 rintro e w' ⟨rfl,rfl⟩
 by_cases hz:r.e≠0
 ·
  have hb:=ne_b hz
  have HZ:=Lib.hid hz; clear hz h
  have HT:Hid (numR n r=(0,r)):=by unfold numR; rw [if_pos HZ.out]; rfl
  go_wp2_with fail
  go_ret
  rw [HT.out]
  exact ⟨rfl,HR.out,Mod.refl _ _⟩
 ·
  have hb:=eq_b (show r.e=0 by omega)
  have HZ:=Lib.hid hz; clear hz
  have h2:=Lib.hid (h.set1 1)
  have hm:Hid (One B w (w.setCell ⟨B,1,none⟩ (.int .i64 ((1:Nat):Int)))):=(Mod.refl (fun k=>k=B) w).setCell (a:=⟨B,1,none⟩) (Or.inl rfl) _
  clear h
  by_cases hw:n < 1∨7 < n
  ·
   have HT:Hid (numR n r=(0,⟨r.s,1⟩)):=by unfold numR; rw [if_neg HZ.out,if_pos hw]; rfl
   rcases hw with hw | hw
   · go_wp2_with fail
     go_ret
     rw [HT.out]
     exact ⟨rfl,h2.out,hm.out⟩
   · have hw1:1≤n:=by omega
     go_wp2_with fail
     go_ret
     rw [HT.out]
     exact ⟨rfl,h2.out,hm.out⟩
  ·
   have HT:Hid (numR n r=(val (takeR n r).1,(takeR n r).2)):=by unfold numR; rw [if_neg HZ.out,if_neg hw]; rfl
   have hw1:1≤n:=by omega
   have hw2:n≤7:=by omega
   have ho:=Nat.le_trans (takeR_out n r) (show n.toNat≤7 by omega)
   clear hw h2 hm
   go_wp2_with (go_at_call 183; refine (take_any B r n (by omega) (by omega) hl _ HR.out).mono ?_)
   rintro e w1 ⟨rfl,hr1,hm1⟩
   have HR1:=Lib.hid hr1; clear hr1
   have HM1:=Lib.hid hm1; clear hm1
   go_wp2_with (go_at_call 182; refine (get_any _ ho _).mono ?_)
   rintro e w2 ⟨rfl,hd⟩
   have HR2:Hid (Rd B (takeR n r).2 w2):=HR1.out.drawn hd
   have HM2:Hid (One B w w2):=HM1.out.drawn hd
   clear hd
   go_wp2_with fail
   go_ret
   rw [HT.out]
   exact ⟨rfl,HR2.out,HM2.out⟩
theorem longR_set {B:Nat} {r:RS} {w:World} (h:Rd B r w) (h0:r.e=0):Rd B (longR true r) (w.setCell ⟨B,1,none⟩ (.int .i64 ((6:Nat):Int))):=by
 have:=h.set1 6
 unfold longR; rw [if_pos ⟨h0,rfl⟩]; exact this
theorem longR_false (r:RS):longR false r=r:=by unfold longR; simp
theorem longR_err {r:RS} (b:Bool) (h:r.e≠0):longR b r=r:=by unfold longR; rw [if_neg (fun x=>h x.1)]
theorem longR_len (b:Bool) (r:RS):(longR b r).s.length≤r.s.length:=by unfold longR; split <;> exact Nat.le_refl _
theorem textR_eq (most:Int) (r:RS) (h:¬ r.e≠0):textR most r=(if (takeR ((numR 2 r).1:Int) (longR (decide (most < ((numR 2 r).1:Int))) (numR 2 r).2)).2.e≠0
 then ((takeR ((numR 2 r).1:Int) (longR (decide (most < ((numR 2 r).1:Int))) (numR 2 r).2)).1,⟨r.s,(takeR ((numR 2 r).1:Int) (longR (decide (most < ((numR 2 r).1:Int))) (numR 2 r).2)).2.e⟩)
 else takeR ((numR 2 r).1:Int) (longR (decide (most < ((numR 2 r).1:Int))) (numR 2 r).2)):=by
 unfold textR; rw [if_neg h]
theorem text_any (B:Nat) (r:RS) (most:Int) (hn0 : -9223372036854775808≤most) (hn1:most≤9223372036854775807) (hl:r.s.length≤1152921504606846976) (w:World) (h:Rd B r w) :
 Calls Tryz.prog 120 #[.pointer (some ⟨B,0,none⟩),.int .i64 most] w fun e w'=>e=.returned (.string (S (textR most r).1))∧Rd B (textR most r).2 w'∧One B w w':=by
 have HR:=Lib.hid h
 have hsc:=h.s_cell
 clear h
 go_enter Tryz.func120,Tryz.ntmps120
 go_wp2_with (go_at_call 179; refine (err_any B r _ HR.out).mono ?_)
 rintro e w' ⟨rfl,rfl⟩
 by_cases hz:r.e≠0
 ·
  have hb:=ne_b hz
  have HZ:=Lib.hid hz; clear hz
  have HT:Hid (textR most r=([],r)):=by unfold textR; rw [if_pos HZ.out]; rfl
  go_wp2_with fail
  go_ret
  rw [HT.out]
  exact ⟨rfl,HR.out,Mod.refl _ _⟩
 ·
  have hb:=eq_b (show r.e=0 by omega)
  have HT:=Lib.hid (textR_eq most r hz)
  clear hz
  go_wp2_with (go_at_call 119; refine (num_any B r 2 (by omega) (by omega) hl _ HR.out).mono ?_)
  rintro e w1 ⟨rfl,hr1,hm1⟩
  have hx:(numR 2 r).1 < 65536:=numR_lt 2 r
  have hl2:(numR 2 r).2.s.length≤r.s.length:=numR_len 2 r
  generalize numR 2 r=nr at *
  obtain ⟨x,r1⟩:=nr
  simp only at *
  have he1:=hr1.e_cell
  have hf1:=hr1.e_free
  have HM1:=Lib.hid hm1; clear hm1
  have HR1:=Lib.hid hr1; clear hr1
  have fin:∀ (L:RS) (w2 w3:World),L=longR (decide (most < (x:Int))) r1→One B w1 w2→Rd B (takeR (x:Int) L).2 w3→One B w2 w3→(takeR (x:Int) L).2.e=0 →
   S (takeR (x:Int) L).1=S (textR most r).1∧Rd B (textR most r).2 w3∧One B w w3:=by
   intro L w2 w3 h1 h2 h3 h4 h5
   have:=HT.out
   rw [← h1,if_neg (by rw [h5]; simp)] at this
   rw [this]
   exact ⟨rfl,h3,(HM1.out.trans h2).trans h4⟩
  have fin2:∀ (L:RS) (w2 w3 w4:World),L=longR (decide (most < (x:Int))) r1→One B w1 w2→One B w2 w3→(takeR (x:Int) L).2.e≠0→Rd B ⟨r.s,(takeR (x:Int) L).2.e⟩ w4→One B w3 w4 →
   S (takeR (x:Int) L).1=S (textR most r).1∧Rd B (textR most r).2 w4∧One B w w4:=by
   intro L w2 w3 w4 h1 h2 h4 h5 h6 h7
   have:=HT.out
   rw [← h1,if_pos h5] at this
   rw [this]
   exact ⟨rfl,h6,((HM1.out.trans h2).trans h4).trans h7⟩
  have FIN:=Lib.hid fin; clear fin
  have FIN2:=Lib.hid fin2; clear fin2
  have hx1:(x:Int)≤9223372036854775807:=by omega
  by_cases hz1:r1.e≠0
  ·
   have hb1:=ne_b hz1
   have hb1e:=eq_f hz1
   have HL:Hid (r1=longR (decide (most < (x:Int))) r1):=(longR_err _ hz1).symm
   have HW:Hid (One B w1 w1):=Mod.refl _ _
   clear hz1
   have HRL:=HR1
   clear HR1
   go_wp2_with (go_at_call 183; refine (take_any B r1 x (by omega) (by omega) (by omega) _ HRL.out).mono ?_)
   first | rintro e w3 rfl hr3 hm3 | rintro e w3 ⟨rfl,hr3,hm3⟩
   have hc3:=hr3.e_cell
   have HR3:=Lib.hid hr3; clear hr3
   have HM3:=Lib.hid hm3; clear hm3
   clear hf1 he1
   by_cases hz3:(takeR (x:Int) r1).2.e≠0
   ·
    have hb3:=ne_b hz3
    have HZ3:=Lib.hid hz3; clear hz3
    go_wp2_with (go_at_call 184; refine (fails_any B _ _ HR3.out (takeR (x:Int) r1).2.e r.s).mono ?_)
    rintro e w4 ⟨rfl,hr4,hm4⟩
    have H:=Lib.hid (FIN2.out r1 _ _ _ HL.out HW.out HM3.out HZ3.out hr4 hm4)
    clear hr4 hm4
    go_wp2_with fail
    go_ret
    exact ⟨ret_str H.out.1,H.out.2⟩
   ·
    have hz3:(takeR (x:Int) r1).2.e=0:=by omega
    have hb3:=eq_b hz3
    have H:=Lib.hid (FIN.out r1 _ _ HL.out HW.out HR3.out HM3.out hz3)
    clear hz3
    go_wp2_with fail
    go_ret
    exact ⟨ret_str H.out.1,H.out.2⟩
  ·
   have hz10:r1.e=0:=by omega
   have hb1e:=eq_t hz10
   by_cases hm:most < (x:Int)
   ·
    have HL:Hid (longR true r1=longR (decide (most < (x:Int))) r1):=by rw [decide_eq_true hm]; rfl
    have hlen:(longR true r1).s.length≤1152921504606846976:=by have:=longR_len true r1; omega
    have HRL:Hid (Rd B (longR true r1) (w1.setCell ⟨B,1,none⟩ (.int .i64 6))):=longR_set HR1.out hz10
    have HW:Hid (One B w1 (w1.setCell ⟨B,1,none⟩ (.int .i64 6))):=(Mod.refl (fun k=>k=B) w1).setCell (a:=⟨B,1,none⟩) (Or.inl rfl) _
    clear hz10 hz1 HR1
    go_wp2_with (go_at_call 183; refine (take_any B (longR true r1) x (by omega) (by omega) hlen _ HRL.out).mono ?_)
    first | rintro e w3 rfl hr3 hm3 | rintro e w3 ⟨rfl,hr3,hm3⟩
    have hc3:=hr3.e_cell
    have HR3:=Lib.hid hr3; clear hr3
    have HM3:=Lib.hid hm3; clear hm3
    clear hf1 he1
    by_cases hz3:(takeR (x:Int) (longR true r1)).2.e≠0
    ·
     have hb3:=ne_b hz3
     have HZ3:=Lib.hid hz3; clear hz3
     go_wp2_with (go_at_call 184; refine (fails_any B _ _ HR3.out (takeR (x:Int) (longR true r1)).2.e r.s).mono ?_)
     rintro e w4 ⟨rfl,hr4,hm4⟩
     have H:=Lib.hid (FIN2.out (longR true r1) _ _ _ HL.out HW.out HM3.out HZ3.out hr4 hm4)
     clear hr4 hm4
     go_wp2_with fail
     go_ret
     exact ⟨ret_str H.out.1,H.out.2⟩
    ·
     have hz3:(takeR (x:Int) (longR true r1)).2.e=0:=by omega
     have hb3:=eq_b hz3
     have H:=Lib.hid (FIN.out (longR true r1) _ _ HL.out HW.out HR3.out HM3.out hz3)
     clear hz3
     go_wp2_with fail
     go_ret
     exact ⟨ret_str H.out.1,H.out.2⟩
   ·
    have HL:Hid (r1=longR (decide (most < (x:Int))) r1):=by rw [decide_eq_false hm,longR_false]; rfl
    have HW:Hid (One B w1 w1):=Mod.refl _ _
    have hm2:(x:Int)≤most:=by omega
    have HRL:=HR1
    clear hz10 hz1 HR1
    go_wp2_with (go_at_call 183; refine (take_any B r1 x (by omega) (by omega) (by omega) _ HRL.out).mono ?_)
    first | rintro e w3 rfl hr3 hm3 | rintro e w3 ⟨rfl,hr3,hm3⟩
    have hc3:=hr3.e_cell
    have HR3:=Lib.hid hr3; clear hr3
    have HM3:=Lib.hid hm3; clear hm3
    clear hf1 he1
    by_cases hz3:(takeR (x:Int) r1).2.e≠0
    ·
     have hb3:=ne_b hz3
     have HZ3:=Lib.hid hz3; clear hz3
     go_wp2_with (go_at_call 184; refine (fails_any B _ _ HR3.out (takeR (x:Int) r1).2.e r.s).mono ?_)
     rintro e w4 ⟨rfl,hr4,hm4⟩
     have H:=Lib.hid (FIN2.out r1 _ _ _ HL.out HW.out HM3.out HZ3.out hr4 hm4)
     clear hr4 hm4
     go_wp2_with fail
     go_ret
     exact ⟨ret_str H.out.1,H.out.2⟩
    ·
     have hz3:(takeR (x:Int) r1).2.e=0:=by omega
     have hb3:=eq_b hz3
     have H:=Lib.hid (FIN.out r1 _ _ HL.out HW.out HR3.out HM3.out hz3)
     clear hz3
     go_wp2_with fail
     go_ret
     exact ⟨ret_str H.out.1,H.out.2⟩
theorem ownsRow_mod {M:Nat→Prop} {w w':World} {base e sz n:Nat} {v:Value} {xs:List Value} (h:w.ownsRow base e sz v n xs) (hm:Mod M w w') (hM:∀ k,M k→k < base):w'.ownsRow base e sz v n xs:=by
 refine ⟨h.1,?_⟩
 rcases h.2 with hn | ⟨g,cap,cur,hv,hb,hg,rest⟩
 · exact .inl hn
 · exact .inr ⟨g,cap,cur,hv,hb,(hm.block g (Array.getElem?_eq_some_iff.1 hg).1 (fun hk=>by have:=hM g hk; omega)).trans hg,rest⟩
theorem ownsRow_block {w:World} {base e sz n:Nat} {v:Value} {xs:List Value} (h:w.ownsRow base e sz v n xs):∀ g,v.ownBlock=some g→base≤g:=by
 intro g hg
 rcases h.2 with ⟨rfl,_⟩ | ⟨g',cap,cur,rfl,hb,_⟩
 · cases hg
 · cases hg; exact hb
theorem _root_.Go.Proofs.YtnoehodmmkioaaaGreatDoor.Mod.grown {M:Nat→Prop} {u v w:World} {row:Option Nat} (h:Mod M u v) (k:v.grownBy w row) (hr:∀ g,row=some g→u.heap.size≤g):Mod M u w:=by
 refine ⟨k.os.trans h.os,k.tape.trans h.tape,k.output.trans h.output,Nat.le_trans h.size k.size,fun i hi hM=>?_⟩
 rw [k.block i (Nat.lt_of_lt_of_le hi h.size) (fun e=>by have:=hr i e.symm; omega)]
 exact h.block i hi hM
abbrev Texts (base:Nat) (v:Value) (ts:List (List UInt8)) (w:World):Prop:=w.ownsRow base 9 1 v ts.length (ts.map fun l=>.string (S l))
theorem Texts.strs {base:Nat} {v:Value} {ts:List (List UInt8)} {w:World} (h:Texts base v ts w):∃ a cap,v=.slice a ts.length cap∧Strs w a (ts.map S):=by
 obtain ⟨hl,h⟩:=h
 rcases h with ⟨rfl,h0⟩ | ⟨g,cap,cur,rfl,hb,hg,hc1,hc2,hcs,hcur⟩
 · refine ⟨none,0,by rw [h0],fun i hi=>?_⟩
   simp [h0] at hi
 ·
  refine ⟨some ⟨g,0,none⟩,cap,rfl,fun i hi=>⟨g,0,rfl,?_⟩⟩
  unfold World.cell?
  rw [hg]
  have hi':i < ts.length:=by simpa using hi
  have:cur[0+i]?=(cur.toList.take (ts.length * 1))[i]?:=by
   rw [List.getElem?_take,if_pos (by omega)]; simp
  simp only [this,hcur]
  simp [hi']
theorem textsR_succ (most:Int) (k:Nat):∀ r:RS,textsR most (k+1) r=((textsR most k r).1++[(textR most (textsR most k r).2).1],(textR most (textsR most k r).2).2):=by
 induction k with
 | zero=>intro r; rfl
 | succ k ih =>
   intro r
   have h:=ih (textR most r).2
   show ((textR most r).1 :: (textsR most (k+1) (textR most r).2).1,(textsR most (k+1) (textR most r).2).2)=_
   rw [h]; rfl
theorem textsR_length (most:Int) (k:Nat):∀ r:RS,(textsR most k r).1.length=k:=by
 induction k with
 | zero=>intro r; rfl
 | succ k ih=>intro r; simp [textsR,ih]
theorem textR_len (most:Int) (r:RS):(textR most r).2.s.length≤r.s.length:=by
 by_cases h:r.e≠0
 · unfold textR; rw [if_pos h]; exact Nat.le_refl _
 ·
  rw [textR_eq most r h]
  split
  · exact Nat.le_refl _
  · exact Nat.le_trans (takeR_len _ _) (Nat.le_trans (longR_len _ _) (numR_len _ _))
theorem textsR_len (most:Int) (k:Nat):∀ r:RS,(textsR most k r).2.s.length≤r.s.length:=by
 induction k with
 | zero=>intro r; exact Nat.le_refl _
 | succ k ih=>intro r; exact Nat.le_trans (ih _) (textR_len most r)
theorem listR_eq (many most:Int) (r:RS) (h:¬ r.e≠0):listR many most r=(if (textsR most (numR 1 r).1 (longR (decide (many < ((numR 1 r).1:Int))) (numR 1 r).2)).2.e≠0
 then ([],⟨r.s,(textsR most (numR 1 r).1 (longR (decide (many < ((numR 1 r).1:Int))) (numR 1 r).2)).2.e⟩)
 else textsR most (numR 1 r).1 (longR (decide (many < ((numR 1 r).1:Int))) (numR 1 r).2)):=by
 unfold listR; rw [if_neg h]
theorem list_any (B:Nat) (r:RS) (many most:Int) (hn0 : -9223372036854775808≤most) (hn1:most≤9223372036854775807) (hm0 : -9223372036854775808≤many) (hm1:many≤9223372036854775807) (hl:r.s.length≤1152921504606846976) (w:World) (h:Rd B r w) :
 Calls Tryz.prog 223 #[.pointer (some ⟨B,0,none⟩),.int .i64 many,.int .i64 most] w fun e w'=>∃ v,e=.returned v∧Texts w.heap.size v (listR many most r).1 w'∧Rd B (listR many most r).2 w'∧One B w w':=by
 obtain ⟨i0,hi0,hz0,hz1,hz2⟩:=info_parts (show (Tryz.prog.info? 9).map (fun i=>(i.zero,i.size,i.bytes))=some (some (.string ⟨#[]⟩),1,16) by kernel_rfl)
 have HR:=Lib.hid h
 have hsc:=h.s_cell
 have HBL:Hid (B < w.heap.size):=h.lt
 clear h
 go_enter Tryz.func223,Tryz.ntmps223
 go_wp2_with (go_at_call 179; refine (err_any B r _ HR.out).mono ?_)
 rintro e w' ⟨rfl,rfl⟩
 by_cases hz:r.e≠0
 ·
  have hb:=ne_b hz
  have HZ:=Lib.hid hz; clear hz
  have HT:Hid (listR many most r=([],r)):=by unfold listR; rw [if_pos HZ.out]; rfl
  go_wp2_with fail
  go_ret
  rw [HT.out]
  exact ⟨_,rfl,⟨rfl,.inl ⟨rfl,rfl⟩⟩,HR.out,Mod.refl _ _⟩
 ·
  have hb:=eq_b (show r.e=0 by omega)
  have HT:=Lib.hid (listR_eq many most r hz)
  clear hz
  go_wp2_with (go_at_call 119; refine (num_any B r 1 (by omega) (by omega) hl _ HR.out).mono ?_)
  rintro e w1 ⟨rfl,hr1,hm1⟩
  have hx:(numR 1 r).1 < 256:=numR_lt 1 r
  have hl2:(numR 1 r).2.s.length≤r.s.length:=numR_len 1 r
  generalize numR 1 r=nr at *
  obtain ⟨x,r1⟩:=nr
  simp only at *
  have he1:=hr1.e_cell
  have hf1:=hr1.e_free
  have HM1:=Lib.hid hm1; clear hm1
  have HR1:=Lib.hid hr1; clear hr1
  have fin:∀ (L:RS) (v:Value) (w3:World),L=longR (decide (many < (x:Int))) r1→Texts w.heap.size v (textsR most x L).1 w3→Rd B (textsR most x L).2 w3→One B w w3→(textsR most x L).2.e=0 →
   Texts w.heap.size v (listR many most r).1 w3∧Rd B (listR many most r).2 w3∧One B w w3:=by
   intro L v w3 h1 h2 h3 h4 h5
   have:=HT.out
   rw [← h1,if_neg (by rw [h5]; simp)] at this
   rw [this]
   exact ⟨h2,h3,h4⟩
  have fin2:∀ (L:RS) (w4:World),L=longR (decide (many < (x:Int))) r1→(textsR most x L).2.e≠0→Rd B ⟨r.s,(textsR most x L).2.e⟩ w4→One B w w4 →
   Texts w.heap.size (.slice none 0 0) (listR many most r).1 w4∧Rd B (listR many most r).2 w4∧One B w w4:=by
   intro L w4 h1 h5 h6 h7
   have:=HT.out
   rw [← h1,if_pos h5] at this
   rw [this]
   exact ⟨⟨rfl,.inl ⟨rfl,rfl⟩⟩,h6,h7⟩
  have FIN:=Lib.hid fin; clear fin
  have FIN2:=Lib.hid fin2; clear fin2
  by_cases hz1:r1.e≠0
  ·
   have hb1:=ne_b hz1
   have hb1e:=eq_f hz1
   have HL:Hid (r1=longR (decide (many < (x:Int))) r1):=(longR_err _ hz1).symm
   have HW:Hid (One B w1 w1):=Mod.refl _ _
   clear hz1
   have HRL:=HR1
   clear HR1
   have hll:r1.s.length≤1152921504606846976:=by have:=longR_len true r1; omega
   have HWW:Hid (One B w w1):=HM1.out.trans HW.out
   go_wp2_with fail
   clear hf1 he1
   go_loopw [9,33] (fun v i wr=>∃ k:Nat,k≤x∧i=.int .i64 k∧Hid (Texts w.heap.size v (textsR most k r1).1 wr)∧Hid (Rd B (textsR most k r1).2 wr)∧Hid (One B w wr)) (fun _ i _=>x - (intOf i).toNat)
   case atStart=>exact ⟨0,by omega,rfl,⟨rfl,.inl ⟨rfl,rfl⟩⟩,HRL.out,HWW.out⟩
   case round =>
    clear HRL HWW HW
    obtain ⟨k,hk,rfl,HTX,HRD,HW⟩:=hrel
    have hkl:=textsR_len most k r1
    by_cases hlt:k < x
    ·
     go_wp2_with (go_at_call 120; refine (text_any B _ most hn0 hn1 (by omega) _ HRD.out).mono ?_)
     rintro e w3 ⟨rfl,hr3,hm3⟩
     have hso:=textsR_succ most k r1
     have hsl:=textsR_length most k r1
     have HTX3:Hid (w3.ownsRow w.heap.size 9 1 u9 k ((textsR most k r1).1.map fun l=>.string (S l))):=by
      have:=ownsRow_mod HTX.out hm3 (fun g hg=>by rw [hg]; exact HBL.out)
      rw [hsl] at this; exact this
     have HW3:Hid (One B w w3):=HW.out.trans hm3
     clear HTX HW hm3
     generalize textR most (textsR most k r1).2=tx at *
     have HSO:=Lib.hid hso; clear hso
     have HR3:=Lib.hid hr3; clear hr3
     go_wp2_with (at_builtin; refine wpList_append_own _ rfl (.tmp 35) (.tmp 39) 31 rfl w.heap.size 9 i0 (.string ⟨#[]⟩) 1 16 Tryz.underlying31 hi0 hz0 hz1 hz2 rfl (by decide) _ k ((textsR most k r1).1.map fun l=>.string (S l)) rfl (HTX3.out.alloc _) ⟨w3.heap.size,0,none⟩ 1 1 [.string (S tx.1)] rfl rfl ?c1 ?c2 ?c3 ?c4 ?c5 ?_)
     case c1=>exact cell_one_new _ _ _
     case c2=>intro u hu; simp at hu; subst hu; rfl
     case c3=>unfold maxLen; omega
     case c4=>omega
     case c5=>have:=HW3.out.size; simp; omega
     intro v' w4 hown' hgrow _
     have HO4:Hid (Texts w.heap.size v' (textsR most (k+1) r1).1 w4):=by
      show w4.ownsRow _ _ _ _ (textsR most (k+1) r1).1.length _
      rw [textsR_length,HSO.out,List.map_append]; exact hown'
     have hrow:∀ g,u9.ownBlock=some g→w.heap.size≤g:=ownsRow_block HTX3.out
     have HW4:Hid (One B w w4):=(HW3.out.alloc _).grown hgrow hrow
     have HR4:Hid (Rd B (textsR most (k+1) r1).2 w4):=by
      have h1:Rd B tx.2 (w3.alloc (.cells #[.string (S tx.1)] 9)):=HR3.out.mod ((Mod.refl (fun _=>False) w3).alloc _) (fun x=>x)
      have h2:=(hgrow.block B h1.lt (fun e=>by have:=hrow B e.symm; have:=HBL.out; omega)).trans h1
      rw [HSO.out]; exact h2
     clear hown' hgrow HTX3 HW3 HR3 hrow
     go_wp2_with fail
     go_roundw
     case rel=>exact ⟨k+1,by omega,by go_num,HO4.out,HR4.out,HW4.out⟩
     case measure=>simp [intOf]; omega
    ·
     have ek:k=x:=by omega
     subst ek
     have hc3:=HRD.out.e_cell
     by_cases hz3:(textsR most k r1).2.e≠0
     ·
      have hb3:=ne_b hz3
      have HZ3:=Lib.hid hz3; clear hz3
      go_wp2_with (go_at_call 184; refine (fails_any B _ _ HRD.out (textsR most k r1).2.e r.s).mono ?_)
      rintro e w4 ⟨rfl,hr4,hm4⟩
      have H:=Lib.hid (FIN2.out r1 _ HL.out HZ3.out hr4 (HW.out.trans hm4))
      clear hr4 hm4
      go_wp2_with fail
      go_ret
      exact ⟨_,rfl,H.out⟩
     · have hz3:(textsR most k r1).2.e=0:=by omega
       have hb3:=eq_b hz3
       have H:=Lib.hid (FIN.out r1 _ _ HL.out HTX.out HRD.out HW.out hz3)
       clear hz3
       go_wp2_with fail
       go_ret
       exact ⟨_,rfl,H.out⟩
  ·
   have hz10:r1.e=0:=by omega
   have hb1e:=eq_t hz10
   by_cases hm:many < (x:Int)
   ·
    have HL:Hid (longR true r1=longR (decide (many < (x:Int))) r1):=by rw [decide_eq_true hm]; rfl
    have HRL:Hid (Rd B (longR true r1) (w1.setCell ⟨B,1,none⟩ (.int .i64 6))):=longR_set HR1.out hz10
    have HW:Hid (One B w1 (w1.setCell ⟨B,1,none⟩ (.int .i64 6))):=(Mod.refl (fun k=>k=B) w1).setCell (a:=⟨B,1,none⟩) (Or.inl rfl) _
    clear hz10 hz1 HR1
    have hll:(longR true r1).s.length≤1152921504606846976:=by have:=longR_len true r1; omega
    have HWW:Hid (One B w (w1.setCell ⟨B,1,none⟩ (.int .i64 6))):=HM1.out.trans HW.out
    go_wp2_with fail
    clear hf1 he1
    go_loopw [9,33] (fun v i wr=>∃ k:Nat,k≤x∧i=.int .i64 k∧Hid (Texts w.heap.size v (textsR most k (longR true r1)).1 wr)∧Hid (Rd B (textsR most k (longR true r1)).2 wr)∧Hid (One B w wr)) (fun _ i _=>x - (intOf i).toNat)
    case atStart=>exact ⟨0,by omega,rfl,⟨rfl,.inl ⟨rfl,rfl⟩⟩,HRL.out,HWW.out⟩
    case round =>
     clear HRL HWW HW
     obtain ⟨k,hk,rfl,HTX,HRD,HW⟩:=hrel
     have hkl:=textsR_len most k (longR true r1)
     by_cases hlt:k < x
     ·
      go_wp2_with (go_at_call 120; refine (text_any B _ most hn0 hn1 (by omega) _ HRD.out).mono ?_)
      rintro e w3 ⟨rfl,hr3,hm3⟩
      have hso:=textsR_succ most k (longR true r1)
      have hsl:=textsR_length most k (longR true r1)
      have HTX3:Hid (w3.ownsRow w.heap.size 9 1 u9 k ((textsR most k (longR true r1)).1.map fun l=>.string (S l))):=by
       have:=ownsRow_mod HTX.out hm3 (fun g hg=>by rw [hg]; exact HBL.out)
       rw [hsl] at this; exact this
      have HW3:Hid (One B w w3):=HW.out.trans hm3
      clear HTX HW hm3
      generalize textR most (textsR most k (longR true r1)).2=tx at *
      have HSO:=Lib.hid hso; clear hso
      have HR3:=Lib.hid hr3; clear hr3
      go_wp2_with (at_builtin; refine wpList_append_own _ rfl (.tmp 35) (.tmp 39) 31 rfl w.heap.size 9 i0 (.string ⟨#[]⟩) 1 16 Tryz.underlying31 hi0 hz0 hz1 hz2 rfl (by decide) _ k ((textsR most k (longR true r1)).1.map fun l=>.string (S l)) rfl (HTX3.out.alloc _) ⟨w3.heap.size,0,none⟩ 1 1 [.string (S tx.1)] rfl rfl ?c1 ?c2 ?c3 ?c4 ?c5 ?_)
      case c1=>exact cell_one_new _ _ _
      case c2=>intro u hu; simp at hu; subst hu; rfl
      case c3=>unfold maxLen; omega
      case c4=>omega
      case c5=>have:=HW3.out.size; simp; omega
      intro v' w4 hown' hgrow _
      have HO4:Hid (Texts w.heap.size v' (textsR most (k+1) (longR true r1)).1 w4):=by
       show w4.ownsRow _ _ _ _ (textsR most (k+1) (longR true r1)).1.length _
       rw [textsR_length,HSO.out,List.map_append]; exact hown'
      have hrow:∀ g,u9.ownBlock=some g→w.heap.size≤g:=ownsRow_block HTX3.out
      have HW4:Hid (One B w w4):=(HW3.out.alloc _).grown hgrow hrow
      have HR4:Hid (Rd B (textsR most (k+1) (longR true r1)).2 w4):=by
       have h1:Rd B tx.2 (w3.alloc (.cells #[.string (S tx.1)] 9)):=HR3.out.mod ((Mod.refl (fun _=>False) w3).alloc _) (fun x=>x)
       have h2:=(hgrow.block B h1.lt (fun e=>by have:=hrow B e.symm; have:=HBL.out; omega)).trans h1
       rw [HSO.out]; exact h2
      clear hown' hgrow HTX3 HW3 HR3 hrow
      go_wp2_with fail
      go_roundw
      case rel=>exact ⟨k+1,by omega,by go_num,HO4.out,HR4.out,HW4.out⟩
      case measure=>simp [intOf]; omega
     ·
      have ek:k=x:=by omega
      subst ek
      have hc3:=HRD.out.e_cell
      by_cases hz3:(textsR most k (longR true r1)).2.e≠0
      ·
       have hb3:=ne_b hz3
       have HZ3:=Lib.hid hz3; clear hz3
       go_wp2_with (go_at_call 184; refine (fails_any B _ _ HRD.out (textsR most k (longR true r1)).2.e r.s).mono ?_)
       rintro e w4 ⟨rfl,hr4,hm4⟩
       have H:=Lib.hid (FIN2.out (longR true r1) _ HL.out HZ3.out hr4 (HW.out.trans hm4))
       clear hr4 hm4
       go_wp2_with fail
       go_ret
       exact ⟨_,rfl,H.out⟩
      · have hz3:(textsR most k (longR true r1)).2.e=0:=by omega
        have hb3:=eq_b hz3
        have H:=Lib.hid (FIN.out (longR true r1) _ _ HL.out HTX.out HRD.out HW.out hz3)
        clear hz3
        go_wp2_with fail
        go_ret
        exact ⟨_,rfl,H.out⟩
   ·
    have HL:Hid (r1=longR (decide (many < (x:Int))) r1):=by rw [decide_eq_false hm,longR_false]; rfl
    have HW:Hid (One B w1 w1):=Mod.refl _ _
    have hm2:(x:Int)≤many:=by omega
    have HRL:=HR1
    clear hz10 hz1 HR1
    have hll:r1.s.length≤1152921504606846976:=by have:=longR_len true r1; omega
    have HWW:Hid (One B w w1):=HM1.out.trans HW.out
    go_wp2_with fail
    clear hf1 he1
    go_loopw [9,33] (fun v i wr=>∃ k:Nat,k≤x∧i=.int .i64 k∧Hid (Texts w.heap.size v (textsR most k r1).1 wr)∧Hid (Rd B (textsR most k r1).2 wr)∧Hid (One B w wr)) (fun _ i _=>x - (intOf i).toNat)
    case atStart=>exact ⟨0,by omega,rfl,⟨rfl,.inl ⟨rfl,rfl⟩⟩,HRL.out,HWW.out⟩
    case round =>
     clear HRL HWW HW
     obtain ⟨k,hk,rfl,HTX,HRD,HW⟩:=hrel
     have hkl:=textsR_len most k r1
     by_cases hlt:k < x
     ·
      go_wp2_with (go_at_call 120; refine (text_any B _ most hn0 hn1 (by omega) _ HRD.out).mono ?_)
      rintro e w3 ⟨rfl,hr3,hm3⟩
      have hso:=textsR_succ most k r1
      have hsl:=textsR_length most k r1
      have HTX3:Hid (w3.ownsRow w.heap.size 9 1 u9 k ((textsR most k r1).1.map fun l=>.string (S l))):=by
       have:=ownsRow_mod HTX.out hm3 (fun g hg=>by rw [hg]; exact HBL.out)
       rw [hsl] at this; exact this
      have HW3:Hid (One B w w3):=HW.out.trans hm3
      clear HTX HW hm3
      generalize textR most (textsR most k r1).2=tx at *
      have HSO:=Lib.hid hso; clear hso
      have HR3:=Lib.hid hr3; clear hr3
      go_wp2_with (at_builtin; refine wpList_append_own _ rfl (.tmp 35) (.tmp 39) 31 rfl w.heap.size 9 i0 (.string ⟨#[]⟩) 1 16 Tryz.underlying31 hi0 hz0 hz1 hz2 rfl (by decide) _ k ((textsR most k r1).1.map fun l=>.string (S l)) rfl (HTX3.out.alloc _) ⟨w3.heap.size,0,none⟩ 1 1 [.string (S tx.1)] rfl rfl ?c1 ?c2 ?c3 ?c4 ?c5 ?_)
      case c1=>exact cell_one_new _ _ _
      case c2=>intro u hu; simp at hu; subst hu; rfl
      case c3=>unfold maxLen; omega
      case c4=>omega
      case c5=>have:=HW3.out.size; simp; omega
      intro v' w4 hown' hgrow _
      have HO4:Hid (Texts w.heap.size v' (textsR most (k+1) r1).1 w4):=by
       show w4.ownsRow _ _ _ _ (textsR most (k+1) r1).1.length _
       rw [textsR_length,HSO.out,List.map_append]; exact hown'
      have hrow:∀ g,u9.ownBlock=some g→w.heap.size≤g:=ownsRow_block HTX3.out
      have HW4:Hid (One B w w4):=(HW3.out.alloc _).grown hgrow hrow
      have HR4:Hid (Rd B (textsR most (k+1) r1).2 w4):=by
       have h1:Rd B tx.2 (w3.alloc (.cells #[.string (S tx.1)] 9)):=HR3.out.mod ((Mod.refl (fun _=>False) w3).alloc _) (fun x=>x)
       have h2:=(hgrow.block B h1.lt (fun e=>by have:=hrow B e.symm; have:=HBL.out; omega)).trans h1
       rw [HSO.out]; exact h2
      clear hown' hgrow HTX3 HW3 HR3 hrow
      go_wp2_with fail
      go_roundw
      case rel=>exact ⟨k+1,by omega,by go_num,HO4.out,HR4.out,HW4.out⟩
      case measure=>simp [intOf]; omega
     ·
      have ek:k=x:=by omega
      subst ek
      have hc3:=HRD.out.e_cell
      by_cases hz3:(textsR most k r1).2.e≠0
      ·
       have hb3:=ne_b hz3
       have HZ3:=Lib.hid hz3; clear hz3
       go_wp2_with (go_at_call 184; refine (fails_any B _ _ HRD.out (textsR most k r1).2.e r.s).mono ?_)
       rintro e w4 ⟨rfl,hr4,hm4⟩
       have H:=Lib.hid (FIN2.out r1 _ HL.out HZ3.out hr4 (HW.out.trans hm4))
       clear hr4 hm4
       go_wp2_with fail
       go_ret
       exact ⟨_,rfl,H.out⟩
      · have hz3:(textsR most k r1).2.e=0:=by omega
        have hb3:=eq_b hz3
        have H:=Lib.hid (FIN.out r1 _ _ HL.out HTX.out HRD.out HW.out hz3)
        clear hz3
        go_wp2_with fail
        go_ret
        exact ⟨_,rfl,H.out⟩
end Go.Proofs.YtnoehodmmkioaaaGreatDoor.OctW
namespace Go.Proofs.YtnoehodmmkioaaaGreatDoor.Bld
open Go.Shelf Go.RowKit
def ren:Go.Shelf.Ren:=⟨fun | 169=>159 | n=>n,fun | 70=>257 | 9=>9 | 0=>0 | 72=>259 | 37=>218 | 127=>303 | 3=>3 | 5=>5 | n=>n,fun | n=>n⟩
theorem lays:Go.Proofs.Lays.n169 Tryz.prog ren:={
 mixed:=by kernel_rfl
 f169:=Tryz.func159.trans (congrArg some (by kernel_rfl))
 t0:=Tryz.underlying0
 a0:=Tryz.isAgg0
 z0:=Tryz.sizeOf0
 v0:=Tryz.zeroValue0
 t3:=Tryz.underlying3
 a3:=Tryz.isAgg3
 z3:=Tryz.sizeOf3
 v3:=Tryz.zeroValue3
 t9:=Tryz.underlying9
 a9:=Tryz.isAgg9
 z9:=Tryz.sizeOf9
 v9:=Tryz.zeroValue9
 t37:=Tryz.underlying218
 a37:=Tryz.isAgg218
 z37:=Tryz.sizeOf218
 v37:=Tryz.zeroValue218
 t70:=Tryz.underlying257
 a70:=Tryz.isAgg257
 z70:=Tryz.sizeOf257
 v70:=Tryz.zeroValue257
 t72:=Tryz.underlying259
 a72:=Tryz.isAgg259
 z72:=Tryz.sizeOf259
 v72:=Tryz.zeroValue259
 t127:=Tryz.underlying303
 a127:=Tryz.isAgg303
 z127:=Tryz.sizeOf303
 v127:=Tryz.zeroValue303 }
theorem extra:Builder.Extra Tryz.prog ren:={
 sizeBuilder:=by kernel_rfl
 liesBuilder:=by kernel_rfl
 t5:=Tryz.underlying5
 a5:=Tryz.isAgg5
 z5:=Tryz.sizeOf5
 v5:=Tryz.zeroValue5
 infoByte:=by kernel_rfl
 cellsByte:=by kernel_rfl
 sizeByte:=by kernel_rfl
 neB5:=by decide }
theorem string_any (B b:Nat) (l:List UInt8) (w:World) (h:Lib.IsBuilder 259 5 B b (Lib.byteCells l) w) (hBw:B≤w.heap.size) :
 Calls Tryz.prog 159 #[.pointer (some ⟨b,0,none⟩)] w fun e w'=>e=.returned (.string ⟨l.toArray⟩)∧Below B w w':=Any.Builder_String_any lays extra B b l w h hBw
theorem size_builder:(Tryz.prog.info? 259).map (·.size)=some 2:=by kernel_rfl
theorem lies_builder:liesAt Tryz.prog Tryz.prog.depth 259 (2 / Tryz.prog.cellsOf 259) 0 259 1=true:=by kernel_rfl
theorem info_byte:(Tryz.prog.info? 5).map (fun i=>(i.zero,i.size,i.bytes))=some (some (.int .u8 0),1,1):=by kernel_rfl
theorem copyCheck_used (b:Nat) (w:World) (h0:w.cell? ⟨b,0,none⟩=some (.pointer (some ⟨b,0,none⟩))) :
 Calls Tryz.prog 206 #[.pointer (some ⟨b,0,none⟩)] w fun e w'=>e=.returned (.tuple #[])∧w'=w:=by
 obtain ⟨j,hj,_⟩:=Option.map_eq_some_iff.1 size_builder
 go_enter Tryz.func206,Tryz.ntmps206
 go_wp2
 rw [Lib.run_neq_ptr_same w _ Tryz.underlying257 hj]
 go_wp2
 go_end0
 exact ⟨rfl,rfl⟩
theorem copyCheck_fresh (b:Nat) (w:World) (h0:w.cell? ⟨b,0,none⟩=some (.pointer none)) (hsh:w.shape? b=some (259,2)) (hfz:w.frozen? ⟨b,0,none⟩=false) :
 Calls Tryz.prog 206 #[.pointer (some ⟨b,0,none⟩)] w fun e w'=>e=.returned (.tuple #[])∧w'=w.setCell ⟨b,0,none⟩ (.pointer (some ⟨b,0,none⟩)):=by
 obtain ⟨j,hj,hjs⟩:=Option.map_eq_some_iff.1 size_builder
 go_enter Tryz.func206,Tryz.ntmps206
 go_wp2
 rw [Lib.run_to_unsafe w ⟨b,0,none⟩ Tryz.underlying257 Tryz.underlying321 hj (by rw [hjs]; decide) hsh (Nat.zero_lt_succ 1)]
 simp only [Result.andThen]
 rw [Oper.upon_value]
 go_wp2
 rw [run_callFunc_extern Tryz.func229 (by kernel_rfl) (by kernel_rfl) (by kernel_rfl) (e:=Extern.AbiNoEscape.same) (by kernel_rfl)]
 rw [Lib.run_noEscape]
 simp only [Result.andThen]
 rw [Oper.upon_value]
 go_wp2
 rw [Lib.run_from_unsafe w ⟨b,0,none⟩ Tryz.underlying321 Tryz.underlying257 hj hsh lies_builder]
 simp only [Result.andThen]
 rw [Oper.upon_value]
 go_wp2
 go_end0
 exact ⟨rfl,rfl⟩
theorem copyCheck_any (B b:Nat) (bs:List Value) (w:World) (h:Lib.IsBuilder 259 5 B b bs w) :
 Calls Tryz.prog 206 #[.pointer (some ⟨b,0,none⟩)] w fun e w'=>e=.returned (.tuple #[])∧(Lib.BuilderAt 259 5 B b (.pointer (some ⟨b,0,none⟩)) bs w'∧Below B w w'):=by
 rcases h with h | h
 · refine (copyCheck_fresh b w h.cell0 h.shape h.frozen0).mono ?_
   rintro e w' ⟨rfl,rfl⟩
   exact ⟨rfl,h.used _,(Below.refl B w).setCell (p:=⟨b,0,none⟩) h.1 _⟩
 · refine (copyCheck_used b w h.cell0).mono ?_
   rintro e w' ⟨rfl,rfl⟩
   exact ⟨rfl,h,Below.refl B _⟩
theorem writeString_any (B b:Nat) (bs:List Value) (s:ByteArray) (w:World) (h:Lib.IsBuilder 259 5 B b bs w) (hlen:bs.length+s.size≤140737488355328) (hBw:B≤w.heap.size) :
 Calls Tryz.prog 157 #[.pointer (some ⟨b,0,none⟩),.string s] w fun e w'=>e=.returned (.tuple #[.int .i64 s.size,.nilIface])∧(Lib.BuilderAt 259 5 B b (.pointer (some ⟨b,0,none⟩)) (bs++Lib.strCells s) w'∧Below B w w'):=by
 obtain ⟨i0,hi,hz0,hz1,hz2⟩:=info_parts info_byte
 go_enter Tryz.func157,Tryz.ntmps157
 go_wp2_with (go_at_call 206; refine (copyCheck_any B b bs _ h).mono ?_)
 rintro e w1 ⟨rfl,h1,hb1⟩
 obtain ⟨hB,v,hbk,hown,hne⟩:=h1
 have c0:w1.cell? ⟨b,0,none⟩=some (.pointer (some ⟨b,0,none⟩)):=by rw [Lib.cell_of_heap hbk]; rfl
 have c1:w1.cell? ⟨b,1,none⟩=some v:=by rw [Lib.cell_of_heap hbk]; rfl
 go_wp2_with (at_builtin; go_must (refine Lib.wpList_append_own_string _ rfl _ _ 218 9 rfl B 5 i0 Tryz.underlying218 Tryz.underlying9 hi hz0 hz1 hz2 _ _ _ rfl hown s rfl ?c3 ?c4 ?c5 ?_))
 case c3=>unfold maxLen; omega
 case c4=>omega
 case c5=>have:=hb1.size; omega
 intro v' w2 hown' hgrow _
 have hlt:b < w1.heap.size:=by
  rcases Nat.lt_or_ge b w1.heap.size with h' | h'
  · exact h'
  · simp [Array.getElem?_eq_none h'] at hbk
 have hb2:w2.heap[b]?=some (.cells #[.pointer (some ⟨b,0,none⟩),v] 259 (0,0)):=by
  rw [hgrow.block b hlt (fun e=>hne e.symm)]
  exact hbk
 have d0:w2.cell? ⟨b,0,none⟩=some (.pointer (some ⟨b,0,none⟩)):=by rw [Lib.cell_of_heap hb2]; rfl
 have d1:w2.cell? ⟨b,1,none⟩=some v:=by rw [Lib.cell_of_heap hb2]; rfl
 have f1:w2.frozen? ⟨b,1,none⟩=false:=Lib.frozen_of_heap hb2 1
 obtain ⟨ao,n',cap,rfl⟩:∃ ao n' cap,v'=.slice ao n' cap:=by
  rcases hown'.2 with ⟨hv,_⟩ | ⟨g,cap,cur,hv,_⟩
  · exact ⟨_,_,_,hv⟩
  · exact ⟨_,_,_,hv⟩
 go_wp2
 go_ret2
 refine ⟨rfl,?_,?_⟩
 · exact Lib.BuilderAt.put (T:=259) (e:=5) hB hb2 (bs':=bs++Lib.strCells s) (by simpa [Lib.strCells_length] using hown') (by decide)
 · exact (hb1.grown hgrow (by have:=hb1.size; omega) (fun k hk=>(hown.lt k hk).1)).setCell (p:=⟨b,1,none⟩) hB _
end Go.Proofs.YtnoehodmmkioaaaGreatDoor.Bld
namespace Go.Proofs.YtnoehodmmkioaaaGreatDoor.OctW
open Go.RowKit OctMath
abbrev Bl (B b:Nat) (l:List UInt8) (w:World):Prop:=Lib.IsBuilder 259 5 B b (Lib.byteCells l) w
theorem BuilderAt_mod {M:Nat→Prop} {T e B b:Nat} {p:Value} {bs:List Value} {w w':World} (h:Lib.BuilderAt T e B b p bs w) (hm:Mod M w w') (hM:∀ k,M k→k < B):Lib.BuilderAt T e B b p bs w':=by
 obtain ⟨hB,v,hb,hown,hne⟩:=h
 have hlt:=(Array.getElem?_eq_some_iff.1 hb).1
 exact ⟨hB,v,(hm.block b hlt (fun h=>by have:=hM b h; omega)).trans hb,ownsRow_mod hown hm hM,hne⟩
theorem Bl.mod {M:Nat→Prop} {B b:Nat} {l:List UInt8} {w w':World} (h:Bl B b l w) (hm:Mod M w w') (hM:∀ k,M k→k < B):Bl B b l w':=by
 rcases h with h | h
 · exact .inl (BuilderAt_mod h hm hM)
 · exact .inr (BuilderAt_mod h hm hM)
theorem Bl.below {B b:Nat} {l:List UInt8} {w w':World} (h:Bl B b l w) (hm:Below w.heap.size w w'):Bl B b l w':=h.mod (M:=fun _=>False) (Mod.of_below hm) (fun _ x=>x.elim)
def Ints (w:World) (a:Option Addr) (xs:List Int):Prop:=∀ i (h:i < xs.length),∃ b off,a=some ⟨b,off,none⟩∧w.cell? ⟨b,off+i,none⟩=some (.int .i64 xs[i])
theorem Ints.below {w w':World} {a:Option Addr} {xs:List Int} (h:Ints w a xs) (hb:Below w.heap.size w w'):Ints w' a xs:=by
 intro i hi
 obtain ⟨b,off,rfl,hc⟩:=h i hi
 exact ⟨b,off,rfl,by rw [hb.cell (cell_lt hc)]; exact hc⟩
def numsL (n:Nat) (xs:List Int):List UInt8:=xs.flatMap fun x=>be n x.toNat
def fits (n:Nat) (x:Int):Prop:=0≤x∧x < (256 ^ n:Nat)
instance (n:Nat) (x:Int):Decidable (fits n x):=by unfold fits; infer_instance
def numsW (n:Int) (xs:List Int):List UInt8×Nat:=if n < 1∨7 < n then ([],1) else if ∀ x∈xs,fits n.toNat x then (numsL n.toNat xs,0) else ([],2)
theorem numsL_take (n:Nat) (xs:List Int) (k:Nat) (h:k < xs.length):numsL n (xs.take (k+1))=numsL n (xs.take k)++be n xs[k].toNat:=by
 unfold numsL; rw [List.take_succ_eq_append_getElem h,List.flatMap_append]; simp
theorem numsL_length (n:Nat) (xs:List Int):(numsL n xs).length=xs.length * n:=by
 unfold numsL; induction xs with
 | nil=>simp
 | cons x xs ih=>simp [be_length,ih,Nat.succ_mul]; omega
theorem shr_b (z m:Nat):((z:Int) / 2 ^ (8 * m) != 0)=decide (256 ^ m≤z):=by
 have h:((z:Int) / 2 ^ (8 * m))=((z / 256 ^ m:Nat):Int):=by
  rw [Int.natCast_ediv,show ((256 ^ m:Nat):Int)=2 ^ (8 * m) from by rw [Int.natCast_pow,Int.pow_mul]; rfl]
 have hp:0 < 256 ^ m:=Nat.pow_pos (by omega)
 rw [h]
 by_cases hz:256 ^ m≤z
 ·
  have:=Nat.div_pos hz hp
  rw [decide_eq_true hz]
  generalize z / 256 ^ m=q at *
  exact bne_iff_ne.2 (by omega)
 · rw [decide_eq_false hz,Nat.div_eq_of_lt (by omega)]; rfl
theorem nums_any (n:Int) (hn0 : -9223372036854775808≤n) (hn1:n≤9223372036854775807) (a:Option Addr) (cap:Nat) (xs:List Int) (hx:xs.length≤1048576) (hr:∀ x∈xs,-9223372036854775808≤x∧x≤9223372036854775807) (W:World) (h:Ints W a xs) :
 Calls Tryz.prog 94 #[.int .i64 n,.slice a xs.length cap] W fun e w'=>e=.returned (.tuple #[.string (S (numsW n xs).1),.int .i64 ((numsW n xs).2:Int)])∧Below W.heap.size W w':=by
 have HI:=Lib.hid h; clear h
 have HRG:=Lib.hid hr; clear hr
 by_cases hw:n < 1∨7 < n
 ·
  have HT:Hid (numsW n xs=([],1)):=by unfold numsW; rw [if_pos hw]; rfl
  go_enter Tryz.func94,Tryz.ntmps94
  rcases hw with hw | hw
  · go_wp2_with fail
    go_ret2
    rw [HT.out]
    exact ⟨rfl,Below.refl _ _⟩
  ·
   have hw1:1≤n:=by omega
   go_wp2_with fail
   go_ret2
   rw [HT.out]
   exact ⟨rfl,Below.refl _ _⟩
 ·
  obtain ⟨m,rfl⟩:∃ m:Nat,n=m:=⟨n.toNat,by omega⟩
  have hm1:1≤m:=by omega
  have hm7:m≤7:=by omega
  have HT:Hid (numsW (m:Int) xs=if ∀ x∈xs,fits m x then (numsL m xs,0) else ([],2)):=by unfold numsW; rw [if_neg hw]; rfl
  clear hw
  have HF:Hid (Bl W.heap.size W.heap.size [] (W.alloc (.cells #[.pointer none,.slice none 0 0] 259))):=Lib.fresh_isBuilder _ _ W
  have HB:Hid (Below W.heap.size W (W.alloc (.cells #[.pointer none,.slice none 0 0] 259))):=(Below.refl _ W).alloc (Nat.le_refl _) _
  go_enter Tryz.func94,Tryz.ntmps94
  go_wp2_with fail
  go_loopw [17] (fun i wr=>∃ k:Nat,k≤xs.length∧i=.int .i64 k∧Hid (Bl W.heap.size W.heap.size (numsL m (xs.take k)) wr)∧Hid (Below W.heap.size W wr)∧Hid (∀ x∈xs.take k,fits m x)) (fun i _=>xs.length - (intOf i).toNat)
  case atStart=>exact ⟨0,by omega,rfl,HF,HB,by simp [Hid]⟩
  case round =>
   clear HF HB
   obtain ⟨k,hk,rfl,HF,HB,HA⟩:=hrel
   by_cases hlt:k < xs.length
   ·
    obtain ⟨b,off,rfl,hc⟩:=HI.out k hlt
    rw [← HB.out.cell (cell_lt hc)] at hc
    have hrg:=HRG.out xs[k] (by simp)
    have hnl:=numsL_take m xs k hlt
    have htk:∀ x,x∈xs.take (k+1)↔x∈xs.take k∨x=xs[k]:=by intro y; rw [List.take_succ_eq_append_getElem hlt,List.mem_append,List.mem_singleton]
    have hmem:xs[k]∈xs:=by simp
    generalize xs[k]=x at *
    have HNL:=Lib.hid hnl; clear hnl
    have HTK:=Lib.hid htk; clear htk
    have HMEM:=Lib.hid hmem; clear hmem
    obtain ⟨hr0,hr1⟩:=hrg
    by_cases h0:x < 0
    · have HT2:Hid (numsW (m:Int) xs=([],2)):=by rw [HT.out,if_neg (fun h=>by have:=(h x HMEM.out).1; omega)]; rfl
      go_wp2_with fail
      go_ret2
      rw [HT2.out]
      exact ⟨rfl,HB.out⟩
    ·
     obtain ⟨z,rfl⟩:∃ z:Nat,x=z:=⟨x.toNat,by omega⟩
     clear h0 hr0
     have hsh:=shr_b z m
     by_cases hf:256 ^ m≤z
     · have HT2:Hid (numsW (m:Int) xs=([],2)):=by rw [HT.out,if_neg (fun h=>by have:=(h z HMEM.out).2; omega)]; rfl
       rw [decide_eq_true hf] at hsh
       clear hf
       go_wp2_with fail
       go_ret2
       rw [HT2.out]
       exact ⟨rfl,HB.out⟩
     ·
      have hfz:Hid (fits m z):=⟨by omega,by omega⟩
      rw [decide_eq_false hf] at hsh
      clear hf
      go_wp2_with (go_at_call 158; refine (put_any m z (by omega) (by omega) _).mono ?_)
      rintro e w1 ⟨rfl,hb1⟩
      have HB1:Hid (Below W.heap.size W w1):=HB.out.trans (hb1.mono HB.out.size)
      have HF1:Hid (Bl W.heap.size W.heap.size (numsL m (xs.take k)) w1):=HF.out.below hb1
      have hlen:(Lib.byteCells (numsL m (xs.take k))).length+(S (be m z)).size≤140737488355328:=by
       rw [Lib.byteCells_length,numsL_length,S_size,be_length,List.length_take]
       have:min k xs.length * m≤1048576 * 7:=Nat.mul_le_mul (by omega) hm7
       omega
      clear hb1 HF HB
      go_wp2_with (go_at_call 157; refine (Bld.writeString_any W.heap.size W.heap.size _ (S (be m z)) _ HF1.out hlen HB1.out.size).mono ?_)
      rintro e w2 ⟨rfl,hbl,hb2⟩
      have HB2:Hid (Below W.heap.size W w2):=HB1.out.trans hb2
      have HF2:Hid (Bl W.heap.size W.heap.size (numsL m (xs.take (k+1))) w2):=by
       rw [HNL.out]
       have:Lib.byteCells (numsL m (xs.take k))++Lib.strCells (S (be m z))=Lib.byteCells (numsL m (xs.take k)++be m z):=by rw [Lib.strCells_eq,S_list,Lib.byteCells_append]
       rw [this] at hbl
       exact .inr hbl
      clear hbl hb2 HF1 HB1 hlen
      go_wp2_with fail
      go_roundw
      case rel =>
       refine ⟨k+1,by omega,by go_num,HF2,HB2,fun y hy=>?_⟩
       rcases (HTK.out y).1 hy with hy | rfl
       · exact HA.out y hy
       · exact hfz.out
      case measure=>simp [intOf]; omega
   ·
    have ek:k=xs.length:=by omega
    subst ek
    rw [List.take_length] at HF HA
    have HT2:Hid (numsW (m:Int) xs=(numsL m xs,0)):=by rw [HT.out,if_pos HA.out]; rfl
    go_wp2_with (go_at_call 159; refine (Bld.string_any W.heap.size W.heap.size _ _ HF.out HB.out.size).mono ?_)
    rintro e w2 ⟨rfl,hb2⟩
    have HB2:Hid (Below W.heap.size W w2):=HB.out.trans hb2
    clear hb2
    go_wp2_with fail
    go_ret2
    rw [HT2.out]
    exact ⟨rfl,HB2.out⟩
def textL (t:List UInt8):List UInt8:=be 2 t.length++t
def textsL (ts:List (List UInt8)):List UInt8:=ts.flatMap textL
def textsW (ts:List (List UInt8)):List UInt8×Nat:=if ∀ t∈ts,t.length≤65535 then (textsL ts,0) else ([],6)
def listW (ts:List (List UInt8)):List UInt8×Nat:=if 255 < ts.length then ([],6) else if ∀ t∈ts,t.length≤65535 then (be 1 ts.length++textsL ts,0) else ([],6)
theorem textsL_take (ts:List (List UInt8)) (k:Nat) (h:k < ts.length):textsL (ts.take (k+1))=textsL (ts.take k)++textL ts[k]:=by
 unfold textsL; rw [List.take_succ_eq_append_getElem h,List.flatMap_append]; simp
theorem textsL_take_le (ts:List (List UInt8)) (k:Nat):(textsL (ts.take k)).length≤(textsL ts).length:=by
 unfold textsL
 conv=>rhs; rw [← List.take_append_drop k ts]
 rw [List.flatMap_append,List.length_append]; omega
theorem texts_any (a:Option Addr) (cap:Nat) (ts:List (List UInt8)) (hx:ts.length≤1048576) (hlen:(textsL ts).length≤1073741824) (W:World) (h:Strs W a (ts.map S)) :
 Calls Tryz.prog 95 #[.slice a ts.length cap] W fun e w'=>e=.returned (.tuple #[.string (S (textsW ts).1),.int .i64 ((textsW ts).2:Int)])∧Below W.heap.size W w':=by
 have HI:=Lib.hid h; clear h
 have HLEN:=Lib.hid hlen; clear hlen
 have HF:Hid (Bl W.heap.size W.heap.size [] (W.alloc (.cells #[.pointer none,.slice none 0 0] 259))):=Lib.fresh_isBuilder _ _ W
 have HB:Hid (Below W.heap.size W (W.alloc (.cells #[.pointer none,.slice none 0 0] 259))):=(Below.refl _ W).alloc (Nat.le_refl _) _
 go_enter Tryz.func95,Tryz.ntmps95
 go_wp2_with fail
 go_loopw [9] (fun i wr=>∃ k:Nat,k≤ts.length∧i=.int .i64 k∧Hid (Bl W.heap.size W.heap.size (textsL (ts.take k)) wr)∧Hid (Below W.heap.size W wr)∧Hid (∀ x∈ts.take k,x.length≤65535)) (fun i _=>ts.length - (intOf i).toNat)
 case atStart=>exact ⟨0,by omega,rfl,HF,HB,by simp [Hid]⟩
 case round =>
  clear HF HB
  obtain ⟨k,hk,rfl,HF,HB,HA⟩:=hrel
  by_cases hlt:k < ts.length
  ·
   obtain ⟨b,off,rfl,hc⟩:=HI.out k (by simpa using hlt)
   rw [← HB.out.cell (cell_lt hc),List.getElem_map] at hc
   have hnl:=textsL_take ts k hlt
   have htk:∀ y,y∈ts.take (k+1)↔y∈ts.take k∨y=ts[k]:=by intro y; rw [List.take_succ_eq_append_getElem hlt,List.mem_append,List.mem_singleton]
   have hmem:ts[k]∈ts:=by simp
   have hl1:(textsL (ts.take (k+1))).length≤1073741824:=Nat.le_trans (textsL_take_le ts _) HLEN.out
   rw [hnl,List.length_append] at hl1
   generalize ts[k]=x at *
   have hxl:(textL x).length=x.length+2:=by unfold textL; rw [List.length_append,be_length]; omega
   have HNL:=Lib.hid hnl; clear hnl
   have HTK:=Lib.hid htk; clear htk
   have HMEM:=Lib.hid hmem; clear hmem
   have hsz:=S_size x
   by_cases hf:65535 < x.length
   · have HT2:Hid (textsW ts=([],6)):=by unfold textsW; rw [if_neg (fun h=>by have:=h x HMEM.out; omega)]; rfl
     go_wp2_with fail
     go_ret2
     rw [HT2.out]
     exact ⟨rfl,HB.out⟩
   ·
    have hs2:(S (be 2 x.length)).size=2:=by rw [S_size,be_length]
    have hcat:Hid (S (be 2 x.length)++S x=S (textL x)):=S_append _ _
    go_wp2_with (go_at_call 158; refine (put_any 2 x.length (by omega) (by omega) _).mono ?_)
    rintro e w1 ⟨rfl,hb1⟩
    have HB1:Hid (Below W.heap.size W w1):=HB.out.trans (hb1.mono HB.out.size)
    have HF1:Hid (Bl W.heap.size W.heap.size (textsL (ts.take k)) w1):=HF.out.below hb1
    have hlen:(Lib.byteCells (textsL (ts.take k))).length+(S (textL x)).size≤140737488355328:=by
     rw [Lib.byteCells_length,S_size]; omega
    clear hb1 HF HB
    go_wp2_with fail
    rw [hcat.out]
    refine (Bld.writeString_any W.heap.size W.heap.size _ (S (textL x)) _ HF1.out hlen HB1.out.size).mono ?_
    rintro e w2 ⟨rfl,hbl,hb2⟩
    have HB2:Hid (Below W.heap.size W w2):=HB1.out.trans hb2
    have HF2:Hid (Bl W.heap.size W.heap.size (textsL (ts.take (k+1))) w2):=by
     rw [HNL.out]
     have:Lib.byteCells (textsL (ts.take k))++Lib.strCells (S (textL x))=Lib.byteCells (textsL (ts.take k)++textL x):=by rw [Lib.strCells_eq,S_list,Lib.byteCells_append]
     rw [this] at hbl
     exact .inr hbl
    clear hbl hb2 HF1 HB1 hlen
    go_wp2_with fail
    go_roundw
    case rel =>
     refine ⟨k+1,by omega,by go_num,HF2,HB2,fun y hy=>?_⟩
     rcases (HTK.out y).1 hy with hy | rfl
     · exact HA.out y hy
     · omega
    case measure=>simp [intOf]; omega
  ·
   have ek:k=ts.length:=by omega
   subst ek
   rw [List.take_length] at HF HA
   have HT2:Hid (textsW ts=(textsL ts,0)):=by unfold textsW; rw [if_pos HA.out]; rfl
   go_wp2_with (go_at_call 159; refine (Bld.string_any W.heap.size W.heap.size _ _ HF.out HB.out.size).mono ?_)
   rintro e w2 ⟨rfl,hb2⟩
   have HB2:Hid (Below W.heap.size W w2):=HB.out.trans hb2
   clear hb2
   go_wp2_with fail
   go_ret2
   rw [HT2.out]
   exact ⟨rfl,HB2.out⟩
theorem listw_any (a:Option Addr) (cap:Nat) (ts:List (List UInt8)) (hx:ts.length≤1048576) (hlen:(textsL ts).length≤1073741824) (W:World) (h:Strs W a (ts.map S)) :
 Calls Tryz.prog 164 #[.slice a ts.length cap] W fun e w'=>e=.returned (.tuple #[.string (S (listW ts).1),.int .i64 ((listW ts).2:Int)])∧Below W.heap.size W w':=by
 have HI:=Lib.hid h; clear h
 go_enter Tryz.func164,Tryz.ntmps164
 by_cases hl:255 < ts.length
 ·
  have HT:Hid (listW ts=([],6)):=by unfold listW; rw [if_pos hl]; rfl
  go_wp2_with fail
  go_ret2
  rw [HT.out]
  exact ⟨rfl,Below.refl _ _⟩
 ·
  go_wp2_with (go_at_call 95; refine (texts_any a cap ts hx hlen _ HI.out).mono ?_)
  rintro e w1 ⟨rfl,hb1⟩
  have HB1:=Lib.hid hb1; clear hb1
  by_cases hf:∀ t∈ts,t.length≤65535
  ·
   have h1:(textsW ts)=(textsL ts,0):=by unfold textsW; rw [if_pos hf]
   have HT:Hid (listW ts=(be 1 ts.length++textsL ts,0)):=by unfold listW; rw [if_neg hl,if_pos hf]; rfl
   rw [h1]
   clear h1 hf
   have hs2:(S (be 1 ts.length)).size=1:=by rw [S_size,be_length]
   have hs3:=S_size (textsL ts)
   have hcat:Hid (S (be 1 ts.length)++S (textsL ts)=S (be 1 ts.length++textsL ts)):=S_append _ _
   go_wp2_with (go_at_call 158; refine (put_any 1 ts.length (by omega) (by omega) _).mono ?_)
   rintro e w2 ⟨rfl,hb2⟩
   have HB2:Hid (Below W.heap.size W w2):=HB1.out.trans (hb2.mono HB1.out.size)
   clear hb2
   go_wp2_with fail
   rw [hcat.out]
   go_wp2_with fail
   go_ret2
   rw [HT.out]
   exact ⟨rfl,HB2.out⟩
  ·
   have h1:(textsW ts)=([],6):=by unfold textsW; rw [if_neg hf]
   have HT:Hid (listW ts=([],6)):=by unfold listW; rw [if_neg hl,if_neg hf]; rfl
   rw [h1]
   clear h1 hf
   go_wp2_with fail
   go_ret2
   rw [HT.out]
   exact ⟨rfl,HB1.out⟩
def readM (most:Int) (l:List UInt8):List UInt8×Nat×Nat :=
 if l.length < 2 then ([],0,3) else if most < (val (l.take 2):Int) then ([],0,6) else if l.length < 2+val (l.take 2) then ([],0,3) else ((l.drop 2).take (val (l.take 2)),2+val (l.take 2),0)
theorem numR_at (n:Nat) (l:List UInt8) (h1:1≤n) (h7:n≤7):numR (n:Int) ⟨l,0⟩=if l.length < n then (0,⟨l,3⟩) else (val (l.take n),⟨l.drop n,0⟩):=by
 have ht:takeR (n:Int) ⟨l,0⟩=if l.length < n then ([],⟨l,3⟩) else (l.take n,⟨l.drop n,0⟩):=by
  unfold takeR
  rw [if_neg (by simp),if_neg (by omega)]
  by_cases h:l.length < n
  · rw [if_pos h,if_pos (by simpa using h)]
  · rw [if_neg h,if_neg (by simpa using h)]; simp
 unfold numR
 rw [if_neg (by simp),if_neg (by omega),ht]
 split <;> rfl
theorem textR_readM (most:Int) (l:List UInt8):textR most ⟨l,0⟩=((readM most l).1,⟨l.drop (readM most l).2.1,(readM most l).2.2⟩):=by
 rw [textR_eq most _ (by simp)]
 have hn:=numR_at 2 l (by omega) (by omega)
 rw [show numR 2 ⟨l,0⟩=_ from hn]
 unfold readM
 by_cases h2:l.length < 2
 ·
  rw [if_pos h2,if_pos h2]
  have:longR (decide (most < ((0:Nat):Int))) ⟨l,3⟩=⟨l,3⟩:=longR_err _ (by simp)
  simp only [this]
  have:takeR ((0:Nat):Int) ⟨l,3⟩=([],⟨l,3⟩):=by unfold takeR; rw [if_pos (by simp)]
  rw [this]; simp
 ·
  rw [if_neg h2,if_neg h2]
  simp only
  generalize hx:val (l.take 2)=x
  by_cases hm:most < (x:Int)
  ·
   rw [decide_eq_true hm,if_pos hm]
   have:longR true ⟨l.drop 2,0⟩=⟨l.drop 2,6⟩:=by unfold longR; rw [if_pos ⟨rfl,rfl⟩]
   rw [this]
   have:takeR (x:Int) ⟨l.drop 2,6⟩=([],⟨l.drop 2,6⟩):=by unfold takeR; rw [if_pos (by simp)]
   rw [this]; simp
  ·
   rw [decide_eq_false hm,if_neg hm,longR_false]
   have ht:takeR (x:Int) ⟨l.drop 2,0⟩=if l.length < 2+x then ([],⟨l.drop 2,3⟩) else ((l.drop 2).take x,⟨l.drop (2+x),0⟩):=by
    unfold takeR
    rw [if_neg (by simp),if_neg (show ¬ (x:Int) < 0 by omega)]
    by_cases hs:l.length < 2+x
    · rw [if_pos hs,if_pos (show ((l.drop 2).length:Int) < x by rw [List.length_drop]; omega)]
    · rw [if_neg hs,if_neg (show ¬ ((l.drop 2).length:Int) < x by rw [List.length_drop]; omega)]; simp
   rw [ht]
   by_cases hs:l.length < 2+x
   · rw [if_pos hs,if_pos hs,if_pos (by simp)]; simp
   · rw [if_neg hs,if_neg hs,if_neg (by simp)]
theorem numR_be (m x:Nat) (rest:List UInt8) (h1:1≤m) (h7:m≤7) (hx:x < 256 ^ m):numR (m:Int) ⟨be m x++rest,0⟩=(x,⟨rest,0⟩):=by
 have hl:=be_length m x
 have ht:takeR (m:Int) ⟨be m x++rest,0⟩=(be m x,⟨rest,0⟩):=by
  unfold takeR
  rw [if_neg (by simp),if_neg (by omega),if_neg (by simp [hl]; omega)]
  simp [hl]
 unfold numR
 rw [if_neg (by simp),if_neg (by omega),ht,val_be,Nat.mod_eq_of_lt hx]
theorem textL_length (t:List UInt8):(textL t).length=t.length+2:=by unfold textL; rw [List.length_append,be_length]; omega
theorem textsL_cons (t:List UInt8) (ts:List (List UInt8)):textsL (t :: ts)=textL t++textsL ts:=by unfold textsL; simp
theorem readM_text (most:Int) (t rest:List UInt8) (h:t.length≤65535) (hm:(t.length:Int)≤most):readM most (textL t++rest)=(t,2+t.length,0):=by
 have hl:(textL t++rest).length=t.length+2+rest.length:=by rw [List.length_append,textL_length]
 have ht:(textL t++rest).take 2=be 2 t.length:=by
  unfold textL; rw [List.append_assoc,List.take_append_of_le_length (by rw [be_length]; omega),List.take_of_length_le (by rw [be_length]; omega)]
 have hd:(textL t++rest).drop 2=t++rest:=by
  unfold textL; rw [List.append_assoc]
  have:=be_length 2 t.length
  rw [List.drop_append,List.drop_of_length_le (by omega),this]; simp
 have hv:val (be 2 t.length)=t.length:=by rw [val_be]; exact Nat.mod_eq_of_lt (by omega)
 unfold readM
 rw [ht,hv,hl,hd,if_neg (by omega),if_neg (by omega),if_neg (by omega)]
 simp
theorem textR_text (most:Int) (t rest:List UInt8) (h:t.length≤65535) (hm:(t.length:Int)≤most):textR most ⟨textL t++rest,0⟩=(t,⟨rest,0⟩):=by
 rw [textR_readM,readM_text most t rest h hm]
 have:(textL t++rest).drop (2+t.length)=rest:=by
  rw [List.drop_append,List.drop_of_length_le (by rw [textL_length]; omega),textL_length,show 2+t.length - (t.length+2)=0 by omega]; rfl
 simp only [this]
theorem textsR_texts (most:Int) (rest:List UInt8):∀ ts:List (List UInt8),(∀ t∈ts,t.length≤65535∧(t.length:Int)≤most)→textsR most ts.length ⟨textsL ts++rest,0⟩=(ts,⟨rest,0⟩):=by
 intro ts
 induction ts with
 | nil=>intro _; rfl
 | cons t ts ih =>
   intro h
   have h0:=h t (List.mem_cons_self ..)
   have hr:=textR_text most t (textsL ts++rest) h0.1 h0.2
   rw [textsL_cons,List.append_assoc]
   show ((textR most _).1 :: (textsR most ts.length (textR most _).2).1,(textsR most ts.length (textR most _).2).2)=_
   rw [hr]
   simp only
   rw [ih (fun t ht=>h t (List.mem_cons_of_mem _ ht))]
theorem numR_list (n:Nat) (rest:List UInt8) (h:n≤255):numR 1 ⟨be 1 n++rest,0⟩=(n,⟨rest,0⟩):=numR_be 1 n rest (by omega) (by omega) (by omega)
theorem listR_list (many most:Int) (rest:List UInt8) (ts:List (List UInt8)) (hl:ts.length≤255) (hm:(ts.length:Int)≤many) (h:∀ t∈ts,t.length≤65535∧(t.length:Int)≤most) :
 listR many most ⟨be 1 ts.length++textsL ts++rest,0⟩=(ts,⟨rest,0⟩):=by
 rw [listR_eq _ _ _ (by simp),List.append_assoc,numR_list _ _ hl]
 simp only
 rw [decide_eq_false (by omega),longR_false,textsR_texts most rest ts h,if_neg (by simp)]
end Go.Proofs.YtnoehodmmkioaaaGreatDoor.OctW
namespace Go.Proofs.YtnoehodmmkioaaaGreatDoor.CrcMath
def poly:BitVec 32:=0xEDB88320#32
def cstep (x:BitVec 32):BitVec 32:=if x.getLsbD 0 then (x >>> 1) ^^^ poly else x >>> 1
def steps:Nat→BitVec 32→BitVec 32
 | 0,x=>x
 | n+1,x=>steps n (cstep x)
theorem steps_add (m n:Nat) (x:BitVec 32):steps (m+n) x=steps n (steps m x):=by
 induction m generalizing x with
 | zero=>simp [steps]
 | succ m ih=>rw [Nat.succ_add]; simp only [steps]; exact ih _
theorem steps_succ' (n:Nat) (x:BitVec 32):steps (n+1) x=cstep (steps n x):=by
 rw [steps_add]; rfl
theorem ushr_xor (x y:BitVec 32) (n:Nat):(x ^^^ y) >>> n=(x >>> n) ^^^ (y >>> n):=by
 ext i hi; simp
theorem xor_cancel (p a b:BitVec 32):(a ^^^ p) ^^^ (b ^^^ p)=a ^^^ b:=by
 ext i hi; simp; cases a[i] <;> cases b[i] <;> cases p[i] <;> rfl
theorem cstep_xor (x y:BitVec 32):cstep (x ^^^ y)=cstep x ^^^ cstep y:=by
 unfold cstep
 rw [BitVec.getLsbD_xor,ushr_xor]
 cases x.getLsbD 0 <;> cases y.getLsbD 0 <;> simp
 · ac_rfl
 · ac_rfl
 · exact (xor_cancel _ _ _).symm
theorem steps_xor (n:Nat) (x y:BitVec 32):steps n (x ^^^ y)=steps n x ^^^ steps n y:=by
 induction n generalizing x y with
 | zero=>rfl
 | succ n ih=>simp only [steps,cstep_xor]; exact ih _ _
theorem steps_low (n:Nat) (x:BitVec 32) (h:∀ i,i < n→x.getLsbD i=false):steps n x=x >>> n:=by
 induction n generalizing x with
 | zero=>simp [steps]
 | succ n ih =>
   have h0:cstep x=x >>> 1:=by unfold cstep; rw [h 0 (by omega)]; simp
   simp only [steps,h0]
   rw [ih]
   · ext i hi; simp; congr 1; omega
   · intro i hi; simp; exact h _ (by omega)
def ext (b:BitVec 8):BitVec 32:=b.setWidth 32
theorem shl_shr (k:Nat) (x:BitVec 32) (h:∀ i,32 - k≤i→x.getLsbD i=false):(x <<< k) >>> k=x:=by
 ext i hi
 simp
 rw [← BitVec.getLsbD_eq_getElem hi]
 by_cases h2:k+i < 32
 · simp [h2]
 · simp [h2,h i (by omega)]
theorem steps_shift (n k:Nat) (x:BitVec 32) (h:∀ i,32 - k≤i→x.getLsbD i=false):steps (k+n) (x <<< k)=steps n x:=by
 rw [steps_add,steps_low k (x <<< k) (by intro i hi; simp; intro _ h2; omega),shl_shr k x h]
theorem ext_high (b:BitVec 8) (i:Nat) (hi:8≤i):(ext b).getLsbD i=false:=by
 simp [ext]; intro _; exact BitVec.getLsbD_of_ge _ _ hi
def tab (k:Nat) (b:BitVec 8):BitVec 32:=steps (8 * (k+1)) (ext b)
def upd (r:BitVec 32) (b:BitVec 8):BitVec 32:=steps 8 (r ^^^ ext b)
def reg (r:BitVec 32) (l:List UInt8):BitVec 32:=l.foldl (fun r b=>upd r b.toBitVec) r
theorem reg_append (r:BitVec 32) (a b:List UInt8):reg r (a++b)=reg (reg r a) b:=List.foldl_append ..
theorem reg_cons (r:BitVec 32) (a:UInt8) (b:List UInt8):reg r (a :: b)=reg (upd r a.toBitVec) b:=rfl
theorem reg_nil (r:BitVec 32):reg r []=r:=rfl
theorem steps8_tab (w:BitVec 32):steps 8 w=tab 0 (w.setWidth 8) ^^^ (w >>> 8):=by
 have h:w=ext (w.setWidth 8) ^^^ ((w >>> 8) <<< 8):=by
  ext i hi; simp [ext]
  by_cases h:i < 8
  · simp [h,hi]
  · simp [h]
    rw [show 8+(i - 8)=i from by omega]; simp [hi]
 have h2:steps 8 ((w >>> 8) <<< 8)=w >>> 8:=by
  have:=steps_shift 0 8 (w >>> 8) (by intro i hi; simp; exact BitVec.getLsbD_of_ge _ _ (by omega))
  simpa [steps] using this
 conv=>lhs; rw [h]
 rw [steps_xor,h2]; rfl
theorem tab_succ (k:Nat) (b:BitVec 8):tab (k+1) b=tab 0 ((tab k b).setWidth 8) ^^^ (tab k b >>> 8):=by
 rw [← steps8_tab]; unfold tab; rw [← steps_add]; rfl
theorem one_eq (r:BitVec 32) (b:BitVec 8):upd r b=tab 0 (r.setWidth 8 ^^^ b) ^^^ (r >>> 8):=by
 unfold upd; rw [steps8_tab]
 congr 1
 · congr 1; ext i hi; simp [ext]
 · ext i hi; simp [ext]
def word4 (a b c d:BitVec 8):BitVec 32:=ext a ||| ext b <<< 8 ||| ext c <<< 16 ||| ext d <<< 24
theorem word4_xor (a b c d:BitVec 8):word4 a b c d=ext a ^^^ ext b <<< 8 ^^^ ext c <<< 16 ^^^ ext d <<< 24:=by
 unfold word4
 ext i hi
 simp [ext]
 by_cases h1:i < 8
 · simp [h1,show i < 16 from by omega,show i < 24 from by omega]
 ·
  by_cases h2:i < 16
  · simp [h1,h2,show i < 24 from by omega,BitVec.getLsbD_of_ge a i (by omega)]
  · by_cases h3:i < 24
    · simp [h1,h2,h3,BitVec.getLsbD_of_ge a i (by omega),BitVec.getLsbD_of_ge b (i - 8) (by omega)]
    · simp [h1,h2,h3,BitVec.getLsbD_of_ge a i (by omega),BitVec.getLsbD_of_ge b (i - 8) (by omega),BitVec.getLsbD_of_ge c (i - 16) (by omega)]
theorem word4_of (y:BitVec 32):y=word4 (y.setWidth 8) ((y >>> 8).setWidth 8) ((y >>> 16).setWidth 8) ((y >>> 24).setWidth 8):=by
 unfold word4
 ext i hi
 simp [ext]
 by_cases h1:i < 8
 · simp [h1,hi,show i < 16 from by omega,show i < 24 from by omega]
 ·
  by_cases h2:i < 16
  · simp [h1,h2,show i < 24 from by omega,show i - 8 < 8 from by omega,show 8+(i - 8)=i from by omega,hi]
  · by_cases h3:i < 24
    · simp [h1,h2,h3,show ¬ i - 8 < 8 from by omega,show i - 16 < 8 from by omega,show 16+(i - 16)=i from by omega,hi]
    · simp [h1,h2,h3,show ¬ i - 8 < 8 from by omega,show ¬ i - 16 < 8 from by omega,show i - 24 < 8 from by omega,show 24+(i - 24)=i from by omega,hi]
theorem ext_low (k:Nat) (hk:k≤24) (b:BitVec 8):∀ i,32 - k≤i→(ext b).getLsbD i=false:=fun i hi=>ext_high b i (by omega)
theorem steps32_word4 (a b c d:BitVec 8):steps 32 (word4 a b c d)=tab 3 a ^^^ tab 2 b ^^^ tab 1 c ^^^ tab 0 d:=by
 rw [word4_xor,steps_xor,steps_xor,steps_xor]
 have h1:steps 32 (ext b <<< 8)=tab 2 b:=steps_shift 24 8 (ext b) (ext_low 8 (by omega) b)
 have h2:steps 32 (ext c <<< 16)=tab 1 c:=steps_shift 16 16 (ext c) (ext_low 16 (by omega) c)
 have h3:steps 32 (ext d <<< 24)=tab 0 d:=steps_shift 8 24 (ext d) (ext_low 24 (by omega) d)
 rw [h1,h2,h3]; rfl
theorem upd_back (k:Nat) (hk:k≤24) (r:BitVec 32) (b:BitVec 8):upd (steps k r) b=steps (k+8) (r ^^^ ext b <<< k):=by
 unfold upd
 have h:=steps_shift 0 k (ext b) (ext_low k hk b)
 simp only [Nat.add_zero,steps] at h
 rw [steps_add k 8,steps_xor k,h]
theorem four_eq (x:BitVec 32) (a b c d:BitVec 8) :
 upd (upd (upd (upd x a) b) c) d=tab 3 ((x ^^^ word4 a b c d).setWidth 8) ^^^ tab 2 (((x ^^^ word4 a b c d) >>> 8).setWidth 8) ^^^ tab 1 (((x ^^^ word4 a b c d) >>> 16).setWidth 8) ^^^ tab 0 (((x ^^^ word4 a b c d) >>> 24).setWidth 8):=by
 rw [← steps32_word4,← word4_of,word4_xor]
 rw [show upd x a=steps 8 (x ^^^ ext a) from rfl,upd_back 8 (by omega),upd_back 16 (by omega),upd_back 24 (by omega)]
 congr 1
 simp only [BitVec.xor_assoc]
/-! a turned byte shows -/
/-! the sum is linear -/
def sum (l:List UInt8):BitVec 32 := ~~~ reg (BitVec.allOnes 32) l
def be4 (n:Nat):List UInt8:=[UInt8.ofNat (n / 16777216),UInt8.ofNat (n / 65536),UInt8.ofNat (n / 256),UInt8.ofNat n]
def sealed (l:List UInt8):List UInt8:=be4 (sum l).toNat++l
theorem sealed_drop (l:List UInt8):(sealed l).drop 4=l:=rfl
theorem sealed_length (l:List UInt8):(sealed l).length=4+l.length:=by simp [sealed,be4]; omega
end Go.Proofs.YtnoehodmmkioaaaGreatDoor.CrcMath
namespace Go.Proofs.YtnoehodmmkioaaaGreatDoor.NameMath
open Go.RowKit OctMath
def signN (n:Nat):Bool:=(decide (97≤n) && decide (n≤122)) || (decide (48≤n) && decide (n≤57)) || n == 45
def signB (c:UInt8):Bool:=signN c.toNat
def plainL (l:List UInt8):Bool:=decide (1≤l.length) && decide (l.length≤16) && l.all signB
def groupL (l:List UInt8):Bool:=plainL l && decide (l.length≤8)
theorem signN_big (n:Nat) (h:128≤n):signN n=false:=by
 unfold signN
 rw [decide_eq_false (show ¬ n≤122 by omega),decide_eq_false (show ¬ n≤57 by omega),Bool.and_false,Bool.and_false]
 exact beq_eq_false_iff_ne.2 (by omega)
theorem get_S (l:List UInt8) (i:Nat) (h:i < l.length):(S l).get! i=l[i]:=by
 show (l.toArray)[i]! = _
 simp [h]
theorem decode_ascii (l:List UInt8) (i:Nat) (h:i < l.length) (hb:l[i].toNat < 128):Utf8.decode (S l) i=(l[i].toNat,1):=by
 unfold Utf8.decode
 simp only [Nat.add_zero,get_S l i h,if_pos hb]
theorem decode_big (l:List UInt8) (i:Nat) (h:i < l.length) (hb:¬ l[i].toNat < 128):128≤(Utf8.decode (S l) i).1:=by
 unfold Utf8.decode
 simp only [Nat.add_zero,get_S l i h,if_neg hb]
 have he:128≤Utf8.runeError:=by decide
 (repeat' split) <;> first | exact he | (simp only []; omega) | (rename_i hc; simp only [Bool.and_eq_true,decide_eq_true_eq] at hc; have:=hc.1; simp only []; omega)
theorem idx_from (l:List UInt8):∀ f pos:Nat,l.length≤pos+f→(Lib.idxFuncFrom (fun n=>!signN n) true (S l) f pos = -1↔(l.drop pos).all signB=true)
 | 0,pos,h=>by
   rw [List.drop_of_length_le (by omega)]
   exact ⟨fun _=>rfl,fun _=>rfl⟩
 | f+1,pos,h=>by
   unfold Lib.idxFuncFrom
   rw [S_size]
   by_cases hp:pos < l.length
   ·
    rw [if_pos hp,List.drop_eq_getElem_cons hp,List.all_cons]
    by_cases hb:l[pos].toNat < 128
    ·
     rw [decode_ascii l pos hp hb]
     simp only []
     have hs:signB l[pos]=signN l[pos].toNat:=rfl
     rw [hs]
     cases signN l[pos].toNat with
     | true =>
       rw [if_neg (by simp),Bool.true_and]
       exact idx_from l f (pos+1) (by omega)
     | false =>
       rw [if_pos (by simp),Bool.false_and]
       exact ⟨fun h=>by omega,fun h=>by simp at h⟩
    · have h1:=signN_big _ (decode_big l pos hp hb)
      have h2:signB l[pos]=false:=signN_big _ (by omega)
      rw [h1,h2,if_pos (by simp),Bool.false_and]
      exact ⟨fun h=>by omega,fun h=>by simp at h⟩
   · rw [if_neg hp,List.drop_of_length_le (by omega)]
     exact ⟨fun _=>rfl,fun _=>rfl⟩
theorem idx_lt (l:List UInt8):decide (Lib.idxFunc (fun n=>!signN n) true (S l) < (0:Int))=l.all signB:=by
 have h:=idx_from l (S l).size 0 (by rw [S_size]; omega)
 rw [List.drop_zero] at h
 have hr:=Lib.idxFunc_range (fun n=>!signN n) true (S l)
 have he:Lib.idxFunc (fun n=>!signN n) true (S l)=Lib.idxFuncFrom (fun n=>!signN n) true (S l) (S l).size 0:=rfl
 rw [← he] at h
 cases hb:l.all signB with
 | true=>rw [hb] at h; rw [h.2 rfl]; rfl
 | false =>
   rw [hb] at h
   rcases hr with h1 | h1
   · exact absurd (h.1 h1) (by simp)
   · exact decide_eq_false (by omega)
theorem plain_eq (l:List UInt8):plainL l=(decide (l≠[]) && decide (l.length≤16) && decide (Lib.idxFunc (fun n=>!signN n) true (S l) < (0:Int))):=by
 rw [idx_lt]; unfold plainL
 congr 2
 cases l <;> simp
def retryL:List UInt8:=[37,114,101,116,114,121,37]
def deadL:List UInt8:=[37,100,101,97,100,37]
def ofL (l:List UInt8):List UInt8 :=
 if (Lib.hasPrefix l retryL && groupL (l.drop 7))=true then l.drop 7
 else if (Lib.hasPrefix l deadL && groupL (l.drop 6))=true then l.drop 6 else []
def topicL (l:List UInt8):Bool:=plainL l || !(ofL l).isEmpty
theorem group_ne (l:List UInt8) (h:groupL l=true):l.isEmpty=false:=by
 cases l with
 | nil=>simp [groupL,plainL] at h
 | cons _ _=>rfl
end Go.Proofs.YtnoehodmmkioaaaGreatDoor.NameMath
namespace Go.Proofs.YtnoehodmmkioaaaGreatDoor.RecMath
open OctMath OctW NameMath
structure Msg where
 kind:Int
 queue:Int
 due:Int
 retry:Int
 ref:Int
 born:Int
 topic:List UInt8
 tag:List UInt8
 body:List UInt8
 keys:List (List UInt8)
deriving DecidableEq
def noMsg:Msg:=⟨0,0,0,0,0,0,[],[],[],[]⟩
def badNum (n:Int):Bool:=decide (n < 0) || decide (1099511627776 < n)
def keySign (c:UInt8):Bool:=decide (33≤c.toNat) && decide (c.toNat≤126)
def keyL (l:List UInt8):Bool:=decide (l≠[]) && decide (l.length≤16) && l.all keySign
def tagL (l:List UInt8):Bool:=l.isEmpty || plainL l
def carriesL (m:Msg):Bool:=topicL m.topic && decide (0≤m.queue) && decide (m.queue < 3) && decide (0≤m.retry) && decide (m.retry≤4) && tagL m.tag && decide (m.keys.length≤3) && m.keys.all keyL && decide m.keys.Nodup && decide (m.body.length≤200)
def noughts (n:Nat):List UInt8:=List.replicate n 0
def rightL (m:Msg):Bool :=
 if badNum m.due || badNum m.ref || badNum m.born then false
 else if m.kind=1 then carriesL m && decide (m.due=0) && decide (m.ref=0)
 else if m.kind=2∨m.kind=3 then carriesL m
 else if m.kind=4 then decide (m={ noMsg with kind:=4,ref:=m.ref,born:=m.born })
 else if m.kind=0 then decide (m.body.length≤1024) && decide (m.body=noughts m.body.length) && decide (m={ noMsg with body:=m.body })
 else false
def fillL (n:Int):List UInt8:=if n < 3∨1024 < n then [] else 90 :: be 2 n.toNat++noughts (n.toNat - 3)
def insideL (m:Msg):List UInt8 :=
 be 1 m.kind.toNat++(be 1 m.queue.toNat++(be 1 m.retry.toNat++(be 6 m.born.toNat++(be 6 m.due.toNat++(be 6 m.ref.toNat++(textL m.topic++(textL m.tag++(textL m.body++(be 1 m.keys.length++textsL m.keys)))))))))
def recL (m:Msg):List UInt8:=165 :: be 2 (3+(CrcMath.sealed (insideL m)).length)++CrcMath.sealed (insideL m)
def putL (m:Msg):List UInt8×Int:=if rightL m=false then ([],1) else if m.kind=0 then (if m.body.length < 3 then ([],1) else (fillL m.body.length,0)) else (recL m,0)
def openedR (s:List UInt8):Msg×RS :=
 let k:=numR 1 ⟨s,0⟩
 let q:=numR 1 k.2
 let rt:=numR 1 q.2
 let b:=numR 6 rt.2
 let d:=numR 6 b.2
 let rf:=numR 6 d.2
 let t:=textR 16 rf.2
 let g:=textR 16 t.2
 let bo:=textR 200 g.2
 let ks:=listR 3 16 bo.2
 (⟨k.1,q.1,d.1,rt.1,rf.1,b.1,t.1,g.1,bo.1,ks.1⟩,ks.2)
def openedB (s:List UInt8):Bool:=decide (endR (openedR s).2=0) && decide ((openedR s).1.kind≠0) && rightL (openedR s).1
theorem plain_len {l:List UInt8} (h:plainL l=true):l.length≤16:=by
 unfold plainL at h
 simp only [Bool.and_eq_true,decide_eq_true_eq] at h
 exact h.1.2
theorem topic_len {l:List UInt8} (h:topicL l=true):l.length≤16:=by
 unfold topicL at h
 rw [Bool.or_eq_true] at h
 rcases h with h | h
 · exact plain_len h
 ·
  have hg:∀ l:List UInt8,groupL l=true→l.length≤8:=fun l h=>by
   unfold groupL at h
   simp only [Bool.and_eq_true,decide_eq_true_eq] at h
   exact h.2
  unfold ofL at h
  split at h
  · rename_i h1
    have:=hg _ (Bool.and_eq_true_iff.1 h1).2
    rw [List.length_drop] at this; omega
  ·
   split at h
   · rename_i h1
     have:=hg _ (Bool.and_eq_true_iff.1 h1).2
     rw [List.length_drop] at this; omega
   · cases h
theorem right_parts {m:Msg} (h:rightL m=true) (h0:m.kind≠0):(0≤m.due∧m.due≤1099511627776)∧(0≤m.ref∧m.ref≤1099511627776)∧(0≤m.born∧m.born≤1099511627776)∧(1≤m.kind∧m.kind≤4)∧(0≤m.queue∧m.queue < 3)∧(0≤m.retry∧m.retry≤4) ∧
 m.topic.length≤16∧m.tag.length≤16∧m.body.length≤200∧m.keys.length≤3∧(∀ t∈m.keys,t.length≤16):=by
 have hc:∀ m:Msg,carriesL m=true→(0≤m.queue∧m.queue < 3)∧(0≤m.retry∧m.retry≤4)∧m.topic.length≤16∧m.tag.length≤16∧m.body.length≤200∧m.keys.length≤3∧(∀ t∈m.keys,t.length≤16):=by
  intro m h
  unfold carriesL at h
  simp only [Bool.and_eq_true,decide_eq_true_eq] at h
  obtain ⟨⟨⟨⟨⟨⟨⟨⟨⟨h1,h2⟩,h3⟩,h4⟩,h5⟩,h6⟩,h7⟩,h8⟩,_⟩,h9⟩:=h
  refine ⟨⟨h2,h3⟩,⟨h4,h5⟩,topic_len h1,?_,h9,h7,fun t ht=>?_⟩
  ·
   unfold tagL at h6
   rw [Bool.or_eq_true] at h6
   rcases h6 with h6 | h6
   · rw [List.isEmpty_iff.1 h6]; exact Nat.zero_le _
   · exact plain_len h6
  · have:=List.all_eq_true.1 h8 t ht
    unfold keyL at this
    simp only [Bool.and_eq_true,decide_eq_true_eq] at this
    exact this.1.2
 unfold rightL at h
 split at h
 · cases h
 ·
  rename_i hb
  simp only [badNum,Bool.or_eq_true,decide_eq_true_eq,not_or,Int.not_lt] at hb
  obtain ⟨⟨⟨d1,d2⟩,r1,r2⟩,b1,b2⟩:=hb
  refine ⟨⟨d1,d2⟩,⟨r1,r2⟩,⟨b1,b2⟩,?_⟩
  split at h
  · rename_i hk
    simp only [Bool.and_eq_true] at h
    exact ⟨by omega,hc m h.1.1⟩
  ·
   split at h
   · rename_i hk
     exact ⟨by omega,hc m h⟩
   ·
    split at h
    · rename_i hk
      have h:=of_decide_eq_true h
      rw [h]
      refine ⟨by show (1:Int)≤4∧(4:Int)≤4; omega,⟨by show (0:Int)≤0; omega,by show (0:Int) < 3; omega⟩,⟨by show (0:Int)≤0; omega,by show (0:Int)≤4; omega⟩,?_⟩
      exact ⟨Nat.zero_le _,Nat.zero_le _,Nat.zero_le _,Nat.zero_le _,fun t ht=>by cases ht⟩
    · first
      | cases h
      | (rw [if_neg h0] at h; cases h)
theorem opened_put (m:Msg) (h:rightL m=true) (h0:m.kind≠0):openedR (insideL m)=(m,⟨[],0⟩):=by
 obtain ⟨⟨d1,d2⟩,⟨r1,r2⟩,⟨b1,b2⟩,⟨k1,k2⟩,⟨q1,q2⟩,⟨t1,t2⟩,l1,l2,l3,l4,l5⟩:=right_parts h h0
 have e1:∀ (x:Int) (rest:List UInt8),0≤x→x≤4→numR 1 ⟨be 1 x.toNat++rest,0⟩=(x.toNat,⟨rest,0⟩):=fun x rest h1 h2=>numR_be 1 x.toNat rest (by omega) (by omega) (by omega)
 have e6:∀ (x:Int) (rest:List UInt8),0≤x→x≤1099511627776→numR 6 ⟨be 6 x.toNat++rest,0⟩=(x.toNat,⟨rest,0⟩):=fun x rest h1 h2=>numR_be 6 x.toNat rest (by omega) (by omega) (by omega)
 unfold openedR insideL
 simp only
 rw [e1 m.kind _ (by omega) (by omega)]
 simp only
 rw [e1 m.queue _ q1 (by omega)]
 simp only
 rw [e1 m.retry _ t1 (by omega)]
 simp only
 rw [e6 m.born _ b1 b2]
 simp only
 rw [e6 m.due _ d1 d2]
 simp only
 rw [e6 m.ref _ r1 r2]
 simp only
 rw [textR_text 16 m.topic _ (by omega) (by omega)]
 simp only
 rw [textR_text 16 m.tag _ (by omega) (by omega)]
 simp only
 rw [textR_text 200 m.body _ (by omega) (by omega)]
 simp only
 have hl:=listR_list 3 16 [] m.keys (by omega) (by omega) (fun t ht=>⟨by have:=l5 t ht; omega,by have:=l5 t ht; omega⟩)
 rw [List.append_nil] at hl
 rw [hl]
 simp only
 rw [Int.toNat_of_nonneg (by omega:0≤m.kind),Int.toNat_of_nonneg q1,Int.toNat_of_nonneg d1,Int.toNat_of_nonneg t1,Int.toNat_of_nonneg r1,Int.toNat_of_nonneg b1]
theorem inside_len {m:Msg} (h:rightL m=true) (h0:m.kind≠0):(insideL m).length≤500:=by
 obtain ⟨_,_,_,_,_,_,l1,l2,l3,l4,l5⟩:=right_parts h h0
 have hk:∀ ks:List (List UInt8),(∀ t∈ks,t.length≤16)→(textsL ks).length≤18 * ks.length:=by
  intro ks
  induction ks with
  | nil=>intro _; exact Nat.le_refl _
  | cons t ks ih =>
    intro hh
    rw [textsL_cons,List.length_append,textL_length,List.length_cons]
    have:=hh t (.head _)
    have:=ih fun t ht=>hh t (.tail _ ht)
    omega
 have:=hk m.keys l5
 unfold insideL
 simp only [List.length_append,be_length,textL_length]
 omega
theorem rec_len {m:Msg} (h:rightL m=true) (h0:m.kind≠0):(recL m).length=7+(insideL m).length∧(recL m).length≤507:=by
 have:=inside_len h h0
 have e:(recL m).length=7+(insideL m).length:=by
  unfold recL
  rw [List.cons_append,List.length_cons,List.length_append,be_length,CrcMath.sealed_length]; omega
 exact ⟨e,by omega⟩
theorem fill_len {n:Nat} (h:3≤n) (h2:n≤1024):(fillL (n:Int)).length=n:=by
 unfold fillL
 rw [if_neg (by omega),Int.toNat_natCast]
 simp only [List.cons_append,List.length_cons,List.length_append,be_length,noughts,List.length_replicate]
 omega
end Go.Proofs.YtnoehodmmkioaaaGreatDoor.RecMath
namespace Go.Proofs.YtnoehodmmkioaaaGreatDoor.TapeMath
open OctMath RecMath
inductive Item where
 | one (m:Msg)
 | fill (n:Nat)
def Item.bytes:Item→List UInt8
 | .one m=>recL m
 | .fill n=>fillL (n:Int)
def Item.ok:Item→Prop
 | .one m=>rightL m=true∧m.kind≠0
 | .fill n=>3≤n∧n≤1024
def Item.len (x:Item):Nat:=x.bytes.length
def bytesL (l:List Item):List UInt8:=l.flatMap Item.bytes
theorem bytesL_cons (x:Item) (l:List Item):bytesL (x :: l)=x.bytes++bytesL l:=rfl
theorem bytesL_app (a b:List Item):bytesL (a++b)=bytesL a++bytesL b:=by unfold bytesL; simp
theorem Item.len_ge {x:Item} (h:x.ok):3≤x.len∧x.len≤1024:=by
 cases x with
 | one m =>
   have:=rec_len h.1 h.2
   show 3≤(recL m).length∧(recL m).length≤1024
   omega
 | fill n =>
   have:=fill_len h.1 h.2
   show 3≤(fillL (n:Int)).length∧(fillL (n:Int)).length≤1024
   rw [this]; exact h
def Lies (p:Nat) (x:Item):Prop:=x.ok∧p % 1024+x.len≤1024∧3≤1024 - (p+x.len) % 1024
def Fits:Nat→List Item→Prop
 | _,[]=>True
 | p,x :: l=>Lies p x∧Fits (p+x.len) l
def recsOf:Nat→List Item→List (Nat×Msg)
 | _,[]=>[]
 | p,.one m :: l=>(p,m) :: recsOf (p+(Item.one m).len) l
 | p,.fill n :: l=>recsOf (p+(Item.fill n).len) l
theorem Fits.app {p:Nat} {a b:List Item}:Fits p (a++b)↔Fits p a∧Fits (p+(bytesL a).length) b:=by
 induction a generalizing p with
 | nil=>simp [Fits,bytesL]
 | cons x a ih =>
   rw [List.cons_append]
   show Lies p x∧Fits (p+x.len) (a++b)↔(Lies p x∧Fits (p+x.len) a)∧Fits (p+(bytesL (x :: a)).length) b
   rw [ih,bytesL_cons,List.length_append]
   unfold Item.len
   rw [Nat.add_assoc,and_assoc]
theorem recs_app {p:Nat} {a b:List Item}:recsOf p (a++b)=recsOf p a++recsOf (p+(bytesL a).length) b:=by
 induction a generalizing p with
 | nil=>simp [recsOf,bytesL]
 | cons x a ih =>
   rw [List.cons_append,bytesL_cons,List.length_append]
   cases x with
   | one m =>
     show (p,m) :: recsOf (p+(Item.one m).len) (a++b)=((p,m) :: recsOf (p+(Item.one m).len) a)++_
     rw [ih,List.cons_append]
     unfold Item.len
     rw [Nat.add_assoc]
   | fill n =>
     show recsOf (p+(Item.fill n).len) (a++b)=recsOf (p+(Item.fill n).len) a++_
     rw [ih]
     unfold Item.len
     rw [Nat.add_assoc]
theorem recs_mem {p:Nat} {its:List Item} (hf:Fits p its) {id:Nat} {m:Msg} (h:(id,m)∈recsOf p its) :
 ∃ a c,its=a++Item.one m :: c∧id=p+(bytesL a).length:=by
 induction its generalizing p with
 | nil=>cases h
 | cons x l ih =>
   unfold Fits at hf
   cases x with
   | one m' =>
     unfold recsOf at h
     rcases List.mem_cons.1 h with h | h
     · cases h
       exact ⟨[],l,rfl,rfl⟩
     · obtain ⟨a,c,e1,e2⟩:=ih hf.2 h
       exact ⟨.one m' :: a,c,by rw [e1]; rfl,by rw [e2,bytesL_cons,List.length_append]; unfold Item.len; omega⟩
   | fill n =>
     unfold recsOf at h
     obtain ⟨a,c,e1,e2⟩:=ih hf.2 h
     exact ⟨.fill n :: a,c,by rw [e1]; rfl,by rw [e2,bytesL_cons,List.length_append]; unfold Item.len; omega⟩
theorem Fits.at {p:Nat} {a c:List Item} {x:Item} (h:Fits p (a++x :: c)):Lies (p+(bytesL a).length) x:=by
 have:=(Fits.app.1 h).2
 exact this.1
theorem read_item {a c:List Item} {x:Item} (k:Nat) (hk:x.len≤k):((bytesL (a++x :: c)).drop (bytesL a).length).take k=x.bytes++(bytesL c).take (k - x.len):=by
 rw [bytesL_app,List.drop_left,bytesL_cons,List.take_append]
 unfold Item.len at *
 rw [List.take_of_length_le hk]
theorem recs_sorted {p:Nat} {its:List Item} (hf:Fits p its):(∀ q∈recsOf p its,p≤q.1)∧((recsOf p its).map (·.1)).Pairwise (· < ·):=by
 induction its generalizing p with
 | nil=>exact ⟨fun q hq=>(by cases hq),List.Pairwise.nil⟩
 | cons x l ih =>
   unfold Fits at hf
   obtain ⟨h1,h2⟩:=ih hf.2
   have hl:=(Item.len_ge hf.1.1).1
   cases x with
   | one m =>
     unfold recsOf
     refine ⟨fun q hq=>?_,?_⟩
     · rcases List.mem_cons.1 hq with rfl | hq
       · exact Nat.le_refl _
       · have:=h1 q hq; omega
     · rw [List.map_cons,List.pairwise_cons]
       refine ⟨fun u hu=>?_,h2⟩
       obtain ⟨q,hq,rfl⟩:=List.mem_map.1 hu
       have:=h1 q hq
       show p < q.1
       omega
   | fill n =>
     unfold recsOf
     exact ⟨fun q hq=>by have:=h1 q hq; omega,h2⟩
theorem recs_lt {p:Nat} {its:List Item} (hf:Fits p its) {id:Nat} {m:Msg} (h:(id,m)∈recsOf p its):id+(recL m).length≤p+(bytesL its).length∧p≤id:=by
 obtain ⟨a,c,rfl,rfl⟩:=recs_mem hf h
 rw [bytesL_app,bytesL_cons,List.length_append,List.length_append]
 show _+(Item.one m).bytes.length≤_∧_
 omega
def roomL (e:Nat):Nat:=1024 - e % 1024
def laidOf (e:Nat) (m:Msg):List Item:=if roomL e=(recL m).length∨(recL m).length+3≤roomL e then [.one m] else [.fill (roomL e),.one m]
theorem loose_of {p:Nat} {its:List Item} (hf:Fits p its) (hp:p % 1024=0):3≤roomL (p+(bytesL its).length):=by
 rcases List.eq_nil_or_concat its with rfl | ⟨l,x,rfl⟩
 · unfold roomL bytesL
   show 3≤1024 - (p+0) % 1024
   omega
 ·
  rw [List.concat_eq_append] at *
  have:=(Fits.at (c:=[]) hf).2.2
  rw [bytesL_app,bytesL_cons,List.length_append,List.length_append]
  show 3≤1024 - (p+((bytesL l).length+(x.len+0))) % 1024
  rw [Nat.add_zero,← Nat.add_assoc]
  exact this
theorem laid_fits {p:Nat} {its:List Item} (hf:Fits p its) (hp:p % 1024=0) {m:Msg} (hm:rightL m=true) (h0:m.kind≠0):Fits p (its++laidOf (p+(bytesL its).length) m):=by
 refine Fits.app.2 ⟨hf,?_⟩
 have hr:=loose_of hf hp
 generalize p+(bytesL its).length=e at *
 have hl:=rec_len hm h0
 unfold laidOf
 split
 ·
  rename_i h
  refine ⟨⟨⟨hm,h0⟩,?_,?_⟩,trivial⟩
  · show e % 1024+(recL m).length≤1024
    unfold roomL at *; omega
  · show 3≤1024 - (e+(recL m).length) % 1024
    unfold roomL at *; omega
 ·
  rename_i h
  have hfl:(Item.fill (roomL e)).len=roomL e:=fill_len hr (by unfold roomL; omega)
  have hmod:(e+roomL e) % 1024=0:=by unfold roomL; omega
  refine ⟨⟨⟨hr,by unfold roomL; omega⟩,?_,?_⟩,⟨⟨hm,h0⟩,?_,?_⟩,trivial⟩
  · rw [hfl]; unfold roomL; omega
  · rw [hfl,hmod]; omega
  · rw [hfl,hmod]
    show 0+(recL m).length≤1024
    omega
  · rw [hfl]
    show 3≤1024 - (e+roomL e+(recL m).length) % 1024
    omega
end Go.Proofs.YtnoehodmmkioaaaGreatDoor.TapeMath
namespace Go.Proofs.YtnoehodmmkioaaaGreatDoor.SegW
open OctMath
def digs:List UInt8:=[48,49,50,51,52,53,54,55,56,57]
def dig (c:UInt8):Bool:=decide (48≤c.toNat) && decide (c.toNat≤57)
theorem dig_digs (c:UInt8):digs.contains c=dig c:=by
 have h:∀ k:Fin 256,digs.contains (UInt8.ofNat k.val)=dig (UInt8.ofNat k.val):=by decide +kernel
 have:=h ⟨c.toNat,c.toNat_lt⟩
 simpa using this
def numFrom (a:Nat):List UInt8→Nat
 | []=>a
 | c :: l=>numFrom (a * 10+(c.toNat - 48)) l
def numL (l:List UInt8):Nat:=numFrom 0 l
theorem numFrom_append (a b:List UInt8) (x:Nat):numFrom x (a++b)=numFrom (numFrom x a) b:=by
 induction a generalizing x with
 | nil=>rfl
 | cons c a ih=>exact ih _
theorem numFrom_lt:∀ (l:List UInt8) (a:Nat),(∀ c∈l,dig c=true)→numFrom a l < (a+1) * 10 ^ l.length
 | [],a,_=>by show a < _; simp
 | c :: l,a,h=>by
   have hc:=h c (.head _)
   simp [dig] at hc
   have:=numFrom_lt l (a * 10+(c.toNat - 48)) (fun x hx=>h x (.tail _ hx))
   show numFrom (a * 10+(c.toNat - 48)) l < _
   rw [List.length_cons,Nat.pow_succ]
   refine Nat.lt_of_lt_of_le this ?_
   rw [Nat.mul_comm (10 ^ l.length) 10,← Nat.mul_assoc]
   exact Nat.mul_le_mul_right _ (by omega)
theorem numL_lt (l:List UInt8) (h:∀ c∈l,dig c=true):numL l < 10 ^ l.length:=by have:=numFrom_lt l 0 h; rw [Nat.zero_add,Nat.one_mul] at this; exact this
theorem parse_num:∀ (l:List UInt8) (a:Nat),(∀ c∈l,dig c=true)→numFrom a l < 1000000000000000→Lib.parseUint10 a l=.ok (numFrom a l)
 | [],a,_,_=>rfl
 | c :: l,a,h,hn=>by
   have hc:=h c (.head _)
   simp [dig] at hc
   have hle:∀ (l:List UInt8) (a:Nat),a≤numFrom a l:=by
    intro l
    induction l with
    | nil=>intro a; exact Nat.le_refl _
    | cons c l ih=>intro a; exact Nat.le_trans (by omega) (ih _)
   have h1:=hle l (a * 10+(c.toNat - 48))
   have hn':numFrom (a * 10+(c.toNat - 48)) l < 1000000000000000:=hn
   unfold Lib.parseUint10
   rw [if_pos ⟨hc.1,hc.2⟩,if_neg (by omega),if_neg (by omega)]
   exact parse_num l _ (fun x hx=>h x (.tail _ hx)) hn'
theorem atoi_num (l:List UInt8) (h0:l≠[]) (h8:l.length≤8) (h:∀ c∈l,dig c=true):Lib.atoiAll l=.ok (numL l:Int):=by
 match l,h0 with
 | c :: r,_ =>
   have hc:=h c (.head _)
   simp [dig] at hc
   have hlt:=numL_lt _ h
   have hp:10 ^ (c :: r).length≤10 ^ 8:=Nat.pow_le_pow_right (by omega) h8
   have hl:numL (c :: r) < 100000000:=Nat.lt_of_lt_of_le hlt hp
   unfold Lib.atoiAll
   simp only
   rw [if_neg (by omega:¬ (c.toNat=43∨c.toNat=45))]
   have hm:Lib.parseMag (c :: r)=.ok (numL (c :: r)):=by
    unfold Lib.parseMag
    rw [if_neg (by simp)]
    exact parse_num _ 0 h (Nat.lt_of_lt_of_le hl (by omega))
   rw [hm]
   simp only
   rw [if_neg (by omega),if_neg (by omega),if_neg (by omega)]
theorem trim_digs (l:List UInt8):Lib.trimS l digs=[]↔∀ c∈l,dig c=true:=by
 unfold Lib.trimS Lib.trimLeftS Lib.trimRightS
 have h1:(fun x=>digs.contains x)=dig:=funext dig_digs
 simp only [h1]
 have hnil:∀ m:List UInt8,m.dropWhile dig=[]↔∀ c∈m,dig c=true:=by
  intro m
  induction m with
  | nil=>simp
  | cons x m ih =>
    by_cases hx:dig x=true
    ·
     rw [List.dropWhile_cons_of_pos hx,ih]
     constructor
     · intro h c hc
       rcases List.mem_cons.1 hc with rfl | hc
       · exact hx
       · exact h c hc
     · intro h c hc; exact h c (.tail _ hc)
    · rw [List.dropWhile_cons_of_neg hx]
      constructor
      · intro h; cases h
      · intro h; exact absurd (h x (.head _)) hx
 rw [hnil]
 constructor
 ·
  intro h
  have key:∀ (m:List UInt8),(∀ c∈(m.dropWhile dig),dig c=true)→∀ c∈m,dig c=true:=by
   intro m
   induction m with
   | nil=>intro _ c hc; cases hc
   | cons x m ih =>
     intro hm c hc
     by_cases hx:dig x=true
     · rw [List.dropWhile_cons_of_pos hx] at hm
       rcases List.mem_cons.1 hc with rfl | hc
       · exact hx
       · exact ih hm c hc
     · rw [List.dropWhile_cons_of_neg hx] at hm
       exact hm c hc
  intro c hc
  exact key l.reverse (fun x hx=>h x (by simpa using hx)) c (by simpa using hc)
 · intro h c hc
   have h2:c∈l.reverse.dropWhile dig:=by simpa using hc
   exact h c (by simpa using (List.dropWhile_suffix dig).subset h2)
/-! names -/
def padL (n:Nat):List UInt8:=List.replicate (8 - (Lib.decDigits n).length) 48++Lib.decDigits n
def nameL (head:List UInt8) (n:Nat):List UInt8:=head++padL n
def placeL (head name:List UInt8):Option Nat :=
 if Lib.hasPrefix name head=true∧(name.drop head.length).length=8∧∀ c∈name.drop head.length,dig c=true then some (numL (name.drop head.length)) else none
theorem dec_dig (u:Nat):∀ c∈Lib.decDigits u,dig c=true:=by
 induction u using Nat.strongRecOn with
 | _ u ih =>
   rw [Lib.decDigits]
   by_cases h:u < 10
   · rw [dif_pos h]
     intro c hc
     obtain rfl:=List.mem_singleton.1 hc
     have hh:∀ k:Fin 10,dig (UInt8.ofNat (48+k.val))=true:=by decide +kernel
     exact hh ⟨u,h⟩
   ·
    rw [dif_neg h]
    intro c hc
    rcases List.mem_append.1 hc with hc | hc
    · exact ih (u / 10) (by omega) c hc
    · obtain rfl:=List.mem_singleton.1 hc
      have hh:∀ k:Fin 10,dig (UInt8.ofNat (48+k.val))=true:=by decide +kernel
      exact hh ⟨u % 10,by omega⟩
theorem num_dec (u:Nat):numL (Lib.decDigits u)=u:=by
 induction u using Nat.strongRecOn with
 | _ u ih =>
   rw [Lib.decDigits]
   have hh:∀ k:Fin 10,(UInt8.ofNat (48+k.val)).toNat=48+k.val:=by decide +kernel
   by_cases h:u < 10
   · rw [dif_pos h]
     have:=hh ⟨u,h⟩
     simp only at this
     show 0 * 10+((UInt8.ofNat (48+u)).toNat - 48)=u
     omega
   ·
    rw [dif_neg h]
    have:=hh ⟨u % 10,by omega⟩
    unfold numL at *
    rw [numFrom_append,ih (u / 10) (by omega)]
    show u / 10 * 10+((UInt8.ofNat (48+u % 10)).toNat - 48)=u
    simp only at this
    omega
theorem dec_len (u:Nat) (h:u≤99999999):(Lib.decDigits u).length≤8:=by
 have key:∀ (k u:Nat),u < 10 ^ (k+1)→(Lib.decDigits u).length≤k+1:=by
  intro k
  induction k with
  | zero=>intro u hu; rw [Lib.decDigits_one (by simpa using hu)]; simp
  | succ k ih =>
    intro u hu
    rw [Lib.decDigits]
    by_cases h:u < 10
    · rw [dif_pos h]; simp
    · rw [dif_neg h,List.length_append]
      have:=ih (u / 10) (by rw [Nat.pow_succ] at hu; omega)
      show _+1≤_
      omega
 exact key 7 u (by omega)
theorem pad_len (u:Nat) (h:u≤99999999):(padL u).length=8:=by
 have:=dec_len u h
 unfold padL
 rw [List.length_append,List.length_replicate]
 omega
theorem pad_dig (u:Nat):∀ c∈padL u,dig c=true:=by
 intro c hc
 unfold padL at hc
 rcases List.mem_append.1 hc with hc | hc
 · obtain rfl:=List.eq_of_mem_replicate hc; rfl
 · exact dec_dig u c hc
theorem num_pad (u:Nat):numL (padL u)=u:=by
 unfold padL numL
 have h0:∀ k,numFrom 0 (List.replicate k 48)=0:=by
  intro k
  induction k with
  | zero=>rfl
  | succ k ih=>exact ih
 rw [numFrom_append,h0]
 exact num_dec u
theorem prefix_append (a b:List UInt8):Lib.hasPrefix (a++b) a=true:=by unfold Lib.hasPrefix; rw [List.isPrefixOf_iff_prefix]; exact List.prefix_append a b
theorem place_name (head:List UInt8) (u:Nat) (h:u≤99999999):placeL head (nameL head u)=some u:=by
 unfold placeL nameL
 have hd:(head++padL u).drop head.length=padL u:=List.drop_left
 rw [hd,if_pos ⟨prefix_append _ _,pad_len u h,pad_dig u⟩,num_pad]
theorem name_inj {head:List UInt8} {u v:Nat} (h:nameL head u=nameL head v):u=v:=by
 have:=List.append_cancel_left h
 rw [← num_pad u,this,num_pad]
theorem place_lt {head name:List UInt8} {n:Nat} (h:placeL head name=some n):n≤99999999:=by
 unfold placeL at h
 split at h
 ·
  rename_i h1
  injection h with h
  have:=numL_lt _ h1.2.2
  rw [h1.2.1] at this
  omega
 · cases h
end Go.Proofs.YtnoehodmmkioaaaGreatDoor.SegW
namespace Go.Proofs
open Go.Shelf
def Tryz.lays169_ren:Go.Shelf.Ren:=⟨fun | 169=>159 | n=>n,fun | 70=>257 | 9=>9 | 0=>0 | 72=>259 | 37=>218 | 127=>303 | 3=>3 | 5=>5 | n=>n,fun | n=>n⟩
theorem Tryz.lays169:Go.Proofs.Lays.n169 Tryz.prog Tryz.lays169_ren:={
 mixed:=by kernel_rfl
 f169:=Tryz.func159.trans (congrArg some (by kernel_rfl))
 t0:=Tryz.underlying0
 a0:=Tryz.isAgg0
 z0:=Tryz.sizeOf0
 v0:=Tryz.zeroValue0
 t3:=Tryz.underlying3
 a3:=Tryz.isAgg3
 z3:=Tryz.sizeOf3
 v3:=Tryz.zeroValue3
 t9:=Tryz.underlying9
 a9:=Tryz.isAgg9
 z9:=Tryz.sizeOf9
 v9:=Tryz.zeroValue9
 t37:=Tryz.underlying218
 a37:=Tryz.isAgg218
 z37:=Tryz.sizeOf218
 v37:=Tryz.zeroValue218
 t70:=Tryz.underlying257
 a70:=Tryz.isAgg257
 z70:=Tryz.sizeOf257
 v70:=Tryz.zeroValue257
 t72:=Tryz.underlying259
 a72:=Tryz.isAgg259
 z72:=Tryz.sizeOf259
 v72:=Tryz.zeroValue259
 t127:=Tryz.underlying303
 a127:=Tryz.isAgg303
 z127:=Tryz.sizeOf303
 v127:=Tryz.zeroValue303 }
theorem Tryz.Builder_Extra_169:Builder.Extra Tryz.prog Tryz.lays169_ren:={
 sizeBuilder:=by kernel_rfl
 liesBuilder:=by kernel_rfl
 t5:=Tryz.underlying5
 a5:=Tryz.isAgg5
 z5:=Tryz.sizeOf5
 v5:=Tryz.zeroValue5
 infoByte:=by kernel_rfl
 cellsByte:=by kernel_rfl
 sizeByte:=by kernel_rfl
 neB5:=by decide }
open Go.RowKit in
theorem Tryz.Builder_String_any (B b:Nat) (l:List UInt8) (w:World) (h:Lib.IsBuilder 259 5 B b (Lib.byteCells l) w) (hBw:B≤w.heap.size) :
 Calls Tryz.prog 159 #[.pointer (some ⟨b,0,none⟩)] w fun e w'=>e=.returned (.string ⟨l.toArray⟩)∧Below B w w':=Any.Builder_String_any Tryz.lays169 Tryz.Builder_Extra_169 B b l w h hBw
def Tryz.lays160_ren:Go.Shelf.Ren:=⟨fun | 160=>244 | 232=>257 | 231=>256 | 227=>258 | 234=>260 | 233=>259 | 236=>262 | 235=>261 | 228=>274 | 271=>277 | 151=>276 | 197=>275 | 120=>290 | 152=>289 | 260=>288 | 137=>296 | 119=>297 | 224=>298 | 225=>299 | 217=>302 | 266=>303 | n=>n,fun | 9=>9 | 4=>4 | 3=>3 | 5=>5 | 117=>353 | 116=>352 | 0=>0 | 124=>356 | 21=>21 | 105=>366 | 46=>184 | 119=>384 | 139=>387 | 138=>386 | n=>n,fun | 3=>4 | 4=>5 | n=>n⟩
theorem Tryz.lays160:Go.Proofs.Lays.n160 Tryz.prog Tryz.lays160_ren:={
 mixed:=by kernel_rfl
 f119:=Tryz.func297.trans (congrArg some (by kernel_rfl))
 f120:=Tryz.func290.trans (congrArg some (by kernel_rfl))
 f137:=Tryz.func296.trans (congrArg some (by kernel_rfl))
 f151:=Tryz.func276.trans (congrArg some (by kernel_rfl))
 f152:=Tryz.func289.trans (congrArg some (by kernel_rfl))
 f160:=Tryz.func244.trans (congrArg some (by kernel_rfl))
 f197:=Tryz.func275.trans (congrArg some (by kernel_rfl))
 f217:=Tryz.func302.trans (congrArg some (by kernel_rfl))
 f224:=Tryz.func298.trans (congrArg some (by kernel_rfl))
 f225:=Tryz.func299.trans (congrArg some (by kernel_rfl))
 f227:=Tryz.func258.trans (congrArg some (by kernel_rfl))
 f228:=Tryz.func274.trans (congrArg some (by kernel_rfl))
 f231:=Tryz.func256.trans (congrArg some (by kernel_rfl))
 f232:=Tryz.func257.trans (congrArg some (by kernel_rfl))
 f233:=Tryz.func259.trans (congrArg some (by kernel_rfl))
 f234:=Tryz.func260.trans (congrArg some (by kernel_rfl))
 f235:=Tryz.func261.trans (congrArg some (by kernel_rfl))
 f236:=Tryz.func262.trans (congrArg some (by kernel_rfl))
 f260:=Tryz.func288.trans (congrArg some (by kernel_rfl))
 f266:=Tryz.func303.trans (congrArg some (by kernel_rfl))
 f271:=Tryz.func277.trans (congrArg some (by kernel_rfl))
 t0:=Tryz.underlying0
 a0:=Tryz.isAgg0
 z0:=Tryz.sizeOf0
 v0:=Tryz.zeroValue0
 t3:=Tryz.underlying3
 a3:=Tryz.isAgg3
 z3:=Tryz.sizeOf3
 v3:=Tryz.zeroValue3
 t4:=Tryz.underlying4
 a4:=Tryz.isAgg4
 z4:=Tryz.sizeOf4
 v4:=Tryz.zeroValue4
 t5:=Tryz.underlying5
 a5:=Tryz.isAgg5
 z5:=Tryz.sizeOf5
 v5:=Tryz.zeroValue5
 t9:=Tryz.underlying9
 a9:=Tryz.isAgg9
 z9:=Tryz.sizeOf9
 v9:=Tryz.zeroValue9
 t21:=Tryz.underlying21
 a21:=Tryz.isAgg21
 z21:=Tryz.sizeOf21
 v21:=Tryz.zeroValue21
 t46:=Tryz.underlying184
 a46:=Tryz.isAgg184
 z46:=Tryz.sizeOf184
 v46:=Tryz.zeroValue184
 t105:=Tryz.underlying366
 a105:=Tryz.isAgg366
 z105:=Tryz.sizeOf366
 v105:=Tryz.zeroValue366
 t116:=Tryz.underlying352
 a116:=Tryz.isAgg352
 z116:=Tryz.sizeOf352
 t117:=Tryz.underlying353
 a117:=Tryz.isAgg353
 z117:=Tryz.sizeOf353
 v117:=Tryz.zeroValue353
 t119:=Tryz.underlying384
 a119:=Tryz.isAgg384
 z119:=Tryz.sizeOf384
 t124:=Tryz.underlying356
 a124:=Tryz.isAgg356
 z124:=Tryz.sizeOf356
 v124:=Tryz.zeroValue356
 t138:=Tryz.underlying386
 a138:=Tryz.isAgg386
 z138:=Tryz.sizeOf386
 v138:=Tryz.zeroValue386
 t139:=Tryz.underlying387
 a139:=Tryz.isAgg387
 z139:=Tryz.sizeOf387
 v139:=Tryz.zeroValue387
 g3:=by kernel_rfl
 g4:=by kernel_rfl }
def Tryz.lays210_ren:Go.Shelf.Ren:=⟨fun | 210=>166 | 206=>199 | n=>n,fun | 9=>9 | 4=>4 | 3=>3 | n=>n,fun | n=>n⟩
def Tryz.lays103_ren:Go.Shelf.Ren:=⟨fun | 103=>101 | 210=>166 | 206=>199 | n=>n,fun | 9=>9 | 4=>4 | 24=>121 | 3=>3 | n=>n,fun | n=>n⟩
theorem Tryz.lays103:Go.Proofs.Lays.n103 Tryz.prog Tryz.lays103_ren:={
 mixed:=by kernel_rfl
 f103:=Tryz.func101.trans (congrArg some (by kernel_rfl))
 f206:=Tryz.func199.trans (congrArg some (by kernel_rfl))
 f210:=Tryz.func166.trans (congrArg some (by kernel_rfl))
 t3:=Tryz.underlying3
 a3:=Tryz.isAgg3
 z3:=Tryz.sizeOf3
 v3:=Tryz.zeroValue3
 t4:=Tryz.underlying4
 a4:=Tryz.isAgg4
 z4:=Tryz.sizeOf4
 v4:=Tryz.zeroValue4
 t9:=Tryz.underlying9
 a9:=Tryz.isAgg9
 z9:=Tryz.sizeOf9
 v9:=Tryz.zeroValue9
 t24:=Tryz.underlying121
 a24:=Tryz.isAgg121
 z24:=Tryz.sizeOf121
 v24:=Tryz.zeroValue121 }
open Go.RowKit in
theorem Tryz.strings_CutPrefix (s p:ByteArray) (w:World) :
 Calls Tryz.prog 101 #[.string s,.string p] w fun e w'=>e=.returned (.tuple #[.string ⟨(Lib.trimPrefix s.data.toList p.data.toList).toArray⟩,.bool (Lib.hasPrefix s.data.toList p.data.toList)])∧w'=w:=Any.strings_CutPrefix Tryz.lays103 s p w
def Tryz.lays172_ren:Go.Shelf.Ren:=⟨fun | 172=>245 | 244=>263 | 245=>264 | 247=>278 | 279=>279 | 280=>280 | 281=>281 | 282=>282 | 287=>291 | 316=>292 | 171=>187 | 205=>293 | 321=>300 | 322=>301 | 243=>222 | 246=>247 | 283=>265 | 284=>266 | 285=>267 | 286=>268 | 129=>243 | 317=>283 | 318=>284 | 319=>285 | 320=>286 | 337=>294 | 338=>295 | n=>n,fun | 9=>9 | 3=>3 | 75=>261 | 76=>262 | 4=>4 | 5=>5 | 167=>369 | 37=>218 | 0=>0 | 85=>370 | 2=>2 | 168=>372 | 53=>325 | 175=>379 | 46=>184 | 210=>382 | 127=>303 | 145=>392 | 143=>390 | 21=>21 | 171=>358 | 173=>360 | 212=>376 | 51=>248 | 20=>20 | 213=>377 | 232=>393 | 233=>394 | 80=>265 | n=>n,fun | 15=>2 | 16=>3 | 17=>1 | 18=>6 | 19=>7 | n=>n⟩
def Tryz.laysM246_ren:Go.Shelf.Ren:=⟨fun | 246=>247 | 283=>265 | 284=>266 | 285=>267 | 286=>268 | 129=>243 | 317=>283 | 318=>284 | 319=>285 | 320=>286 | 337=>294 | 338=>295 | n=>n,fun | 2=>2 | 3=>3 | 9=>9 | 4=>4 | 171=>358 | 0=>0 | 53=>325 | 37=>218 | 5=>5 | 173=>360 | 212=>376 | 51=>248 | 20=>20 | 213=>377 | 46=>184 | 232=>393 | 233=>394 | n=>n,fun | 17=>1 | 18=>6 | 19=>7 | n=>n⟩
def Tryz.laysM243_ren:Go.Shelf.Ren:=⟨fun | 243=>222 | 246=>247 | 283=>265 | 284=>266 | 285=>267 | 286=>268 | 129=>243 | 317=>283 | 318=>284 | 319=>285 | 320=>286 | 337=>294 | 338=>295 | n=>n,fun | 3=>3 | 9=>9 | 2=>2 | 4=>4 | 171=>358 | 0=>0 | 53=>325 | 37=>218 | 5=>5 | 173=>360 | 212=>376 | 51=>248 | 20=>20 | 213=>377 | 46=>184 | 232=>393 | 233=>394 | n=>n,fun | 17=>1 | 18=>6 | 19=>7 | n=>n⟩
def Tryz.laysM171_ren:Go.Shelf.Ren:=⟨fun | 171=>187 | 243=>222 | 246=>247 | 283=>265 | 284=>266 | 285=>267 | 286=>268 | 129=>243 | 317=>283 | 318=>284 | 319=>285 | 320=>286 | 337=>294 | 338=>295 | n=>n,fun | 3=>3 | 9=>9 | 2=>2 | 4=>4 | 171=>358 | 0=>0 | 53=>325 | 37=>218 | 5=>5 | 173=>360 | 212=>376 | 51=>248 | 20=>20 | 213=>377 | 46=>184 | 232=>393 | 233=>394 | n=>n,fun | 17=>1 | 18=>6 | 19=>7 | n=>n⟩
theorem Tryz.laysM171:Go.Proofs.LaysM.n171 Tryz.prog Tryz.laysM171_ren:={
 mixed:=by kernel_rfl
 f129:=Tryz.func243.trans (congrArg some (by kernel_rfl))
 f171:=Tryz.func187.trans (congrArg some (by kernel_rfl))
 f243:=Tryz.func222.trans (congrArg some (by kernel_rfl))
 f246:=Tryz.func247.trans (congrArg some (by kernel_rfl))
 f283:=Tryz.func265.trans (congrArg some (by kernel_rfl))
 f284:=Tryz.func266.trans (congrArg some (by kernel_rfl))
 f285:=Tryz.func267.trans (congrArg some (by kernel_rfl))
 f286:=Tryz.func268.trans (congrArg some (by kernel_rfl))
 f317:=Tryz.func283.trans (congrArg some (by kernel_rfl))
 f318:=Tryz.func284.trans (congrArg some (by kernel_rfl))
 f319:=Tryz.func285.trans (congrArg some (by kernel_rfl))
 f320:=Tryz.func286.trans (congrArg some (by kernel_rfl))
 f337:=Tryz.func294.trans (congrArg some (by kernel_rfl))
 f338:=Tryz.func295.trans (congrArg some (by kernel_rfl))
 t0:=Tryz.underlying0
 a0:=Tryz.isAgg0
 z0:=Tryz.sizeOf0
 v0:=Tryz.zeroValue0
 t2:=Tryz.underlying2
 a2:=Tryz.isAgg2
 z2:=Tryz.sizeOf2
 v2:=Tryz.zeroValue2
 t3:=Tryz.underlying3
 a3:=Tryz.isAgg3
 z3:=Tryz.sizeOf3
 v3:=Tryz.zeroValue3
 t4:=Tryz.underlying4
 a4:=Tryz.isAgg4
 z4:=Tryz.sizeOf4
 v4:=Tryz.zeroValue4
 t5:=Tryz.underlying5
 a5:=Tryz.isAgg5
 z5:=Tryz.sizeOf5
 v5:=Tryz.zeroValue5
 t9:=Tryz.underlying9
 a9:=Tryz.isAgg9
 z9:=Tryz.sizeOf9
 v9:=Tryz.zeroValue9
 t20:=Tryz.underlying20
 a20:=Tryz.isAgg20
 z20:=Tryz.sizeOf20
 v20:=Tryz.zeroValue20
 t37:=Tryz.underlying218
 a37:=Tryz.isAgg218
 z37:=Tryz.sizeOf218
 v37:=Tryz.zeroValue218
 t46:=Tryz.underlying184
 a46:=Tryz.isAgg184
 z46:=Tryz.sizeOf184
 v46:=Tryz.zeroValue184
 t51:=Tryz.underlying248
 a51:=Tryz.isAgg248
 z51:=Tryz.sizeOf248
 v51:=Tryz.zeroValue248
 t53:=Tryz.underlying325
 a53:=Tryz.isAgg325
 z53:=Tryz.sizeOf325
 v53:=Tryz.zeroValue325
 t171:=Tryz.underlying358
 a171:=Tryz.isAgg358
 z171:=Tryz.sizeOf358
 v171:=Tryz.zeroValue358
 t173:=Tryz.underlying360
 a173:=Tryz.isAgg360
 z173:=Tryz.sizeOf360
 v173:=Tryz.zeroValue360
 t212:=Tryz.underlying376
 a212:=Tryz.isAgg376
 z212:=Tryz.sizeOf376
 v212:=Tryz.zeroValue376
 t213:=Tryz.underlying377
 a213:=Tryz.isAgg377
 z213:=Tryz.sizeOf377
 t232:=Tryz.underlying393
 a232:=Tryz.isAgg393
 z232:=Tryz.sizeOf393
 v232:=Tryz.zeroValue393
 t233:=Tryz.underlying394
 a233:=Tryz.isAgg394
 z233:=Tryz.sizeOf394
 v233:=Tryz.zeroValue394
 g17:=by kernel_rfl
 g18:=by kernel_rfl
 g19:=by kernel_rfl
 i0:=by kernel_rfl
 i2:=by kernel_rfl
 i3:=by kernel_rfl
 i4:=by kernel_rfl
 i5:=by kernel_rfl
 i9:=by kernel_rfl
 i20:=by kernel_rfl
 i37:=by kernel_rfl
 i46:=by kernel_rfl
 i51:=by kernel_rfl
 i53:=by kernel_rfl
 i171:=by kernel_rfl
 i173:=by kernel_rfl
 i212:=by kernel_rfl
 i232:=by kernel_rfl
 i233:=by kernel_rfl
 m17:=by kernel_rfl
 m18:=by kernel_rfl
 m19:=by kernel_rfl }
open Go.RowKit Go.Sort Go.Lib in
theorem Tryz.strconv_Itoa (n:Int) (h0 : -9223372036854775808≤n) (h1:n≤9223372036854775807) (w:World) (htab:Lib.TabIs Tryz.prog w "internal/strconv.uint64pow10" .u64 Lib.pow10Tab) :
 Calls Tryz.prog 187 #[.int .i64 n] w fun e w'=>e=.returned (.string ⟨(Lib.itoa n).toArray⟩)∧∃ k os,w'=grow (w.drewN k) os:=Any.strconv_Itoa Tryz.laysM171 n h0 h1 w htab
def Tryz.laysC172_ren:Go.Shelf.Ren:=⟨fun | 172=>245 | 244=>263 | 245=>264 | 247=>278 | 279=>279 | 280=>280 | 281=>281 | 282=>282 | 287=>291 | 316=>292 | 171=>187 | 205=>293 | 321=>300 | 322=>301 | 243=>222 | 246=>247 | 283=>265 | 284=>266 | 285=>267 | 286=>268 | 129=>243 | 317=>283 | 318=>284 | 319=>285 | 320=>286 | 337=>294 | 338=>295 | n=>n,fun | 9=>9 | 3=>3 | 75=>261 | 76=>262 | 4=>4 | 5=>5 | 167=>369 | 37=>218 | 0=>0 | 85=>370 | 2=>2 | 168=>372 | 53=>325 | 175=>379 | 46=>184 | 210=>382 | 127=>303 | 145=>392 | 143=>390 | 21=>21 | 171=>358 | 173=>360 | 212=>376 | 51=>248 | 20=>20 | 213=>377 | 232=>393 | 233=>394 | 80=>265 | n=>n,fun | 15=>2 | 16=>3 | 17=>1 | 18=>6 | 19=>7 | n=>n⟩
theorem Tryz.laysC172:Go.Proofs.LaysC.n172 Tryz.prog Tryz.laysC172_ren:={
 mixed:=by kernel_rfl
 f129:=Tryz.func243.trans (congrArg some (by kernel_rfl))
 f171:=Tryz.func187.trans (congrArg some (by kernel_rfl))
 f172:=Tryz.func245.trans (congrArg some (by kernel_rfl))
 f205:=Tryz.func293.trans (congrArg some (by kernel_rfl))
 f243:=Tryz.func222.trans (congrArg some (by kernel_rfl))
 f244:=Tryz.func263.trans (congrArg some (by kernel_rfl))
 f245:=Tryz.func264.trans (congrArg some (by kernel_rfl))
 f246:=Tryz.func247.trans (congrArg some (by kernel_rfl))
 f247:=Tryz.func278.trans (congrArg some (by kernel_rfl))
 f279:=Tryz.func279.trans (congrArg some (by kernel_rfl))
 f280:=Tryz.func280.trans (congrArg some (by kernel_rfl))
 f281:=Tryz.func281.trans (congrArg some (by kernel_rfl))
 f282:=Tryz.func282.trans (congrArg some (by kernel_rfl))
 f283:=Tryz.func265.trans (congrArg some (by kernel_rfl))
 f284:=Tryz.func266.trans (congrArg some (by kernel_rfl))
 f285:=Tryz.func267.trans (congrArg some (by kernel_rfl))
 f286:=Tryz.func268.trans (congrArg some (by kernel_rfl))
 f287:=Tryz.func291.trans (congrArg some (by kernel_rfl))
 f316:=Tryz.func292.trans (congrArg some (by kernel_rfl))
 f317:=Tryz.func283.trans (congrArg some (by kernel_rfl))
 f318:=Tryz.func284.trans (congrArg some (by kernel_rfl))
 f319:=Tryz.func285.trans (congrArg some (by kernel_rfl))
 f320:=Tryz.func286.trans (congrArg some (by kernel_rfl))
 f321:=Tryz.func300.trans (congrArg some (by kernel_rfl))
 f322:=Tryz.func301.trans (congrArg some (by kernel_rfl))
 f337:=Tryz.func294.trans (congrArg some (by kernel_rfl))
 f338:=Tryz.func295.trans (congrArg some (by kernel_rfl))
 t0:=Tryz.underlying0
 a0:=Tryz.isAgg0
 z0:=Tryz.sizeOf0
 v0:=Tryz.zeroValue0
 t2:=Tryz.underlying2
 a2:=Tryz.isAgg2
 z2:=Tryz.sizeOf2
 v2:=Tryz.zeroValue2
 t3:=Tryz.underlying3
 a3:=Tryz.isAgg3
 z3:=Tryz.sizeOf3
 v3:=Tryz.zeroValue3
 t4:=Tryz.underlying4
 a4:=Tryz.isAgg4
 z4:=Tryz.sizeOf4
 v4:=Tryz.zeroValue4
 t5:=Tryz.underlying5
 a5:=Tryz.isAgg5
 z5:=Tryz.sizeOf5
 v5:=Tryz.zeroValue5
 t9:=Tryz.underlying9
 a9:=Tryz.isAgg9
 z9:=Tryz.sizeOf9
 v9:=Tryz.zeroValue9
 t20:=Tryz.underlying20
 a20:=Tryz.isAgg20
 z20:=Tryz.sizeOf20
 v20:=Tryz.zeroValue20
 t21:=Tryz.underlying21
 a21:=Tryz.isAgg21
 z21:=Tryz.sizeOf21
 v21:=Tryz.zeroValue21
 t37:=Tryz.underlying218
 a37:=Tryz.isAgg218
 z37:=Tryz.sizeOf218
 v37:=Tryz.zeroValue218
 t46:=Tryz.underlying184
 a46:=Tryz.isAgg184
 z46:=Tryz.sizeOf184
 v46:=Tryz.zeroValue184
 t51:=Tryz.underlying248
 a51:=Tryz.isAgg248
 z51:=Tryz.sizeOf248
 v51:=Tryz.zeroValue248
 t53:=Tryz.underlying325
 a53:=Tryz.isAgg325
 z53:=Tryz.sizeOf325
 v53:=Tryz.zeroValue325
 t75:=Tryz.underlying261
 a75:=Tryz.isAgg261
 z75:=Tryz.sizeOf261
 v75:=Tryz.zeroValue261
 t76:=Tryz.underlying262
 a76:=Tryz.isAgg262
 z76:=Tryz.sizeOf262
 v76:=Tryz.zeroValue262
 t85:=Tryz.underlying370
 a85:=Tryz.isAgg370
 z85:=Tryz.sizeOf370
 v85:=Tryz.zeroValue370
 t127:=Tryz.underlying303
 a127:=Tryz.isAgg303
 z127:=Tryz.sizeOf303
 v127:=Tryz.zeroValue303
 t143:=Tryz.underlying390
 a143:=Tryz.isAgg390
 z143:=Tryz.sizeOf390
 v143:=Tryz.zeroValue390
 t145:=Tryz.underlying392
 a145:=Tryz.isAgg392
 z145:=Tryz.sizeOf392
 v145:=Tryz.zeroValue392
 t167:=Tryz.underlying369
 a167:=Tryz.isAgg369
 z167:=Tryz.sizeOf369
 v167:=Tryz.zeroValue369
 t168:=Tryz.underlying372
 a168:=Tryz.isAgg372
 z168:=Tryz.sizeOf372
 v168:=Tryz.zeroValue372
 t171:=Tryz.underlying358
 a171:=Tryz.isAgg358
 z171:=Tryz.sizeOf358
 v171:=Tryz.zeroValue358
 t173:=Tryz.underlying360
 a173:=Tryz.isAgg360
 z173:=Tryz.sizeOf360
 v173:=Tryz.zeroValue360
 t175:=Tryz.underlying379
 a175:=Tryz.isAgg379
 z175:=Tryz.sizeOf379
 v175:=Tryz.zeroValue379
 t210:=Tryz.underlying382
 a210:=Tryz.isAgg382
 z210:=Tryz.sizeOf382
 v210:=Tryz.zeroValue382
 t212:=Tryz.underlying376
 a212:=Tryz.isAgg376
 z212:=Tryz.sizeOf376
 v212:=Tryz.zeroValue376
 t213:=Tryz.underlying377
 a213:=Tryz.isAgg377
 z213:=Tryz.sizeOf377
 t232:=Tryz.underlying393
 a232:=Tryz.isAgg393
 z232:=Tryz.sizeOf393
 v232:=Tryz.zeroValue393
 t233:=Tryz.underlying394
 a233:=Tryz.isAgg394
 z233:=Tryz.sizeOf394
 v233:=Tryz.zeroValue394
 g15:=by kernel_rfl
 g16:=by kernel_rfl
 g17:=by kernel_rfl
 g18:=by kernel_rfl
 g19:=by kernel_rfl
 t80:=Tryz.underlying265
 a80:=Tryz.isAgg265
 z80:=Tryz.sizeOf265
 v80:=Tryz.zeroValue265
 i0:=by kernel_rfl
 i2:=by kernel_rfl
 i3:=by kernel_rfl
 i4:=by kernel_rfl
 i5:=by kernel_rfl
 i9:=by kernel_rfl
 i20:=by kernel_rfl
 i21:=by kernel_rfl
 i37:=by kernel_rfl
 i46:=by kernel_rfl
 i51:=by kernel_rfl
 i53:=by kernel_rfl
 i75:=by kernel_rfl
 i76:=by kernel_rfl
 i80:=by kernel_rfl
 i85:=by kernel_rfl
 i127:=by kernel_rfl
 i143:=by kernel_rfl
 i145:=by kernel_rfl
 i167:=by kernel_rfl
 i168:=by kernel_rfl
 i171:=by kernel_rfl
 i173:=by kernel_rfl
 i175:=by kernel_rfl
 i210:=by kernel_rfl
 i212:=by kernel_rfl
 i232:=by kernel_rfl
 i233:=by kernel_rfl
 m15:=by kernel_rfl
 m16:=by kernel_rfl
 m17:=by kernel_rfl
 m18:=by kernel_rfl
 m19:=by kernel_rfl
 c0:=by kernel_rfl
 c2:=by kernel_rfl
 c3:=by kernel_rfl
 c4:=by kernel_rfl
 c5:=by kernel_rfl
 c9:=by kernel_rfl
 c20:=by kernel_rfl
 c21:=by kernel_rfl
 c37:=by kernel_rfl
 c46:=by kernel_rfl
 c51:=by kernel_rfl
 c53:=by kernel_rfl
 c75:=by kernel_rfl
 c76:=by kernel_rfl
 c80:=by kernel_rfl
 c85:=by kernel_rfl
 c127:=by kernel_rfl
 c143:=by kernel_rfl
 c145:=by kernel_rfl
 c167:=by kernel_rfl
 c168:=by kernel_rfl
 c171:=by kernel_rfl
 c173:=by kernel_rfl
 c175:=by kernel_rfl
 c210:=by kernel_rfl
 c212:=by kernel_rfl
 c213:=by kernel_rfl
 c232:=by kernel_rfl
 c233:=by kernel_rfl }
open Go.RowKit in
theorem Tryz.strconv_Atoi_ok (s:ByteArray) (hmax:s.size≤9223372036854775806) (v:Int) (h:Lib.atoiAll s.data.toList=.ok v) (w:World) :
 Calls Tryz.prog 245 #[.string s] w fun e w'=>e=.returned (.tuple #[.int .i64 v,.nilIface])∧(w'=w∨∃ t,w'=Lib.bytesWorld w 5 t):=Any.strconv_Atoi_ok Tryz.laysC172 s hmax v h w
def Tryz.lays190_ren:Go.Shelf.Ren:=⟨fun | 190=>168 | 125=>216 | 258=>215 | 128=>242 | 129=>243 | 302=>233 | 303=>234 | 304=>235 | 305=>236 | 306=>237 | 307=>238 | 308=>239 | 309=>240 | 310=>241 | 333=>251 | 329=>252 | 330=>253 | 334=>254 | 335=>255 | 336=>246 | 344=>273 | n=>n,fun | 31=>31 | 9=>9 | 3=>3 | 46=>184 | 0=>0 | 51=>248 | 53=>325 | 4=>4 | 183=>330 | 182=>329 | 131=>117 | 5=>5 | 218=>344 | 222=>348 | 228=>362 | 229=>363 | n=>n,fun | n=>n⟩
theorem Tryz.lays190:Go.Proofs.Lays.n190 Tryz.prog Tryz.lays190_ren:={
 mixed:=by kernel_rfl
 f125:=Tryz.func216.trans (congrArg some (by kernel_rfl))
 f128:=Tryz.func242.trans (congrArg some (by kernel_rfl))
 f129:=Tryz.func243.trans (congrArg some (by kernel_rfl))
 f190:=Tryz.func168.trans (congrArg some (by kernel_rfl))
 f258:=Tryz.func215.trans (congrArg some (by kernel_rfl))
 f302:=Tryz.func233.trans (congrArg some (by kernel_rfl))
 f303:=Tryz.func234.trans (congrArg some (by kernel_rfl))
 f304:=Tryz.func235.trans (congrArg some (by kernel_rfl))
 f305:=Tryz.func236.trans (congrArg some (by kernel_rfl))
 f306:=Tryz.func237.trans (congrArg some (by kernel_rfl))
 f307:=Tryz.func238.trans (congrArg some (by kernel_rfl))
 f308:=Tryz.func239.trans (congrArg some (by kernel_rfl))
 f309:=Tryz.func240.trans (congrArg some (by kernel_rfl))
 f310:=Tryz.func241.trans (congrArg some (by kernel_rfl))
 f329:=Tryz.func252.trans (congrArg some (by kernel_rfl))
 f330:=Tryz.func253.trans (congrArg some (by kernel_rfl))
 f333:=Tryz.func251.trans (congrArg some (by kernel_rfl))
 f334:=Tryz.func254.trans (congrArg some (by kernel_rfl))
 f335:=Tryz.func255.trans (congrArg some (by kernel_rfl))
 f336:=Tryz.func246.trans (congrArg some (by kernel_rfl))
 f344:=Tryz.func273.trans (congrArg some (by kernel_rfl))
 t0:=Tryz.underlying0
 a0:=Tryz.isAgg0
 z0:=Tryz.sizeOf0
 v0:=Tryz.zeroValue0
 t3:=Tryz.underlying3
 a3:=Tryz.isAgg3
 z3:=Tryz.sizeOf3
 v3:=Tryz.zeroValue3
 t4:=Tryz.underlying4
 a4:=Tryz.isAgg4
 z4:=Tryz.sizeOf4
 v4:=Tryz.zeroValue4
 t5:=Tryz.underlying5
 a5:=Tryz.isAgg5
 z5:=Tryz.sizeOf5
 v5:=Tryz.zeroValue5
 t9:=Tryz.underlying9
 a9:=Tryz.isAgg9
 z9:=Tryz.sizeOf9
 v9:=Tryz.zeroValue9
 t31:=Tryz.underlying31
 a31:=Tryz.isAgg31
 z31:=Tryz.sizeOf31
 v31:=Tryz.zeroValue31
 t46:=Tryz.underlying184
 a46:=Tryz.isAgg184
 z46:=Tryz.sizeOf184
 v46:=Tryz.zeroValue184
 t51:=Tryz.underlying248
 a51:=Tryz.isAgg248
 z51:=Tryz.sizeOf248
 v51:=Tryz.zeroValue248
 t53:=Tryz.underlying325
 a53:=Tryz.isAgg325
 z53:=Tryz.sizeOf325
 v53:=Tryz.zeroValue325
 t131:=Tryz.underlying117
 a131:=Tryz.isAgg117
 z131:=Tryz.sizeOf117
 v131:=Tryz.zeroValue117
 t182:=Tryz.underlying329
 a182:=Tryz.isAgg329
 z182:=Tryz.sizeOf329
 v182:=Tryz.zeroValue329
 t183:=Tryz.underlying330
 a183:=Tryz.isAgg330
 z183:=Tryz.sizeOf330
 v183:=Tryz.zeroValue330
 t218:=Tryz.underlying344
 a218:=Tryz.isAgg344
 z218:=Tryz.sizeOf344
 v218:=Tryz.zeroValue344
 t222:=Tryz.underlying348
 a222:=Tryz.isAgg348
 z222:=Tryz.sizeOf348
 v222:=Tryz.zeroValue348
 t228:=Tryz.underlying362
 a228:=Tryz.isAgg362
 z228:=Tryz.sizeOf362
 v228:=Tryz.zeroValue362
 t229:=Tryz.underlying363
 a229:=Tryz.isAgg363
 z229:=Tryz.sizeOf363
 v229:=Tryz.zeroValue363 }
open Go.Sort Go.RowKit in
theorem Tryz.slices_Sort_string (blk off cap:Nat) (ss:List (List UInt8)) (w:World) (hH:Holds encStr w blk off ss.toArray) (hblk:blk < w.heap.size) (hsz:ss.length < 4611686018427387904) :
 Calls Tryz.prog 168 #[.slice (some ⟨blk,off,none⟩) ss.length cap] w fun e w' =>
  e=.returned (.tuple #[])∧∃ n os,w'=grow (putRow encStr (Sort.ahead w n) blk off (ss.mergeSort fun x y=>decide (x≤y)).toArray) os:=Any.slices_Sort_string Tryz.lays190 blk off cap ss w hH hblk hsz
def Tryz.laysGw15_ren:Go.Shelf.Ren:=⟨fun | 15=>141 | 20=>196 | n=>n,fun | 9=>9 | 23=>241 | 3=>3 | 4=>4 | 0=>0 | 21=>21 | n=>n,fun | n=>n⟩
theorem Tryz.laysGw15:Go.Proofs.LaysGw.n15 Tryz.prog Tryz.laysGw15_ren:={
 mixed:=by kernel_rfl
 f15:=Tryz.func141.trans (congrArg some (by kernel_rfl))
 f20:=Tryz.func196.trans (congrArg some (by kernel_rfl))
 t0:=Tryz.underlying0
 a0:=Tryz.isAgg0
 z0:=Tryz.sizeOf0
 v0:=Tryz.zeroValue0
 i0:=by kernel_rfl
 t3:=Tryz.underlying3
 a3:=Tryz.isAgg3
 z3:=Tryz.sizeOf3
 v3:=Tryz.zeroValue3
 i3:=by kernel_rfl
 t4:=Tryz.underlying4
 a4:=Tryz.isAgg4
 z4:=Tryz.sizeOf4
 v4:=Tryz.zeroValue4
 i4:=by kernel_rfl
 t9:=Tryz.underlying9
 a9:=Tryz.isAgg9
 z9:=Tryz.sizeOf9
 v9:=Tryz.zeroValue9
 i9:=by kernel_rfl
 t21:=Tryz.underlying21
 a21:=Tryz.isAgg21
 z21:=Tryz.sizeOf21
 v21:=Tryz.zeroValue21
 i21:=by kernel_rfl
 t23:=Tryz.underlying241
 a23:=Tryz.isAgg241
 z23:=Tryz.sizeOf241
 v23:=Tryz.zeroValue241
 i23:=by kernel_rfl }
open Go.RowKit Go.Lib in
theorem Tryz.strings_IndexFunc (g:Nat) (lb:Array Value) (eg:∀ args w,(callFunc g args).run Tryz.prog w=.ok (.enter g args) w) (p:Nat→Bool) (s:ByteArray) (w:World) (hp:PredAt Tryz.prog g lb encR p w) :
 Calls Tryz.prog 141 #[.string s,.func (.func g) #[] lb] w fun e w'=>e=.returned (.int .i64 (Lib.idxFunc p true s))∧Below w.heap.size w w':=Any.strings_IndexFunc Tryz.laysGw15 g lb eg p s w hp
def Tryz.lays99_ren:Go.Shelf.Ren:=⟨fun | 99=>149 | 206=>199 | n=>n,fun | 9=>9 | 4=>4 | 3=>3 | n=>n,fun | n=>n⟩
theorem Tryz.lays99:Go.Proofs.Lays.n99 Tryz.prog Tryz.lays99_ren:={
 mixed:=by kernel_rfl
 f99:=Tryz.func149.trans (congrArg some (by kernel_rfl))
 f206:=Tryz.func199.trans (congrArg some (by kernel_rfl))
 t3:=Tryz.underlying3
 a3:=Tryz.isAgg3
 z3:=Tryz.sizeOf3
 v3:=Tryz.zeroValue3
 t4:=Tryz.underlying4
 a4:=Tryz.isAgg4
 z4:=Tryz.sizeOf4
 v4:=Tryz.zeroValue4
 t9:=Tryz.underlying9
 a9:=Tryz.isAgg9
 z9:=Tryz.sizeOf9
 v9:=Tryz.zeroValue9 }
open Go.RowKit Go.Lib in
theorem Tryz.strings_HasPrefix (s p:ByteArray) (w:World) :
 Calls Tryz.prog 149 #[.string s,.string p] w fun e w'=>e=.returned (.bool (Lib.hasPrefix s.data.toList p.data.toList))∧w'=w:=Any.strings_HasPrefix Tryz.lays99 s p w
def Tryz.lays105_ren:Go.Shelf.Ren:=⟨fun | 105=>165 | 212=>211 | 99=>149 | 165=>212 | 166=>157 | 170=>213 | 169=>159 | 263=>230 | 264=>231 | 206=>199 | 240=>206 | 241=>232 | 276=>229 | 277=>250 | n=>n,fun | 9=>9 | 3=>3 | 4=>4 | 20=>20 | 0=>0 | 46=>184 | 109=>306 | 5=>5 | 72=>259 | 76=>262 | 51=>248 | 146=>323 | 53=>325 | 148=>326 | 70=>257 | 37=>218 | 75=>261 | 127=>303 | 164=>321 | 80=>265 | n=>n,fun | n=>n⟩
theorem Tryz.lays105:Go.Proofs.Lays.n105 Tryz.prog Tryz.lays105_ren:={
 mixed:=by kernel_rfl
 f99:=Tryz.func149.trans (congrArg some (by kernel_rfl))
 f105:=Tryz.func165.trans (congrArg some (by kernel_rfl))
 f165:=Tryz.func212.trans (congrArg some (by kernel_rfl))
 f166:=Tryz.func157.trans (congrArg some (by kernel_rfl))
 f169:=Tryz.func159.trans (congrArg some (by kernel_rfl))
 f170:=Tryz.func213.trans (congrArg some (by kernel_rfl))
 f206:=Tryz.func199.trans (congrArg some (by kernel_rfl))
 f212:=Tryz.func211.trans (congrArg some (by kernel_rfl))
 f240:=Tryz.func206.trans (congrArg some (by kernel_rfl))
 f241:=Tryz.func232.trans (congrArg some (by kernel_rfl))
 f263:=Tryz.func230.trans (congrArg some (by kernel_rfl))
 f264:=Tryz.func231.trans (congrArg some (by kernel_rfl))
 f276:=Tryz.func229.trans (congrArg some (by kernel_rfl))
 f277:=Tryz.func250.trans (congrArg some (by kernel_rfl))
 t0:=Tryz.underlying0
 a0:=Tryz.isAgg0
 z0:=Tryz.sizeOf0
 v0:=Tryz.zeroValue0
 t3:=Tryz.underlying3
 a3:=Tryz.isAgg3
 z3:=Tryz.sizeOf3
 v3:=Tryz.zeroValue3
 t4:=Tryz.underlying4
 a4:=Tryz.isAgg4
 z4:=Tryz.sizeOf4
 v4:=Tryz.zeroValue4
 t5:=Tryz.underlying5
 a5:=Tryz.isAgg5
 z5:=Tryz.sizeOf5
 v5:=Tryz.zeroValue5
 t9:=Tryz.underlying9
 a9:=Tryz.isAgg9
 z9:=Tryz.sizeOf9
 v9:=Tryz.zeroValue9
 t20:=Tryz.underlying20
 a20:=Tryz.isAgg20
 z20:=Tryz.sizeOf20
 v20:=Tryz.zeroValue20
 t37:=Tryz.underlying218
 a37:=Tryz.isAgg218
 z37:=Tryz.sizeOf218
 v37:=Tryz.zeroValue218
 t46:=Tryz.underlying184
 a46:=Tryz.isAgg184
 z46:=Tryz.sizeOf184
 v46:=Tryz.zeroValue184
 t51:=Tryz.underlying248
 a51:=Tryz.isAgg248
 z51:=Tryz.sizeOf248
 v51:=Tryz.zeroValue248
 t53:=Tryz.underlying325
 a53:=Tryz.isAgg325
 z53:=Tryz.sizeOf325
 v53:=Tryz.zeroValue325
 t70:=Tryz.underlying257
 a70:=Tryz.isAgg257
 z70:=Tryz.sizeOf257
 v70:=Tryz.zeroValue257
 t72:=Tryz.underlying259
 a72:=Tryz.isAgg259
 z72:=Tryz.sizeOf259
 v72:=Tryz.zeroValue259
 t75:=Tryz.underlying261
 a75:=Tryz.isAgg261
 z75:=Tryz.sizeOf261
 v75:=Tryz.zeroValue261
 t76:=Tryz.underlying262
 a76:=Tryz.isAgg262
 z76:=Tryz.sizeOf262
 v76:=Tryz.zeroValue262
 t109:=Tryz.underlying306
 a109:=Tryz.isAgg306
 z109:=Tryz.sizeOf306
 v109:=Tryz.zeroValue306
 t127:=Tryz.underlying303
 a127:=Tryz.isAgg303
 z127:=Tryz.sizeOf303
 v127:=Tryz.zeroValue303
 t146:=Tryz.underlying323
 a146:=Tryz.isAgg323
 z146:=Tryz.sizeOf323
 v146:=Tryz.zeroValue323
 t148:=Tryz.underlying326
 a148:=Tryz.isAgg326
 z148:=Tryz.sizeOf326
 v148:=Tryz.zeroValue326
 t164:=Tryz.underlying321
 a164:=Tryz.isAgg321
 z164:=Tryz.sizeOf321
 v164:=Tryz.zeroValue321 }
theorem Tryz.Builder_Extra_105:Builder.Extra Tryz.prog Tryz.lays105_ren:={
 sizeBuilder:=by kernel_rfl
 liesBuilder:=by kernel_rfl
 t5:=Tryz.underlying5
 a5:=Tryz.isAgg5
 z5:=Tryz.sizeOf5
 v5:=Tryz.zeroValue5
 infoByte:=by kernel_rfl
 cellsByte:=by kernel_rfl
 sizeByte:=by kernel_rfl
 neB5:=by decide }
open Go.RowKit Go.Lib in
theorem Tryz.strings_Repeat (s:ByteArray) (c:Nat) (w:World) (hc:c≤9223372036854775807) (hlen:s.size * c≤140737488355328) :
 Calls Tryz.prog 165 #[.string s,.int .i64 c] w fun e w'=>e=.returned (.string ⟨(Lib.repeatL s.data.toList c).toArray⟩)∧Below w.heap.size w w':=Any.strings_Repeat Tryz.lays105 Tryz.Builder_Extra_105 s c w hc hlen
def Tryz.lays110_ren:Go.Shelf.Ren:=⟨fun | 110=>87 | 109=>145 | n=>n,fun | 31=>31 | 9=>9 | 4=>4 | 3=>3 | 0=>0 | n=>n,fun | n=>n⟩
def Tryz.lays193_ren:Go.Shelf.Ren:=⟨fun | 193=>210 | n=>n,fun | 31=>31 | 9=>9 | 4=>4 | 3=>3 | 0=>0 | n=>n,fun | n=>n⟩
theorem Tryz.lays193:Go.Proofs.Lays.n193 Tryz.prog Tryz.lays193_ren:={
 mixed:=by kernel_rfl
 f193:=Tryz.func210.trans (congrArg some (by kernel_rfl))
 t0:=Tryz.underlying0
 a0:=Tryz.isAgg0
 z0:=Tryz.sizeOf0
 v0:=Tryz.zeroValue0
 t3:=Tryz.underlying3
 a3:=Tryz.isAgg3
 z3:=Tryz.sizeOf3
 v3:=Tryz.zeroValue3
 t4:=Tryz.underlying4
 a4:=Tryz.isAgg4
 z4:=Tryz.sizeOf4
 v4:=Tryz.zeroValue4
 t9:=Tryz.underlying9
 a9:=Tryz.isAgg9
 z9:=Tryz.sizeOf9
 v9:=Tryz.zeroValue9
 t31:=Tryz.underlying31
 a31:=Tryz.isAgg31
 z31:=Tryz.sizeOf31
 v31:=Tryz.zeroValue31 }
open Go.RowKit Go.Lib in
theorem Tryz.slices_Equal_string (b1 o1 n c b2 o2 m d:Nat) (xs ys:List ByteArray) (w:World) (hx:n≤xs.length) (hy:m≤ys.length) (hbig:n≤9223372036854775807) (hbig2:m≤9223372036854775807) (hc1:∀ j,j < xs.length→w.cell? ⟨b1,o1+j,none⟩=some (.string (xs.getD j ByteArray.empty))) (hc2:∀ j,j < ys.length→w.cell? ⟨b2,o2+j,none⟩=some (.string (ys.getD j ByteArray.empty))) :
 Calls Tryz.prog 210 #[.slice (some ⟨b1,o1,none⟩) n c,.slice (some ⟨b2,o2,none⟩) m d] w fun e w'=>e=.returned (.bool (decide (xs.take n=ys.take m)))∧∃ q,w'=w.drewN q:=Any.slices_Equal_string Tryz.lays193 b1 o1 n c b2 o2 m d xs ys w hx hy hbig hbig2 hc1 hc2
open Go.RowKit Go.Lib in
theorem Tryz.slices_Equal_string_empty (a1 a2:Option Addr) (c m d:Nat) (w:World) (hbig2:m≤9223372036854775807) :
 Calls Tryz.prog 210 #[.slice a1 0 c,.slice a2 m d] w fun e w'=>e=.returned (.bool (decide (m=0)))∧w'=w:=Any.slices_Equal_string_empty Tryz.lays193 a1 a2 c m d w hbig2
def Tryz.laysNm215_ren:Go.Shelf.Ren:=⟨fun | 15=>24 | n=>n,fun | 22=>49 | 3=>3 | 4=>4 | n=>n,fun | n=>n⟩
theorem Tryz.laysNm215:Go.Proofs.Lays2.n15 Tryz.prog Tryz.laysNm215_ren:={
 mixed:=by kernel_rfl
 f15:=Tryz.func24.trans (congrArg some (by kernel_rfl))
 t3:=Tryz.underlying3
 a3:=Tryz.isAgg3
 z3:=Tryz.sizeOf3
 v3:=Tryz.zeroValue3
 t4:=Tryz.underlying4
 a4:=Tryz.isAgg4
 z4:=Tryz.sizeOf4
 v4:=Tryz.zeroValue4
 t22:=Tryz.underlying49
 a22:=Tryz.isAgg49
 z22:=Tryz.sizeOf49
 v22:=Tryz.zeroValue49
 i3:=by kernel_rfl }
open Go.RowKit Go.Lib in
theorem Tryz.slices_Clone_int (b off n c:Nat) (zs:List Int) (w:World) (hz:n≤zs.length) (hbig:n * 8≤140737488355328) (hc:∀ j,j < zs.length→w.cell? ⟨b,off+j,none⟩=some (.int .i64 (zs.getD j 0))) :
 Calls Tryz.prog 24 #[.slice (some ⟨b,off,none⟩) n c] w fun e w'=>∃ v',e=.returned v'∧w'.ownsRow w.heap.size 3 1 v' n ((zs.take n).map (Value.int .i64))∧v'≠.slice none 0 0∧Below w.heap.size w w':=Any.slices_Clone_int Tryz.laysNm215 b off n c zs w hz hbig hc
open Go.RowKit Go.Lib in
theorem Tryz.slices_Clone_int_nil (n c:Nat) (w:World) :
 Calls Tryz.prog 24 #[.slice none n c] w fun e w'=>e=.returned (.slice none 0 0)∧w'=w:=Any.slices_Clone_int_nil Tryz.laysNm215 n c w
def Tryz.laysNm216_ren:Go.Shelf.Ren:=⟨fun | 16=>59 | n=>n,fun | 24=>31 | 9=>9 | 4=>4 | n=>n,fun | n=>n⟩
theorem Tryz.laysNm216:Go.Proofs.Lays2.n16 Tryz.prog Tryz.laysNm216_ren:={
 mixed:=by kernel_rfl
 f16:=Tryz.func59.trans (congrArg some (by kernel_rfl))
 t4:=Tryz.underlying4
 a4:=Tryz.isAgg4
 z4:=Tryz.sizeOf4
 v4:=Tryz.zeroValue4
 t9:=Tryz.underlying9
 a9:=Tryz.isAgg9
 z9:=Tryz.sizeOf9
 v9:=Tryz.zeroValue9
 t24:=Tryz.underlying31
 a24:=Tryz.isAgg31
 z24:=Tryz.sizeOf31
 v24:=Tryz.zeroValue31
 i9:=by kernel_rfl }
open Go.RowKit Go.Lib in
theorem Tryz.slices_Clone_string (b off n c:Nat) (zs:List ByteArray) (w:World) (hz:n≤zs.length) (hbig:n * 16≤140737488355328) (hc:∀ j,j < zs.length→w.cell? ⟨b,off+j,none⟩=some (.string (zs.getD j ByteArray.empty))) :
 Calls Tryz.prog 59 #[.slice (some ⟨b,off,none⟩) n c] w fun e w'=>∃ v',e=.returned v'∧w'.ownsRow w.heap.size 9 1 v' n ((zs.take n).map (Value.string))∧v'≠.slice none 0 0∧Below w.heap.size w w':=Any.slices_Clone_string Tryz.laysNm216 b off n c zs w hz hbig hc
open Go.RowKit Go.Lib in
theorem Tryz.slices_Clone_string_nil (n c:Nat) (w:World) :
 Calls Tryz.prog 59 #[.slice none n c] w fun e w'=>e=.returned (.slice none 0 0)∧w'=w:=Any.slices_Clone_string_nil Tryz.laysNm216 n c w
open Go.RowKit Go.Lib in
theorem Tryz.slices_Clone_string_zero (a:Addr) (c:Nat) (w:World) :
 Calls Tryz.prog 59 #[.slice (some a) 0 c] w fun e w'=>∃ v',e=.returned v'∧w'.ownsRow w.heap.size 9 1 v' 0 []∧v'≠.slice none 0 0∧Below w.heap.size w w':=Any.slices_Clone_string_zero Tryz.laysNm216 a c w
def Tryz.lays194_ren:Go.Shelf.Ren:=⟨fun | 194=>106 | n=>n,fun | 31=>31 | 9=>9 | 3=>3 | 4=>4 | 0=>0 | n=>n,fun | n=>n⟩
theorem Tryz.lays194:Go.Proofs.Lays.n194 Tryz.prog Tryz.lays194_ren:={
 mixed:=by kernel_rfl
 f194:=Tryz.func106.trans (congrArg some (by kernel_rfl))
 t0:=Tryz.underlying0
 a0:=Tryz.isAgg0
 z0:=Tryz.sizeOf0
 v0:=Tryz.zeroValue0
 t3:=Tryz.underlying3
 a3:=Tryz.isAgg3
 z3:=Tryz.sizeOf3
 v3:=Tryz.zeroValue3
 t4:=Tryz.underlying4
 a4:=Tryz.isAgg4
 z4:=Tryz.sizeOf4
 v4:=Tryz.zeroValue4
 t9:=Tryz.underlying9
 a9:=Tryz.isAgg9
 z9:=Tryz.sizeOf9
 v9:=Tryz.zeroValue9
 t31:=Tryz.underlying31
 a31:=Tryz.isAgg31
 z31:=Tryz.sizeOf31
 v31:=Tryz.zeroValue31 }
open Go.RowKit Go.Lib Go.Sort in
theorem Tryz.slices_Compact_string (blk off cap:Nat) (zs:List (List UInt8)) (w:World) (hH:Holds encStr w blk off zs.toArray) (hsz:zs.length≤9223372036854775807) (hcap:zs.length≤cap) :
 Calls Tryz.prog 106 #[.slice (some ⟨blk,off,none⟩) zs.length cap] w fun e w'=>e=.returned (.slice (some ⟨blk,off,none⟩) (Lib.compact zs).length cap)∧∃ q,w'=putRow encStr (Sort.ahead w q) blk off (Lib.compact zs++List.replicate (zs.length - (Lib.compact zs).length) []).toArray:=Any.slices_Compact_string Tryz.lays194 blk off cap zs w hH hsz hcap
open Go.RowKit Go.Lib Go.Sort in
theorem Tryz.slices_Compact_string_empty (a:Option Addr) (cap:Nat) (w:World) :
 Calls Tryz.prog 106 #[.slice a 0 cap] w fun e w'=>e=.returned (.slice a 0 cap)∧w'=w:=Any.slices_Compact_string_empty Tryz.lays194 a cap w
def Tryz.laysNm225_ren:Go.Shelf.Ren:=⟨fun | 25=>46 | 31=>96 | 32=>97 | 37=>160 | n=>n,fun | 22=>49 | 3=>3 | 4=>4 | 40=>184 | 0=>0 | n=>n,fun | n=>n⟩
theorem Tryz.laysNm225:Go.Proofs.Lays2.n25 Tryz.prog Tryz.laysNm225_ren:={
 mixed:=by kernel_rfl
 f25:=Tryz.func46.trans (congrArg some (by kernel_rfl))
 f31:=Tryz.func96.trans (congrArg some (by kernel_rfl))
 f32:=Tryz.func97.trans (congrArg some (by kernel_rfl))
 f37:=Tryz.func160.trans (congrArg some (by kernel_rfl))
 t0:=Tryz.underlying0
 a0:=Tryz.isAgg0
 z0:=Tryz.sizeOf0
 v0:=Tryz.zeroValue0
 t3:=Tryz.underlying3
 a3:=Tryz.isAgg3
 z3:=Tryz.sizeOf3
 v3:=Tryz.zeroValue3
 t4:=Tryz.underlying4
 a4:=Tryz.isAgg4
 z4:=Tryz.sizeOf4
 v4:=Tryz.zeroValue4
 t22:=Tryz.underlying49
 a22:=Tryz.isAgg49
 z22:=Tryz.sizeOf49
 v22:=Tryz.zeroValue49
 t40:=Tryz.underlying184
 a40:=Tryz.isAgg184
 z40:=Tryz.sizeOf184
 v40:=Tryz.zeroValue184 }
open Go.RowKit Go.Lib in
theorem Tryz.slices_BinarySearch_int (b off n c:Nat) (zs:List Int) (x:Int) (w:World) (hz:n≤zs.length) (hbig:n < 4611686018427387904) (hc:∀ j,j < zs.length→w.cell? ⟨b,off+j,none⟩=some (.int .i64 (zs.getD j 0))) (hs:(zs.take n).Pairwise (·≤·)) :
 Calls Tryz.prog 46 #[.slice (some ⟨b,off,none⟩) n c,.int .i64 x] w fun e w'=>e=.returned (.tuple #[.int .i64 ((zs.take n).countP (· < x):Nat),.bool ((zs.take n).contains x)])∧∃ q,w'=w.drewN q:=Any.slices_BinarySearch_int Tryz.laysNm225 b off n c zs x w hz hbig hc hs
open Go.RowKit Go.Sort in
theorem Tryz.slices_Sort_string_none (p:Option Addr) (cap:Nat) (w:World) :
 Calls Tryz.prog 168 #[.slice p 0 cap] w fun e w'=>e=.returned (.tuple #[])∧w'=w:=Any.slices_Sort_string_none Tryz.lays190 p cap w
open Go.RowKit Go.Lib in
theorem Tryz.slices_BinarySearch_int_empty (a:Option Addr) (c:Nat) (x:Int) (w:World) :
 Calls Tryz.prog 46 #[.slice a 0 c,.int .i64 x] w fun e w'=>e=.returned (.tuple #[.int .i64 0,.bool false])∧w'=w:=Any.slices_BinarySearch_int_empty Tryz.laysNm225 a c x w
open Go.RowKit Go.Lib in
theorem Tryz.slices_Equal_string_lens (a1 a2:Option Addr) (n c m d:Nat) (w:World) (hnm:n≠m) :
 Calls Tryz.prog 210 #[.slice a1 n c,.slice a2 m d] w fun e w'=>e=.returned (.bool false)∧w'=w:=Any.slices_Equal_string_lens Tryz.lays193 a1 a2 n c m d w hnm
def Tryz.laysSlH8_f207_ren:Go.Shelf.Ren:=⟨fun | 8=>207 | 6=>174 | n=>n,fun | 22=>49 | 23=>3 | 25=>186 | 4=>4 | 3=>3 | 0=>0 | n=>n,fun | n=>n⟩
theorem Tryz.laysSlH8_f207:Go.Proofs.SlLaysH.n8 Tryz.prog Tryz.laysSlH8_f207_ren:={
 mixed:=by kernel_rfl
 f6:=⟨Tryz.f174.name,by decide,Tryz.func174.trans (congrArg some (by kernel_rfl))⟩
 f8:=⟨Tryz.f207.name,by decide,Tryz.func207.trans (congrArg some (by kernel_rfl))⟩
 t0:=Tryz.underlying0
 a0:=Tryz.isAgg0
 z0:=Tryz.sizeOf0
 v0:=Tryz.zeroValue0
 t3:=Tryz.underlying3
 a3:=Tryz.isAgg3
 z3:=Tryz.sizeOf3
 v3:=Tryz.zeroValue3
 t4:=Tryz.underlying4
 a4:=Tryz.isAgg4
 z4:=Tryz.sizeOf4
 v4:=Tryz.zeroValue4
 t22:=Tryz.underlying49
 a22:=Tryz.isAgg49
 z22:=Tryz.sizeOf49
 v22:=Tryz.zeroValue49
 a23:=Tryz.isAgg3
 z23:=Tryz.sizeOf3
 t25:=Tryz.underlying186
 a25:=Tryz.isAgg186
 z25:=Tryz.sizeOf186
 v25:=Tryz.zeroValue186 }
open Go.RowKit Go.Lib in
theorem Tryz.slices_ContainsFunc {α:Type} [Inhabited α] (enc:α→Value) (p:α→Bool) (g:Nat) (lb:Array Value) (eg:∀ args w,(callFunc g args).run Tryz.prog w=.ok (.enter g args) w) (b off n c:Nat) (zs:List α) (w:World) (hp:PredAt Tryz.prog g lb enc p w) (hz:n≤zs.length) (hbig:n≤9223372036854775807) (hc:∀ j,j < zs.length→w.cell? ⟨b,off+j,none⟩=some (enc zs[j]!)) :
 Calls Tryz.prog 207 #[.slice (some ⟨b,off,none⟩) n c,.func (.func g) #[] lb] w fun e w'=>e=.returned (.bool ((zs.take n).any p))∧∃ q,w'=w.drewN q:=AnyE.slices_ContainsFunc Tryz.laysSlH8_f207 enc p g lb eg b off n c zs w hp hz hbig hc
def Tryz.laysSlH10_f147_ren:Go.Shelf.Ren:=⟨fun | 10=>147 | 6=>198 | n=>n,fun | 22=>31 | 23=>9 | 25=>96 | 3=>3 | 4=>4 | 0=>0 | n=>n,fun | n=>n⟩
theorem Tryz.laysSlH10_f147:Go.Proofs.SlLaysH.n10 Tryz.prog Tryz.laysSlH10_f147_ren:={
 mixed:=by kernel_rfl
 f6:=⟨Tryz.f198.name,by decide,Tryz.func198.trans (congrArg some (by kernel_rfl))⟩
 f10:=⟨Tryz.f147.name,by decide,Tryz.func147.trans (congrArg some (by kernel_rfl))⟩
 t0:=Tryz.underlying0
 a0:=Tryz.isAgg0
 z0:=Tryz.sizeOf0
 v0:=Tryz.zeroValue0
 t3:=Tryz.underlying3
 a3:=Tryz.isAgg3
 z3:=Tryz.sizeOf3
 v3:=Tryz.zeroValue3
 t4:=Tryz.underlying4
 a4:=Tryz.isAgg4
 z4:=Tryz.sizeOf4
 v4:=Tryz.zeroValue4
 t22:=Tryz.underlying31
 a22:=Tryz.isAgg31
 z22:=Tryz.sizeOf31
 v22:=Tryz.zeroValue31
 a23:=Tryz.isAgg9
 z23:=Tryz.sizeOf9
 t25:=Tryz.underlying96
 a25:=Tryz.isAgg96
 z25:=Tryz.sizeOf96
 v25:=Tryz.zeroValue96 }
open Go.RowKit Go.Lib Go.Sort in
theorem Tryz.slices_DeleteFunc {α:Type} [Inhabited α] (enc:α→Value) (hO:OneCell enc) (p:α→Bool) (g:Nat) (lb:Array Value) (eg:∀ args w,(callFunc g args).run Tryz.prog w=.ok (.enter g args) w) (zr:α) (v23:∀ w,(zeroValue 9).run Tryz.prog w=.ok (enc zr) w) (blk off cap:Nat) (d:Array α) (w:World) (hp:PredAt Tryz.prog g lb enc p w) (hpo:PredOver Tryz.prog g lb enc p blk off d.size w) (hH:Holds enc w blk off d) (hsz:d.size≤9223372036854775807) (hcap:d.size≤cap) :
 Calls Tryz.prog 147 #[.slice (some ⟨blk,off,none⟩) d.size cap,.func (.func g) #[] lb] w fun e w'=>e=.returned (.slice (some ⟨blk,off,none⟩) (d.toList.filter fun x=>!p x).length cap)∧∃ q,w'=putRow enc (Sort.ahead w q) blk off ((d.toList.filter fun x=>!p x)++List.replicate (d.size - (d.toList.filter fun x=>!p x).length) zr).toArray:=AnyE.slices_DeleteFunc Tryz.laysSlH10_f147 enc hO p g lb eg zr v23 blk off cap d w hp hpo hH hsz hcap
def Tryz.sortedZ_ren:Go.Shelf.Ren:=⟨fun | 6=>104 | 8=>167 | 9=>168 | 11=>214 | 13=>216 | 12=>215 | 23=>242 | 24=>243 | 14=>233 | 15=>234 | 16=>235 | 17=>236 | 18=>237 | 19=>238 | 20=>239 | 21=>240 | 22=>241 | 25=>251 | 26=>252 | 27=>253 | 28=>254 | 29=>255 | 30=>246 | 31=>273 | n=>n,fun | 26=>9 | 28=>194 | 24=>31 | 0=>0 | 3=>3 | 37=>184 | 48=>248 | 50=>325 | 4=>4 | 40=>330 | 39=>329 | 45=>117 | 5=>5 | 9=>9 | 51=>344 | 55=>348 | 57=>362 | 58=>363 | 33=>96 | n=>n,fun | n=>n⟩
theorem Tryz.sortedZ:Go.Proofs.SlLaysZ.n6 Tryz.prog Tryz.sortedZ_ren:={
 mixed:=by kernel_rfl
 f6:=⟨Tryz.f104.name,by decide,Tryz.func104.trans (congrArg some (by kernel_rfl))⟩
 f8:=⟨Tryz.f167.name,by decide,Tryz.func167.trans (congrArg some (by kernel_rfl))⟩
 f11:=⟨Tryz.f214.name,by decide,Tryz.func214.trans (congrArg some (by kernel_rfl))⟩
 t0:=Tryz.underlying0
 a0:=Tryz.isAgg0
 z0:=Tryz.sizeOf0
 v0:=Tryz.zeroValue0
 t24:=Tryz.underlying31
 a24:=Tryz.isAgg31
 z24:=Tryz.sizeOf31
 v24:=Tryz.zeroValue31
 t26:=Tryz.underlying9
 a26:=Tryz.isAgg9
 z26:=Tryz.sizeOf9
 v26:=Tryz.zeroValue9
 t28:=Tryz.underlying194
 a28:=Tryz.isAgg194
 z28:=Tryz.sizeOf194
 v28:=Tryz.zeroValue194
 i26:=by kernel_rfl }
def Tryz.delZ_ren:Go.Shelf.Ren:=⟨fun | 10=>147 | 6=>198 | n=>n,fun | 22=>31 | 23=>9 | 25=>96 | 3=>3 | 4=>4 | 0=>0 | n=>n,fun | n=>n⟩
theorem Tryz.delZ:Go.Proofs.SlLaysH.n10 Tryz.prog Tryz.delZ_ren:={
 mixed:=by kernel_rfl
 f6:=⟨Tryz.f198.name,by decide,Tryz.func198.trans (congrArg some (by kernel_rfl))⟩
 f10:=⟨Tryz.f147.name,by decide,Tryz.func147.trans (congrArg some (by kernel_rfl))⟩
 t0:=Tryz.underlying0
 a0:=Tryz.isAgg0
 z0:=Tryz.sizeOf0
 v0:=Tryz.zeroValue0
 t3:=Tryz.underlying3
 a3:=Tryz.isAgg3
 z3:=Tryz.sizeOf3
 v3:=Tryz.zeroValue3
 t4:=Tryz.underlying4
 a4:=Tryz.isAgg4
 z4:=Tryz.sizeOf4
 v4:=Tryz.zeroValue4
 t22:=Tryz.underlying31
 a22:=Tryz.isAgg31
 z22:=Tryz.sizeOf31
 v22:=Tryz.zeroValue31
 a23:=Tryz.isAgg9
 z23:=Tryz.sizeOf9
 t25:=Tryz.underlying96
 a25:=Tryz.isAgg96
 z25:=Tryz.sizeOf96
 v25:=Tryz.zeroValue96 }
def Tryz.keysZ_ren:Go.Shelf.Ren:=⟨fun | 7=>146 | 10=>197 | n=>n,fun | 23=>75 | 26=>9 | 3=>85 | 28=>194 | 0=>0 | 27=>193 | 33=>96 | 4=>4 | n=>n,fun | n=>n⟩
theorem Tryz.keysZ:Go.Proofs.SlLaysZ.n7 Tryz.prog Tryz.keysZ_ren:={
 mixed:=by kernel_rfl
 f7:=⟨Tryz.f146.name,by decide,Tryz.func146.trans (congrArg some (by kernel_rfl))⟩
 f10:=⟨Tryz.f197.name,by decide,Tryz.func197.trans (congrArg some (by kernel_rfl))⟩
 t0:=Tryz.underlying0
 a0:=Tryz.isAgg0
 z0:=Tryz.sizeOf0
 v0:=Tryz.zeroValue0
 t4:=Tryz.underlying4
 a4:=Tryz.isAgg4
 z4:=Tryz.sizeOf4
 v4:=Tryz.zeroValue4
 t23:=Tryz.underlying75
 a23:=Tryz.isAgg75
 z23:=Tryz.sizeOf75
 v23:=Tryz.zeroValue75
 t26:=Tryz.underlying9
 a26:=Tryz.isAgg9
 z26:=Tryz.sizeOf9
 v26:=Tryz.zeroValue9
 t27:=Tryz.underlying193
 a27:=Tryz.isAgg193
 z27:=Tryz.sizeOf193
 v27:=Tryz.zeroValue193
 t28:=Tryz.underlying194
 a28:=Tryz.isAgg194
 z28:=Tryz.sizeOf194
 v28:=Tryz.zeroValue194
 t33:=Tryz.underlying96
 a33:=Tryz.isAgg96
 z33:=Tryz.sizeOf96
 v33:=Tryz.zeroValue96 }
def Tryz.keysZ1_ren:Go.Shelf.Ren:=⟨fun | 10=>197 | n=>n,fun | 33=>96 | 23=>75 | 0=>0 | 4=>4 | 26=>9 | 3=>85 | n=>n,fun | n=>n⟩
theorem Tryz.keysZ1:Go.Proofs.SlLaysZ.n10 Tryz.prog Tryz.keysZ1_ren:={
 mixed:=by kernel_rfl
 f10:=⟨Tryz.f197.name,by decide,Tryz.func197.trans (congrArg some (by kernel_rfl))⟩
 t0:=Tryz.underlying0
 a0:=Tryz.isAgg0
 z0:=Tryz.sizeOf0
 v0:=Tryz.zeroValue0
 t4:=Tryz.underlying4
 a4:=Tryz.isAgg4
 z4:=Tryz.sizeOf4
 v4:=Tryz.zeroValue4
 t23:=Tryz.underlying75
 a23:=Tryz.isAgg75
 z23:=Tryz.sizeOf75
 v23:=Tryz.zeroValue75
 t26:=Tryz.underlying9
 a26:=Tryz.isAgg9
 z26:=Tryz.sizeOf9
 v26:=Tryz.zeroValue9
 t33:=Tryz.underlying96
 a33:=Tryz.isAgg96
 z33:=Tryz.sizeOf96
 v33:=Tryz.zeroValue96 }
end Go.Proofs
