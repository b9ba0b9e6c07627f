/- octet.Reader: Num, Text, List. And what follows. -/
import Derived.Test.YtcgonejkkpbepaaGreatDoorR00
import Derived.Shelf.Strings.Builder1
import Derived.Shelf.GgClosure.StringsIndexFunc
import Derived.Lib.AtoiAll
import Derived.Lib.ItoaNum
import Derived.Lib.Strings
import Derived.Lib.Repeat
import Derived.Lib.SlTrimSet
import Derived.Shelf.SlIter.Sorted
import Derived.Ground.GgzProg
import Derived.Shelf.SlicesE.DeleteFunc
import Derived.Ground.SlgfProg
import Derived.Shelf.Strings.Builder2
import Derived.Shelf.Strings.Trim
import Derived.Shelf.Small.Utf8
import Derived.Shelf.Small.Bits
import Derived.Shelf.Small.Strs
import Derived.Shelf.Small.Wraps
import Derived.Shelf.Strings.BuilderF
import Derived.Shelf.Strconv.Atoi
import Derived.Shelf.Strconv.Itoa0
import Derived.Shelf.Strconv.Itoa1
import Derived.Shelf.LaysM
import Derived.Shelf.Strconv.Itoa2
import Derived.Shelf.Strconv.Itoa3
import Derived.Shelf.Strconv.AtoiErrFast
import Derived.Shelf.Strconv.ParseIntEmpty
import Derived.Shelf.Strconv.AtoiFail
import Derived.Shelf.Strconv.Clone
import Derived.Shelf.Strconv.SyntaxError
import Derived.Shelf.LaysC
import Derived.Shelf.Strconv.ToError
import Derived.Shelf.Strconv.Lower
import Derived.Shelf.Strconv.ParseUint10
import Derived.Shelf.Strconv.ParseUint10Empty
import Derived.Shelf.Strconv.ParseUint10Any
import Derived.Shelf.Strconv.ParseInt10
import Derived.Shelf.Strconv.AtoiLong
import Derived.Shelf.Strconv.AtoiInnerAll
import Derived.Shelf.Strconv.RangeError
import Derived.Shelf.Strconv.ToErrorRange
import Derived.Shelf.Strconv.AtoiAll
import Derived.Shelf.Strings.Search1
import Derived.Shelf.Sort.Plain
import Derived.Ground.GgwProg
import Derived.Shelf.GgClosure.StringsIndexFuncTop
import Derived.Shelf.GgClosure.StringsRunes
import Derived.Shelf.Strings.Prefix
import Derived.Shelf.Unicode.Decode
import Derived.Shelf.Strings.Runes
import Derived.Shelf.Strings.AsciiSet
import Derived.Shelf.Bits.Mul64
import Derived.Shelf.Strings.Repeat
import Derived.Shelf.Unicode.DecodeSlow
import Derived.Shelf.Unicode.DecodeAny
import Derived.Shelf.Unicode.DecodeLast
import Derived.Shelf.Strings.FuncGrows
import Derived.Shelf.Slices.Turned
import Derived.Shelf.Slices.Equal
import Derived.Ground.Names2Prog
import Derived.Shelf.Slices.Clone
import Derived.Shelf.Slices.CompactS
import Derived.Shelf.Slices.SearchI
import Derived.Shelf.Slices.Cells
import Derived.Shelf.Slices.In.SortNone
import Derived.Shelf.Slices.Empties
import Derived.Shelf.Slices.Empties2
import Derived.Ground.SlgnProg
import Derived.Shelf.SlicesE.Equal
import Derived.Shelf.SlicesE.Compact
import Derived.Shelf.SlicesE.Clone
import Derived.Shelf.SlicesE.IndexFunc
set_option linter.unusedVariables false
set_option linter.unusedSimpArgs false
set_option maxHeartbeats 25600000
set_option maxRecDepth 100000
namespace Go.Proofs.YtcgonejkkpbepaaGreatDoor
namespace OctW
open Go.RowKit OctMath
theorem aei (n:Int) (r:RS):(di n r).2.s.length<=r.s.length:=by
 unfold di; split
 . exact Nat.le_refl _
 ·
  split
  . exact Nat.le_refl _
  . split
    . exact Nat.le_refl _
    . simp
theorem abp (n:Int) (r:RS):(di n r).1.length<=n.toNat:=by
 unfold di; split
 . simp
 ·
  split
  . simp
  . split
    . simp
    . simp; omega
theorem ji (n:Int) (r:RS):(dw n r).2.s.length<=r.s.length:=by
 unfold dw; split
 . exact Nat.le_refl _
 . split
   . exact Nat.le_refl _
   . exact aei _ _
theorem aa1 (n:Int) (r:RS):(dw n r).1 < 256 ^ n.toNat:=by
 have hp:0 < 256 ^ n.toNat:=Nat.pow_pos (by omega);unfold dw; split
 . exact hp
 . split
   . exact hp
   . exact Nat.lt_of_lt_of_le (ahy _) (Nat.pow_le_pow_right (by omega) (abp n r))
theorem pz (B:Nat) (r:RS) (n:Int) (hn0 : -9223372036854775808<=n) (hn1:n<=9223372036854775807) (hl:r.s.length<=1152921504606846976) (w:World) (h:Rd B r w) :
 Calls Tryz.prog 78 #[.pointer (some ⟨B,0,none⟩),.int .i64 n] w λe w'=>e=.returned (.int .i64 ((dw n r).1:Int))/\Rd B (dw n r).2 w'/\One B w w':=by
 have J:=zq h;have Z:=h.e_free;have he:=h.e_cell;go_enter Tryz.func78,Tryz.ntmps78;go_wp2_with (go_at_call 79; refine (zo B r _ J.o).mono ?_);rintro e w' ⟨rfl,rfl⟩
 by_cases hz:r.e≠0
 ·
  have hb:=abo hz;have I:=zq hz; clear hz h;have A:Zq (dw n r=(0,r)):=by unfold dw; rw [if_pos I.o]; rfl
  go_wp2_with fail;go_ret;rw [A.o];exact ⟨rfl,J.o,Mod.refl _ _⟩
 ·
  have hb:=acy (show r.e=0 by omega);have I:=zq hz; clear hz;have M:=zq (h.set1 1);have N:Zq (One B w (w.setCell ⟨B,1,none⟩ (.int .i64 ((1:Nat):Int)))):=(Mod.refl (λk=>k=B) w).setCell (a:=⟨B,1,none⟩) (Or.inl rfl) _;clear h
  by_cases hw:n < 1\/7 < n
  ·
   have A:Zq (dw n r=(0,⟨r.s,1⟩)):=by unfold dw; rw [if_neg I.o,if_pos hw]; rfl
   rcases hw with hw | hw
   . go_wp2_with fail
     go_ret;rw [A.o];exact ⟨rfl,M.o,N.o⟩
   . have O:1<=n:=by omega
     go_wp2_with fail;go_ret;rw [A.o];exact ⟨rfl,M.o,N.o⟩
  ·
   have A:Zq (dw n r=(val (di n r).1,(di n r).2)):=by unfold dw; rw [if_neg I.o,if_neg hw]; rfl
   have O:1<=n:=by omega
   have ab:n<=7:=by omega
   have ho:=Nat.le_trans (abp n r) (show n.toNat<=7 by omega);clear hw M N;go_wp2_with (go_at_call 77; refine (ve B r n (by omega) (by omega) hl _ J.o).mono ?_);rintro e w1 ⟨rfl,E,F⟩;have R:=zq E; clear E;have U:=zq F; clear F;go_wp2_with (go_at_call 141; refine (ao4 _ ho _).mono ?_);rintro e w2 ⟨rfl,hd⟩;have X:Zq (Rd B (di n r).2 w2):=R.o.drawn hd;have Y:Zq (One B w w2):=U.o.drawn hd;clear hd;go_wp2_with fail;go_ret;rw [A.o];exact ⟨rfl,X.o,Y.o⟩
theorem aej {B:Nat} {r:RS} {w:World} (h:Rd B r w) (h0:r.e=0):Rd B (cz true r) (w.setCell ⟨B,1,none⟩ (.int .i64 ((6:Nat):Int))):=by
 have:=h.set1 6;unfold cz; rw [if_pos ⟨h0,rfl⟩]; exact this
theorem uh (r:RS):cz false r=r:=by unfold cz; simp
theorem abq {r:RS} (b:Bool) (h:r.e≠0):cz b r=r:=by unfold cz; rw [if_neg (λx=>h x.1)]
theorem om (b:Bool) (r:RS):(cz b r).s.length<=r.s.length:=by unfold cz; split <;> exact Nat.le_refl _
theorem aa2 (most:Int) (r:RS) (h:¬ r.e≠0):ib most r=(if (di ((dw 2 r).1:Int) (cz (decide (most < ((dw 2 r).1:Int))) (dw 2 r).2)).2.e≠0
 then ((di ((dw 2 r).1:Int) (cz (decide (most < ((dw 2 r).1:Int))) (dw 2 r).2)).1,⟨r.s,(di ((dw 2 r).1:Int) (cz (decide (most < ((dw 2 r).1:Int))) (dw 2 r).2)).2.e⟩)
 else di ((dw 2 r).1:Int) (cz (decide (most < ((dw 2 r).1:Int))) (dw 2 r).2)):=by
 unfold ib; rw [if_neg h]
theorem vg (B:Nat) (r:RS) (most:Int) (hn0 : -9223372036854775808<=most) (hn1:most<=9223372036854775807) (hl:r.s.length<=1152921504606846976) (w:World) (h:Rd B r w) :
 Calls Tryz.prog 145 #[.pointer (some ⟨B,0,none⟩),.int .i64 most] w λe w'=>e=.returned (.string (S (ib most r).1))/\Rd B (ib most r).2 w'/\One B w w':=by
 have HR:=zq h;have bb:=h.s_cell;clear h;go_enter Tryz.func145,Tryz.ntmps145;go_wp2_with (go_at_call 79; refine (zo B r _ HR.o).mono ?_);rintro e w' ⟨rfl,rfl⟩
 by_cases hz:r.e≠0
 ·
  have hb:=abo hz;have HZ:=zq hz; clear hz;have HT:Zq (ib most r=([],r)):=by unfold ib; rw [if_pos HZ.o]; rfl
  go_wp2_with fail;go_ret;rw [HT.o];exact ⟨rfl,HR.o,Mod.refl _ _⟩
 ·
  have hb:=acy (show r.e=0 by omega);have HT:=zq (aa2 most r hz);clear hz;go_wp2_with (go_at_call 78; refine (pz B r 2 (by omega) (by omega) hl _ HR.o).mono ?_);rintro e w1 ⟨rfl,ab,an⟩;have hx:(dw 2 r).1 < 65536:=aa1 2 r;have bd:(dw 2 r).2.s.length<=r.s.length:=ji 2 r;generalize dw 2 r=nr at *
  obtain ⟨x,E⟩:=nr;simp only at *
  have al:=ab.e_cell;have am:=ab.e_free;have ao:=zq an; clear an;have U:=zq ab; clear ab
  have fin:∀ (L:RS) (w2 w3:World),L=cz (decide (most < (x:Int))) E->One B w1 w2->Rd B (di (x:Int) L).2 w3->One B w2 w3->(di (x:Int) L).2.e=0 ->
   S (di (x:Int) L).1=S (ib most r).1/\Rd B (ib most r).2 w3/\One B w w3:=by
   intro L w2 w3 h1 h2 h3 h4 h5;have:=HT.o;rw [<- h1,if_neg (by rw [h5]; simp)] at this;rw [this];exact ⟨rfl,h3,(ao.o.trans h2).trans h4⟩
  have ac:∀ (L:RS) (w2 w3 w4:World),L=cz (decide (most < (x:Int))) E->One B w1 w2->One B w2 w3->(di (x:Int) L).2.e≠0->Rd B ⟨r.s,(di (x:Int) L).2.e⟩ w4->One B w3 w4 ->
   S (di (x:Int) L).1=S (ib most r).1/\Rd B (ib most r).2 w4/\One B w w4:=by
   intro L w2 w3 w4 h1 h2 h4 h5 h6 h7;have:=HT.o;rw [<- h1,if_pos h5] at this;rw [this];exact ⟨rfl,h6,((ao.o.trans h2).trans h4).trans h7⟩
  have FIN:=zq fin; clear fin;have FIN2:=zq ac; clear ac;have bl:(x:Int)<=9223372036854775807:=by omega
  by_cases hz1:E.e≠0
  ·
   have bm:=abo hz1;have ap:=ao5 hz1;have HL:Zq (E=cz (decide (most < (x:Int))) E):=(abq _ hz1).symm;have HW:Zq (One B w1 w1):=Mod.refl _ _;clear hz1;have X:=U;clear U;go_wp2_with (go_at_call 77; refine (ve B E x (by omega) (by omega) (by omega) _ X.o).mono ?_)
   first | rintro e w3 rfl F I | rintro e w3 ⟨rfl,F,I⟩
   have ar:=F.e_cell;have J:=zq F; clear F;have M:=zq I; clear I;clear am al
   by_cases A:(di (x:Int) E).2.e≠0
   ·
    have Y:=abo A;have Z:=zq A; clear A;go_wp2_with (go_at_call 201; refine (qp B _ _ J.o (di (x:Int) E).2.e r.s).mono ?_);rintro e w4 ⟨rfl,N,O⟩;have H:=zq (FIN2.o E _ _ _ HL.o HW.o M.o Z.o N O);clear N O;go_wp2_with fail;go_ret;exact ⟨wh H.o.1,H.o.2⟩
   ·
    have A:(di (x:Int) E).2.e=0:=by omega
    have Y:=acy A;have H:=zq (FIN.o E _ _ HL.o HW.o J.o M.o A);clear A;go_wp2_with fail;go_ret;exact ⟨wh H.o.1,H.o.2⟩
  ·
   have R:E.e=0:=by omega
   have ap:=aqm R
   by_cases hm:most < (x:Int)
   ·
    have HL:Zq (cz true E=cz (decide (most < (x:Int))) E):=by rw [decide_eq_true hm]; rfl
    have av:(cz true E).s.length<=1152921504606846976:=by have:=om true E; omega
    have X:Zq (Rd B (cz true E) (w1.setCell ⟨B,1,none⟩ (.int .i64 6))):=aej U.o R;have HW:Zq (One B w1 (w1.setCell ⟨B,1,none⟩ (.int .i64 6))):=(Mod.refl (λk=>k=B) w1).setCell (a:=⟨B,1,none⟩) (Or.inl rfl) _;clear R hz1 U;go_wp2_with (go_at_call 77; refine (ve B (cz true E) x (by omega) (by omega) av _ X.o).mono ?_)
    first | rintro e w3 rfl F I | rintro e w3 ⟨rfl,F,I⟩
    have ar:=F.e_cell;have J:=zq F; clear F;have M:=zq I; clear I;clear am al
    by_cases A:(di (x:Int) (cz true E)).2.e≠0
    ·
     have Y:=abo A;have Z:=zq A; clear A;go_wp2_with (go_at_call 201; refine (qp B _ _ J.o (di (x:Int) (cz true E)).2.e r.s).mono ?_);rintro e w4 ⟨rfl,N,O⟩;have H:=zq (FIN2.o (cz true E) _ _ _ HL.o HW.o M.o Z.o N O);clear N O;go_wp2_with fail;go_ret;exact ⟨wh H.o.1,H.o.2⟩
    ·
     have A:(di (x:Int) (cz true E)).2.e=0:=by omega
     have Y:=acy A;have H:=zq (FIN.o (cz true E) _ _ HL.o HW.o J.o M.o A);clear A;go_wp2_with fail;go_ret;exact ⟨wh H.o.1,H.o.2⟩
   ·
    have HL:Zq (E=cz (decide (most < (x:Int))) E):=by rw [decide_eq_false hm,uh]; rfl
    have HW:Zq (One B w1 w1):=Mod.refl _ _;have bo:(x:Int)<=most:=by omega
    have X:=U;clear R hz1 U;go_wp2_with (go_at_call 77; refine (ve B E x (by omega) (by omega) (by omega) _ X.o).mono ?_)
    first | rintro e w3 rfl F I | rintro e w3 ⟨rfl,F,I⟩
    have ar:=F.e_cell;have J:=zq F; clear F;have M:=zq I; clear I;clear am al
    by_cases A:(di (x:Int) E).2.e≠0
    ·
     have Y:=abo A;have Z:=zq A; clear A;go_wp2_with (go_at_call 201; refine (qp B _ _ J.o (di (x:Int) E).2.e r.s).mono ?_);rintro e w4 ⟨rfl,N,O⟩;have H:=zq (FIN2.o E _ _ _ HL.o HW.o M.o Z.o N O);clear N O;go_wp2_with fail;go_ret;exact ⟨wh H.o.1,H.o.2⟩
    ·
     have A:(di (x:Int) E).2.e=0:=by omega
     have Y:=acy A;have H:=zq (FIN.o E _ _ HL.o HW.o J.o M.o A);clear A;go_wp2_with fail;go_ret;exact ⟨wh H.o.1,H.o.2⟩
theorem ownsRow_mod {M:Nat->Prop} {w w':World} {base e sz n:Nat} {v:Value} {xs:List Value} (h:w.ownsRow base e sz v n xs) (hm:Mod M w w') (hM:∀ k,M k->k < base):w'.ownsRow base e sz v n xs:=by
 refine ⟨h.1,?_⟩
 rcases h.2 with hn | ⟨g,cap,cur,hv,hb,hg,rest⟩
 . exact .inl hn
 . exact .inr ⟨g,cap,cur,hv,hb,(hm.block g (Array.getElem?_eq_some_iff.1 hg).1 (λhk=>by have:=hM g hk; omega)).trans hg,rest⟩
theorem ut {w:World} {base e sz n:Nat} {v:Value} {xs:List Value} (h:w.ownsRow base e sz v n xs):∀ g,v.ownBlock=some g->base<=g:=by
 intro g A
 rcases h.2 with ⟨rfl,_⟩ | ⟨g',cap,cur,rfl,hb,_⟩
 . cases A
 . cases A; exact hb
theorem _root_.Go.Proofs.YtcgonejkkpbepaaGreatDoor.Mod.grown {M:Nat->Prop} {u v w:World} {row:Option Nat} (h:Mod M u v) (k:v.grownBy w row) (hr:∀ g,row=some g->u.heap.size<=g):Mod M u w:=by
 refine ⟨k.os.trans h.os,k.tape.trans h.tape,k.output.trans h.output,Nat.le_trans h.size k.size,λi A B=>?_⟩;rw [k.block i (Nat.lt_of_lt_of_le A h.size) (λe=>by have:=hr i e.symm; omega)];exact h.block i A B
abbrev Texts (base:Nat) (v:Value) (ts:List (List UInt8)) (w:World):Prop:=w.ownsRow base 9 1 v ts.length (ts.map λl=>.string (S l))
theorem Texts.strs {base:Nat} {v:Value} {ts:List (List UInt8)} {w:World} (h:Texts base v ts w):∃ a cap,v=.slice a ts.length cap/\Strs w a (ts.map S):=by
 obtain ⟨E,h⟩:=h
 rcases h with ⟨rfl,h0⟩ | ⟨g,cap,cur,rfl,hb,hg,hc1,hc2,hcs,hcur⟩
 . refine ⟨none,0,by rw [h0],λi A=>?_⟩
   simp [h0] at A
 ·
  refine ⟨some ⟨g,0,none⟩,cap,rfl,λi A=>⟨g,0,rfl,?_⟩⟩;unfold World.cell?;rw [hg];have B:i < ts.length:=by simpa using A
  have:cur[0+i]?=(cur.toList.take (ts.length * 1))[i]?:=by
   rw [List.getElem?_take,if_pos (by omega)]; simp
  simp only [this,hcur];simp [B]
theorem ui (most:Int) (k:Nat):∀ r:RS,az most (k+1) r=((az most k r).1++[(ib most (az most k r).2).1],(ib most (az most k r).2).2):=by
 induction k with
 | zero=>intro r; rfl
 | succ k ih =>
   intro r;have h:=ih (ib most r).2;show ((ib most r).1 :: (az most (k+1) (ib most r).2).1,(az most (k+1) (ib most r).2).2)=_;rw [h]; rfl
theorem j3 (most:Int) (k:Nat):∀ r:RS,(az most k r).1.length=k:=by
 induction k with
 | zero=>intro r; rfl
 | succ k ih=>intro r; simp [az,ih]
theorem oo (most:Int) (r:RS):(ib most r).2.s.length<=r.s.length:=by
 by_cases h:r.e≠0
 . unfold ib; rw [if_pos h]; exact Nat.le_refl _
 ·
  rw [aa2 most r h]
  split
  . exact Nat.le_refl _
  . exact Nat.le_trans (aei _ _) (Nat.le_trans (om _ _) (ji _ _))
theorem wu (most:Int) (k:Nat):∀ r:RS,(az most k r).2.s.length<=r.s.length:=by
 induction k with
 | zero=>intro r; exact Nat.le_refl _
 | succ k ih=>intro r; exact Nat.le_trans (ih _) (oo most r)
theorem acz (many most:Int) (r:RS) (h:¬ r.e≠0):ql many most r=(if (az most (dw 1 r).1 (cz (decide (many < ((dw 1 r).1:Int))) (dw 1 r).2)).2.e≠0
 then ([],⟨r.s,(az most (dw 1 r).1 (cz (decide (many < ((dw 1 r).1:Int))) (dw 1 r).2)).2.e⟩)
 else az most (dw 1 r).1 (cz (decide (many < ((dw 1 r).1:Int))) (dw 1 r).2)):=by
 unfold ql; rw [if_neg h]
theorem list_any (B:Nat) (r:RS) (many most:Int) (hn0 : -9223372036854775808<=most) (hn1:most<=9223372036854775807) (hm0 : -9223372036854775808<=many) (bh:many<=9223372036854775807) (hl:r.s.length<=1152921504606846976) (w:World) (h:Rd B r w) :
 Calls Tryz.prog 146 #[.pointer (some ⟨B,0,none⟩),.int .i64 many,.int .i64 most] w λe w'=>∃ v,e=.returned v/\Texts w.heap.size v (ql many most r).1 w'/\Rd B (ql many most r).2 w'/\One B w w':=by
 obtain ⟨i0,bj,bk,Y,bl⟩:=info_parts (show (Tryz.prog.info? 9).map (λi=>(i.zero,i.size,i.bytes))=some (some (.string ⟨#[]⟩),1,16) by kernel_rfl);have HR:=zq h;have b7:=h.s_cell;have ap:Zq (B < w.heap.size):=h.lt;clear h;go_enter Tryz.func146,Tryz.ntmps146;go_wp2_with (go_at_call 79; refine (zo B r _ HR.o).mono ?_);rintro e w' ⟨rfl,rfl⟩
 by_cases hz:r.e≠0
 ·
  have hb:=abo hz;have HZ:=zq hz; clear hz;have HT:Zq (ql many most r=([],r)):=by unfold ql; rw [if_pos HZ.o]; rfl
  go_wp2_with fail;go_ret;rw [HT.o];exact ⟨_,rfl,⟨rfl,.inl ⟨rfl,rfl⟩⟩,HR.o,Mod.refl _ _⟩
 ·
  have hb:=acy (show r.e=0 by omega);have HT:=zq (acz many most r hz);clear hz;go_wp2_with (go_at_call 78; refine (pz B r 1 (by omega) (by omega) hl _ HR.o).mono ?_);rintro e w1 ⟨rfl,bb,bh⟩;have hx:(dw 1 r).1 < 256:=aa1 1 r;have b9:(dw 1 r).2.s.length<=r.s.length:=ji 1 r;generalize dw 1 r=nr at *
  obtain ⟨x,A⟩:=nr;simp only at *
  have bm:=bb.e_cell;have bo:=bb.e_free;have bp:=zq bh; clear bh;have ar:=zq bb; clear bb
  have fin:∀ (L:RS) (v:Value) (w3:World),L=cz (decide (many < (x:Int))) A->Texts w.heap.size v (az most x L).1 w3->Rd B (az most x L).2 w3->One B w w3->(az most x L).2.e=0 ->
   Texts w.heap.size v (ql many most r).1 w3/\Rd B (ql many most r).2 w3/\One B w w3:=by
   intro L v w3 h1 h2 h3 h4 h5;have:=HT.o;rw [<- h1,if_neg (by rw [h5]; simp)] at this;rw [this];exact ⟨h2,h3,h4⟩
  have bc:∀ (L:RS) (w4:World),L=cz (decide (many < (x:Int))) A->(az most x L).2.e≠0->Rd B ⟨r.s,(az most x L).2.e⟩ w4->One B w w4 ->
   Texts w.heap.size (.slice none 0 0) (ql many most r).1 w4/\Rd B (ql many most r).2 w4/\One B w w4:=by
   intro L w4 h1 h5 h6 h7;have:=HT.o;rw [<- h1,if_pos h5] at this;rw [this];exact ⟨⟨rfl,.inl ⟨rfl,rfl⟩⟩,h6,h7⟩
  have FIN:=zq fin; clear fin;have FIN2:=zq bc; clear bc
  by_cases Y:A.e≠0
  ·
   have ce:=abo Y;have bs:=ao5 Y;have HL:Zq (A=cz (decide (many < (x:Int))) A):=(abq _ Y).symm;have O:Zq (One B w1 w1):=Mod.refl _ _;clear Y;have Z:=ar;clear ar;have bw:A.s.length<=1152921504606846976:=by have:=om true A; omega
   have ab:Zq (One B w w1):=bp.o.trans O.o;go_wp2_with fail;clear bo bm;go_loopw [9,33] (λv i wr=>∃ k:Nat,k<=x/\i=.int .i64 k/\Zq (Texts w.heap.size v (az most k A).1 wr)/\Zq (Rd B (az most k A).2 wr)/\Zq (One B w wr)) (λ_ i _=>x - (intOf i).toNat)
   case atStart=>exact ⟨0,by omega,rfl,⟨rfl,.inl ⟨rfl,rfl⟩⟩,Z.o,ab.o⟩
   case round =>
    clear Z ab O;obtain ⟨k,hk,rfl,R,N,O⟩:=hrel;have bz:=wu most k A
    by_cases hlt:k < x
    ·
     go_wp2_with (go_at_call 145; refine (vg B _ most hn0 hn1 (by omega) _ N.o).mono ?_);rintro e w3 ⟨rfl,ac,U⟩;have ad:=ui most k A;have av:=j3 most k A
     have I:Zq (w3.ownsRow w.heap.size 9 1 u9 k ((az most k A).1.map λl=>.string (S l))):=by
      have:=ownsRow_mod R.o U (λg hg=>by rw [hg]; exact ap.o);rw [av] at this; exact this
     have X:Zq (One B w w3):=O.o.trans U;clear R O U;generalize ib most (az most k A).2=tx at *
     have ak:=zq ad; clear ad;have al:=zq ac; clear ac;go_wp2_with (at_builtin; refine wpList_append_own _ rfl (.tmp 35) (.tmp 39) 40 rfl w.heap.size 9 i0 (.string ⟨#[]⟩) 1 16 Tryz.underlying40 bj bk Y bl rfl (by decide) _ k ((az most k A).1.map λl=>.string (S l)) rfl (I.o.alloc _) ⟨w3.heap.size,0,none⟩ 1 1 [.string (S tx.1)] rfl rfl ?c1 ?c2 ?c3 ?c4 ?c5 ?_)
     case c1=>exact cell_one_new _ _ _
     case c2=>intro u hu; simp at hu; subst hu; rfl
     case c3=>unfold maxLen; omega
     case c4=>omega
     case c5=>have:=X.o.size; simp; omega
     intro v' w4 J E _
     have a1:Zq (Texts w.heap.size v' (az most (k+1) A).1 w4):=by
      show w4.ownsRow _ _ _ _ (az most (k+1) A).1.length _;rw [j3,ak.o,List.map_append]; exact J
     have M:∀ g,u9.ownBlock=some g->w.heap.size<=g:=ut I.o;have a6:Zq (One B w w4):=(X.o.alloc _).grown E M
     have a7:Zq (Rd B (az most (k+1) A).2 w4):=by
      have h1:Rd B tx.2 (w3.alloc (.cells #[.string (S tx.1)] 9)):=al.o.mod ((Mod.refl (λ_=>False) w3).alloc _) (λx=>x);have h2:=(E.block B h1.lt (λe=>by have:=M B e.symm; have:=ap.o; omega)).trans h1;rw [ak.o]; exact h2
     clear J E I X al M;go_wp2_with fail;go_roundw
     case rel=>exact ⟨k+1,by omega,by go_num,a1.o,a7.o,a6.o⟩
     case measure=>simp [intOf]; omega
    ·
     have ek:k=x:=by omega
     subst ek;have b3:=N.o.e_cell
     by_cases F:(az most k A).2.e≠0
     ·
      have a8:=abo F;have ba:=zq F; clear F;go_wp2_with (go_at_call 201; refine (qp B _ _ N.o (az most k A).2.e r.s).mono ?_);rintro e w4 ⟨rfl,am,an⟩;have H:=zq (FIN2.o A _ HL.o ba.o am (O.o.trans an));clear am an;go_wp2_with fail;go_ret;exact ⟨_,rfl,H.o⟩
     . have F:(az most k A).2.e=0:=by omega
       have a8:=acy F;have H:=zq (FIN.o A _ _ HL.o R.o N.o O.o F);clear F;go_wp2_with fail;go_ret;exact ⟨_,rfl,H.o⟩
  ·
   have ao:A.e=0:=by omega
   have bs:=aqm ao
   by_cases hm:many < (x:Int)
   ·
    have HL:Zq (cz true A=cz (decide (many < (x:Int))) A):=by rw [decide_eq_true hm]; rfl
    have Z:Zq (Rd B (cz true A) (w1.setCell ⟨B,1,none⟩ (.int .i64 6))):=aej ar.o ao;have O:Zq (One B w1 (w1.setCell ⟨B,1,none⟩ (.int .i64 6))):=(Mod.refl (λk=>k=B) w1).setCell (a:=⟨B,1,none⟩) (Or.inl rfl) _;clear ao Y ar;have bw:(cz true A).s.length<=1152921504606846976:=by have:=om true A; omega
    have ab:Zq (One B w (w1.setCell ⟨B,1,none⟩ (.int .i64 6))):=bp.o.trans O.o;go_wp2_with fail;clear bo bm;go_loopw [9,33] (λv i wr=>∃ k:Nat,k<=x/\i=.int .i64 k/\Zq (Texts w.heap.size v (az most k (cz true A)).1 wr)/\Zq (Rd B (az most k (cz true A)).2 wr)/\Zq (One B w wr)) (λ_ i _=>x - (intOf i).toNat)
    case atStart=>exact ⟨0,by omega,rfl,⟨rfl,.inl ⟨rfl,rfl⟩⟩,Z.o,ab.o⟩
    case round =>
     clear Z ab O;obtain ⟨k,hk,rfl,R,N,O⟩:=hrel;have bz:=wu most k (cz true A)
     by_cases hlt:k < x
     ·
      go_wp2_with (go_at_call 145; refine (vg B _ most hn0 hn1 (by omega) _ N.o).mono ?_);rintro e w3 ⟨rfl,ac,U⟩;have ad:=ui most k (cz true A);have av:=j3 most k (cz true A)
      have I:Zq (w3.ownsRow w.heap.size 9 1 u9 k ((az most k (cz true A)).1.map λl=>.string (S l))):=by
       have:=ownsRow_mod R.o U (λg hg=>by rw [hg]; exact ap.o);rw [av] at this; exact this
      have X:Zq (One B w w3):=O.o.trans U;clear R O U;generalize ib most (az most k (cz true A)).2=tx at *
      have ak:=zq ad; clear ad;have al:=zq ac; clear ac;go_wp2_with (at_builtin; refine wpList_append_own _ rfl (.tmp 35) (.tmp 39) 40 rfl w.heap.size 9 i0 (.string ⟨#[]⟩) 1 16 Tryz.underlying40 bj bk Y bl rfl (by decide) _ k ((az most k (cz true A)).1.map λl=>.string (S l)) rfl (I.o.alloc _) ⟨w3.heap.size,0,none⟩ 1 1 [.string (S tx.1)] rfl rfl ?c1 ?c2 ?c3 ?c4 ?c5 ?_)
      case c1=>exact cell_one_new _ _ _
      case c2=>intro u hu; simp at hu; subst hu; rfl
      case c3=>unfold maxLen; omega
      case c4=>omega
      case c5=>have:=X.o.size; simp; omega
      intro v' w4 J E _
      have a1:Zq (Texts w.heap.size v' (az most (k+1) (cz true A)).1 w4):=by
       show w4.ownsRow _ _ _ _ (az most (k+1) (cz true A)).1.length _;rw [j3,ak.o,List.map_append]; exact J
      have M:∀ g,u9.ownBlock=some g->w.heap.size<=g:=ut I.o;have a6:Zq (One B w w4):=(X.o.alloc _).grown E M
      have a7:Zq (Rd B (az most (k+1) (cz true A)).2 w4):=by
       have h1:Rd B tx.2 (w3.alloc (.cells #[.string (S tx.1)] 9)):=al.o.mod ((Mod.refl (λ_=>False) w3).alloc _) (λx=>x);have h2:=(E.block B h1.lt (λe=>by have:=M B e.symm; have:=ap.o; omega)).trans h1;rw [ak.o]; exact h2
      clear J E I X al M;go_wp2_with fail;go_roundw
      case rel=>exact ⟨k+1,by omega,by go_num,a1.o,a7.o,a6.o⟩
      case measure=>simp [intOf]; omega
     ·
      have ek:k=x:=by omega
      subst ek;have b3:=N.o.e_cell
      by_cases F:(az most k (cz true A)).2.e≠0
      ·
       have a8:=abo F;have ba:=zq F; clear F;go_wp2_with (go_at_call 201; refine (qp B _ _ N.o (az most k (cz true A)).2.e r.s).mono ?_);rintro e w4 ⟨rfl,am,an⟩;have H:=zq (FIN2.o (cz true A) _ HL.o ba.o am (O.o.trans an));clear am an;go_wp2_with fail;go_ret;exact ⟨_,rfl,H.o⟩
      . have F:(az most k (cz true A)).2.e=0:=by omega
        have a8:=acy F;have H:=zq (FIN.o (cz true A) _ _ HL.o R.o N.o O.o F);clear F;go_wp2_with fail;go_ret;exact ⟨_,rfl,H.o⟩
   ·
    have HL:Zq (A=cz (decide (many < (x:Int))) A):=by rw [decide_eq_false hm,uh]; rfl
    have O:Zq (One B w1 w1):=Mod.refl _ _;have cf:(x:Int)<=many:=by omega
    have Z:=ar;clear ao Y ar;have bw:A.s.length<=1152921504606846976:=by have:=om true A; omega
    have ab:Zq (One B w w1):=bp.o.trans O.o;go_wp2_with fail;clear bo bm;go_loopw [9,33] (λv i wr=>∃ k:Nat,k<=x/\i=.int .i64 k/\Zq (Texts w.heap.size v (az most k A).1 wr)/\Zq (Rd B (az most k A).2 wr)/\Zq (One B w wr)) (λ_ i _=>x - (intOf i).toNat)
    case atStart=>exact ⟨0,by omega,rfl,⟨rfl,.inl ⟨rfl,rfl⟩⟩,Z.o,ab.o⟩
    case round =>
     clear Z ab O;obtain ⟨k,hk,rfl,R,N,O⟩:=hrel;have bz:=wu most k A
     by_cases hlt:k < x
     ·
      go_wp2_with (go_at_call 145; refine (vg B _ most hn0 hn1 (by omega) _ N.o).mono ?_);rintro e w3 ⟨rfl,ac,U⟩;have ad:=ui most k A;have av:=j3 most k A
      have I:Zq (w3.ownsRow w.heap.size 9 1 u9 k ((az most k A).1.map λl=>.string (S l))):=by
       have:=ownsRow_mod R.o U (λg hg=>by rw [hg]; exact ap.o);rw [av] at this; exact this
      have X:Zq (One B w w3):=O.o.trans U;clear R O U;generalize ib most (az most k A).2=tx at *
      have ak:=zq ad; clear ad;have al:=zq ac; clear ac;go_wp2_with (at_builtin; refine wpList_append_own _ rfl (.tmp 35) (.tmp 39) 40 rfl w.heap.size 9 i0 (.string ⟨#[]⟩) 1 16 Tryz.underlying40 bj bk Y bl rfl (by decide) _ k ((az most k A).1.map λl=>.string (S l)) rfl (I.o.alloc _) ⟨w3.heap.size,0,none⟩ 1 1 [.string (S tx.1)] rfl rfl ?c1 ?c2 ?c3 ?c4 ?c5 ?_)
      case c1=>exact cell_one_new _ _ _
      case c2=>intro u hu; simp at hu; subst hu; rfl
      case c3=>unfold maxLen; omega
      case c4=>omega
      case c5=>have:=X.o.size; simp; omega
      intro v' w4 J E _
      have a1:Zq (Texts w.heap.size v' (az most (k+1) A).1 w4):=by
       show w4.ownsRow _ _ _ _ (az most (k+1) A).1.length _;rw [j3,ak.o,List.map_append]; exact J
      have M:∀ g,u9.ownBlock=some g->w.heap.size<=g:=ut I.o;have a6:Zq (One B w w4):=(X.o.alloc _).grown E M
      have a7:Zq (Rd B (az most (k+1) A).2 w4):=by
       have h1:Rd B tx.2 (w3.alloc (.cells #[.string (S tx.1)] 9)):=al.o.mod ((Mod.refl (λ_=>False) w3).alloc _) (λx=>x);have h2:=(E.block B h1.lt (λe=>by have:=M B e.symm; have:=ap.o; omega)).trans h1;rw [ak.o]; exact h2
      clear J E I X al M;go_wp2_with fail;go_roundw
      case rel=>exact ⟨k+1,by omega,by go_num,a1.o,a7.o,a6.o⟩
      case measure=>simp [intOf]; omega
     ·
      have ek:k=x:=by omega
      subst ek;have b3:=N.o.e_cell
      by_cases F:(az most k A).2.e≠0
      ·
       have a8:=abo F;have ba:=zq F; clear F;go_wp2_with (go_at_call 201; refine (qp B _ _ N.o (az most k A).2.e r.s).mono ?_);rintro e w4 ⟨rfl,am,an⟩;have H:=zq (FIN2.o A _ HL.o ba.o am (O.o.trans an));clear am an;go_wp2_with fail;go_ret;exact ⟨_,rfl,H.o⟩
      . have F:(az most k A).2.e=0:=by omega
        have a8:=acy F;have H:=zq (FIN.o A _ _ HL.o R.o N.o O.o F);clear F;go_wp2_with fail;go_ret;exact ⟨_,rfl,H.o⟩
end OctW
namespace Bld
open Go.Shelf Go.RowKit
def ren:Go.Shelf.Ren:=⟨λ| 169=>174 | n=>n,λ| 70=>272 | 9=>9 | 0=>0 | 72=>274 | 37=>231 | 127=>319 | 3=>3 | 5=>5 | n=>n,λ| n=>n⟩
theorem lays:Go.Proofs.Lays.n169 Tryz.prog ren:={
 mixed:=by kernel_rfl
 f169:=Tryz.func174.trans (congrArg some (by kernel_rfl))
 t0:=Tryz.underlying0
 a0:=Tryz.isAgg0
 z0:=Tryz.sizeOf0
 v0:=Tryz.zeroValue0
 t3:=Tryz.underlying3
 a3:=Tryz.isAgg3
 z3:=Tryz.sizeOf3
 v3:=Tryz.zeroValue3
 t9:=Tryz.underlying9
 a9:=Tryz.isAgg9
 z9:=Tryz.sizeOf9
 v9:=Tryz.zeroValue9
 t37:=Tryz.underlying231
 a37:=Tryz.isAgg231
 z37:=Tryz.sizeOf231
 v37:=Tryz.zeroValue231
 t70:=Tryz.underlying272
 a70:=Tryz.isAgg272
 z70:=Tryz.sizeOf272
 v70:=Tryz.zeroValue272
 t72:=Tryz.underlying274
 a72:=Tryz.isAgg274
 z72:=Tryz.sizeOf274
 v72:=Tryz.zeroValue274
 t127:=Tryz.underlying319
 a127:=Tryz.isAgg319
 z127:=Tryz.sizeOf319
 v127:=Tryz.zeroValue319 }
theorem extra:Builder.Extra Tryz.prog ren:={
 sizeBuilder:=by kernel_rfl
 liesBuilder:=by kernel_rfl
 t5:=Tryz.underlying5
 a5:=Tryz.isAgg5
 z5:=Tryz.sizeOf5
 v5:=Tryz.zeroValue5
 infoByte:=by kernel_rfl
 cellsByte:=by kernel_rfl
 sizeByte:=by kernel_rfl
 neB5:=by decide }
theorem ac0 (B b:Nat) (l:List UInt8) (w:World) (h:Lib.IsBuilder 274 5 B b (Lib.byteCells l) w) (hBw:B<=w.heap.size) :
 Calls Tryz.prog 174 #[.pointer (some ⟨b,0,none⟩)] w λe w'=>e=.returned (.string ⟨l.toArray⟩)/\Below B w w':=Any.Builder_String_any lays extra B b l w h hBw
theorem aa3:(Tryz.prog.info? 274).map (·.size)=some 2:=by kernel_rfl
theorem afb:liesAt Tryz.prog Tryz.prog.depth 274 (2 / Tryz.prog.cellsOf 274) 0 274 1=true:=by kernel_rfl
theorem aki:(Tryz.prog.info? 5).map (λi=>(i.zero,i.size,i.bytes))=some (some (.int .u8 0),1,1):=by kernel_rfl
theorem ac1 (b:Nat) (w:World) (h0:w.cell? ⟨b,0,none⟩=some (.pointer (some ⟨b,0,none⟩))) :
 Calls Tryz.prog 223 #[.pointer (some ⟨b,0,none⟩)] w λe w'=>e=.returned (.tuple #[])/\w'=w:=by
 obtain ⟨j,A,_⟩:=Option.map_eq_some_iff.1 aa3;go_enter Tryz.func223,Tryz.ntmps223;go_wp2;rw [Lib.run_neq_ptr_same w _ Tryz.underlying272 A];go_wp2;go_end0;exact ⟨rfl,rfl⟩
theorem aci (b:Nat) (w:World) (h0:w.cell? ⟨b,0,none⟩=some (.pointer none)) (hsh:w.shape? b=some (274,2)) (hfz:w.frozen? ⟨b,0,none⟩=false) :
 Calls Tryz.prog 223 #[.pointer (some ⟨b,0,none⟩)] w λe w'=>e=.returned (.tuple #[])/\w'=w.setCell ⟨b,0,none⟩ (.pointer (some ⟨b,0,none⟩)):=by
 obtain ⟨j,B,A⟩:=Option.map_eq_some_iff.1 aa3;go_enter Tryz.func223,Tryz.ntmps223;go_wp2;rw [Lib.run_to_unsafe w ⟨b,0,none⟩ Tryz.underlying272 Tryz.underlying340 B (by rw [A]; decide) hsh (Nat.zero_lt_succ 1)];simp only [Result.andThen];rw [Oper.upon_value];go_wp2;rw [run_callFunc_extern Tryz.func246 (by kernel_rfl) (by kernel_rfl) (by kernel_rfl) (e:=Extern.AbiNoEscape.same) (by kernel_rfl)];rw [Lib.run_noEscape];simp only [Result.andThen];rw [Oper.upon_value];go_wp2;rw [Lib.run_from_unsafe w ⟨b,0,none⟩ Tryz.underlying340 Tryz.underlying272 B hsh afb];simp only [Result.andThen];rw [Oper.upon_value];go_wp2;go_end0;exact ⟨rfl,rfl⟩
theorem ad8 (B b:Nat) (bs:List Value) (w:World) (h:Lib.IsBuilder 274 5 B b bs w) :
 Calls Tryz.prog 223 #[.pointer (some ⟨b,0,none⟩)] w λe w'=>e=.returned (.tuple #[])/\(Lib.BuilderAt 274 5 B b (.pointer (some ⟨b,0,none⟩)) bs w'/\Below B w w'):=by
 rcases h with h | h
 . refine (aci b w h.cell0 h.shape h.frozen0).mono ?_
   rintro e w' ⟨rfl,rfl⟩;exact ⟨rfl,h.used _,(Below.refl B w).setCell (p:=⟨b,0,none⟩) h.1 _⟩
 . refine (ac1 b w h.cell0).mono ?_
   rintro e w' ⟨rfl,rfl⟩;exact ⟨rfl,h,Below.refl B _⟩
theorem xx (B b:Nat) (bs:List Value) (s:ByteArray) (w:World) (h:Lib.IsBuilder 274 5 B b bs w) (hlen:bs.length+s.size<=140737488355328) (hBw:B<=w.heap.size) :
 Calls Tryz.prog 172 #[.pointer (some ⟨b,0,none⟩),.string s] w λe w'=>e=.returned (.tuple #[.int .i64 s.size,.nilIface])/\(Lib.BuilderAt 274 5 B b (.pointer (some ⟨b,0,none⟩)) (bs++Lib.strCells s) w'/\Below B w w'):=by
 obtain ⟨i0,hi,N,O,R⟩:=info_parts aki;go_enter Tryz.func172,Tryz.ntmps172;go_wp2_with (go_at_call 223; refine (ad8 B b bs _ h).mono ?_);rintro e w1 ⟨rfl,h1,M⟩;obtain ⟨Y,v,F,J,U⟩:=h1;have c0:w1.cell? ⟨b,0,none⟩=some (.pointer (some ⟨b,0,none⟩)):=by rw [Lib.cell_of_heap F]; rfl
 have c1:w1.cell? ⟨b,1,none⟩=some v:=by rw [Lib.cell_of_heap F]; rfl
 go_wp2_with (at_builtin; go_must (refine Lib.wpList_append_own_string _ rfl _ _ 231 9 rfl B 5 i0 Tryz.underlying231 Tryz.underlying9 hi N O R _ _ _ rfl J s rfl ?c3 ?c4 ?c5 ?_))
 case c3=>unfold maxLen; omega
 case c4=>omega
 case c5=>have:=M.size; omega
 intro v' w2 A E _
 have X:b < w1.heap.size:=by
  rcases Nat.lt_or_ge b w1.heap.size with h' | h'
  . exact h'
  . simp [Array.getElem?_eq_none h'] at F
 have I:w2.heap[b]?=some (.cells #[.pointer (some ⟨b,0,none⟩),v] 274 (0,0)):=by
  rw [E.block b X (λe=>U e.symm)];exact F
 have d0:w2.cell? ⟨b,0,none⟩=some (.pointer (some ⟨b,0,none⟩)):=by rw [Lib.cell_of_heap I]; rfl
 have d1:w2.cell? ⟨b,1,none⟩=some v:=by rw [Lib.cell_of_heap I]; rfl
 have f1:w2.frozen? ⟨b,1,none⟩=false:=Lib.frozen_of_heap I 1
 obtain ⟨Z,n',cap,rfl⟩:∃ Z n' cap,v'=.slice Z n' cap:=by
  rcases A.2 with ⟨hv,_⟩ | ⟨g,cap,cur,hv,_⟩
  . exact ⟨_,_,_,hv⟩
  . exact ⟨_,_,_,hv⟩
 go_wp2;go_ret2;refine ⟨rfl,?_,?_⟩
 . exact Lib.BuilderAt.put (T:=274) (e:=5) Y I (bs':=bs++Lib.strCells s) (by simpa [Lib.strCells_length] using A) (by decide)
 . exact (M.grown E (by have:=M.size; omega) (λk hk=>(J.lt k hk).1)).setCell (p:=⟨b,1,none⟩) Y _
end Bld
namespace OctW
open Go.RowKit OctMath
abbrev Bl (B b:Nat) (l:List UInt8) (w:World):Prop:=Lib.IsBuilder 274 5 B b (Lib.byteCells l) w
theorem aac {M:Nat->Prop} {T e B b:Nat} {p:Value} {bs:List Value} {w w':World} (h:Lib.BuilderAt T e B b p bs w) (hm:Mod M w w') (hM:∀ k,M k->k < B):Lib.BuilderAt T e B b p bs w':=by
 obtain ⟨I,v,hb,A,E⟩:=h;have F:=(Array.getElem?_eq_some_iff.1 hb).1;exact ⟨I,v,(hm.block b F (λh=>by have:=hM b h; omega)).trans hb,ownsRow_mod A hm hM,E⟩
theorem Bl.mod {M:Nat->Prop} {B b:Nat} {l:List UInt8} {w w':World} (h:Bl B b l w) (hm:Mod M w w') (hM:∀ k,M k->k < B):Bl B b l w':=by
 rcases h with h | h
 . exact .inl (aac h hm hM)
 . exact .inr (aac h hm hM)
theorem Bl.below {B b:Nat} {l:List UInt8} {w w':World} (h:Bl B b l w) (hm:Below w.heap.size w w'):Bl B b l w':=h.mod (M:=λ_=>False) (Mod.of_below hm) (λ_ x=>x.elim)
def Ints (w:World) (a:Option Addr) (xs:List Int):Prop:=∀ i (h:i < xs.length),∃ b off,a=some ⟨b,off,none⟩/\w.cell? ⟨b,off+i,none⟩=some (.int .i64 xs[i])
theorem Ints.below {w w':World} {a:Option Addr} {xs:List Int} (h:Ints w a xs) (hb:Below w.heap.size w w'):Ints w' a xs:=by
 intro i A;obtain ⟨b,off,rfl,hc⟩:=h i A;exact ⟨b,off,rfl,by rw [hb.cell (bq hc)]; exact hc⟩
def numsL (n:Nat) (xs:List Int):List UInt8:=xs.flatMap λx=>be n x.toNat
def fits (n:Nat) (x:Int):Prop:=0<=x/\x < (256 ^ n:Nat)
instance (n:Nat) (x:Int):Decidable (fits n x):=by unfold fits; infer_instance
def ma (n:Int) (xs:List Int):List UInt8×Nat:=if n < 1\/7 < n then ([],1) else if ∀ x∈xs,fits n.toNat x then (numsL n.toNat xs,0) else ([],2)
theorem ahz (n:Nat) (xs:List Int) (k:Nat) (h:k < xs.length):numsL n (xs.take (k+1))=numsL n (xs.take k)++be n xs[k].toNat:=by
 unfold numsL; rw [List.take_succ_eq_append_getElem h,List.flatMap_append]; simp
theorem numsL_length (n:Nat) (xs:List Int):(numsL n xs).length=xs.length * n:=by
 unfold numsL; induction xs with
 | nil=>simp
 | cons x xs ih=>simp [bf,ih,Nat.succ_mul]; omega
theorem arn (z m:Nat):((z:Int) / 2 ^ (8 * m) != 0)=decide (256 ^ m<=z):=by
 have h:((z:Int) / 2 ^ (8 * m))=((z / 256 ^ m:Nat):Int):=by
  rw [Int.natCast_ediv,show ((256 ^ m:Nat):Int)=2 ^ (8 * m) from by rw [Int.natCast_pow,Int.pow_mul]; rfl]
 have hp:0 < 256 ^ m:=Nat.pow_pos (by omega);rw [h]
 by_cases hz:256 ^ m<=z
 ·
  have:=Nat.div_pos hz hp;rw [decide_eq_true hz];generalize z / 256 ^ m=q at *
  exact bne_iff_ne.2 (by omega)
 . rw [decide_eq_false hz,Nat.div_eq_of_lt (by omega)]; rfl
theorem nums_any (n:Int) (hn0 : -9223372036854775808<=n) (hn1:n<=9223372036854775807) (a:Option Addr) (cap:Nat) (xs:List Int) (hx:xs.length<=1048576) (hr:∀ x∈xs,-9223372036854775808<=x/\x<=9223372036854775807) (W:World) (h:Ints W a xs) :
 Calls Tryz.prog 108 #[.int .i64 n,.slice a xs.length cap] W λe w'=>e=.returned (.tuple #[.string (S (ma n xs).1),.int .i64 ((ma n xs).2:Int)])/\Below W.heap.size W w':=by
 have HI:=zq h; clear h;have ad:=zq hr; clear hr
 by_cases hw:n < 1\/7 < n
 ·
  have X:Zq (ma n xs=([],1)):=by unfold ma; rw [if_pos hw]; rfl
  go_enter Tryz.func108,Tryz.ntmps108
  rcases hw with hw | hw
  . go_wp2_with fail
    go_ret2;rw [X.o];exact ⟨rfl,Below.refl _ _⟩
  ·
   have a7:1<=n:=by omega
   go_wp2_with fail;go_ret2;rw [X.o];exact ⟨rfl,Below.refl _ _⟩
 ·
  obtain ⟨m,rfl⟩:∃ m:Nat,n=m:=⟨n.toNat,by omega⟩;have a8:1<=m:=by omega
  have ak:m<=7:=by omega
  have X:Zq (ma (m:Int) xs=if ∀ x∈xs,fits m x then (numsL m xs,0) else ([],2)):=by unfold ma; rw [if_neg hw]; rfl
  clear hw;have M:Zq (Bl W.heap.size W.heap.size [] (W.alloc (.cells #[.pointer none,.slice none 0 0] 274))):=Lib.fresh_isBuilder _ _ W;have A:Zq (Below W.heap.size W (W.alloc (.cells #[.pointer none,.slice none 0 0] 274))):=(Below.refl _ W).alloc (Nat.le_refl _) _;go_enter Tryz.func108,Tryz.ntmps108;go_wp2_with fail;go_loopw [17] (λi wr=>∃ k:Nat,k<=xs.length/\i=.int .i64 k/\Zq (Bl W.heap.size W.heap.size (numsL m (xs.take k)) wr)/\Zq (Below W.heap.size W wr)/\Zq (∀ x∈xs.take k,fits m x)) (λi _=>xs.length - (intOf i).toNat)
  case atStart=>exact ⟨0,by omega,rfl,M,A,by simp [Zq]⟩
  case round =>
   clear M A;obtain ⟨k,hk,rfl,M,A,HA⟩:=hrel
   by_cases hlt:k < xs.length
   ·
    obtain ⟨b,off,rfl,hc⟩:=HI.o k hlt;rw [<- A.o.cell (bq hc)] at hc;have am:=ad.o xs[k] (by simp);have Y:=ahz m xs k hlt;have Z:∀ x,x∈xs.take (k+1)↔x∈xs.take k\/x=xs[k]:=by intro y; rw [List.take_succ_eq_append_getElem hlt,List.mem_append,List.mem_singleton]
    have F:xs[k]∈xs:=by simp
    generalize xs[k]=x at *
    have an:=zq Y; clear Y;have ao:=zq Z; clear Z;have I:=zq F; clear F;obtain ⟨ap,ba⟩:=am
    by_cases h0:x < 0
    . have B:Zq (ma (m:Int) xs=([],2)):=by rw [X.o,if_neg (λh=>by have:=(h x I.o).1; omega)]; rfl
      go_wp2_with fail;go_ret2;rw [B.o];exact ⟨rfl,A.o⟩
    ·
     obtain ⟨z,rfl⟩:∃ z:Nat,x=z:=⟨x.toNat,by omega⟩;clear h0 ap;have ab:=arn z m
     by_cases hf:256 ^ m<=z
     . have B:Zq (ma (m:Int) xs=([],2)):=by rw [X.o,if_neg (λh=>by have:=(h z I.o).2; omega)]; rfl
       rw [decide_eq_true hf] at ab;clear hf;go_wp2_with fail;go_ret2;rw [B.o];exact ⟨rfl,A.o⟩
     ·
      have ar:Zq (fits m z):=⟨by omega,by omega⟩;rw [decide_eq_false hf] at ab;clear hf;go_wp2_with (go_at_call 173; refine (put_any m z (by omega) (by omega) _).mono ?_);rintro e w1 ⟨rfl,N⟩;have O:Zq (Below W.heap.size W w1):=A.o.trans (N.mono A.o.size);have ac:Zq (Bl W.heap.size W.heap.size (numsL m (xs.take k)) w1):=M.o.below N
      have J:(Lib.byteCells (numsL m (xs.take k))).length+(S (be m z)).size<=140737488355328:=by
       rw [Lib.byteCells_length,numsL_length,ah,bf,List.length_take];have:min k xs.length * m<=1048576 * 7:=Nat.mul_le_mul (by omega) ak;omega
      clear N M A;go_wp2_with (go_at_call 172; refine (Bld.xx W.heap.size W.heap.size _ (S (be m z)) _ ac.o J O.o.size).mono ?_);rintro e w2 ⟨rfl,R,E⟩;have U:Zq (Below W.heap.size W w2):=O.o.trans E
      have av:Zq (Bl W.heap.size W.heap.size (numsL m (xs.take (k+1))) w2):=by
       rw [an.o];have:Lib.byteCells (numsL m (xs.take k))++Lib.strCells (S (be m z))=Lib.byteCells (numsL m (xs.take k)++be m z):=by rw [Lib.strCells_eq,jv,Lib.byteCells_append]
       rw [this] at R;exact .inr R
      clear R E ac O J;go_wp2_with fail;go_roundw
      case rel =>
       refine ⟨k+1,by omega,by go_num,av,U,λy hy=>?_⟩
       rcases (ao.o y).1 hy with hy | rfl
       . exact HA.o y hy
       . exact ar.o
      case measure=>simp [intOf]; omega
   ·
    have ek:k=xs.length:=by omega
    subst ek;rw [List.take_length] at M HA;have B:Zq (ma (m:Int) xs=(numsL m xs,0)):=by rw [X.o,if_pos HA.o]; rfl
    go_wp2_with (go_at_call 174; refine (Bld.ac0 W.heap.size W.heap.size _ _ M.o A.o.size).mono ?_);rintro e w2 ⟨rfl,E⟩;have U:Zq (Below W.heap.size W w2):=A.o.trans E;clear E;go_wp2_with fail;go_ret2;rw [B.o];exact ⟨rfl,U.o⟩
def fw (t:List UInt8):List UInt8:=be 2 t.length++t
def bn (ts:List (List UInt8)):List UInt8:=ts.flatMap fw
def j5 (ts:List (List UInt8)):List UInt8×Nat:=if ∀ t∈ts,t.length<=65535 then (bn ts,0) else ([],6)
def rq (ts:List (List UInt8)):List UInt8×Nat:=if 255 < ts.length then ([],6) else if ∀ t∈ts,t.length<=65535 then (be 1 ts.length++bn ts,0) else ([],6)
theorem afx (ts:List (List UInt8)) (k:Nat) (h:k < ts.length):bn (ts.take (k+1))=bn (ts.take k)++fw ts[k]:=by
 unfold bn; rw [List.take_succ_eq_append_getElem h,List.flatMap_append]; simp
theorem ac2 (ts:List (List UInt8)) (k:Nat):(bn (ts.take k)).length<=(bn ts).length:=by
 unfold bn
 conv=>rhs; rw [<- List.take_append_drop k ts]
 rw [List.flatMap_append,List.length_append]; omega
theorem abr (a:Option Addr) (cap:Nat) (ts:List (List UInt8)) (hx:ts.length<=1048576) (A:(bn ts).length<=1073741824) (W:World) (h:Strs W a (ts.map S)) :
 Calls Tryz.prog 109 #[.slice a ts.length cap] W λe w'=>e=.returned (.tuple #[.string (S (j5 ts).1),.int .i64 ((j5 ts).2:Int)])/\Below W.heap.size W w':=by
 have HI:=zq h; clear h;have X:=zq A; clear A;have I:Zq (Bl W.heap.size W.heap.size [] (W.alloc (.cells #[.pointer none,.slice none 0 0] 274))):=Lib.fresh_isBuilder _ _ W;have E:Zq (Below W.heap.size W (W.alloc (.cells #[.pointer none,.slice none 0 0] 274))):=(Below.refl _ W).alloc (Nat.le_refl _) _;go_enter Tryz.func109,Tryz.ntmps109;go_wp2_with fail;go_loopw [9] (λi wr=>∃ k:Nat,k<=ts.length/\i=.int .i64 k/\Zq (Bl W.heap.size W.heap.size (bn (ts.take k)) wr)/\Zq (Below W.heap.size W wr)/\Zq (∀ x∈ts.take k,x.length<=65535)) (λi _=>ts.length - (intOf i).toNat)
 case atStart=>exact ⟨0,by omega,rfl,I,E,by simp [Zq]⟩
 case round =>
  clear I E;obtain ⟨k,hk,rfl,I,E,HA⟩:=hrel
  by_cases hlt:k < ts.length
  ·
   obtain ⟨b,off,rfl,hc⟩:=HI.o k (by simpa using hlt);rw [<- E.o.cell (bq hc),List.getElem_map] at hc;have J:=afx ts k hlt;have Y:∀ y,y∈ts.take (k+1)↔y∈ts.take k\/y=ts[k]:=by intro y; rw [List.take_succ_eq_append_getElem hlt,List.mem_append,List.mem_singleton]
   have F:ts[k]∈ts:=by simp
   have ak:(bn (ts.take (k+1))).length<=1073741824:=Nat.le_trans (ac2 ts _) X.o;rw [J,List.length_append] at ak;generalize ts[k]=x at *
   have ar:(fw x).length=x.length+2:=by unfold fw; rw [List.length_append,bf]; omega
   have al:=zq J; clear J;have am:=zq Y; clear Y;have Z:=zq F; clear F;have av:=ah x
   by_cases hf:65535 < x.length
   . have M:Zq (j5 ts=([],6)):=by unfold j5; rw [if_neg (λh=>by have:=h x Z.o; omega)]; rfl
     go_wp2_with fail;go_ret2;rw [M.o];exact ⟨rfl,E.o⟩
   ·
    have a1:(S (be 2 x.length)).size=2:=by rw [ah,bf]
    have ab:Zq (S (be 2 x.length)++S x=S (fw x)):=gm _ _;go_wp2_with (go_at_call 173; refine (put_any 2 x.length (by omega) (by omega) _).mono ?_);rintro e w1 ⟨rfl,N⟩;have O:Zq (Below W.heap.size W w1):=E.o.trans (N.mono E.o.size);have ac:Zq (Bl W.heap.size W.heap.size (bn (ts.take k)) w1):=I.o.below N
    have A:(Lib.byteCells (bn (ts.take k))).length+(S (fw x)).size<=140737488355328:=by
     rw [Lib.byteCells_length,ah]; omega
    clear N I E;go_wp2_with fail;rw [ab.o];refine (Bld.xx W.heap.size W.heap.size _ (S (fw x)) _ ac.o A O.o.size).mono ?_;rintro e w2 ⟨rfl,R,B⟩;have U:Zq (Below W.heap.size W w2):=O.o.trans B
    have an:Zq (Bl W.heap.size W.heap.size (bn (ts.take (k+1))) w2):=by
     rw [al.o];have:Lib.byteCells (bn (ts.take k))++Lib.strCells (S (fw x))=Lib.byteCells (bn (ts.take k)++fw x):=by rw [Lib.strCells_eq,jv,Lib.byteCells_append]
     rw [this] at R;exact .inr R
    clear R B ac O A;go_wp2_with fail;go_roundw
    case rel =>
     refine ⟨k+1,by omega,by go_num,an,U,λy hy=>?_⟩
     rcases (am.o y).1 hy with hy | rfl
     . exact HA.o y hy
     . omega
    case measure=>simp [intOf]; omega
  ·
   have ek:k=ts.length:=by omega
   subst ek;rw [List.take_length] at I HA;have M:Zq (j5 ts=(bn ts,0)):=by unfold j5; rw [if_pos HA.o]; rfl
   go_wp2_with (go_at_call 174; refine (Bld.ac0 W.heap.size W.heap.size _ _ I.o E.o.size).mono ?_);rintro e w2 ⟨rfl,B⟩;have U:Zq (Below W.heap.size W w2):=E.o.trans B;clear B;go_wp2_with fail;go_ret2;rw [M.o];exact ⟨rfl,U.o⟩
theorem akj (a:Option Addr) (cap:Nat) (ts:List (List UInt8)) (hx:ts.length<=1048576) (hlen:(bn ts).length<=1073741824) (W:World) (h:Strs W a (ts.map S)) :
 Calls Tryz.prog 258 #[.slice a ts.length cap] W λe w'=>e=.returned (.tuple #[.string (S (rq ts).1),.int .i64 ((rq ts).2:Int)])/\Below W.heap.size W w':=by
 have M:=zq h; clear h;go_enter Tryz.func258,Tryz.ntmps258
 by_cases hl:255 < ts.length
 ·
  have B:Zq (rq ts=([],6)):=by unfold rq; rw [if_pos hl]; rfl
  go_wp2_with fail;go_ret2;rw [B.o];exact ⟨rfl,Below.refl _ _⟩
 ·
  go_wp2_with (go_at_call 109; refine (abr a cap ts hx hlen _ M.o).mono ?_);rintro e w1 ⟨rfl,E⟩;have A:=zq E; clear E
  by_cases hf:∀ t∈ts,t.length<=65535
  ·
   have h1:(j5 ts)=(bn ts,0):=by unfold j5; rw [if_pos hf]
   have B:Zq (rq ts=(be 1 ts.length++bn ts,0)):=by unfold rq; rw [if_neg hl,if_pos hf]; rfl
   rw [h1];clear h1 hf;have N:(S (be 1 ts.length)).size=1:=by rw [ah,bf]
   have O:=ah (bn ts);have F:Zq (S (be 1 ts.length)++S (bn ts)=S (be 1 ts.length++bn ts)):=gm _ _;go_wp2_with (go_at_call 173; refine (put_any 1 ts.length (by omega) (by omega) _).mono ?_);rintro e w2 ⟨rfl,I⟩;have J:Zq (Below W.heap.size W w2):=A.o.trans (I.mono A.o.size);clear I;go_wp2_with fail;rw [F.o];go_wp2_with fail;go_ret2;rw [B.o];exact ⟨rfl,J.o⟩
  ·
   have h1:(j5 ts)=([],6):=by unfold j5; rw [if_neg hf]
   have B:Zq (rq ts=([],6)):=by unfold rq; rw [if_neg hl,if_neg hf]; rfl
   rw [h1];clear h1 hf;go_wp2_with fail;go_ret2;rw [B.o];exact ⟨rfl,A.o⟩
def aek (most:Int) (l:List UInt8):List UInt8×Nat×Nat :=
 if l.length < 2 then ([],0,3) else if most < (val (l.take 2):Int) then ([],0,6) else if l.length < 2+val (l.take 2) then ([],0,3) else ((l.drop 2).take (val (l.take 2)),2+val (l.take 2),0)
theorem ao6 (n:Nat) (l:List UInt8) (h1:1<=n) (h7:n<=7):dw (n:Int) ⟨l,0⟩=if l.length < n then (0,⟨l,3⟩) else (val (l.take n),⟨l.drop n,0⟩):=by
 have A:di (n:Int) ⟨l,0⟩=if l.length < n then ([],⟨l,3⟩) else (l.take n,⟨l.drop n,0⟩):=by
  unfold di;rw [if_neg (by simp),if_neg (by omega)]
  by_cases h:l.length < n
  . rw [if_pos h,if_pos (by simpa using h)]
  . rw [if_neg h,if_neg (by simpa using h)]; simp
 unfold dw;rw [if_neg (by simp),if_neg (by omega),A]
 split <;> rfl
theorem afy (most:Int) (l:List UInt8):ib most ⟨l,0⟩=((aek most l).1,⟨l.drop (aek most l).2.1,(aek most l).2.2⟩):=by
 rw [aa2 most _ (by simp)];have A:=ao6 2 l (by omega) (by omega);rw [show dw 2 ⟨l,0⟩=_ from A];unfold aek
 by_cases h2:l.length < 2
 ·
  rw [if_pos h2,if_pos h2];have:cz (decide (most < ((0:Nat):Int))) ⟨l,3⟩=⟨l,3⟩:=abq _ (by simp);simp only [this];have:di ((0:Nat):Int) ⟨l,3⟩=([],⟨l,3⟩):=by unfold di; rw [if_pos (by simp)]
  rw [this]; simp
 ·
  rw [if_neg h2,if_neg h2];simp only;generalize hx:val (l.take 2)=x
  by_cases hm:most < (x:Int)
  ·
   rw [decide_eq_true hm,if_pos hm];have:cz true ⟨l.drop 2,0⟩=⟨l.drop 2,6⟩:=by unfold cz; rw [if_pos ⟨rfl,rfl⟩]
   rw [this];have:di (x:Int) ⟨l.drop 2,6⟩=([],⟨l.drop 2,6⟩):=by unfold di; rw [if_pos (by simp)]
   rw [this]; simp
  ·
   rw [decide_eq_false hm,if_neg hm,uh]
   have B:di (x:Int) ⟨l.drop 2,0⟩=if l.length < 2+x then ([],⟨l.drop 2,3⟩) else ((l.drop 2).take x,⟨l.drop (2+x),0⟩):=by
    unfold di;rw [if_neg (by simp),if_neg (show ¬ (x:Int) < 0 by omega)]
    by_cases hs:l.length < 2+x
    . rw [if_pos hs,if_pos (show ((l.drop 2).length:Int) < x by rw [List.length_drop]; omega)]
    . rw [if_neg hs,if_neg (show ¬ ((l.drop 2).length:Int) < x by rw [List.length_drop]; omega)]; simp
   rw [B]
   by_cases hs:l.length < 2+x
   . rw [if_pos hs,if_pos hs,if_pos (by simp)]; simp
   . rw [if_neg hs,if_neg hs,if_neg (by simp)]
theorem aco (m x:Nat) (rest:List UInt8) (h1:1<=m) (h7:m<=7) (hx:x < 256 ^ m):dw (m:Int) ⟨be m x++rest,0⟩=(x,⟨rest,0⟩):=by
 have A:=bf m x
 have B:di (m:Int) ⟨be m x++rest,0⟩=(be m x,⟨rest,0⟩):=by
  unfold di;rw [if_neg (by simp),if_neg (by omega),if_neg (by simp [A]; omega)];simp [A]
 unfold dw;rw [if_neg (by simp),if_neg (by omega),B,amn,Nat.mod_eq_of_lt hx]
theorem je (t:List UInt8):(fw t).length=t.length+2:=by unfold fw; rw [List.length_append,bf]; omega
theorem yn (t:List UInt8) (ts:List (List UInt8)):bn (t :: ts)=fw t++bn ts:=by unfold bn; simp
theorem ah0 (most:Int) (t rest:List UInt8) (h:t.length<=65535) (hm:(t.length:Int)<=most):aek most (fw t++rest)=(t,2+t.length,0):=by
 have A:(fw t++rest).length=t.length+2+rest.length:=by rw [List.length_append,je]
 have B:(fw t++rest).take 2=be 2 t.length:=by
  unfold fw; rw [List.append_assoc,List.take_append_of_le_length (by rw [bf]; omega),List.take_of_length_le (by rw [bf]; omega)]
 have hd:(fw t++rest).drop 2=t++rest:=by
  unfold fw; rw [List.append_assoc];have:=bf 2 t.length;rw [List.drop_append,List.drop_of_length_le (by omega),this]; simp
 have E:val (be 2 t.length)=t.length:=by rw [amn]; exact Nat.mod_eq_of_lt (by omega)
 unfold aek;rw [B,E,A,hd,if_neg (by omega),if_neg (by omega),if_neg (by omega)];simp
theorem ww (most:Int) (t rest:List UInt8) (h:t.length<=65535) (hm:(t.length:Int)<=most):ib most ⟨fw t++rest,0⟩=(t,⟨rest,0⟩):=by
 rw [afy,ah0 most t rest h hm]
 have:(fw t++rest).drop (2+t.length)=rest:=by
  rw [List.drop_append,List.drop_of_length_le (by rw [je]; omega),je,show 2+t.length - (t.length+2)=0 by omega]; rfl
 simp only [this]
theorem afc (most:Int) (rest:List UInt8):∀ A:List (List UInt8),(∀ t∈A,t.length<=65535/\(t.length:Int)<=most)->az most A.length ⟨bn A++rest,0⟩=(A,⟨rest,0⟩):=by
 intro A
 induction A with
 | nil=>intro _; rfl
 | cons t A ih =>
   intro h;have h0:=h t (List.mem_cons_self ..);have B:=ww most t (bn A++rest) h0.1 h0.2;rw [yn,List.append_assoc];show ((ib most _).1 :: (az most A.length (ib most _).2).1,(az most A.length (ib most _).2).2)=_;rw [B];simp only;rw [ih (λt E=>h t (List.mem_cons_of_mem _ E))]
theorem akk (n:Nat) (rest:List UInt8) (h:n<=255):dw 1 ⟨be 1 n++rest,0⟩=(n,⟨rest,0⟩):=aco 1 n rest (by omega) (by omega) (by omega)
theorem ah1 (many most:Int) (rest:List UInt8) (ts:List (List UInt8)) (hl:ts.length<=255) (hm:(ts.length:Int)<=many) (h:∀ t∈ts,t.length<=65535/\(t.length:Int)<=most) :
 ql many most ⟨be 1 ts.length++bn ts++rest,0⟩=(ts,⟨rest,0⟩):=by
 rw [acz _ _ _ (by simp),List.append_assoc,akk _ _ hl];simp only;rw [decide_eq_false (by omega),uh,afc most rest ts h,if_neg (by simp)]
end OctW
namespace CrcMath
def poly:BitVec 32:=0xEDB88320#32
def xy (x:BitVec 32):BitVec 32:=if x.getLsbD 0 then (x >>> 1) ^^^ poly else x >>> 1
def steps:Nat->BitVec 32->BitVec 32
 | 0,x=>x
 | n+1,x=>steps n (xy x)
theorem zt (m n:Nat) (x:BitVec 32):steps (m+n) x=steps n (steps m x):=by
 induction m generalizing x with
 | zero=>simp [steps]
 | succ m ih=>rw [Nat.succ_add]; simp only [steps]; exact ih _
theorem ab7 (n:Nat) (x:BitVec 32):steps (n+1) x=xy (steps n x):=by
 rw [zt]; rfl
theorem amo (x y:BitVec 32) (n:Nat):(x ^^^ y) >>> n=(x >>> n) ^^^ (y >>> n):=by
 ext i hi; simp
theorem ah2 (p a b:BitVec 32):(a ^^^ p) ^^^ (b ^^^ p)=a ^^^ b:=by
 ext i hi; simp; cases a[i] <;> cases b[i] <;> cases p[i] <;> rfl
theorem akl (x y:BitVec 32):xy (x ^^^ y)=xy x ^^^ xy y:=by
 unfold xy;rw [BitVec.getLsbD_xor,amo]
 cases x.getLsbD 0 <;> cases y.getLsbD 0 <;> simp
 . ac_rfl
 . ac_rfl
 . exact (ah2 _ _ _).symm
theorem vk (n:Nat) (x y:BitVec 32):steps n (x ^^^ y)=steps n x ^^^ steps n y:=by
 induction n generalizing x y with
 | zero=>rfl
 | succ n ih=>simp only [steps,akl]; exact ih _ _
theorem akm (n:Nat) (x:BitVec 32) (h:∀ i,i < n->x.getLsbD i=false):steps n x=x >>> n:=by
 induction n generalizing x with
 | zero=>simp [steps]
 | succ n ih =>
   have h0:xy x=x >>> 1:=by unfold xy; rw [h 0 (by omega)]; simp
   simp only [steps,h0];rw [ih]
   . ext i A; simp; congr 1; omega
   . intro i A; simp; exact h _ (by omega)
def ext (b:BitVec 8):BitVec 32:=b.setWidth 32
theorem ao7 (k:Nat) (x:BitVec 32) (h:∀ i,32 - k<=i->x.getLsbD i=false):(x <<< k) >>> k=x:=by
 ext i hi
 simp;rw [<- BitVec.getLsbD_eq_getElem hi]
 by_cases h2:k+i < 32
 . simp [h2]
 . simp [h2,h i (by omega)]
theorem qc (n k:Nat) (x:BitVec 32) (h:∀ i,32 - k<=i->x.getLsbD i=false):steps (k+n) (x <<< k)=steps n x:=by
 rw [zt,akm k (x <<< k) (by intro i A; simp; intro _ B; omega),ao7 k x h]
theorem amq (b:BitVec 8) (i:Nat) (hi:8<=i):(ext b).getLsbD i=false:=by
 simp [ext]; intro _; exact BitVec.getLsbD_of_ge _ _ hi
def tab (k:Nat) (b:BitVec 8):BitVec 32:=steps (8 * (k+1)) (ext b)
def upd (r:BitVec 32) (b:BitVec 8):BitVec 32:=steps 8 (r ^^^ ext b)
def reg (r:BitVec 32) (l:List UInt8):BitVec 32:=l.foldl (λr b=>upd r b.toBitVec) r
theorem aan (r:BitVec 32) (a b:List UInt8):reg r (a++b)=reg (reg r a) b:=List.foldl_append ..
theorem amr (r:BitVec 32) (a:UInt8) (b:List UInt8):reg r (a :: b)=reg (upd r a.toBitVec) b:=rfl
theorem ao8 (r:BitVec 32):reg r []=r:=rfl
theorem ac3 (w:BitVec 32):steps 8 w=tab 0 (w.setWidth 8) ^^^ (w >>> 8):=by
 have h:w=ext (w.setWidth 8) ^^^ ((w >>> 8) <<< 8):=by
  ext i A; simp [ext]
  by_cases h:i < 8
  . simp [h,A]
  . simp [h]
    rw [show 8+(i - 8)=i from by omega]; simp [A]
 have B:steps 8 ((w >>> 8) <<< 8)=w >>> 8:=by
  have:=qc 0 8 (w >>> 8) (by intro i A; simp; exact BitVec.getLsbD_of_ge _ _ (by omega))
  simpa [steps] using this
 conv=>lhs; rw [h]
 rw [vk,B]; rfl
theorem ams (k:Nat) (b:BitVec 8):tab (k+1) b=tab 0 ((tab k b).setWidth 8) ^^^ (tab k b >>> 8):=by
 rw [<- ac3]; unfold tab; rw [<- zt]; rfl
theorem aqn (r:BitVec 32) (b:BitVec 8):upd r b=tab 0 (r.setWidth 8 ^^^ b) ^^^ (r >>> 8):=by
 unfold upd; rw [ac3];congr 1
 . congr 1; ext i hi; simp [ext]
 . ext i hi; simp [ext]
def yo (a b c d:BitVec 8):BitVec 32:=ext a ||| ext b <<< 8 ||| ext c <<< 16 ||| ext d <<< 24
theorem ael (a b c d:BitVec 8):yo a b c d=ext a ^^^ ext b <<< 8 ^^^ ext c <<< 16 ^^^ ext d <<< 24:=by
 unfold yo
 ext i hi
 simp [ext]
 by_cases h1:i < 8
 . simp [h1,show i < 16 from by omega,show i < 24 from by omega]
 ·
  by_cases h2:i < 16
  . simp [h1,h2,show i < 24 from by omega,BitVec.getLsbD_of_ge a i (by omega)]
  . by_cases h3:i < 24
    . simp [h1,h2,h3,BitVec.getLsbD_of_ge a i (by omega),BitVec.getLsbD_of_ge b (i - 8) (by omega)]
    . simp [h1,h2,h3,BitVec.getLsbD_of_ge a i (by omega),BitVec.getLsbD_of_ge b (i - 8) (by omega),BitVec.getLsbD_of_ge c (i - 16) (by omega)]
theorem amt (y:BitVec 32):y=yo (y.setWidth 8) ((y >>> 8).setWidth 8) ((y >>> 16).setWidth 8) ((y >>> 24).setWidth 8):=by
 unfold yo
 ext i hi
 simp [ext]
 by_cases h1:i < 8
 . simp [h1,hi,show i < 16 from by omega,show i < 24 from by omega]
 ·
  by_cases h2:i < 16
  . simp [h1,h2,show i < 24 from by omega,show i - 8 < 8 from by omega,show 8+(i - 8)=i from by omega,hi]
  . by_cases h3:i < 24
    . simp [h1,h2,h3,show ¬ i - 8 < 8 from by omega,show i - 16 < 8 from by omega,show 16+(i - 16)=i from by omega,hi]
    . simp [h1,h2,h3,show ¬ i - 8 < 8 from by omega,show ¬ i - 16 < 8 from by omega,show i - 24 < 8 from by omega,show 24+(i - 24)=i from by omega,hi]
theorem acp (k:Nat) (hk:k<=24) (b:BitVec 8):∀ i,32 - k<=i->(ext b).getLsbD i=false:=λi A=>amq b i (by omega)
theorem ad9 (a b c d:BitVec 8):steps 32 (yo a b c d)=tab 3 a ^^^ tab 2 b ^^^ tab 1 c ^^^ tab 0 d:=by
 rw [ael,vk,vk,vk];have h1:steps 32 (ext b <<< 8)=tab 2 b:=qc 24 8 (ext b) (acp 8 (by omega) b);have A:steps 32 (ext c <<< 16)=tab 1 c:=qc 16 16 (ext c) (acp 16 (by omega) c);have B:steps 32 (ext d <<< 24)=tab 0 d:=qc 8 24 (ext d) (acp 24 (by omega) d);rw [h1,A,B]; rfl
theorem ac4 (k:Nat) (hk:k<=24) (r:BitVec 32) (b:BitVec 8):upd (steps k r) b=steps (k+8) (r ^^^ ext b <<< k):=by
 unfold upd;have h:=qc 0 k (ext b) (acp k hk b);simp only [Nat.add_zero,steps] at h;rw [zt k 8,vk k,h]
theorem ao9 (x:BitVec 32) (a b c d:BitVec 8) :
 upd (upd (upd (upd x a) b) c) d=tab 3 ((x ^^^ yo a b c d).setWidth 8) ^^^ tab 2 (((x ^^^ yo a b c d) >>> 8).setWidth 8) ^^^ tab 1 (((x ^^^ yo a b c d) >>> 16).setWidth 8) ^^^ tab 0 (((x ^^^ yo a b c d) >>> 24).setWidth 8):=by
 rw [<- ad9,<- amt,ael];rw [show upd x a=steps 8 (x ^^^ ext a) from rfl,ac4 8 (by omega),ac4 16 (by omega),ac4 24 (by omega)];congr 1;simp only [BitVec.xor_assoc]
/-! a turned byte shows -/
/-! the sum is linear -/
def sum (l:List UInt8):BitVec 32 := ~~~ reg (BitVec.allOnes 32) l
def be4 (n:Nat):List UInt8:=[UInt8.ofNat (n / 16777216),UInt8.ofNat (n / 65536),UInt8.ofNat (n / 256),UInt8.ofNat n]
def ag (l:List UInt8):List UInt8:=be4 (sum l).toNat++l
theorem ab8 (l:List UInt8):(ag l).drop 4=l:=rfl
theorem jf (l:List UInt8):(ag l).length=4+l.length:=by simp [ag,be4]; omega
end CrcMath
namespace NameMath
open Go.RowKit OctMath
def qm (n:Nat):Bool:=(decide (97<=n) && decide (n<=122)) || (decide (48<=n) && decide (n<=57)) || n == 45
def aem (c:UInt8):Bool:=qm c.toNat
def ig (l:List UInt8):Bool:=decide (1<=l.length) && decide (l.length<=16) && l.all aem
def oq (l:List UInt8):Bool:=ig l && decide (l.length<=8)
theorem aen (n:Nat) (h:128<=n):qm n=false:=by
 unfold qm;rw [decide_eq_false (show ¬ n<=122 by omega),decide_eq_false (show ¬ n<=57 by omega),Bool.and_false,Bool.and_false];exact beq_eq_false_iff_ne.2 (by omega)
theorem aqe (l:List UInt8) (i:Nat) (h:i < l.length):(S l).get! i=l[i]:=by
 show (l.toArray)[i]! = _;simp [h]
theorem decode_ascii (l:List UInt8) (i:Nat) (h:i < l.length) (hb:l[i].toNat < 128):Utf8.decode (S l) i=(l[i].toNat,1):=by
 unfold Utf8.decode;simp only [Nat.add_zero,aqe l i h,if_pos hb]
theorem ah3 (l:List UInt8) (i:Nat) (h:i < l.length) (hb:¬ l[i].toNat < 128):128<=(Utf8.decode (S l) i).1:=by
 unfold Utf8.decode;simp only [Nat.add_zero,aqe l i h,if_neg hb];have A:128<=Utf8.runeError:=by decide
 (repeat' split) <;> first | exact A | (simp only []; omega) | (rename_i hc; simp only [Bool.and_eq_true,decide_eq_true_eq] at hc; have:=hc.1; simp only []; omega)
theorem afz (l:List UInt8):∀ f pos:Nat,l.length<=pos+f->(Lib.idxFuncFrom (λn=>!qm n) true (S l) f pos = -1↔(l.drop pos).all aem=true)
 | 0,pos,h=>by
   rw [List.drop_of_length_le (by omega)];exact ⟨λ_=>rfl,λ_=>rfl⟩
 | f+1,pos,h=>by
   unfold Lib.idxFuncFrom;rw [ah]
   by_cases hp:pos < l.length
   ·
    rw [if_pos hp,List.drop_eq_getElem_cons hp,List.all_cons]
    by_cases hb:l[pos].toNat < 128
    ·
     rw [decode_ascii l pos hp hb];simp only [];have A:aem l[pos]=qm l[pos].toNat:=rfl;rw [A]
     cases qm l[pos].toNat with
     | true =>
       rw [if_neg (by simp),Bool.true_and];exact afz l f (pos+1) (by omega)
     | false =>
       rw [if_pos (by simp),Bool.false_and];exact ⟨λh=>by omega,λh=>by simp at h⟩
    . have h1:=aen _ (ah3 l pos hp hb)
      have B:aem l[pos]=false:=aen _ (by omega);rw [h1,B,if_pos (by simp),Bool.false_and];exact ⟨λh=>by omega,λh=>by simp at h⟩
   . rw [if_neg hp,List.drop_of_length_le (by omega)]
     exact ⟨λ_=>rfl,λ_=>rfl⟩
theorem aqo (l:List UInt8):decide (Lib.idxFunc (λn=>!qm n) true (S l) < (0:Int))=l.all aem:=by
 have h:=afz l (S l).size 0 (by rw [ah]; omega);rw [List.drop_zero] at h;have A:=Lib.idxFunc_range (λn=>!qm n) true (S l);have B:Lib.idxFunc (λn=>!qm n) true (S l)=Lib.idxFuncFrom (λn=>!qm n) true (S l) (S l).size 0:=rfl;rw [<- B] at h
 cases hb:l.all aem with
 | true=>rw [hb] at h; rw [h.2 rfl]; rfl
 | false =>
   rw [hb] at h
   rcases A with h1 | h1
   . exact absurd (h.1 h1) (by simp)
   . exact decide_eq_false (by omega)
theorem amu (l:List UInt8):ig l=(decide (l≠[]) && decide (l.length<=16) && decide (Lib.idxFunc (λn=>!qm n) true (S l) < (0:Int))):=by
 rw [aqo]; unfold ig;congr 2
 cases l <;> simp
def aao:List UInt8:=[37,114,101,116,114,121,37]
def ab9:List UInt8:=[37,100,101,97,100,37]
def ofL (l:List UInt8):List UInt8 :=
 if (Lib.hasPrefix l aao && oq (l.drop 7))=true then l.drop 7
 else if (Lib.hasPrefix l ab9 && oq (l.drop 6))=true then l.drop 6 else []
def lc (l:List UInt8):Bool:=ig l || !(ofL l).isEmpty
theorem af0 (l:List UInt8) (h:oq l=true):l.isEmpty=false:=by
 cases l with
 | nil=>simp [oq,ig] at h
 | cons _ _=>rfl
end NameMath
namespace RecMath
open OctMath OctW NameMath
structure Msg where
 kind:Int
 queue:Int
 due:Int
 retry:Int
 ref:Int
 born:Int
 topic:List UInt8
 tag:List UInt8
 body:List UInt8
 keys:List (List UInt8)
deriving DecidableEq
def mf:Msg:=⟨0,0,0,0,0,0,[],[],[],[]⟩
def gq (n:Int):Bool:=decide (n < 0) || decide (1099511627776 < n)
def ll (c:UInt8):Bool:=decide (33<=c.toNat) && decide (c.toNat<=126)
def og (l:List UInt8):Bool:=decide (l≠[]) && decide (l.length<=16) && l.all ll
def apa (l:List UInt8):Bool:=l.isEmpty || ig l
def cu (m:Msg):Bool:=lc m.topic && decide (0<=m.queue) && decide (m.queue < 3) && decide (0<=m.retry) && decide (m.retry<=4) && apa m.tag && decide (m.keys.length<=3) && m.keys.all og && decide m.keys.Nodup && decide (m.body.length<=200)
def noughts (n:Nat):List UInt8:=List.replicate n 0
def df (m:Msg):Bool :=
 if gq m.due || gq m.ref || gq m.born then false
 else if m.kind=1 then cu m && decide (m.due=0) && decide (m.ref=0)
 else if m.kind=2\/m.kind=3 then cu m
 else if m.kind=4 then decide (m={ mf with kind:=4,ref:=m.ref,born:=m.born })
 else if m.kind=0 then decide (m.body.length<=1024) && decide (m.body=noughts m.body.length) && decide (m={ mf with body:=m.body })
 else false
def mg (n:Int):List UInt8:=if n < 3\/1024 < n then [] else 90 :: be 2 n.toNat++noughts (n.toNat - 3)
def ai (m:Msg):List UInt8 :=
 be 1 m.kind.toNat++(be 1 m.queue.toNat++(be 1 m.retry.toNat++(be 6 m.born.toNat++(be 6 m.due.toNat++(be 6 m.ref.toNat++(fw m.topic++(fw m.tag++(fw m.body++(be 1 m.keys.length++bn m.keys)))))))))
def bg (m:Msg):List UInt8:=165 :: be 2 (3+(CrcMath.ag (ai m)).length)++CrcMath.ag (ai m)
def abt (m:Msg):List UInt8×Int:=if df m=false then ([],1) else if m.kind=0 then (if m.body.length < 3 then ([],1) else (mg m.body.length,0)) else (bg m,0)
def ny (s:List UInt8):Msg×RS :=
 let k:=dw 1 ⟨s,0⟩
 let q:=dw 1 k.2
 let rt:=dw 1 q.2
 let b:=dw 6 rt.2
 let d:=dw 6 b.2
 let rf:=dw 6 d.2
 let t:=ib 16 rf.2
 let g:=ib 16 t.2
 let bo:=ib 200 g.2
 let ks:=ql 3 16 bo.2
 (⟨k.1,q.1,d.1,rt.1,rf.1,b.1,t.1,g.1,bo.1,ks.1⟩,ks.2)
def aa4 (s:List UInt8):Bool:=decide (abn (ny s).2=0) && decide ((ny s).1.kind≠0) && df (ny s).1
theorem aeo {l:List UInt8} (h:ig l=true):l.length<=16:=by
 unfold ig at h;simp only [Bool.and_eq_true,decide_eq_true_eq] at h;exact h.1.2
theorem akn {l:List UInt8} (h:lc l=true):l.length<=16:=by
 unfold lc at h;rw [Bool.or_eq_true] at h
 rcases h with h | h
 . exact aeo h
 ·
  have A:∀ l:List UInt8,oq l=true->l.length<=8:=λl h=>by
   unfold oq at h;simp only [Bool.and_eq_true,decide_eq_true_eq] at h;exact h.2
  unfold ofL at h
  split at h
  . rename_i h1
    have:=A _ (Bool.and_eq_true_iff.1 h1).2;rw [List.length_drop] at this; omega
  ·
   split at h
   . rename_i h1
     have:=A _ (Bool.and_eq_true_iff.1 h1).2;rw [List.length_drop] at this; omega
   . cases h
theorem qd {m:Msg} (h:df m=true) (h0:m.kind≠0):(0<=m.due/\m.due<=1099511627776)/\(0<=m.ref/\m.ref<=1099511627776)/\(0<=m.born/\m.born<=1099511627776)/\(1<=m.kind/\m.kind<=4)/\(0<=m.queue/\m.queue < 3)/\(0<=m.retry/\m.retry<=4) /\
 m.topic.length<=16/\m.tag.length<=16/\m.body.length<=200/\m.keys.length<=3/\(∀ t∈m.keys,t.length<=16):=by
 have hc:∀ m:Msg,cu m=true->(0<=m.queue/\m.queue < 3)/\(0<=m.retry/\m.retry<=4)/\m.topic.length<=16/\m.tag.length<=16/\m.body.length<=200/\m.keys.length<=3/\(∀ t∈m.keys,t.length<=16):=by
  intro m h;unfold cu at h;simp only [Bool.and_eq_true,decide_eq_true_eq] at h;obtain ⟨⟨⟨⟨⟨⟨⟨⟨⟨h1,E⟩,F⟩,I⟩,J⟩,A⟩,M⟩,N⟩,_⟩,O⟩:=h;refine ⟨⟨E,F⟩,⟨I,J⟩,akn h1,?_,O,M,λt B=>?_⟩
  ·
   unfold apa at A;rw [Bool.or_eq_true] at A
   rcases A with A | A
   . rw [List.isEmpty_iff.1 A]; exact Nat.zero_le _
   . exact aeo A
  . have:=List.all_eq_true.1 N t B
    unfold og at this;simp only [Bool.and_eq_true,decide_eq_true_eq] at this;exact this.1.2
 unfold df at h
 split at h
 . cases h
 ·
  rename_i hb
  simp only [gq,Bool.or_eq_true,decide_eq_true_eq,not_or,Int.not_lt] at hb;obtain ⟨⟨⟨d1,d2⟩,R,U⟩,X,Y⟩:=hb;refine ⟨⟨d1,d2⟩,⟨R,U⟩,⟨X,Y⟩,?_⟩
  split at h
  . rename_i hk
    simp only [Bool.and_eq_true] at h;exact ⟨by omega,hc m h.1.1⟩
  ·
   split at h
   . rename_i hk
     exact ⟨by omega,hc m h⟩
   ·
    split at h
    . rename_i hk
      have h:=of_decide_eq_true h;rw [h];refine ⟨by show (1:Int)<=4/\(4:Int)<=4; omega,⟨by show (0:Int)<=0; omega,by show (0:Int) < 3; omega⟩,⟨by show (0:Int)<=0; omega,by show (0:Int)<=4; omega⟩,?_⟩;exact ⟨Nat.zero_le _,Nat.zero_le _,Nat.zero_le _,Nat.zero_le _,λt B=>by cases B⟩
    . first
      | cases h
      | (rw [if_neg h0] at h; cases h)
theorem ah4 (m:Msg) (h:df m=true) (h0:m.kind≠0):ny (ai m)=(m,⟨[],0⟩):=by
 obtain ⟨⟨d1,d2⟩,⟨E,R⟩,⟨F,U⟩,⟨k1,Y⟩,⟨I,Z⟩,⟨J,t2⟩,l1,l2,l3,l4,M⟩:=qd h h0;have A:∀ (x:Int) (rest:List UInt8),0<=x->x<=4->dw 1 ⟨be 1 x.toNat++rest,0⟩=(x.toNat,⟨rest,0⟩):=λx rest h1 X=>aco 1 x.toNat rest (by omega) (by omega) (by omega)
 have B:∀ (x:Int) (rest:List UInt8),0<=x->x<=1099511627776->dw 6 ⟨be 6 x.toNat++rest,0⟩=(x.toNat,⟨rest,0⟩):=λx rest h1 X=>aco 6 x.toNat rest (by omega) (by omega) (by omega)
 unfold ny ai;simp only;rw [A m.kind _ (by omega) (by omega)];simp only;rw [A m.queue _ I (by omega)];simp only;rw [A m.retry _ J (by omega)];simp only;rw [B m.born _ F U];simp only;rw [B m.due _ d1 d2];simp only;rw [B m.ref _ E R];simp only;rw [ww 16 m.topic _ (by omega) (by omega)];simp only;rw [ww 16 m.tag _ (by omega) (by omega)];simp only;rw [ww 200 m.body _ (by omega) (by omega)];simp only;have N:=ah1 3 16 [] m.keys (by omega) (by omega) (λt O=>⟨by have:=M t O; omega,by have:=M t O; omega⟩);rw [List.append_nil] at N;rw [N];simp only;rw [Int.toNat_of_nonneg (by omega:0<=m.kind),Int.toNat_of_nonneg I,Int.toNat_of_nonneg d1,Int.toNat_of_nonneg J,Int.toNat_of_nonneg E,Int.toNat_of_nonneg F]
theorem wy {m:Msg} (h:df m=true) (h0:m.kind≠0):(ai m).length<=500:=by
 obtain ⟨_,_,_,_,_,_,l1,l2,F,I,B⟩:=qd h h0
 have hk:∀ ks:List (List UInt8),(∀ t∈ks,t.length<=16)->(bn ks).length<=18 * ks.length:=by
  intro ks
  induction ks with
  | nil=>intro _; exact Nat.le_refl _
  | cons t ks ih =>
    intro A;rw [yn,List.length_append,je,List.length_cons];have:=A t (.head _);have:=ih λt E=>A t (.tail _ E)
    omega
 have:=hk m.keys B;unfold ai;simp only [List.length_append,bf,je];omega
theorem qo {m:Msg} (h:df m=true) (h0:m.kind≠0):(bg m).length=7+(ai m).length/\(bg m).length<=507:=by
 have:=wy h h0
 have e:(bg m).length=7+(ai m).length:=by
  unfold bg;rw [List.cons_append,List.length_cons,List.length_append,bf,CrcMath.jf]; omega
 exact ⟨e,by omega⟩
theorem ac5 {n:Nat} (h:3<=n) (h2:n<=1024):(mg (n:Int)).length=n:=by
 unfold mg;rw [if_neg (by omega),Int.toNat_natCast];simp only [List.cons_append,List.length_cons,List.length_append,bf,noughts,List.length_replicate];omega
end RecMath
namespace TapeMath
open OctMath RecMath
inductive Item where
 | one (m:Msg)
 | fill (n:Nat)
def Item.bytes:Item->List UInt8
 | .one m=>bg m
 | .fill n=>mg (n:Int)
def Item.ok:Item->Prop
 | .one m=>df m=true/\m.kind≠0
 | .fill n=>3<=n/\n<=1024
def Item.len (x:Item):Nat:=x.bytes.length
def fu (l:List Item):List UInt8:=l.flatMap Item.bytes
theorem lg (x:Item) (l:List Item):fu (x :: l)=x.bytes++fu l:=rfl
theorem ru (a b:List Item):fu (a++b)=fu a++fu b:=by unfold fu; simp
theorem Item.len_ge {x:Item} (h:x.ok):3<=x.len/\x.len<=1024:=by
 cases x with
 | one m =>
   have:=qo h.1 h.2;show 3<=(bg m).length/\(bg m).length<=1024;omega
 | fill n =>
   have:=ac5 h.1 h.2;show 3<=(mg (n:Int)).length/\(mg (n:Int)).length<=1024;rw [this]; exact h
def apb (p:Nat) (x:Item):Prop:=x.ok/\p % 1024+x.len<=1024/\3<=1024 - (p+x.len) % 1024
def Fits:Nat->List Item->Prop
 | _,[]=>True
 | p,x :: l=>apb p x/\Fits (p+x.len) l
def gy:Nat->List Item->List (Nat×Msg)
 | _,[]=>[]
 | p,.one m :: l=>(p,m) :: gy (p+(Item.one m).len) l
 | p,.fill n :: l=>gy (p+(Item.fill n).len) l
theorem Fits.app {p:Nat} {a b:List Item}:Fits p (a++b)↔Fits p a/\Fits (p+(fu a).length) b:=by
 induction a generalizing p with
 | nil=>simp [Fits,fu]
 | cons x a ih =>
   rw [List.cons_append];show apb p x/\Fits (p+x.len) (a++b)↔(apb p x/\Fits (p+x.len) a)/\Fits (p+(fu (x :: a)).length) b;rw [ih,lg,List.length_append];unfold Item.len;rw [Nat.add_assoc,and_assoc]
theorem ac6 {p:Nat} {a b:List Item}:gy p (a++b)=gy p a++gy (p+(fu a).length) b:=by
 induction a generalizing p with
 | nil=>simp [gy,fu]
 | cons x a ih =>
   rw [List.cons_append,lg,List.length_append]
   cases x with
   | one m =>
     show (p,m) :: gy (p+(Item.one m).len) (a++b)=((p,m) :: gy (p+(Item.one m).len) a)++_;rw [ih,List.cons_append];unfold Item.len;rw [Nat.add_assoc]
   | fill n =>
     show gy (p+(Item.fill n).len) (a++b)=gy (p+(Item.fill n).len) a++_;rw [ih];unfold Item.len;rw [Nat.add_assoc]
theorem ac7 {p:Nat} {its:List Item} (hf:Fits p its) {id:Nat} {m:Msg} (h:(id,m)∈gy p its) :
 ∃ a c,its=a++Item.one m :: c/\id=p+(fu a).length:=by
 induction its generalizing p with
 | nil=>cases h
 | cons x l ih =>
   unfold Fits at hf
   cases x with
   | one m' =>
     unfold gy at h
     rcases List.mem_cons.1 h with h | h
     . cases h
       exact ⟨[],l,rfl,rfl⟩
     . obtain ⟨a,c,A,B⟩:=ih hf.2 h
       exact ⟨.one m' :: a,c,by rw [A]; rfl,by rw [B,lg,List.length_append]; unfold Item.len; omega⟩
   | fill n =>
     unfold gy at h;obtain ⟨a,c,A,B⟩:=ih hf.2 h;exact ⟨.fill n :: a,c,by rw [A]; rfl,by rw [B,lg,List.length_append]; unfold Item.len; omega⟩
theorem Fits.at {p:Nat} {a c:List Item} {x:Item} (h:Fits p (a++x :: c)):apb (p+(fu a).length) x:=by
 have:=(Fits.app.1 h).2;exact this.1
theorem ako {a c:List Item} {x:Item} (k:Nat) (hk:x.len<=k):((fu (a++x :: c)).drop (fu a).length).take k=x.bytes++(fu c).take (k - x.len):=by
 rw [ru,List.drop_left,lg,List.take_append];unfold Item.len at *
 rw [List.take_of_length_le hk]
theorem ku {p:Nat} {its:List Item} (hf:Fits p its):(∀ q∈gy p its,p<=q.1)/\((gy p its).map (·.1)).Pairwise (· < ·):=by
 induction its generalizing p with
 | nil=>exact ⟨λq A=>(by cases A),List.Pairwise.nil⟩
 | cons x l ih =>
   unfold Fits at hf;obtain ⟨h1,B⟩:=ih hf.2;have E:=(Item.len_ge hf.1.1).1
   cases x with
   | one m =>
     unfold gy;refine ⟨λq A=>?_,?_⟩
     . rcases List.mem_cons.1 A with rfl | A
       . exact Nat.le_refl _
       . have:=h1 q A; omega
     . rw [List.map_cons,List.pairwise_cons]
       refine ⟨λu hu=>?_,B⟩;obtain ⟨q,A,rfl⟩:=List.mem_map.1 hu;have:=h1 q A;show p < q.1;omega
   | fill n =>
     unfold gy;exact ⟨λq A=>by have:=h1 q A; omega,B⟩
theorem ajv {p:Nat} {its:List Item} (hf:Fits p its) {id:Nat} {m:Msg} (h:(id,m)∈gy p its):id+(bg m).length<=p+(fu its).length/\p<=id:=by
 obtain ⟨a,c,rfl,rfl⟩:=ac7 hf h;rw [ru,lg,List.length_append,List.length_append];show _+(Item.one m).bytes.length<=_/\_;omega
def ik (e:Nat):Nat:=1024 - e % 1024
def lv (e:Nat) (m:Msg):List Item:=if ik e=(bg m).length\/(bg m).length+3<=ik e then [.one m] else [.fill (ik e),.one m]
theorem ac8 {p:Nat} {its:List Item} (hf:Fits p its) (hp:p % 1024=0):3<=ik (p+(fu its).length):=by
 rcases List.eq_nil_or_concat its with rfl | ⟨l,x,rfl⟩
 . unfold ik fu
   show 3<=1024 - (p+0) % 1024;omega
 ·
  rw [List.concat_eq_append] at *
  have:=(Fits.at (c:=[]) hf).2.2;rw [ru,lg,List.length_append,List.length_append];show 3<=1024 - (p+((fu l).length+(x.len+0))) % 1024;rw [Nat.add_zero,<- Nat.add_assoc];exact this
theorem akp {p:Nat} {its:List Item} (hf:Fits p its) (hp:p % 1024=0) {m:Msg} (hm:df m=true) (h0:m.kind≠0):Fits p (its++lv (p+(fu its).length) m):=by
 refine Fits.app.2 ⟨hf,?_⟩;have E:=ac8 hf hp;generalize p+(fu its).length=e at *
 have F:=qo hm h0;unfold lv
 split
 ·
  rename_i h
  refine ⟨⟨⟨hm,h0⟩,?_,?_⟩,trivial⟩
  . show e % 1024+(bg m).length<=1024
    unfold ik at *; omega
  . show 3<=1024 - (e+(bg m).length) % 1024
    unfold ik at *; omega
 ·
  rename_i h
  have A:(Item.fill (ik e)).len=ik e:=ac5 E (by unfold ik; omega);have B:(e+ik e) % 1024=0:=by unfold ik; omega
  refine ⟨⟨⟨E,by unfold ik; omega⟩,?_,?_⟩,⟨⟨hm,h0⟩,?_,?_⟩,trivial⟩
  . rw [A]; unfold ik; omega
  . rw [A,B]; omega
  . rw [A,B]
    show 0+(bg m).length<=1024;omega
  . rw [A]
    show 3<=1024 - (e+ik e+(bg m).length) % 1024;omega
end TapeMath
namespace SegW
open OctMath
def ac9:List UInt8:=[48,49,50,51,52,53,54,55,56,57]
def dig (c:UInt8):Bool:=decide (48<=c.toNat) && decide (c.toNat<=57)
theorem amv (c:UInt8):ac9.contains c=dig c:=by
 have h:∀ k:Fin 256,ac9.contains (UInt8.ofNat k.val)=dig (UInt8.ofNat k.val):=by decide +kernel
 have:=h ⟨c.toNat,c.toNat_lt⟩
 simpa using this
def jk (a:Nat):List UInt8->Nat
 | []=>a
 | c :: l=>jk (a * 10+(c.toNat - 48)) l
def yt (l:List UInt8):Nat:=jk 0 l
theorem yu (a b:List UInt8) (x:Nat):jk x (a++b)=jk (jk x a) b:=by
 induction a generalizing x with
 | nil=>rfl
 | cons c a ih=>exact ih _
theorem ada:∀ (l:List UInt8) (a:Nat),(∀ c∈l,dig c=true)->jk a l < (a+1) * 10 ^ l.length
 | [],a,_=>by show a < _; simp
 | c :: l,a,h=>by
   have hc:=h c (.head _);simp [dig] at hc;have:=ada l (a * 10+(c.toNat - 48)) (λx A=>h x (.tail _ A));show jk (a * 10+(c.toNat - 48)) l < _;rw [List.length_cons,Nat.pow_succ];refine Nat.lt_of_lt_of_le this ?_;rw [Nat.mul_comm (10 ^ l.length) 10,<- Nat.mul_assoc];exact Nat.mul_le_mul_right _ (by omega)
theorem ajw (l:List UInt8) (h:∀ c∈l,dig c=true):yt l < 10 ^ l.length:=by have:=ada l 0 h; rw [Nat.zero_add,Nat.one_mul] at this; exact this
theorem aep:∀ (l:List UInt8) (a:Nat),(∀ c∈l,dig c=true)->jk a l < 1000000000000000->Lib.parseUint10 a l=.ok (jk a l)
 | [],a,_,_=>rfl
 | c :: l,a,h,hn=>by
   have hc:=h c (.head _);simp [dig] at hc
   have A:∀ (l:List UInt8) (a:Nat),a<=jk a l:=by
    intro l
    induction l with
    | nil=>intro a; exact Nat.le_refl _
    | cons c l ih=>intro a; exact Nat.le_trans (by omega) (ih _)
   have h1:=A l (a * 10+(c.toNat - 48));have B:jk (a * 10+(c.toNat - 48)) l < 1000000000000000:=hn;unfold Lib.parseUint10;rw [if_pos ⟨hc.1,hc.2⟩,if_neg (by omega),if_neg (by omega)];exact aep l _ (λx E=>h x (.tail _ E)) B
theorem amw (l:List UInt8) (h0:l≠[]) (h8:l.length<=8) (h:∀ c∈l,dig c=true):Lib.atoiAll l=.ok (yt l:Int):=by
 match l,h0 with
 | c :: r,_ =>
   have hc:=h c (.head _);simp [dig] at hc;have A:=ajw _ h;have hp:10 ^ (c :: r).length<=10 ^ 8:=Nat.pow_le_pow_right (by omega) h8;have B:yt (c :: r) < 100000000:=Nat.lt_of_lt_of_le A hp;unfold Lib.atoiAll;simp only;rw [if_neg (by omega:¬ (c.toNat=43\/c.toNat=45))]
   have E:Lib.parseMag (c :: r)=.ok (yt (c :: r)):=by
    unfold Lib.parseMag;rw [if_neg (by simp)];exact aep _ 0 h (Nat.lt_of_lt_of_le B (by omega))
   rw [E];simp only;rw [if_neg (by omega),if_neg (by omega),if_neg (by omega)]
theorem aeq (l:List UInt8):Lib.trimS l ac9=[]↔∀ c∈l,dig c=true:=by
 unfold Lib.trimS Lib.trimLeftS Lib.trimRightS;have h1:(λx=>ac9.contains x)=dig:=funext amv;simp only [h1]
 have B:∀ m:List UInt8,m.dropWhile dig=[]↔∀ c∈m,dig c=true:=by
  intro m
  induction m with
  | nil=>simp
  | cons x m ih =>
    by_cases A:dig x=true
    ·
     rw [List.dropWhile_cons_of_pos A,ih]
     constructor
     . intro h c hc
       rcases List.mem_cons.1 hc with rfl | hc
       . exact A
       . exact h c hc
     . intro h c hc; exact h c (.tail _ hc)
    . rw [List.dropWhile_cons_of_neg A]
      constructor
      . intro h; cases h
      . intro h; exact absurd (h x (.head _)) A
 rw [B]
 constructor
 ·
  intro h
  have key:∀ (m:List UInt8),(∀ c∈(m.dropWhile dig),dig c=true)->∀ c∈m,dig c=true:=by
   intro m
   induction m with
   | nil=>intro _ c hc; cases hc
   | cons x m ih =>
     intro E c hc
     by_cases A:dig x=true
     . rw [List.dropWhile_cons_of_pos A] at E
       rcases List.mem_cons.1 hc with rfl | hc
       . exact A
       . exact ih E c hc
     . rw [List.dropWhile_cons_of_neg A] at E
       exact E c hc
  intro c hc;exact key l.reverse (λx A=>h x (by simpa using A)) c (by simpa using hc)
 . intro h c hc
   have F:c∈l.reverse.dropWhile dig:=by simpa using hc
   exact h c (by simpa using (List.dropWhile_suffix dig).subset F)
/-! names -/
def adb (n:Nat):List UInt8:=List.replicate (8 - (Lib.decDigits n).length) 48++Lib.decDigits n
def af (head:List UInt8) (n:Nat):List UInt8:=head++adb n
def placeL (head name:List UInt8):Option Nat :=
 if Lib.hasPrefix name head=true/\(name.drop head.length).length=8/\∀ c∈name.drop head.length,dig c=true then some (yt (name.drop head.length)) else none
theorem apc (u:Nat):∀ c∈Lib.decDigits u,dig c=true:=by
 induction u using Nat.strongRecOn with
 | _ u ih =>
   rw [Lib.decDigits]
   by_cases h:u < 10
   . rw [dif_pos h]
     intro c hc;obtain rfl:=List.mem_singleton.1 hc;have A:∀ k:Fin 10,dig (UInt8.ofNat (48+k.val))=true:=by decide +kernel
     exact A ⟨u,h⟩
   ·
    rw [dif_neg h];intro c hc
    rcases List.mem_append.1 hc with hc | hc
    . exact ih (u / 10) (by omega) c hc
    . obtain rfl:=List.mem_singleton.1 hc
      have A:∀ k:Fin 10,dig (UInt8.ofNat (48+k.val))=true:=by decide +kernel
      exact A ⟨u % 10,by omega⟩
theorem apd (u:Nat):yt (Lib.decDigits u)=u:=by
 induction u using Nat.strongRecOn with
 | _ u ih =>
   rw [Lib.decDigits];have A:∀ k:Fin 10,(UInt8.ofNat (48+k.val)).toNat=48+k.val:=by decide +kernel
   by_cases h:u < 10
   . rw [dif_pos h]
     have:=A ⟨u,h⟩;simp only at this;show 0 * 10+((UInt8.ofNat (48+u)).toNat - 48)=u;omega
   ·
    rw [dif_neg h];have:=A ⟨u % 10,by omega⟩;unfold yt at *
    rw [yu,ih (u / 10) (by omega)];show u / 10 * 10+((UInt8.ofNat (48+u % 10)).toNat - 48)=u;simp only at this;omega
theorem afd (u:Nat) (h:u<=99999999):(Lib.decDigits u).length<=8:=by
 have key:∀ (k u:Nat),u < 10 ^ (k+1)->(Lib.decDigits u).length<=k+1:=by
  intro k
  induction k with
  | zero=>intro u hu; rw [Lib.decDigits_one (by simpa using hu)]; simp
  | succ k ih =>
    intro u hu;rw [Lib.decDigits]
    by_cases h:u < 10
    . rw [dif_pos h]; simp
    . rw [dif_neg h,List.length_append]
      have:=ih (u / 10) (by rw [Nat.pow_succ] at hu; omega);show _+1<=_;omega
 exact key 7 u (by omega)
theorem acr (u:Nat) (h:u<=99999999):(adb u).length=8:=by
 have:=afd u h;unfold adb;rw [List.length_append,List.length_replicate];omega
theorem ape (u:Nat):∀ c∈adb u,dig c=true:=by
 intro c hc;unfold adb at hc
 rcases List.mem_append.1 hc with hc | hc
 . obtain rfl:=List.eq_of_mem_replicate hc; rfl
 . exact apc u c hc
theorem afe (u:Nat):yt (adb u)=u:=by
 unfold adb yt
 have h0:∀ k,jk 0 (List.replicate k 48)=0:=by
  intro k
  induction k with
  | zero=>rfl
  | succ k ih=>exact ih
 rw [yu,h0];exact apd u
theorem prefix_append (a b:List UInt8):Lib.hasPrefix (a++b) a=true:=by unfold Lib.hasPrefix; rw [List.isPrefixOf_iff_prefix]; exact List.prefix_append a b
theorem adc (head:List UInt8) (u:Nat) (h:u<=99999999):placeL head (af head u)=some u:=by
 unfold placeL af;have hd:(head++adb u).drop head.length=adb u:=List.drop_left;rw [hd,if_pos ⟨prefix_append _ _,acr u h,ape u⟩,afe]
theorem aa5 {head:List UInt8} {u v:Nat} (h:af head u=af head v):u=v:=by
 have:=List.append_cancel_left h;rw [<- afe u,this,afe]
theorem af1 {head name:List UInt8} {n:Nat} (h:placeL head name=some n):n<=99999999:=by
 unfold placeL at h
 split at h
 ·
  rename_i h1
  injection h with h
  have:=ajw _ h1.2.2;rw [h1.2.1] at this;omega
 . cases h
end SegW
end Go.Proofs.YtcgonejkkpbepaaGreatDoor
namespace Go.Proofs
open Go.Shelf
def Tryz.lays169_ren:Go.Shelf.Ren:=⟨λ| 169=>174 | n=>n,λ| 70=>272 | 9=>9 | 0=>0 | 72=>274 | 37=>231 | 127=>319 | 3=>3 | 5=>5 | n=>n,λ| n=>n⟩
theorem Tryz.lays169:Go.Proofs.Lays.n169 Tryz.prog Tryz.lays169_ren:={
 mixed:=by kernel_rfl
 f169:=Tryz.func174.trans (congrArg some (by kernel_rfl))
 t0:=Tryz.underlying0
 a0:=Tryz.isAgg0
 z0:=Tryz.sizeOf0
 v0:=Tryz.zeroValue0
 t3:=Tryz.underlying3
 a3:=Tryz.isAgg3
 z3:=Tryz.sizeOf3
 v3:=Tryz.zeroValue3
 t9:=Tryz.underlying9
 a9:=Tryz.isAgg9
 z9:=Tryz.sizeOf9
 v9:=Tryz.zeroValue9
 t37:=Tryz.underlying231
 a37:=Tryz.isAgg231
 z37:=Tryz.sizeOf231
 v37:=Tryz.zeroValue231
 t70:=Tryz.underlying272
 a70:=Tryz.isAgg272
 z70:=Tryz.sizeOf272
 v70:=Tryz.zeroValue272
 t72:=Tryz.underlying274
 a72:=Tryz.isAgg274
 z72:=Tryz.sizeOf274
 v72:=Tryz.zeroValue274
 t127:=Tryz.underlying319
 a127:=Tryz.isAgg319
 z127:=Tryz.sizeOf319
 v127:=Tryz.zeroValue319 }
theorem Tryz.Builder_Extra_169:Builder.Extra Tryz.prog Tryz.lays169_ren:={
 sizeBuilder:=by kernel_rfl
 liesBuilder:=by kernel_rfl
 t5:=Tryz.underlying5
 a5:=Tryz.isAgg5
 z5:=Tryz.sizeOf5
 v5:=Tryz.zeroValue5
 infoByte:=by kernel_rfl
 cellsByte:=by kernel_rfl
 sizeByte:=by kernel_rfl
 neB5:=by decide }
open Go.RowKit in
theorem Tryz.Builder_String_any (B b:Nat) (l:List UInt8) (w:World) (h:Lib.IsBuilder 274 5 B b (Lib.byteCells l) w) (hBw:B<=w.heap.size) :
 Calls Tryz.prog 174 #[.pointer (some ⟨b,0,none⟩)] w λe w'=>e=.returned (.string ⟨l.toArray⟩)/\Below B w w':=Any.Builder_String_any Tryz.lays169 Tryz.Builder_Extra_169 B b l w h hBw
def Tryz.lays160_ren:Go.Shelf.Ren:=⟨λ| 160=>270 | 232=>287 | 231=>286 | 227=>288 | 234=>290 | 233=>289 | 236=>292 | 235=>291 | 228=>305 | 271=>308 | 151=>307 | 197=>306 | 120=>319 | 152=>318 | 260=>317 | 137=>323 | 119=>324 | 224=>325 | 225=>326 | 217=>329 | 266=>330 | n=>n,λ| 9=>9 | 4=>4 | 3=>3 | 5=>5 | 117=>380 | 116=>379 | 0=>0 | 124=>383 | 21=>21 | 105=>393 | 46=>271 | 119=>410 | 139=>413 | 138=>412 | n=>n,λ| 3=>6 | 4=>7 | n=>n⟩
theorem Tryz.lays160:Go.Proofs.Lays.n160 Tryz.prog Tryz.lays160_ren:={
 mixed:=by kernel_rfl
 f119:=Tryz.func324.trans (congrArg some (by kernel_rfl))
 f120:=Tryz.func319.trans (congrArg some (by kernel_rfl))
 f137:=Tryz.func323.trans (congrArg some (by kernel_rfl))
 f151:=Tryz.func307.trans (congrArg some (by kernel_rfl))
 f152:=Tryz.func318.trans (congrArg some (by kernel_rfl))
 f160:=Tryz.func270.trans (congrArg some (by kernel_rfl))
 f197:=Tryz.func306.trans (congrArg some (by kernel_rfl))
 f217:=Tryz.func329.trans (congrArg some (by kernel_rfl))
 f224:=Tryz.func325.trans (congrArg some (by kernel_rfl))
 f225:=Tryz.func326.trans (congrArg some (by kernel_rfl))
 f227:=Tryz.func288.trans (congrArg some (by kernel_rfl))
 f228:=Tryz.func305.trans (congrArg some (by kernel_rfl))
 f231:=Tryz.func286.trans (congrArg some (by kernel_rfl))
 f232:=Tryz.func287.trans (congrArg some (by kernel_rfl))
 f233:=Tryz.func289.trans (congrArg some (by kernel_rfl))
 f234:=Tryz.func290.trans (congrArg some (by kernel_rfl))
 f235:=Tryz.func291.trans (congrArg some (by kernel_rfl))
 f236:=Tryz.func292.trans (congrArg some (by kernel_rfl))
 f260:=Tryz.func317.trans (congrArg some (by kernel_rfl))
 f266:=Tryz.func330.trans (congrArg some (by kernel_rfl))
 f271:=Tryz.func308.trans (congrArg some (by kernel_rfl))
 t0:=Tryz.underlying0
 a0:=Tryz.isAgg0
 z0:=Tryz.sizeOf0
 v0:=Tryz.zeroValue0
 t3:=Tryz.underlying3
 a3:=Tryz.isAgg3
 z3:=Tryz.sizeOf3
 v3:=Tryz.zeroValue3
 t4:=Tryz.underlying4
 a4:=Tryz.isAgg4
 z4:=Tryz.sizeOf4
 v4:=Tryz.zeroValue4
 t5:=Tryz.underlying5
 a5:=Tryz.isAgg5
 z5:=Tryz.sizeOf5
 v5:=Tryz.zeroValue5
 t9:=Tryz.underlying9
 a9:=Tryz.isAgg9
 z9:=Tryz.sizeOf9
 v9:=Tryz.zeroValue9
 t21:=Tryz.underlying21
 a21:=Tryz.isAgg21
 z21:=Tryz.sizeOf21
 v21:=Tryz.zeroValue21
 t46:=Tryz.underlying271
 a46:=Tryz.isAgg271
 z46:=Tryz.sizeOf271
 v46:=Tryz.zeroValue271
 t105:=Tryz.underlying393
 a105:=Tryz.isAgg393
 z105:=Tryz.sizeOf393
 v105:=Tryz.zeroValue393
 t116:=Tryz.underlying379
 a116:=Tryz.isAgg379
 z116:=Tryz.sizeOf379
 t117:=Tryz.underlying380
 a117:=Tryz.isAgg380
 z117:=Tryz.sizeOf380
 v117:=Tryz.zeroValue380
 t119:=Tryz.underlying410
 a119:=Tryz.isAgg410
 z119:=Tryz.sizeOf410
 t124:=Tryz.underlying383
 a124:=Tryz.isAgg383
 z124:=Tryz.sizeOf383
 v124:=Tryz.zeroValue383
 t138:=Tryz.underlying412
 a138:=Tryz.isAgg412
 z138:=Tryz.sizeOf412
 v138:=Tryz.zeroValue412
 t139:=Tryz.underlying413
 a139:=Tryz.isAgg413
 z139:=Tryz.sizeOf413
 v139:=Tryz.zeroValue413
 g3:=by kernel_rfl
 g4:=by kernel_rfl }
def Tryz.lays210_ren:Go.Shelf.Ren:=⟨λ| 210=>175 | 206=>218 | n=>n,λ| 9=>9 | 4=>4 | 3=>3 | n=>n,λ| n=>n⟩
def Tryz.lays103_ren:Go.Shelf.Ren:=⟨λ| 103=>110 | 210=>175 | 206=>218 | n=>n,λ| 9=>9 | 4=>4 | 24=>117 | 3=>3 | n=>n,λ| n=>n⟩
theorem Tryz.lays103:Go.Proofs.Lays.n103 Tryz.prog Tryz.lays103_ren:={
 mixed:=by kernel_rfl
 f103:=Tryz.func110.trans (congrArg some (by kernel_rfl))
 f206:=Tryz.func218.trans (congrArg some (by kernel_rfl))
 f210:=Tryz.func175.trans (congrArg some (by kernel_rfl))
 t3:=Tryz.underlying3
 a3:=Tryz.isAgg3
 z3:=Tryz.sizeOf3
 v3:=Tryz.zeroValue3
 t4:=Tryz.underlying4
 a4:=Tryz.isAgg4
 z4:=Tryz.sizeOf4
 v4:=Tryz.zeroValue4
 t9:=Tryz.underlying9
 a9:=Tryz.isAgg9
 z9:=Tryz.sizeOf9
 v9:=Tryz.zeroValue9
 t24:=Tryz.underlying117
 a24:=Tryz.isAgg117
 z24:=Tryz.sizeOf117
 v24:=Tryz.zeroValue117 }
open Go.RowKit in
theorem Tryz.strings_CutPrefix (s p:ByteArray) (w:World) :
 Calls Tryz.prog 110 #[.string s,.string p] w λe w'=>e=.returned (.tuple #[.string ⟨(Lib.trimPrefix s.data.toList p.data.toList).toArray⟩,.bool (Lib.hasPrefix s.data.toList p.data.toList)])/\w'=w:=Any.strings_CutPrefix Tryz.lays103 s p w
def Tryz.lays172_ren:Go.Shelf.Ren:=⟨λ| 172=>271 | 244=>293 | 245=>294 | 247=>309 | 279=>310 | 280=>311 | 281=>312 | 282=>313 | 287=>320 | 316=>321 | 171=>194 | 205=>322 | 321=>327 | 322=>328 | 243=>232 | 246=>268 | 283=>282 | 284=>283 | 285=>284 | 286=>285 | 129=>257 | 317=>301 | 318=>302 | 319=>303 | 320=>304 | 337=>315 | 338=>316 | n=>n,λ| 9=>9 | 3=>3 | 75=>276 | 76=>277 | 4=>4 | 5=>5 | 167=>396 | 37=>231 | 0=>0 | 85=>397 | 2=>2 | 168=>399 | 53=>330 | 175=>403 | 46=>271 | 210=>406 | 127=>319 | 145=>418 | 143=>416 | 21=>21 | 171=>373 | 173=>375 | 212=>390 | 51=>207 | 20=>20 | 213=>391 | 232=>408 | 233=>409 | 80=>130 | n=>n,λ| 15=>2 | 16=>3 | 17=>1 | 18=>4 | 19=>5 | n=>n⟩
def Tryz.laysM246_ren:Go.Shelf.Ren:=⟨λ| 246=>268 | 283=>282 | 284=>283 | 285=>284 | 286=>285 | 129=>257 | 317=>301 | 318=>302 | 319=>303 | 320=>304 | 337=>315 | 338=>316 | n=>n,λ| 2=>2 | 3=>3 | 9=>9 | 4=>4 | 171=>373 | 0=>0 | 53=>330 | 37=>231 | 5=>5 | 173=>375 | 212=>390 | 51=>207 | 20=>20 | 213=>391 | 46=>271 | 232=>408 | 233=>409 | n=>n,λ| 17=>1 | 18=>4 | 19=>5 | n=>n⟩
def Tryz.laysM243_ren:Go.Shelf.Ren:=⟨λ| 243=>232 | 246=>268 | 283=>282 | 284=>283 | 285=>284 | 286=>285 | 129=>257 | 317=>301 | 318=>302 | 319=>303 | 320=>304 | 337=>315 | 338=>316 | n=>n,λ| 3=>3 | 9=>9 | 2=>2 | 4=>4 | 171=>373 | 0=>0 | 53=>330 | 37=>231 | 5=>5 | 173=>375 | 212=>390 | 51=>207 | 20=>20 | 213=>391 | 46=>271 | 232=>408 | 233=>409 | n=>n,λ| 17=>1 | 18=>4 | 19=>5 | n=>n⟩
def Tryz.laysM171_ren:Go.Shelf.Ren:=⟨λ| 171=>194 | 243=>232 | 246=>268 | 283=>282 | 284=>283 | 285=>284 | 286=>285 | 129=>257 | 317=>301 | 318=>302 | 319=>303 | 320=>304 | 337=>315 | 338=>316 | n=>n,λ| 3=>3 | 9=>9 | 2=>2 | 4=>4 | 171=>373 | 0=>0 | 53=>330 | 37=>231 | 5=>5 | 173=>375 | 212=>390 | 51=>207 | 20=>20 | 213=>391 | 46=>271 | 232=>408 | 233=>409 | n=>n,λ| 17=>1 | 18=>4 | 19=>5 | n=>n⟩
theorem Tryz.laysM171:Go.Proofs.LaysM.n171 Tryz.prog Tryz.laysM171_ren:={
 mixed:=by kernel_rfl
 f129:=Tryz.func257.trans (congrArg some (by kernel_rfl))
 f171:=Tryz.func194.trans (congrArg some (by kernel_rfl))
 f243:=Tryz.func232.trans (congrArg some (by kernel_rfl))
 f246:=Tryz.func268.trans (congrArg some (by kernel_rfl))
 f283:=Tryz.func282.trans (congrArg some (by kernel_rfl))
 f284:=Tryz.func283.trans (congrArg some (by kernel_rfl))
 f285:=Tryz.func284.trans (congrArg some (by kernel_rfl))
 f286:=Tryz.func285.trans (congrArg some (by kernel_rfl))
 f317:=Tryz.func301.trans (congrArg some (by kernel_rfl))
 f318:=Tryz.func302.trans (congrArg some (by kernel_rfl))
 f319:=Tryz.func303.trans (congrArg some (by kernel_rfl))
 f320:=Tryz.func304.trans (congrArg some (by kernel_rfl))
 f337:=Tryz.func315.trans (congrArg some (by kernel_rfl))
 f338:=Tryz.func316.trans (congrArg some (by kernel_rfl))
 t0:=Tryz.underlying0
 a0:=Tryz.isAgg0
 z0:=Tryz.sizeOf0
 v0:=Tryz.zeroValue0
 t2:=Tryz.underlying2
 a2:=Tryz.isAgg2
 z2:=Tryz.sizeOf2
 v2:=Tryz.zeroValue2
 t3:=Tryz.underlying3
 a3:=Tryz.isAgg3
 z3:=Tryz.sizeOf3
 v3:=Tryz.zeroValue3
 t4:=Tryz.underlying4
 a4:=Tryz.isAgg4
 z4:=Tryz.sizeOf4
 v4:=Tryz.zeroValue4
 t5:=Tryz.underlying5
 a5:=Tryz.isAgg5
 z5:=Tryz.sizeOf5
 v5:=Tryz.zeroValue5
 t9:=Tryz.underlying9
 a9:=Tryz.isAgg9
 z9:=Tryz.sizeOf9
 v9:=Tryz.zeroValue9
 t20:=Tryz.underlying20
 a20:=Tryz.isAgg20
 z20:=Tryz.sizeOf20
 v20:=Tryz.zeroValue20
 t37:=Tryz.underlying231
 a37:=Tryz.isAgg231
 z37:=Tryz.sizeOf231
 v37:=Tryz.zeroValue231
 t46:=Tryz.underlying271
 a46:=Tryz.isAgg271
 z46:=Tryz.sizeOf271
 v46:=Tryz.zeroValue271
 t51:=Tryz.underlying207
 a51:=Tryz.isAgg207
 z51:=Tryz.sizeOf207
 v51:=Tryz.zeroValue207
 t53:=Tryz.underlying330
 a53:=Tryz.isAgg330
 z53:=Tryz.sizeOf330
 v53:=Tryz.zeroValue330
 t171:=Tryz.underlying373
 a171:=Tryz.isAgg373
 z171:=Tryz.sizeOf373
 v171:=Tryz.zeroValue373
 t173:=Tryz.underlying375
 a173:=Tryz.isAgg375
 z173:=Tryz.sizeOf375
 v173:=Tryz.zeroValue375
 t212:=Tryz.underlying390
 a212:=Tryz.isAgg390
 z212:=Tryz.sizeOf390
 v212:=Tryz.zeroValue390
 t213:=Tryz.underlying391
 a213:=Tryz.isAgg391
 z213:=Tryz.sizeOf391
 t232:=Tryz.underlying408
 a232:=Tryz.isAgg408
 z232:=Tryz.sizeOf408
 v232:=Tryz.zeroValue408
 t233:=Tryz.underlying409
 a233:=Tryz.isAgg409
 z233:=Tryz.sizeOf409
 v233:=Tryz.zeroValue409
 g17:=by kernel_rfl
 g18:=by kernel_rfl
 g19:=by kernel_rfl
 i0:=by kernel_rfl
 i2:=by kernel_rfl
 i3:=by kernel_rfl
 i4:=by kernel_rfl
 i5:=by kernel_rfl
 i9:=by kernel_rfl
 i20:=by kernel_rfl
 i37:=by kernel_rfl
 i46:=by kernel_rfl
 i51:=by kernel_rfl
 i53:=by kernel_rfl
 i171:=by kernel_rfl
 i173:=by kernel_rfl
 i212:=by kernel_rfl
 i232:=by kernel_rfl
 i233:=by kernel_rfl
 m17:=by kernel_rfl
 m18:=by kernel_rfl
 m19:=by kernel_rfl }
open Go.RowKit Go.Sort Go.Lib in
theorem Tryz.strconv_Itoa (n:Int) (h0 : -9223372036854775808<=n) (h1:n<=9223372036854775807) (w:World) (htab:Lib.TabIs Tryz.prog w "internal/strconv.uint64pow10" .u64 Lib.pow10Tab) :
 Calls Tryz.prog 194 #[.int .i64 n] w λe w'=>e=.returned (.string ⟨(Lib.itoa n).toArray⟩)/\∃ k os,w'=grow (w.drewN k) os:=Any.strconv_Itoa Tryz.laysM171 n h0 h1 w htab
def Tryz.laysC172_ren:Go.Shelf.Ren:=⟨λ| 172=>271 | 244=>293 | 245=>294 | 247=>309 | 279=>310 | 280=>311 | 281=>312 | 282=>313 | 287=>320 | 316=>321 | 171=>194 | 205=>322 | 321=>327 | 322=>328 | 243=>232 | 246=>268 | 283=>282 | 284=>283 | 285=>284 | 286=>285 | 129=>257 | 317=>301 | 318=>302 | 319=>303 | 320=>304 | 337=>315 | 338=>316 | n=>n,λ| 9=>9 | 3=>3 | 75=>276 | 76=>277 | 4=>4 | 5=>5 | 167=>396 | 37=>231 | 0=>0 | 85=>397 | 2=>2 | 168=>399 | 53=>330 | 175=>403 | 46=>271 | 210=>406 | 127=>319 | 145=>418 | 143=>416 | 21=>21 | 171=>373 | 173=>375 | 212=>390 | 51=>207 | 20=>20 | 213=>391 | 232=>408 | 233=>409 | 80=>130 | n=>n,λ| 15=>2 | 16=>3 | 17=>1 | 18=>4 | 19=>5 | n=>n⟩
theorem Tryz.laysC172:Go.Proofs.LaysC.n172 Tryz.prog Tryz.laysC172_ren:={
 mixed:=by kernel_rfl
 f129:=Tryz.func257.trans (congrArg some (by kernel_rfl))
 f171:=Tryz.func194.trans (congrArg some (by kernel_rfl))
 f172:=Tryz.func271.trans (congrArg some (by kernel_rfl))
 f205:=Tryz.func322.trans (congrArg some (by kernel_rfl))
 f243:=Tryz.func232.trans (congrArg some (by kernel_rfl))
 f244:=Tryz.func293.trans (congrArg some (by kernel_rfl))
 f245:=Tryz.func294.trans (congrArg some (by kernel_rfl))
 f246:=Tryz.func268.trans (congrArg some (by kernel_rfl))
 f247:=Tryz.func309.trans (congrArg some (by kernel_rfl))
 f279:=Tryz.func310.trans (congrArg some (by kernel_rfl))
 f280:=Tryz.func311.trans (congrArg some (by kernel_rfl))
 f281:=Tryz.func312.trans (congrArg some (by kernel_rfl))
 f282:=Tryz.func313.trans (congrArg some (by kernel_rfl))
 f283:=Tryz.func282.trans (congrArg some (by kernel_rfl))
 f284:=Tryz.func283.trans (congrArg some (by kernel_rfl))
 f285:=Tryz.func284.trans (congrArg some (by kernel_rfl))
 f286:=Tryz.func285.trans (congrArg some (by kernel_rfl))
 f287:=Tryz.func320.trans (congrArg some (by kernel_rfl))
 f316:=Tryz.func321.trans (congrArg some (by kernel_rfl))
 f317:=Tryz.func301.trans (congrArg some (by kernel_rfl))
 f318:=Tryz.func302.trans (congrArg some (by kernel_rfl))
 f319:=Tryz.func303.trans (congrArg some (by kernel_rfl))
 f320:=Tryz.func304.trans (congrArg some (by kernel_rfl))
 f321:=Tryz.func327.trans (congrArg some (by kernel_rfl))
 f322:=Tryz.func328.trans (congrArg some (by kernel_rfl))
 f337:=Tryz.func315.trans (congrArg some (by kernel_rfl))
 f338:=Tryz.func316.trans (congrArg some (by kernel_rfl))
 t0:=Tryz.underlying0
 a0:=Tryz.isAgg0
 z0:=Tryz.sizeOf0
 v0:=Tryz.zeroValue0
 t2:=Tryz.underlying2
 a2:=Tryz.isAgg2
 z2:=Tryz.sizeOf2
 v2:=Tryz.zeroValue2
 t3:=Tryz.underlying3
 a3:=Tryz.isAgg3
 z3:=Tryz.sizeOf3
 v3:=Tryz.zeroValue3
 t4:=Tryz.underlying4
 a4:=Tryz.isAgg4
 z4:=Tryz.sizeOf4
 v4:=Tryz.zeroValue4
 t5:=Tryz.underlying5
 a5:=Tryz.isAgg5
 z5:=Tryz.sizeOf5
 v5:=Tryz.zeroValue5
 t9:=Tryz.underlying9
 a9:=Tryz.isAgg9
 z9:=Tryz.sizeOf9
 v9:=Tryz.zeroValue9
 t20:=Tryz.underlying20
 a20:=Tryz.isAgg20
 z20:=Tryz.sizeOf20
 v20:=Tryz.zeroValue20
 t21:=Tryz.underlying21
 a21:=Tryz.isAgg21
 z21:=Tryz.sizeOf21
 v21:=Tryz.zeroValue21
 t37:=Tryz.underlying231
 a37:=Tryz.isAgg231
 z37:=Tryz.sizeOf231
 v37:=Tryz.zeroValue231
 t46:=Tryz.underlying271
 a46:=Tryz.isAgg271
 z46:=Tryz.sizeOf271
 v46:=Tryz.zeroValue271
 t51:=Tryz.underlying207
 a51:=Tryz.isAgg207
 z51:=Tryz.sizeOf207
 v51:=Tryz.zeroValue207
 t53:=Tryz.underlying330
 a53:=Tryz.isAgg330
 z53:=Tryz.sizeOf330
 v53:=Tryz.zeroValue330
 t75:=Tryz.underlying276
 a75:=Tryz.isAgg276
 z75:=Tryz.sizeOf276
 v75:=Tryz.zeroValue276
 t76:=Tryz.underlying277
 a76:=Tryz.isAgg277
 z76:=Tryz.sizeOf277
 v76:=Tryz.zeroValue277
 t85:=Tryz.underlying397
 a85:=Tryz.isAgg397
 z85:=Tryz.sizeOf397
 v85:=Tryz.zeroValue397
 t127:=Tryz.underlying319
 a127:=Tryz.isAgg319
 z127:=Tryz.sizeOf319
 v127:=Tryz.zeroValue319
 t143:=Tryz.underlying416
 a143:=Tryz.isAgg416
 z143:=Tryz.sizeOf416
 v143:=Tryz.zeroValue416
 t145:=Tryz.underlying418
 a145:=Tryz.isAgg418
 z145:=Tryz.sizeOf418
 v145:=Tryz.zeroValue418
 t167:=Tryz.underlying396
 a167:=Tryz.isAgg396
 z167:=Tryz.sizeOf396
 v167:=Tryz.zeroValue396
 t168:=Tryz.underlying399
 a168:=Tryz.isAgg399
 z168:=Tryz.sizeOf399
 v168:=Tryz.zeroValue399
 t171:=Tryz.underlying373
 a171:=Tryz.isAgg373
 z171:=Tryz.sizeOf373
 v171:=Tryz.zeroValue373
 t173:=Tryz.underlying375
 a173:=Tryz.isAgg375
 z173:=Tryz.sizeOf375
 v173:=Tryz.zeroValue375
 t175:=Tryz.underlying403
 a175:=Tryz.isAgg403
 z175:=Tryz.sizeOf403
 v175:=Tryz.zeroValue403
 t210:=Tryz.underlying406
 a210:=Tryz.isAgg406
 z210:=Tryz.sizeOf406
 v210:=Tryz.zeroValue406
 t212:=Tryz.underlying390
 a212:=Tryz.isAgg390
 z212:=Tryz.sizeOf390
 v212:=Tryz.zeroValue390
 t213:=Tryz.underlying391
 a213:=Tryz.isAgg391
 z213:=Tryz.sizeOf391
 t232:=Tryz.underlying408
 a232:=Tryz.isAgg408
 z232:=Tryz.sizeOf408
 v232:=Tryz.zeroValue408
 t233:=Tryz.underlying409
 a233:=Tryz.isAgg409
 z233:=Tryz.sizeOf409
 v233:=Tryz.zeroValue409
 g15:=by kernel_rfl
 g16:=by kernel_rfl
 g17:=by kernel_rfl
 g18:=by kernel_rfl
 g19:=by kernel_rfl
 t80:=Tryz.underlying130
 a80:=Tryz.isAgg130
 z80:=Tryz.sizeOf130
 v80:=Tryz.zeroValue130
 i0:=by kernel_rfl
 i2:=by kernel_rfl
 i3:=by kernel_rfl
 i4:=by kernel_rfl
 i5:=by kernel_rfl
 i9:=by kernel_rfl
 i20:=by kernel_rfl
 i21:=by kernel_rfl
 i37:=by kernel_rfl
 i46:=by kernel_rfl
 i51:=by kernel_rfl
 i53:=by kernel_rfl
 i75:=by kernel_rfl
 i76:=by kernel_rfl
 i80:=by kernel_rfl
 i85:=by kernel_rfl
 i127:=by kernel_rfl
 i143:=by kernel_rfl
 i145:=by kernel_rfl
 i167:=by kernel_rfl
 i168:=by kernel_rfl
 i171:=by kernel_rfl
 i173:=by kernel_rfl
 i175:=by kernel_rfl
 i210:=by kernel_rfl
 i212:=by kernel_rfl
 i232:=by kernel_rfl
 i233:=by kernel_rfl
 m15:=by kernel_rfl
 m16:=by kernel_rfl
 m17:=by kernel_rfl
 m18:=by kernel_rfl
 m19:=by kernel_rfl
 c0:=by kernel_rfl
 c2:=by kernel_rfl
 c3:=by kernel_rfl
 c4:=by kernel_rfl
 c5:=by kernel_rfl
 c9:=by kernel_rfl
 c20:=by kernel_rfl
 c21:=by kernel_rfl
 c37:=by kernel_rfl
 c46:=by kernel_rfl
 c51:=by kernel_rfl
 c53:=by kernel_rfl
 c75:=by kernel_rfl
 c76:=by kernel_rfl
 c80:=by kernel_rfl
 c85:=by kernel_rfl
 c127:=by kernel_rfl
 c143:=by kernel_rfl
 c145:=by kernel_rfl
 c167:=by kernel_rfl
 c168:=by kernel_rfl
 c171:=by kernel_rfl
 c173:=by kernel_rfl
 c175:=by kernel_rfl
 c210:=by kernel_rfl
 c212:=by kernel_rfl
 c213:=by kernel_rfl
 c232:=by kernel_rfl
 c233:=by kernel_rfl }
open Go.RowKit in
theorem Tryz.strconv_Atoi_ok (s:ByteArray) (hmax:s.size<=9223372036854775806) (v:Int) (h:Lib.atoiAll s.data.toList=.ok v) (w:World) :
 Calls Tryz.prog 271 #[.string s] w λe w'=>e=.returned (.tuple #[.int .i64 v,.nilIface])/\(w'=w\/∃ t,w'=Lib.bytesWorld w 5 t):=Any.strconv_Atoi_ok Tryz.laysC172 s hmax v h w
def Tryz.lays190_ren:Go.Shelf.Ren:=⟨λ| 190=>177 | 125=>226 | 258=>225 | 128=>256 | 129=>257 | 302=>247 | 303=>248 | 304=>249 | 305=>250 | 306=>251 | 307=>252 | 308=>253 | 309=>254 | 310=>255 | 333=>274 | 329=>275 | 330=>276 | 334=>277 | 335=>278 | 336=>230 | 344=>299 | n=>n,λ| 31=>40 | 9=>9 | 3=>3 | 46=>271 | 0=>0 | 51=>207 | 53=>330 | 4=>4 | 183=>344 | 182=>343 | 131=>43 | 5=>5 | 218=>364 | 222=>368 | 228=>385 | 229=>386 | n=>n,λ| n=>n⟩
theorem Tryz.lays190:Go.Proofs.Lays.n190 Tryz.prog Tryz.lays190_ren:={
 mixed:=by kernel_rfl
 f125:=Tryz.func226.trans (congrArg some (by kernel_rfl))
 f128:=Tryz.func256.trans (congrArg some (by kernel_rfl))
 f129:=Tryz.func257.trans (congrArg some (by kernel_rfl))
 f190:=Tryz.func177.trans (congrArg some (by kernel_rfl))
 f258:=Tryz.func225.trans (congrArg some (by kernel_rfl))
 f302:=Tryz.func247.trans (congrArg some (by kernel_rfl))
 f303:=Tryz.func248.trans (congrArg some (by kernel_rfl))
 f304:=Tryz.func249.trans (congrArg some (by kernel_rfl))
 f305:=Tryz.func250.trans (congrArg some (by kernel_rfl))
 f306:=Tryz.func251.trans (congrArg some (by kernel_rfl))
 f307:=Tryz.func252.trans (congrArg some (by kernel_rfl))
 f308:=Tryz.func253.trans (congrArg some (by kernel_rfl))
 f309:=Tryz.func254.trans (congrArg some (by kernel_rfl))
 f310:=Tryz.func255.trans (congrArg some (by kernel_rfl))
 f329:=Tryz.func275.trans (congrArg some (by kernel_rfl))
 f330:=Tryz.func276.trans (congrArg some (by kernel_rfl))
 f333:=Tryz.func274.trans (congrArg some (by kernel_rfl))
 f334:=Tryz.func277.trans (congrArg some (by kernel_rfl))
 f335:=Tryz.func278.trans (congrArg some (by kernel_rfl))
 f336:=Tryz.func230.trans (congrArg some (by kernel_rfl))
 f344:=Tryz.func299.trans (congrArg some (by kernel_rfl))
 t0:=Tryz.underlying0
 a0:=Tryz.isAgg0
 z0:=Tryz.sizeOf0
 v0:=Tryz.zeroValue0
 t3:=Tryz.underlying3
 a3:=Tryz.isAgg3
 z3:=Tryz.sizeOf3
 v3:=Tryz.zeroValue3
 t4:=Tryz.underlying4
 a4:=Tryz.isAgg4
 z4:=Tryz.sizeOf4
 v4:=Tryz.zeroValue4
 t5:=Tryz.underlying5
 a5:=Tryz.isAgg5
 z5:=Tryz.sizeOf5
 v5:=Tryz.zeroValue5
 t9:=Tryz.underlying9
 a9:=Tryz.isAgg9
 z9:=Tryz.sizeOf9
 v9:=Tryz.zeroValue9
 t31:=Tryz.underlying40
 a31:=Tryz.isAgg40
 z31:=Tryz.sizeOf40
 v31:=Tryz.zeroValue40
 t46:=Tryz.underlying271
 a46:=Tryz.isAgg271
 z46:=Tryz.sizeOf271
 v46:=Tryz.zeroValue271
 t51:=Tryz.underlying207
 a51:=Tryz.isAgg207
 z51:=Tryz.sizeOf207
 v51:=Tryz.zeroValue207
 t53:=Tryz.underlying330
 a53:=Tryz.isAgg330
 z53:=Tryz.sizeOf330
 v53:=Tryz.zeroValue330
 t131:=Tryz.underlying43
 a131:=Tryz.isAgg43
 z131:=Tryz.sizeOf43
 v131:=Tryz.zeroValue43
 t182:=Tryz.underlying343
 a182:=Tryz.isAgg343
 z182:=Tryz.sizeOf343
 v182:=Tryz.zeroValue343
 t183:=Tryz.underlying344
 a183:=Tryz.isAgg344
 z183:=Tryz.sizeOf344
 v183:=Tryz.zeroValue344
 t218:=Tryz.underlying364
 a218:=Tryz.isAgg364
 z218:=Tryz.sizeOf364
 v218:=Tryz.zeroValue364
 t222:=Tryz.underlying368
 a222:=Tryz.isAgg368
 z222:=Tryz.sizeOf368
 v222:=Tryz.zeroValue368
 t228:=Tryz.underlying385
 a228:=Tryz.isAgg385
 z228:=Tryz.sizeOf385
 v228:=Tryz.zeroValue385
 t229:=Tryz.underlying386
 a229:=Tryz.isAgg386
 z229:=Tryz.sizeOf386
 v229:=Tryz.zeroValue386 }
open Go.Sort Go.RowKit in
theorem Tryz.slices_Sort_string (blk off cap:Nat) (ss:List (List UInt8)) (w:World) (hH:Holds encStr w blk off ss.toArray) (hblk:blk < w.heap.size) (hsz:ss.length < 4611686018427387904) :
 Calls Tryz.prog 177 #[.slice (some ⟨blk,off,none⟩) ss.length cap] w λe w' =>
  e=.returned (.tuple #[])/\∃ n os,w'=grow (putRow encStr (Sort.ahead w n) blk off (ss.mergeSort λx y=>decide (x<=y)).toArray) os:=Any.slices_Sort_string Tryz.lays190 blk off cap ss w hH hblk hsz
def Tryz.laysGw15_ren:Go.Shelf.Ren:=⟨λ| 15=>158 | 20=>215 | n=>n,λ| 9=>9 | 23=>257 | 3=>3 | 4=>4 | 0=>0 | 21=>21 | n=>n,λ| n=>n⟩
theorem Tryz.laysGw15:Go.Proofs.LaysGw.n15 Tryz.prog Tryz.laysGw15_ren:={
 mixed:=by kernel_rfl
 f15:=Tryz.func158.trans (congrArg some (by kernel_rfl))
 f20:=Tryz.func215.trans (congrArg some (by kernel_rfl))
 t0:=Tryz.underlying0
 a0:=Tryz.isAgg0
 z0:=Tryz.sizeOf0
 v0:=Tryz.zeroValue0
 i0:=by kernel_rfl
 t3:=Tryz.underlying3
 a3:=Tryz.isAgg3
 z3:=Tryz.sizeOf3
 v3:=Tryz.zeroValue3
 i3:=by kernel_rfl
 t4:=Tryz.underlying4
 a4:=Tryz.isAgg4
 z4:=Tryz.sizeOf4
 v4:=Tryz.zeroValue4
 i4:=by kernel_rfl
 t9:=Tryz.underlying9
 a9:=Tryz.isAgg9
 z9:=Tryz.sizeOf9
 v9:=Tryz.zeroValue9
 i9:=by kernel_rfl
 t21:=Tryz.underlying21
 a21:=Tryz.isAgg21
 z21:=Tryz.sizeOf21
 v21:=Tryz.zeroValue21
 i21:=by kernel_rfl
 t23:=Tryz.underlying257
 a23:=Tryz.isAgg257
 z23:=Tryz.sizeOf257
 v23:=Tryz.zeroValue257
 i23:=by kernel_rfl }
open Go.RowKit Go.Lib in
theorem Tryz.strings_IndexFunc (g:Nat) (lb:Array Value) (eg:∀ args w,(callFunc g args).run Tryz.prog w=.ok (.enter g args) w) (p:Nat->Bool) (s:ByteArray) (w:World) (hp:PredAt Tryz.prog g lb encR p w) :
 Calls Tryz.prog 158 #[.string s,.func (.func g) #[] lb] w λe w'=>e=.returned (.int .i64 (Lib.idxFunc p true s))/\Below w.heap.size w w':=Any.strings_IndexFunc Tryz.laysGw15 g lb eg p s w hp
def Tryz.lays99_ren:Go.Shelf.Ren:=⟨λ| 99=>166 | 206=>218 | n=>n,λ| 9=>9 | 4=>4 | 3=>3 | n=>n,λ| n=>n⟩
theorem Tryz.lays99:Go.Proofs.Lays.n99 Tryz.prog Tryz.lays99_ren:={
 mixed:=by kernel_rfl
 f99:=Tryz.func166.trans (congrArg some (by kernel_rfl))
 f206:=Tryz.func218.trans (congrArg some (by kernel_rfl))
 t3:=Tryz.underlying3
 a3:=Tryz.isAgg3
 z3:=Tryz.sizeOf3
 v3:=Tryz.zeroValue3
 t4:=Tryz.underlying4
 a4:=Tryz.isAgg4
 z4:=Tryz.sizeOf4
 v4:=Tryz.zeroValue4
 t9:=Tryz.underlying9
 a9:=Tryz.isAgg9
 z9:=Tryz.sizeOf9
 v9:=Tryz.zeroValue9 }
open Go.RowKit Go.Lib in
theorem Tryz.strings_HasPrefix (s p:ByteArray) (w:World) :
 Calls Tryz.prog 166 #[.string s,.string p] w λe w'=>e=.returned (.bool (Lib.hasPrefix s.data.toList p.data.toList))/\w'=w:=Any.strings_HasPrefix Tryz.lays99 s p w
def Tryz.lays105_ren:Go.Shelf.Ren:=⟨λ| 105=>142 | 212=>196 | 99=>166 | 165=>197 | 166=>172 | 170=>198 | 169=>174 | 263=>233 | 264=>234 | 206=>218 | 240=>223 | 241=>235 | 276=>246 | 277=>269 | n=>n,λ| 9=>9 | 3=>3 | 4=>4 | 20=>20 | 0=>0 | 46=>271 | 109=>297 | 5=>5 | 72=>274 | 76=>277 | 51=>207 | 146=>328 | 53=>330 | 148=>331 | 70=>272 | 37=>231 | 75=>276 | 127=>319 | 164=>340 | 80=>130 | n=>n,λ| n=>n⟩
theorem Tryz.lays105:Go.Proofs.Lays.n105 Tryz.prog Tryz.lays105_ren:={
 mixed:=by kernel_rfl
 f99:=Tryz.func166.trans (congrArg some (by kernel_rfl))
 f105:=Tryz.func142.trans (congrArg some (by kernel_rfl))
 f165:=Tryz.func197.trans (congrArg some (by kernel_rfl))
 f166:=Tryz.func172.trans (congrArg some (by kernel_rfl))
 f169:=Tryz.func174.trans (congrArg some (by kernel_rfl))
 f170:=Tryz.func198.trans (congrArg some (by kernel_rfl))
 f206:=Tryz.func218.trans (congrArg some (by kernel_rfl))
 f212:=Tryz.func196.trans (congrArg some (by kernel_rfl))
 f240:=Tryz.func223.trans (congrArg some (by kernel_rfl))
 f241:=Tryz.func235.trans (congrArg some (by kernel_rfl))
 f263:=Tryz.func233.trans (congrArg some (by kernel_rfl))
 f264:=Tryz.func234.trans (congrArg some (by kernel_rfl))
 f276:=Tryz.func246.trans (congrArg some (by kernel_rfl))
 f277:=Tryz.func269.trans (congrArg some (by kernel_rfl))
 t0:=Tryz.underlying0
 a0:=Tryz.isAgg0
 z0:=Tryz.sizeOf0
 v0:=Tryz.zeroValue0
 t3:=Tryz.underlying3
 a3:=Tryz.isAgg3
 z3:=Tryz.sizeOf3
 v3:=Tryz.zeroValue3
 t4:=Tryz.underlying4
 a4:=Tryz.isAgg4
 z4:=Tryz.sizeOf4
 v4:=Tryz.zeroValue4
 t5:=Tryz.underlying5
 a5:=Tryz.isAgg5
 z5:=Tryz.sizeOf5
 v5:=Tryz.zeroValue5
 t9:=Tryz.underlying9
 a9:=Tryz.isAgg9
 z9:=Tryz.sizeOf9
 v9:=Tryz.zeroValue9
 t20:=Tryz.underlying20
 a20:=Tryz.isAgg20
 z20:=Tryz.sizeOf20
 v20:=Tryz.zeroValue20
 t37:=Tryz.underlying231
 a37:=Tryz.isAgg231
 z37:=Tryz.sizeOf231
 v37:=Tryz.zeroValue231
 t46:=Tryz.underlying271
 a46:=Tryz.isAgg271
 z46:=Tryz.sizeOf271
 v46:=Tryz.zeroValue271
 t51:=Tryz.underlying207
 a51:=Tryz.isAgg207
 z51:=Tryz.sizeOf207
 v51:=Tryz.zeroValue207
 t53:=Tryz.underlying330
 a53:=Tryz.isAgg330
 z53:=Tryz.sizeOf330
 v53:=Tryz.zeroValue330
 t70:=Tryz.underlying272
 a70:=Tryz.isAgg272
 z70:=Tryz.sizeOf272
 v70:=Tryz.zeroValue272
 t72:=Tryz.underlying274
 a72:=Tryz.isAgg274
 z72:=Tryz.sizeOf274
 v72:=Tryz.zeroValue274
 t75:=Tryz.underlying276
 a75:=Tryz.isAgg276
 z75:=Tryz.sizeOf276
 v75:=Tryz.zeroValue276
 t76:=Tryz.underlying277
 a76:=Tryz.isAgg277
 z76:=Tryz.sizeOf277
 v76:=Tryz.zeroValue277
 t109:=Tryz.underlying297
 a109:=Tryz.isAgg297
 z109:=Tryz.sizeOf297
 v109:=Tryz.zeroValue297
 t127:=Tryz.underlying319
 a127:=Tryz.isAgg319
 z127:=Tryz.sizeOf319
 v127:=Tryz.zeroValue319
 t146:=Tryz.underlying328
 a146:=Tryz.isAgg328
 z146:=Tryz.sizeOf328
 v146:=Tryz.zeroValue328
 t148:=Tryz.underlying331
 a148:=Tryz.isAgg331
 z148:=Tryz.sizeOf331
 v148:=Tryz.zeroValue331
 t164:=Tryz.underlying340
 a164:=Tryz.isAgg340
 z164:=Tryz.sizeOf340
 v164:=Tryz.zeroValue340 }
theorem Tryz.Builder_Extra_105:Builder.Extra Tryz.prog Tryz.lays105_ren:={
 sizeBuilder:=by kernel_rfl
 liesBuilder:=by kernel_rfl
 t5:=Tryz.underlying5
 a5:=Tryz.isAgg5
 z5:=Tryz.sizeOf5
 v5:=Tryz.zeroValue5
 infoByte:=by kernel_rfl
 cellsByte:=by kernel_rfl
 sizeByte:=by kernel_rfl
 neB5:=by decide }
open Go.RowKit Go.Lib in
theorem Tryz.strings_Repeat (s:ByteArray) (c:Nat) (w:World) (hc:c<=9223372036854775807) (hlen:s.size * c<=140737488355328) :
 Calls Tryz.prog 142 #[.string s,.int .i64 c] w λe w'=>e=.returned (.string ⟨(Lib.repeatL s.data.toList c).toArray⟩)/\Below w.heap.size w w':=Any.strings_Repeat Tryz.lays105 Tryz.Builder_Extra_105 s c w hc hlen
def Tryz.lays110_ren:Go.Shelf.Ren:=⟨λ| 110=>101 | 109=>162 | n=>n,λ| 31=>40 | 9=>9 | 4=>4 | 3=>3 | 0=>0 | n=>n,λ| n=>n⟩
def Tryz.lays193_ren:Go.Shelf.Ren:=⟨λ| 193=>239 | n=>n,λ| 31=>40 | 9=>9 | 4=>4 | 3=>3 | 0=>0 | n=>n,λ| n=>n⟩
theorem Tryz.lays193:Go.Proofs.Lays.n193 Tryz.prog Tryz.lays193_ren:={
 mixed:=by kernel_rfl
 f193:=Tryz.func239.trans (congrArg some (by kernel_rfl))
 t0:=Tryz.underlying0
 a0:=Tryz.isAgg0
 z0:=Tryz.sizeOf0
 v0:=Tryz.zeroValue0
 t3:=Tryz.underlying3
 a3:=Tryz.isAgg3
 z3:=Tryz.sizeOf3
 v3:=Tryz.zeroValue3
 t4:=Tryz.underlying4
 a4:=Tryz.isAgg4
 z4:=Tryz.sizeOf4
 v4:=Tryz.zeroValue4
 t9:=Tryz.underlying9
 a9:=Tryz.isAgg9
 z9:=Tryz.sizeOf9
 v9:=Tryz.zeroValue9
 t31:=Tryz.underlying40
 a31:=Tryz.isAgg40
 z31:=Tryz.sizeOf40
 v31:=Tryz.zeroValue40 }
open Go.RowKit Go.Lib in
theorem Tryz.slices_Equal_string (b1 o1 n c b2 o2 m d:Nat) (xs ys:List ByteArray) (w:World) (hx:n<=xs.length) (hy:m<=ys.length) (hbig:n<=9223372036854775807) (hbig2:m<=9223372036854775807) (hc1:∀ j,j < xs.length->w.cell? ⟨b1,o1+j,none⟩=some (.string (xs.getD j ByteArray.empty))) (hc2:∀ j,j < ys.length->w.cell? ⟨b2,o2+j,none⟩=some (.string (ys.getD j ByteArray.empty))) :
 Calls Tryz.prog 239 #[.slice (some ⟨b1,o1,none⟩) n c,.slice (some ⟨b2,o2,none⟩) m d] w λe w'=>e=.returned (.bool (decide (xs.take n=ys.take m)))/\∃ q,w'=w.drewN q:=Any.slices_Equal_string Tryz.lays193 b1 o1 n c b2 o2 m d xs ys w hx hy hbig hbig2 hc1 hc2
open Go.RowKit Go.Lib in
theorem Tryz.slices_Equal_string_empty (a1 a2:Option Addr) (c m d:Nat) (w:World) (hbig2:m<=9223372036854775807) :
 Calls Tryz.prog 239 #[.slice a1 0 c,.slice a2 m d] w λe w'=>e=.returned (.bool (decide (m=0)))/\w'=w:=Any.slices_Equal_string_empty Tryz.lays193 a1 a2 c m d w hbig2
def Tryz.laysNm215_ren:Go.Shelf.Ren:=⟨λ| 15=>71 | n=>n,λ| 22=>65 | 3=>3 | 4=>4 | n=>n,λ| n=>n⟩
theorem Tryz.laysNm215:Go.Proofs.Lays2.n15 Tryz.prog Tryz.laysNm215_ren:={
 mixed:=by kernel_rfl
 f15:=Tryz.func71.trans (congrArg some (by kernel_rfl))
 t3:=Tryz.underlying3
 a3:=Tryz.isAgg3
 z3:=Tryz.sizeOf3
 v3:=Tryz.zeroValue3
 t4:=Tryz.underlying4
 a4:=Tryz.isAgg4
 z4:=Tryz.sizeOf4
 v4:=Tryz.zeroValue4
 t22:=Tryz.underlying65
 a22:=Tryz.isAgg65
 z22:=Tryz.sizeOf65
 v22:=Tryz.zeroValue65
 i3:=by kernel_rfl }
open Go.RowKit Go.Lib in
theorem Tryz.slices_Clone_int (b off n c:Nat) (zs:List Int) (w:World) (hz:n<=zs.length) (hbig:n * 8<=140737488355328) (hc:∀ j,j < zs.length->w.cell? ⟨b,off+j,none⟩=some (.int .i64 (zs.getD j 0))) :
 Calls Tryz.prog 71 #[.slice (some ⟨b,off,none⟩) n c] w λe w'=>∃ v',e=.returned v'/\w'.ownsRow w.heap.size 3 1 v' n ((zs.take n).map (Value.int .i64))/\v'≠.slice none 0 0/\Below w.heap.size w w':=Any.slices_Clone_int Tryz.laysNm215 b off n c zs w hz hbig hc
open Go.RowKit Go.Lib in
theorem Tryz.slices_Clone_int_nil (n c:Nat) (w:World) :
 Calls Tryz.prog 71 #[.slice none n c] w λe w'=>e=.returned (.slice none 0 0)/\w'=w:=Any.slices_Clone_int_nil Tryz.laysNm215 n c w
def Tryz.laysNm216_ren:Go.Shelf.Ren:=⟨λ| 16=>59 | n=>n,λ| 24=>40 | 9=>9 | 4=>4 | n=>n,λ| n=>n⟩
theorem Tryz.laysNm216:Go.Proofs.Lays2.n16 Tryz.prog Tryz.laysNm216_ren:={
 mixed:=by kernel_rfl
 f16:=Tryz.func59.trans (congrArg some (by kernel_rfl))
 t4:=Tryz.underlying4
 a4:=Tryz.isAgg4
 z4:=Tryz.sizeOf4
 v4:=Tryz.zeroValue4
 t9:=Tryz.underlying9
 a9:=Tryz.isAgg9
 z9:=Tryz.sizeOf9
 v9:=Tryz.zeroValue9
 t24:=Tryz.underlying40
 a24:=Tryz.isAgg40
 z24:=Tryz.sizeOf40
 v24:=Tryz.zeroValue40
 i9:=by kernel_rfl }
open Go.RowKit Go.Lib in
theorem Tryz.slices_Clone_string (b off n c:Nat) (zs:List ByteArray) (w:World) (hz:n<=zs.length) (hbig:n * 16<=140737488355328) (hc:∀ j,j < zs.length->w.cell? ⟨b,off+j,none⟩=some (.string (zs.getD j ByteArray.empty))) :
 Calls Tryz.prog 59 #[.slice (some ⟨b,off,none⟩) n c] w λe w'=>∃ v',e=.returned v'/\w'.ownsRow w.heap.size 9 1 v' n ((zs.take n).map (Value.string))/\v'≠.slice none 0 0/\Below w.heap.size w w':=Any.slices_Clone_string Tryz.laysNm216 b off n c zs w hz hbig hc
open Go.RowKit Go.Lib in
theorem Tryz.slices_Clone_string_nil (n c:Nat) (w:World) :
 Calls Tryz.prog 59 #[.slice none n c] w λe w'=>e=.returned (.slice none 0 0)/\w'=w:=Any.slices_Clone_string_nil Tryz.laysNm216 n c w
open Go.RowKit Go.Lib in
theorem Tryz.slices_Clone_string_zero (a:Addr) (c:Nat) (w:World) :
 Calls Tryz.prog 59 #[.slice (some a) 0 c] w λe w'=>∃ v',e=.returned v'/\w'.ownsRow w.heap.size 9 1 v' 0 []/\v'≠.slice none 0 0/\Below w.heap.size w w':=Any.slices_Clone_string_zero Tryz.laysNm216 a c w
def Tryz.lays194_ren:Go.Shelf.Ren:=⟨λ| 194=>115 | n=>n,λ| 31=>40 | 9=>9 | 3=>3 | 4=>4 | 0=>0 | n=>n,λ| n=>n⟩
theorem Tryz.lays194:Go.Proofs.Lays.n194 Tryz.prog Tryz.lays194_ren:={
 mixed:=by kernel_rfl
 f194:=Tryz.func115.trans (congrArg some (by kernel_rfl))
 t0:=Tryz.underlying0
 a0:=Tryz.isAgg0
 z0:=Tryz.sizeOf0
 v0:=Tryz.zeroValue0
 t3:=Tryz.underlying3
 a3:=Tryz.isAgg3
 z3:=Tryz.sizeOf3
 v3:=Tryz.zeroValue3
 t4:=Tryz.underlying4
 a4:=Tryz.isAgg4
 z4:=Tryz.sizeOf4
 v4:=Tryz.zeroValue4
 t9:=Tryz.underlying9
 a9:=Tryz.isAgg9
 z9:=Tryz.sizeOf9
 v9:=Tryz.zeroValue9
 t31:=Tryz.underlying40
 a31:=Tryz.isAgg40
 z31:=Tryz.sizeOf40
 v31:=Tryz.zeroValue40 }
open Go.RowKit Go.Lib Go.Sort in
theorem Tryz.slices_Compact_string (blk off cap:Nat) (zs:List (List UInt8)) (w:World) (hH:Holds encStr w blk off zs.toArray) (hsz:zs.length<=9223372036854775807) (hcap:zs.length<=cap) :
 Calls Tryz.prog 115 #[.slice (some ⟨blk,off,none⟩) zs.length cap] w λe w'=>e=.returned (.slice (some ⟨blk,off,none⟩) (Lib.compact zs).length cap)/\∃ q,w'=putRow encStr (Sort.ahead w q) blk off (Lib.compact zs++List.replicate (zs.length - (Lib.compact zs).length) []).toArray:=Any.slices_Compact_string Tryz.lays194 blk off cap zs w hH hsz hcap
open Go.RowKit Go.Lib Go.Sort in
theorem Tryz.slices_Compact_string_empty (a:Option Addr) (cap:Nat) (w:World) :
 Calls Tryz.prog 115 #[.slice a 0 cap] w λe w'=>e=.returned (.slice a 0 cap)/\w'=w:=Any.slices_Compact_string_empty Tryz.lays194 a cap w
def Tryz.laysNm225_ren:Go.Shelf.Ren:=⟨λ| 25=>122 | 31=>185 | 32=>186 | 37=>228 | n=>n,λ| 22=>65 | 3=>3 | 4=>4 | 40=>271 | 0=>0 | n=>n,λ| n=>n⟩
theorem Tryz.laysNm225:Go.Proofs.Lays2.n25 Tryz.prog Tryz.laysNm225_ren:={
 mixed:=by kernel_rfl
 f25:=Tryz.func122.trans (congrArg some (by kernel_rfl))
 f31:=Tryz.func185.trans (congrArg some (by kernel_rfl))
 f32:=Tryz.func186.trans (congrArg some (by kernel_rfl))
 f37:=Tryz.func228.trans (congrArg some (by kernel_rfl))
 t0:=Tryz.underlying0
 a0:=Tryz.isAgg0
 z0:=Tryz.sizeOf0
 v0:=Tryz.zeroValue0
 t3:=Tryz.underlying3
 a3:=Tryz.isAgg3
 z3:=Tryz.sizeOf3
 v3:=Tryz.zeroValue3
 t4:=Tryz.underlying4
 a4:=Tryz.isAgg4
 z4:=Tryz.sizeOf4
 v4:=Tryz.zeroValue4
 t22:=Tryz.underlying65
 a22:=Tryz.isAgg65
 z22:=Tryz.sizeOf65
 v22:=Tryz.zeroValue65
 t40:=Tryz.underlying271
 a40:=Tryz.isAgg271
 z40:=Tryz.sizeOf271
 v40:=Tryz.zeroValue271 }
open Go.RowKit Go.Lib in
theorem Tryz.slices_BinarySearch_int (b off n c:Nat) (zs:List Int) (x:Int) (w:World) (hz:n<=zs.length) (hbig:n < 4611686018427387904) (hc:∀ j,j < zs.length->w.cell? ⟨b,off+j,none⟩=some (.int .i64 (zs.getD j 0))) (hs:(zs.take n).Pairwise (·<=·)) :
 Calls Tryz.prog 122 #[.slice (some ⟨b,off,none⟩) n c,.int .i64 x] w λe w'=>e=.returned (.tuple #[.int .i64 ((zs.take n).countP (· < x):Nat),.bool ((zs.take n).contains x)])/\∃ q,w'=w.drewN q:=Any.slices_BinarySearch_int Tryz.laysNm225 b off n c zs x w hz hbig hc hs
open Go.RowKit Go.Sort in
theorem Tryz.slices_Sort_string_none (p:Option Addr) (cap:Nat) (w:World) :
 Calls Tryz.prog 177 #[.slice p 0 cap] w λe w'=>e=.returned (.tuple #[])/\w'=w:=Any.slices_Sort_string_none Tryz.lays190 p cap w
open Go.RowKit Go.Lib in
theorem Tryz.slices_BinarySearch_int_empty (a:Option Addr) (c:Nat) (x:Int) (w:World) :
 Calls Tryz.prog 122 #[.slice a 0 c,.int .i64 x] w λe w'=>e=.returned (.tuple #[.int .i64 0,.bool false])/\w'=w:=Any.slices_BinarySearch_int_empty Tryz.laysNm225 a c x w
open Go.RowKit Go.Lib in
theorem Tryz.slices_Equal_string_lens (a1 a2:Option Addr) (n c m d:Nat) (w:World) (hnm:n≠m) :
 Calls Tryz.prog 239 #[.slice a1 n c,.slice a2 m d] w λe w'=>e=.returned (.bool false)/\w'=w:=Any.slices_Equal_string_lens Tryz.lays193 a1 a2 n c m d w hnm
def Tryz.laysSlH8_f236_ren:Go.Shelf.Ren:=⟨λ| 8=>236 | 6=>208 | n=>n,λ| 22=>65 | 23=>3 | 25=>283 | 4=>4 | 3=>3 | 0=>0 | n=>n,λ| n=>n⟩
theorem Tryz.laysSlH8_f236:Go.Proofs.SlLaysH.n8 Tryz.prog Tryz.laysSlH8_f236_ren:={
 mixed:=by kernel_rfl
 f6:=⟨Tryz.f208.name,by decide,Tryz.func208.trans (congrArg some (by kernel_rfl))⟩
 f8:=⟨Tryz.f236.name,by decide,Tryz.func236.trans (congrArg some (by kernel_rfl))⟩
 t0:=Tryz.underlying0
 a0:=Tryz.isAgg0
 z0:=Tryz.sizeOf0
 v0:=Tryz.zeroValue0
 t3:=Tryz.underlying3
 a3:=Tryz.isAgg3
 z3:=Tryz.sizeOf3
 v3:=Tryz.zeroValue3
 t4:=Tryz.underlying4
 a4:=Tryz.isAgg4
 z4:=Tryz.sizeOf4
 v4:=Tryz.zeroValue4
 t22:=Tryz.underlying65
 a22:=Tryz.isAgg65
 z22:=Tryz.sizeOf65
 v22:=Tryz.zeroValue65
 a23:=Tryz.isAgg3
 z23:=Tryz.sizeOf3
 t25:=Tryz.underlying283
 a25:=Tryz.isAgg283
 z25:=Tryz.sizeOf283
 v25:=Tryz.zeroValue283 }
open Go.RowKit Go.Lib in
theorem Tryz.slices_ContainsFunc {α:Type} [Inhabited α] (enc:α->Value) (p:α->Bool) (g:Nat) (lb:Array Value) (eg:∀ args w,(callFunc g args).run Tryz.prog w=.ok (.enter g args) w) (b off n c:Nat) (zs:List α) (w:World) (hp:PredAt Tryz.prog g lb enc p w) (hz:n<=zs.length) (hbig:n<=9223372036854775807) (hc:∀ j,j < zs.length->w.cell? ⟨b,off+j,none⟩=some (enc zs[j]!)) :
 Calls Tryz.prog 236 #[.slice (some ⟨b,off,none⟩) n c,.func (.func g) #[] lb] w λe w'=>e=.returned (.bool ((zs.take n).any p))/\∃ q,w'=w.drewN q:=AnyE.slices_ContainsFunc Tryz.laysSlH8_f236 enc p g lb eg b off n c zs w hp hz hbig hc
def Tryz.laysSlH10_f164_ren:Go.Shelf.Ren:=⟨λ| 10=>164 | 6=>217 | n=>n,λ| 22=>40 | 23=>9 | 25=>119 | 3=>3 | 4=>4 | 0=>0 | n=>n,λ| n=>n⟩
theorem Tryz.laysSlH10_f164:Go.Proofs.SlLaysH.n10 Tryz.prog Tryz.laysSlH10_f164_ren:={
 mixed:=by kernel_rfl
 f6:=⟨Tryz.f217.name,by decide,Tryz.func217.trans (congrArg some (by kernel_rfl))⟩
 f10:=⟨Tryz.f164.name,by decide,Tryz.func164.trans (congrArg some (by kernel_rfl))⟩
 t0:=Tryz.underlying0
 a0:=Tryz.isAgg0
 z0:=Tryz.sizeOf0
 v0:=Tryz.zeroValue0
 t3:=Tryz.underlying3
 a3:=Tryz.isAgg3
 z3:=Tryz.sizeOf3
 v3:=Tryz.zeroValue3
 t4:=Tryz.underlying4
 a4:=Tryz.isAgg4
 z4:=Tryz.sizeOf4
 v4:=Tryz.zeroValue4
 t22:=Tryz.underlying40
 a22:=Tryz.isAgg40
 z22:=Tryz.sizeOf40
 v22:=Tryz.zeroValue40
 a23:=Tryz.isAgg9
 z23:=Tryz.sizeOf9
 t25:=Tryz.underlying119
 a25:=Tryz.isAgg119
 z25:=Tryz.sizeOf119
 v25:=Tryz.zeroValue119 }
open Go.RowKit Go.Lib Go.Sort in
theorem Tryz.slices_DeleteFunc {α:Type} [Inhabited α] (enc:α->Value) (hO:OneCell enc) (p:α->Bool) (g:Nat) (lb:Array Value) (eg:∀ args w,(callFunc g args).run Tryz.prog w=.ok (.enter g args) w) (zr:α) (v23:∀ w,(zeroValue 9).run Tryz.prog w=.ok (enc zr) w) (blk off cap:Nat) (d:Array α) (w:World) (hp:PredAt Tryz.prog g lb enc p w) (hpo:PredOver Tryz.prog g lb enc p blk off d.size w) (hH:Holds enc w blk off d) (hsz:d.size<=9223372036854775807) (hcap:d.size<=cap) :
 Calls Tryz.prog 164 #[.slice (some ⟨blk,off,none⟩) d.size cap,.func (.func g) #[] lb] w λe w'=>e=.returned (.slice (some ⟨blk,off,none⟩) (d.toList.filter λx=>!p x).length cap)/\∃ q,w'=putRow enc (Sort.ahead w q) blk off ((d.toList.filter λx=>!p x)++List.replicate (d.size - (d.toList.filter λx=>!p x).length) zr).toArray:=AnyE.slices_DeleteFunc Tryz.laysSlH10_f164 enc hO p g lb eg zr v23 blk off cap d w hp hpo hH hsz hcap
def Tryz.sortedZ_ren:Go.Shelf.Ren:=⟨λ| 6=>113 | 8=>176 | 9=>177 | 11=>224 | 13=>226 | 12=>225 | 23=>256 | 24=>257 | 14=>247 | 15=>248 | 16=>249 | 17=>250 | 18=>251 | 19=>252 | 20=>253 | 21=>254 | 22=>255 | 25=>274 | 26=>275 | 27=>276 | 28=>277 | 29=>278 | 30=>230 | 31=>299 | n=>n,λ| 26=>9 | 28=>190 | 24=>40 | 0=>0 | 3=>3 | 37=>271 | 48=>207 | 50=>330 | 4=>4 | 40=>344 | 39=>343 | 45=>43 | 5=>5 | 9=>9 | 51=>364 | 55=>368 | 57=>385 | 58=>386 | 33=>119 | n=>n,λ| n=>n⟩
theorem Tryz.sortedZ:Go.Proofs.SlLaysZ.n6 Tryz.prog Tryz.sortedZ_ren:={
 mixed:=by kernel_rfl
 f6:=⟨Tryz.f113.name,by decide,Tryz.func113.trans (congrArg some (by kernel_rfl))⟩
 f8:=⟨Tryz.f176.name,by decide,Tryz.func176.trans (congrArg some (by kernel_rfl))⟩
 f11:=⟨Tryz.f224.name,by decide,Tryz.func224.trans (congrArg some (by kernel_rfl))⟩
 t0:=Tryz.underlying0
 a0:=Tryz.isAgg0
 z0:=Tryz.sizeOf0
 v0:=Tryz.zeroValue0
 t24:=Tryz.underlying40
 a24:=Tryz.isAgg40
 z24:=Tryz.sizeOf40
 v24:=Tryz.zeroValue40
 t26:=Tryz.underlying9
 a26:=Tryz.isAgg9
 z26:=Tryz.sizeOf9
 v26:=Tryz.zeroValue9
 t28:=Tryz.underlying190
 a28:=Tryz.isAgg190
 z28:=Tryz.sizeOf190
 v28:=Tryz.zeroValue190
 i26:=by kernel_rfl }
def Tryz.delZ_ren:Go.Shelf.Ren:=⟨λ| 10=>164 | 6=>217 | n=>n,λ| 22=>40 | 23=>9 | 25=>119 | 3=>3 | 4=>4 | 0=>0 | n=>n,λ| n=>n⟩
theorem Tryz.delZ:Go.Proofs.SlLaysH.n10 Tryz.prog Tryz.delZ_ren:={
 mixed:=by kernel_rfl
 f6:=⟨Tryz.f217.name,by decide,Tryz.func217.trans (congrArg some (by kernel_rfl))⟩
 f10:=⟨Tryz.f164.name,by decide,Tryz.func164.trans (congrArg some (by kernel_rfl))⟩
 t0:=Tryz.underlying0
 a0:=Tryz.isAgg0
 z0:=Tryz.sizeOf0
 v0:=Tryz.zeroValue0
 t3:=Tryz.underlying3
 a3:=Tryz.isAgg3
 z3:=Tryz.sizeOf3
 v3:=Tryz.zeroValue3
 t4:=Tryz.underlying4
 a4:=Tryz.isAgg4
 z4:=Tryz.sizeOf4
 v4:=Tryz.zeroValue4
 t22:=Tryz.underlying40
 a22:=Tryz.isAgg40
 z22:=Tryz.sizeOf40
 v22:=Tryz.zeroValue40
 a23:=Tryz.isAgg9
 z23:=Tryz.sizeOf9
 t25:=Tryz.underlying119
 a25:=Tryz.isAgg119
 z25:=Tryz.sizeOf119
 v25:=Tryz.zeroValue119 }
def Tryz.keysZ_ren:Go.Shelf.Ren:=⟨λ| 7=>163 | 10=>216 | n=>n,λ| 23=>80 | 26=>9 | 3=>261 | 28=>190 | 0=>0 | 27=>189 | 33=>119 | 4=>4 | n=>n,λ| n=>n⟩
theorem Tryz.keysZ:Go.Proofs.SlLaysZ.n7 Tryz.prog Tryz.keysZ_ren:={
 mixed:=by kernel_rfl
 f7:=⟨Tryz.f163.name,by decide,Tryz.func163.trans (congrArg some (by kernel_rfl))⟩
 f10:=⟨Tryz.f216.name,by decide,Tryz.func216.trans (congrArg some (by kernel_rfl))⟩
 t0:=Tryz.underlying0
 a0:=Tryz.isAgg0
 z0:=Tryz.sizeOf0
 v0:=Tryz.zeroValue0
 t4:=Tryz.underlying4
 a4:=Tryz.isAgg4
 z4:=Tryz.sizeOf4
 v4:=Tryz.zeroValue4
 t23:=Tryz.underlying80
 a23:=Tryz.isAgg80
 z23:=Tryz.sizeOf80
 v23:=Tryz.zeroValue80
 t26:=Tryz.underlying9
 a26:=Tryz.isAgg9
 z26:=Tryz.sizeOf9
 v26:=Tryz.zeroValue9
 t27:=Tryz.underlying189
 a27:=Tryz.isAgg189
 z27:=Tryz.sizeOf189
 v27:=Tryz.zeroValue189
 t28:=Tryz.underlying190
 a28:=Tryz.isAgg190
 z28:=Tryz.sizeOf190
 v28:=Tryz.zeroValue190
 t33:=Tryz.underlying119
 a33:=Tryz.isAgg119
 z33:=Tryz.sizeOf119
 v33:=Tryz.zeroValue119 }
def Tryz.keysZ1_ren:Go.Shelf.Ren:=⟨λ| 10=>216 | n=>n,λ| 33=>119 | 23=>80 | 0=>0 | 4=>4 | 26=>9 | 3=>261 | n=>n,λ| n=>n⟩
theorem Tryz.keysZ1:Go.Proofs.SlLaysZ.n10 Tryz.prog Tryz.keysZ1_ren:={
 mixed:=by kernel_rfl
 f10:=⟨Tryz.f216.name,by decide,Tryz.func216.trans (congrArg some (by kernel_rfl))⟩
 t0:=Tryz.underlying0
 a0:=Tryz.isAgg0
 z0:=Tryz.sizeOf0
 v0:=Tryz.zeroValue0
 t4:=Tryz.underlying4
 a4:=Tryz.isAgg4
 z4:=Tryz.sizeOf4
 v4:=Tryz.zeroValue4
 t23:=Tryz.underlying80
 a23:=Tryz.isAgg80
 z23:=Tryz.sizeOf80
 v23:=Tryz.zeroValue80
 t26:=Tryz.underlying9
 a26:=Tryz.isAgg9
 z26:=Tryz.sizeOf9
 v26:=Tryz.zeroValue9
 t33:=Tryz.underlying119
 a33:=Tryz.isAgg119
 z33:=Tryz.sizeOf119
 v33:=Tryz.zeroValue119 }
end Go.Proofs
