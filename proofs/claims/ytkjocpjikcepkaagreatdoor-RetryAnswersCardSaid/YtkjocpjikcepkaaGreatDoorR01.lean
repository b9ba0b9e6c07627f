/- octet.Reader: Num, Text, List. And what follows. -/
import Derived.Test.YtkjocpjikcepkaaGreatDoorR00
import Derived.Shelf.Strings.Builder1
import Derived.Shelf.GgClosure.StringsIndexFunc
import Derived.Lib.AtoiAll
import Derived.Lib.ItoaNum
import Derived.Lib.Strings
import Derived.Lib.Repeat
import Derived.Lib.SlTrimSet
import Derived.Shelf.SlIter.Sorted
import Derived.Ground.GgzProg
import Derived.Shelf.SlicesE.DeleteFunc
import Derived.Ground.SlgfProg
import Derived.Shelf.Strings.Builder2
import Derived.Shelf.Strings.Trim
import Derived.Shelf.Small.Utf8
import Derived.Shelf.Small.Bits
import Derived.Shelf.Small.Strs
import Derived.Shelf.Small.Wraps
import Derived.Shelf.Strings.BuilderF
import Derived.Shelf.Strconv.Atoi
import Derived.Shelf.Strconv.Itoa0
import Derived.Shelf.Strconv.Itoa1
import Derived.Shelf.LaysM
import Derived.Shelf.Strconv.Itoa2
import Derived.Shelf.Strconv.Itoa3
import Derived.Shelf.Strconv.AtoiErrFast
import Derived.Shelf.Strconv.ParseIntEmpty
import Derived.Shelf.Strconv.AtoiFail
import Derived.Shelf.Strconv.Clone
import Derived.Shelf.Strconv.SyntaxError
import Derived.Shelf.LaysC
import Derived.Shelf.Strconv.ToError
import Derived.Shelf.Strconv.Lower
import Derived.Shelf.Strconv.ParseUint10
import Derived.Shelf.Strconv.ParseUint10Empty
import Derived.Shelf.Strconv.ParseUint10Any
import Derived.Shelf.Strconv.ParseInt10
import Derived.Shelf.Strconv.AtoiLong
import Derived.Shelf.Strconv.AtoiInnerAll
import Derived.Shelf.Strconv.RangeError
import Derived.Shelf.Strconv.ToErrorRange
import Derived.Shelf.Strconv.AtoiAll
import Derived.Shelf.Strings.Search1
import Derived.Shelf.Sort.Plain
import Derived.Ground.GgwProg
import Derived.Shelf.GgClosure.StringsIndexFuncTop
import Derived.Shelf.GgClosure.StringsRunes
import Derived.Shelf.Strings.Prefix
import Derived.Shelf.Strings.Runes
import Derived.Shelf.Strings.AsciiSet
import Derived.Shelf.Bits.Mul64
import Derived.Shelf.Strings.Repeat
import Derived.Shelf.Unicode.DecodeSlow
import Derived.Shelf.Unicode.DecodeAny
import Derived.Shelf.Unicode.DecodeLast
import Derived.Shelf.Strings.FuncGrows
import Derived.Shelf.Slices.Turned
import Derived.Shelf.Slices.Equal
import Derived.Ground.Names2Prog
import Derived.Shelf.Slices.Clone
import Derived.Shelf.Slices.CompactS
import Derived.Shelf.Slices.SearchI
import Derived.Shelf.Slices.Cells
import Derived.Shelf.Slices.In.SortNone
import Derived.Shelf.Slices.Empties
import Derived.Shelf.Slices.Empties2
import Derived.Ground.SlgnProg
import Derived.Shelf.SlicesE.Equal
import Derived.Shelf.SlicesE.Compact
import Derived.Shelf.SlicesE.IndexFunc
set_option linter.unusedVariables false
set_option linter.unusedSimpArgs false
set_option maxHeartbeats 25600000
set_option maxRecDepth 100000
namespace Go.Proofs.YtkjocpjikcepkaaGreatDoor
namespace OctW
open Go.RowKit OctMath
theorem afi (n:Int) (r:RS):(ed n r).2.s.length<=r.s.length:=by
 unfold ed; split
 . exact Nat.le_refl _
 ·
  split
  . exact Nat.le_refl _
  . split
    . exact Nat.le_refl _
    . simp
theorem acr (n:Int) (r:RS):(ed n r).1.length<=n.toNat:=by
 unfold ed; split
 . simp
 ·
  split
  . simp
  . split
    . simp
    . simp; omega
theorem jm (n:Int) (r:RS):(dh n r).2.s.length<=r.s.length:=by
 unfold dh; split
 . exact Nat.le_refl _
 . split
   . exact Nat.le_refl _
   . exact afi _ _
theorem abz (n:Int) (r:RS):(dh n r).1 < 256 ^ n.toNat:=by
 have hp:0 < 256 ^ n.toNat:=Nat.pow_pos (by omega);unfold dh; split
 . exact hp
 . split
   . exact hp
   . exact Nat.lt_of_lt_of_le (aiz _) (Nat.pow_le_pow_right (by omega) (acr n r))
theorem ql (B:Nat) (r:RS) (n:Int) (hn0 : -9223372036854775808<=n) (hn1:n<=9223372036854775807) (hl:r.s.length<=1152921504606846976) (w:World) (h:Rd B r w) :
 Calls Tryz.prog 87 #[.pointer (some ⟨B,0,none⟩),.int .i64 n] w λe w'=>e=.returned (.int .i64 ((dh n r).1:Int))/\Rd B (dh n r).2 w'/\One B w w':=by
 have J:=zq h;have Z:=h.e_free;have he:=h.e_cell;go_enter Tryz.func87,Tryz.ntmps87;go_wp2_with (go_at_call 88; refine (aa1 B r _ J.o).mono ?_);rintro e w' ⟨rfl,rfl⟩
 by_cases hz:r.e≠0
 ·
  have hb:=acp hz;have I:=zq hz; clear hz h;have A:Zq (dh n r=(0,r)):=by unfold dh; rw [if_pos I.o]; rfl
  go_wp2_with fail;go_ret;rw [A.o];exact ⟨rfl,J.o,Mod.refl _ _⟩
 ·
  have hb:=adx (show r.e=0 by omega);have I:=zq hz; clear hz;have M:=zq (h.set1 1);have N:Zq (One B w (w.setCell ⟨B,1,none⟩ (.int .i64 ((1:Nat):Int)))):=(Mod.refl (λk=>k=B) w).setCell (a:=⟨B,1,none⟩) (Or.inl rfl) _;clear h
  by_cases hw:n < 1\/7 < n
  ·
   have A:Zq (dh n r=(0,⟨r.s,1⟩)):=by unfold dh; rw [if_neg I.o,if_pos hw]; rfl
   rcases hw with hw | hw
   . go_wp2_with fail
     go_ret;rw [A.o];exact ⟨rfl,M.o,N.o⟩
   . have O:1<=n:=by omega
     go_wp2_with fail;go_ret;rw [A.o];exact ⟨rfl,M.o,N.o⟩
  ·
   have A:Zq (dh n r=(val (ed n r).1,(ed n r).2)):=by unfold dh; rw [if_neg I.o,if_neg hw]; rfl
   have O:1<=n:=by omega
   have ab:n<=7:=by omega
   have ho:=Nat.le_trans (acr n r) (show n.toNat<=7 by omega);clear hw M N;go_wp2_with (go_at_call 86; refine (ym B r n (by omega) (by omega) hl _ J.o).mono ?_);rintro e w1 ⟨rfl,E,F⟩;have R:=zq E; clear E;have U:=zq F; clear F;go_wp2_with (go_at_call 150; refine (get_any _ ho _).mono ?_);rintro e w2 ⟨rfl,hd⟩;have X:Zq (Rd B (ed n r).2 w2):=R.o.drawn hd;have Y:Zq (One B w w2):=U.o.drawn hd;clear hd;go_wp2_with fail;go_ret;rw [A.o];exact ⟨rfl,X.o,Y.o⟩
theorem afj {B:Nat} {r:RS} {w:World} (h:Rd B r w) (h0:r.e=0):Rd B (dm true r) (w.setCell ⟨B,1,none⟩ (.int .i64 ((6:Nat):Int))):=by
 have:=h.set1 6;unfold dm; rw [if_pos ⟨h0,rfl⟩]; exact this
theorem xc (r:RS):dm false r=r:=by unfold dm; simp
theorem acs {r:RS} (b:Bool) (h:r.e≠0):dm b r=r:=by unfold dm; rw [if_neg (λx=>h x.1)]
theorem ru (b:Bool) (r:RS):(dm b r).s.length<=r.s.length:=by unfold dm; split <;> exact Nat.le_refl _
theorem ab0 (most:Int) (r:RS) (h:¬ r.e≠0):iw most r=(if (ed ((dh 2 r).1:Int) (dm (decide (most < ((dh 2 r).1:Int))) (dh 2 r).2)).2.e≠0
 then ((ed ((dh 2 r).1:Int) (dm (decide (most < ((dh 2 r).1:Int))) (dh 2 r).2)).1,⟨r.s,(ed ((dh 2 r).1:Int) (dm (decide (most < ((dh 2 r).1:Int))) (dh 2 r).2)).2.e⟩)
 else ed ((dh 2 r).1:Int) (dm (decide (most < ((dh 2 r).1:Int))) (dh 2 r).2)):=by
 unfold iw; rw [if_neg h]
theorem yn (B:Nat) (r:RS) (most:Int) (hn0 : -9223372036854775808<=most) (hn1:most<=9223372036854775807) (hl:r.s.length<=1152921504606846976) (w:World) (h:Rd B r w) :
 Calls Tryz.prog 154 #[.pointer (some ⟨B,0,none⟩),.int .i64 most] w λe w'=>e=.returned (.string (S (iw most r).1))/\Rd B (iw most r).2 w'/\One B w w':=by
 have HR:=zq h;have bb:=h.s_cell;clear h;go_enter Tryz.func154,Tryz.ntmps154;go_wp2_with (go_at_call 88; refine (aa1 B r _ HR.o).mono ?_);rintro e w' ⟨rfl,rfl⟩
 by_cases hz:r.e≠0
 ·
  have hb:=acp hz;have HZ:=zq hz; clear hz;have HT:Zq (iw most r=([],r)):=by unfold iw; rw [if_pos HZ.o]; rfl
  go_wp2_with fail;go_ret;rw [HT.o];exact ⟨rfl,HR.o,Mod.refl _ _⟩
 ·
  have hb:=adx (show r.e=0 by omega);have HT:=zq (ab0 most r hz);clear hz;go_wp2_with (go_at_call 87; refine (ql B r 2 (by omega) (by omega) hl _ HR.o).mono ?_);rintro e w1 ⟨rfl,ab,an⟩;have hx:(dh 2 r).1 < 65536:=abz 2 r;have bd:(dh 2 r).2.s.length<=r.s.length:=jm 2 r;generalize dh 2 r=nr at *
  obtain ⟨x,E⟩:=nr;simp only at *
  have al:=ab.e_cell;have am:=ab.e_free;have ao:=zq an; clear an;have U:=zq ab; clear ab
  have fin:∀ (L:RS) (w2 w3:World),L=dm (decide (most < (x:Int))) E->One B w1 w2->Rd B (ed (x:Int) L).2 w3->One B w2 w3->(ed (x:Int) L).2.e=0 ->
   S (ed (x:Int) L).1=S (iw most r).1/\Rd B (iw most r).2 w3/\One B w w3:=by
   intro L w2 w3 h1 h2 h3 h4 h5;have:=HT.o;rw [<- h1,if_neg (by rw [h5]; simp)] at this;rw [this];exact ⟨rfl,h3,(ao.o.trans h2).trans h4⟩
  have ac:∀ (L:RS) (w2 w3 w4:World),L=dm (decide (most < (x:Int))) E->One B w1 w2->One B w2 w3->(ed (x:Int) L).2.e≠0->Rd B ⟨r.s,(ed (x:Int) L).2.e⟩ w4->One B w3 w4 ->
   S (ed (x:Int) L).1=S (iw most r).1/\Rd B (iw most r).2 w4/\One B w w4:=by
   intro L w2 w3 w4 h1 h2 h4 h5 h6 h7;have:=HT.o;rw [<- h1,if_pos h5] at this;rw [this];exact ⟨rfl,h6,((ao.o.trans h2).trans h4).trans h7⟩
  have FIN:=zq fin; clear fin;have FIN2:=zq ac; clear ac;have bl:(x:Int)<=9223372036854775807:=by omega
  by_cases hz1:E.e≠0
  ·
   have bm:=acp hz1;have ap:=aq5 hz1;have HL:Zq (E=dm (decide (most < (x:Int))) E):=(acs _ hz1).symm;have HW:Zq (One B w1 w1):=Mod.refl _ _;clear hz1;have X:=U;clear U;go_wp2_with (go_at_call 86; refine (ym B E x (by omega) (by omega) (by omega) _ X.o).mono ?_)
   first | rintro e w3 rfl F I | rintro e w3 ⟨rfl,F,I⟩
   have ar:=F.e_cell;have J:=zq F; clear F;have M:=zq I; clear I;clear am al
   by_cases A:(ed (x:Int) E).2.e≠0
   ·
    have Y:=acp A;have Z:=zq A; clear A;go_wp2_with (go_at_call 216; refine (uo B _ _ J.o (ed (x:Int) E).2.e r.s).mono ?_);rintro e w4 ⟨rfl,N,O⟩;have H:=zq (FIN2.o E _ _ _ HL.o HW.o M.o Z.o N O);clear N O;go_wp2_with fail;go_ret;exact ⟨ze H.o.1,H.o.2⟩
   ·
    have A:(ed (x:Int) E).2.e=0:=by omega
    have Y:=adx A;have H:=zq (FIN.o E _ _ HL.o HW.o J.o M.o A);clear A;go_wp2_with fail;go_ret;exact ⟨ze H.o.1,H.o.2⟩
  ·
   have R:E.e=0:=by omega
   have ap:=as7 R
   by_cases hm:most < (x:Int)
   ·
    have HL:Zq (dm true E=dm (decide (most < (x:Int))) E):=by rw [decide_eq_true hm]; rfl
    have av:(dm true E).s.length<=1152921504606846976:=by have:=ru true E; omega
    have X:Zq (Rd B (dm true E) (w1.setCell ⟨B,1,none⟩ (.int .i64 6))):=afj U.o R;have HW:Zq (One B w1 (w1.setCell ⟨B,1,none⟩ (.int .i64 6))):=(Mod.refl (λk=>k=B) w1).setCell (a:=⟨B,1,none⟩) (Or.inl rfl) _;clear R hz1 U;go_wp2_with (go_at_call 86; refine (ym B (dm true E) x (by omega) (by omega) av _ X.o).mono ?_)
    first | rintro e w3 rfl F I | rintro e w3 ⟨rfl,F,I⟩
    have ar:=F.e_cell;have J:=zq F; clear F;have M:=zq I; clear I;clear am al
    by_cases A:(ed (x:Int) (dm true E)).2.e≠0
    ·
     have Y:=acp A;have Z:=zq A; clear A;go_wp2_with (go_at_call 216; refine (uo B _ _ J.o (ed (x:Int) (dm true E)).2.e r.s).mono ?_);rintro e w4 ⟨rfl,N,O⟩;have H:=zq (FIN2.o (dm true E) _ _ _ HL.o HW.o M.o Z.o N O);clear N O;go_wp2_with fail;go_ret;exact ⟨ze H.o.1,H.o.2⟩
    ·
     have A:(ed (x:Int) (dm true E)).2.e=0:=by omega
     have Y:=adx A;have H:=zq (FIN.o (dm true E) _ _ HL.o HW.o J.o M.o A);clear A;go_wp2_with fail;go_ret;exact ⟨ze H.o.1,H.o.2⟩
   ·
    have HL:Zq (E=dm (decide (most < (x:Int))) E):=by rw [decide_eq_false hm,xc]; rfl
    have HW:Zq (One B w1 w1):=Mod.refl _ _;have bo:(x:Int)<=most:=by omega
    have X:=U;clear R hz1 U;go_wp2_with (go_at_call 86; refine (ym B E x (by omega) (by omega) (by omega) _ X.o).mono ?_)
    first | rintro e w3 rfl F I | rintro e w3 ⟨rfl,F,I⟩
    have ar:=F.e_cell;have J:=zq F; clear F;have M:=zq I; clear I;clear am al
    by_cases A:(ed (x:Int) E).2.e≠0
    ·
     have Y:=acp A;have Z:=zq A; clear A;go_wp2_with (go_at_call 216; refine (uo B _ _ J.o (ed (x:Int) E).2.e r.s).mono ?_);rintro e w4 ⟨rfl,N,O⟩;have H:=zq (FIN2.o E _ _ _ HL.o HW.o M.o Z.o N O);clear N O;go_wp2_with fail;go_ret;exact ⟨ze H.o.1,H.o.2⟩
    ·
     have A:(ed (x:Int) E).2.e=0:=by omega
     have Y:=adx A;have H:=zq (FIN.o E _ _ HL.o HW.o J.o M.o A);clear A;go_wp2_with fail;go_ret;exact ⟨ze H.o.1,H.o.2⟩
theorem ownsRow_mod {M:Nat->Prop} {w w':World} {base e sz n:Nat} {v:Value} {xs:List Value} (h:w.ownsRow base e sz v n xs) (hm:Mod M w w') (hM:∀ k,M k->k < base):w'.ownsRow base e sz v n xs:=by
 refine ⟨h.1,?_⟩
 rcases h.2 with hn | ⟨g,cap,cur,hv,hb,hg,rest⟩
 . exact .inl hn
 . exact .inr ⟨g,cap,cur,hv,hb,(hm.block g (Array.getElem?_eq_some_iff.1 hg).1 (λhk=>by have:=hM g hk; omega)).trans hg,rest⟩
theorem xz {w:World} {base e sz n:Nat} {v:Value} {xs:List Value} (h:w.ownsRow base e sz v n xs):∀ g,v.ownBlock=some g->base<=g:=by
 intro g A
 rcases h.2 with ⟨rfl,_⟩ | ⟨g',cap,cur,rfl,hb,_⟩
 . cases A
 . cases A; exact hb
theorem _root_.Go.Proofs.YtkjocpjikcepkaaGreatDoor.Mod.grown {M:Nat->Prop} {u v w:World} {row:Option Nat} (h:Mod M u v) (k:v.grownBy w row) (hr:∀ g,row=some g->u.heap.size<=g):Mod M u w:=by
 refine ⟨k.os.trans h.os,k.tape.trans h.tape,k.output.trans h.output,Nat.le_trans h.size k.size,λi A B=>?_⟩;rw [k.block i (Nat.lt_of_lt_of_le A h.size) (λe=>by have:=hr i e.symm; omega)];exact h.block i A B
abbrev Texts (base:Nat) (v:Value) (ts:List (List UInt8)) (w:World):Prop:=w.ownsRow base 9 1 v ts.length (ts.map λl=>.string (S l))
theorem Texts.strs {base:Nat} {v:Value} {ts:List (List UInt8)} {w:World} (h:Texts base v ts w):∃ a cap,v=.slice a ts.length cap/\Strs w a (ts.map S):=by
 obtain ⟨E,h⟩:=h
 rcases h with ⟨rfl,h0⟩ | ⟨g,cap,cur,rfl,hb,hg,hc1,hc2,hcs,hcur⟩
 . refine ⟨none,0,by rw [h0],λi A=>?_⟩
   simp [h0] at A
 ·
  refine ⟨some ⟨g,0,none⟩,cap,rfl,λi A=>⟨g,0,rfl,?_⟩⟩;unfold World.cell?;rw [hg];have B:i < ts.length:=by simpa using A
  have:cur[0+i]?=(cur.toList.take (ts.length * 1))[i]?:=by
   rw [List.getElem?_take,if_pos (by omega)]; simp
  simp only [this,hcur];simp [B]
theorem xe (most:Int) (k:Nat):∀ r:RS,bi most (k+1) r=((bi most k r).1++[(iw most (bi most k r).2).1],(iw most (bi most k r).2).2):=by
 induction k with
 | zero=>intro r; rfl
 | succ k ih =>
   intro r;have h:=ih (iw most r).2;show ((iw most r).1 :: (bi most (k+1) (iw most r).2).1,(bi most (k+1) (iw most r).2).2)=_;rw [h]; rfl
theorem lq (most:Int) (k:Nat):∀ r:RS,(bi most k r).1.length=k:=by
 induction k with
 | zero=>intro r; rfl
 | succ k ih=>intro r; simp [bi,ih]
theorem ry (most:Int) (r:RS):(iw most r).2.s.length<=r.s.length:=by
 by_cases h:r.e≠0
 . unfold iw; rw [if_pos h]; exact Nat.le_refl _
 ·
  rw [ab0 most r h]
  split
  . exact Nat.le_refl _
  . exact Nat.le_trans (afi _ _) (Nat.le_trans (ru _ _) (jm _ _))
theorem zg (most:Int) (k:Nat):∀ r:RS,(bi most k r).2.s.length<=r.s.length:=by
 induction k with
 | zero=>intro r; exact Nat.le_refl _
 | succ k ih=>intro r; exact Nat.le_trans (ih _) (ry most r)
theorem ady (many most:Int) (r:RS) (h:¬ r.e≠0):um many most r=(if (bi most (dh 1 r).1 (dm (decide (many < ((dh 1 r).1:Int))) (dh 1 r).2)).2.e≠0
 then ([],⟨r.s,(bi most (dh 1 r).1 (dm (decide (many < ((dh 1 r).1:Int))) (dh 1 r).2)).2.e⟩)
 else bi most (dh 1 r).1 (dm (decide (many < ((dh 1 r).1:Int))) (dh 1 r).2)):=by
 unfold um; rw [if_neg h]
theorem list_any (B:Nat) (r:RS) (many most:Int) (hn0 : -9223372036854775808<=most) (hn1:most<=9223372036854775807) (hm0 : -9223372036854775808<=many) (bh:many<=9223372036854775807) (hl:r.s.length<=1152921504606846976) (w:World) (h:Rd B r w) :
 Calls Tryz.prog 155 #[.pointer (some ⟨B,0,none⟩),.int .i64 many,.int .i64 most] w λe w'=>∃ v,e=.returned v/\Texts w.heap.size v (um many most r).1 w'/\Rd B (um many most r).2 w'/\One B w w':=by
 obtain ⟨i0,bj,bk,Y,bl⟩:=info_parts (show (Tryz.prog.info? 9).map (λi=>(i.zero,i.size,i.bytes))=some (some (.string ⟨#[]⟩),1,16) by kernel_rfl);have HR:=zq h;have b7:=h.s_cell;have ap:Zq (B < w.heap.size):=h.lt;clear h;go_enter Tryz.func155,Tryz.ntmps155;go_wp2_with (go_at_call 88; refine (aa1 B r _ HR.o).mono ?_);rintro e w' ⟨rfl,rfl⟩
 by_cases hz:r.e≠0
 ·
  have hb:=acp hz;have HZ:=zq hz; clear hz;have HT:Zq (um many most r=([],r)):=by unfold um; rw [if_pos HZ.o]; rfl
  go_wp2_with fail;go_ret;rw [HT.o];exact ⟨_,rfl,⟨rfl,.inl ⟨rfl,rfl⟩⟩,HR.o,Mod.refl _ _⟩
 ·
  have hb:=adx (show r.e=0 by omega);have HT:=zq (ady many most r hz);clear hz;go_wp2_with (go_at_call 87; refine (ql B r 1 (by omega) (by omega) hl _ HR.o).mono ?_);rintro e w1 ⟨rfl,bb,bh⟩;have hx:(dh 1 r).1 < 256:=abz 1 r;have b9:(dh 1 r).2.s.length<=r.s.length:=jm 1 r;generalize dh 1 r=nr at *
  obtain ⟨x,A⟩:=nr;simp only at *
  have bm:=bb.e_cell;have bo:=bb.e_free;have bp:=zq bh; clear bh;have ar:=zq bb; clear bb
  have fin:∀ (L:RS) (v:Value) (w3:World),L=dm (decide (many < (x:Int))) A->Texts w.heap.size v (bi most x L).1 w3->Rd B (bi most x L).2 w3->One B w w3->(bi most x L).2.e=0 ->
   Texts w.heap.size v (um many most r).1 w3/\Rd B (um many most r).2 w3/\One B w w3:=by
   intro L v w3 h1 h2 h3 h4 h5;have:=HT.o;rw [<- h1,if_neg (by rw [h5]; simp)] at this;rw [this];exact ⟨h2,h3,h4⟩
  have bc:∀ (L:RS) (w4:World),L=dm (decide (many < (x:Int))) A->(bi most x L).2.e≠0->Rd B ⟨r.s,(bi most x L).2.e⟩ w4->One B w w4 ->
   Texts w.heap.size (.slice none 0 0) (um many most r).1 w4/\Rd B (um many most r).2 w4/\One B w w4:=by
   intro L w4 h1 h5 h6 h7;have:=HT.o;rw [<- h1,if_pos h5] at this;rw [this];exact ⟨⟨rfl,.inl ⟨rfl,rfl⟩⟩,h6,h7⟩
  have FIN:=zq fin; clear fin;have FIN2:=zq bc; clear bc
  by_cases Y:A.e≠0
  ·
   have ce:=acp Y;have bs:=aq5 Y;have HL:Zq (A=dm (decide (many < (x:Int))) A):=(acs _ Y).symm;have O:Zq (One B w1 w1):=Mod.refl _ _;clear Y;have Z:=ar;clear ar;have bw:A.s.length<=1152921504606846976:=by have:=ru true A; omega
   have ab:Zq (One B w w1):=bp.o.trans O.o;go_wp2_with fail;clear bo bm;go_loopw [9,33] (λv i wr=>∃ k:Nat,k<=x/\i=.int .i64 k/\Zq (Texts w.heap.size v (bi most k A).1 wr)/\Zq (Rd B (bi most k A).2 wr)/\Zq (One B w wr)) (λ_ i _=>x - (intOf i).toNat)
   case atStart=>exact ⟨0,by omega,rfl,⟨rfl,.inl ⟨rfl,rfl⟩⟩,Z.o,ab.o⟩
   case round =>
    clear Z ab O;obtain ⟨k,hk,rfl,R,N,O⟩:=hrel;have bz:=zg most k A
    by_cases hlt:k < x
    ·
     go_wp2_with (go_at_call 154; refine (yn B _ most hn0 hn1 (by omega) _ N.o).mono ?_);rintro e w3 ⟨rfl,ac,U⟩;have ad:=xe most k A;have av:=lq most k A
     have I:Zq (w3.ownsRow w.heap.size 9 1 u9 k ((bi most k A).1.map λl=>.string (S l))):=by
      have:=ownsRow_mod R.o U (λg hg=>by rw [hg]; exact ap.o);rw [av] at this; exact this
     have X:Zq (One B w w3):=O.o.trans U;clear R O U;generalize iw most (bi most k A).2=tx at *
     have ak:=zq ad; clear ad;have al:=zq ac; clear ac;go_wp2_with (at_builtin; refine wpList_append_own _ rfl (.tmp 35) (.tmp 39) 33 rfl w.heap.size 9 i0 (.string ⟨#[]⟩) 1 16 Tryz.underlying33 bj bk Y bl rfl (by decide) _ k ((bi most k A).1.map λl=>.string (S l)) rfl (I.o.alloc _) ⟨w3.heap.size,0,none⟩ 1 1 [.string (S tx.1)] rfl rfl ?c1 ?c2 ?c3 ?c4 ?c5 ?_)
     case c1=>exact cell_one_new _ _ _
     case c2=>intro u hu; simp at hu; subst hu; rfl
     case c3=>unfold maxLen; omega
     case c4=>omega
     case c5=>have:=X.o.size; simp; omega
     intro v' w4 J E _
     have a1:Zq (Texts w.heap.size v' (bi most (k+1) A).1 w4):=by
      show w4.ownsRow _ _ _ _ (bi most (k+1) A).1.length _;rw [lq,ak.o,List.map_append]; exact J
     have M:∀ g,u9.ownBlock=some g->w.heap.size<=g:=xz I.o;have a6:Zq (One B w w4):=(X.o.alloc _).grown E M
     have a7:Zq (Rd B (bi most (k+1) A).2 w4):=by
      have h1:Rd B tx.2 (w3.alloc (.cells #[.string (S tx.1)] 9)):=al.o.mod ((Mod.refl (λ_=>False) w3).alloc _) (λx=>x);have h2:=(E.block B h1.lt (λe=>by have:=M B e.symm; have:=ap.o; omega)).trans h1;rw [ak.o]; exact h2
     clear J E I X al M;go_wp2_with fail;go_roundw
     case rel=>exact ⟨k+1,by omega,by go_num,a1.o,a7.o,a6.o⟩
     case measure=>simp [intOf]; omega
    ·
     have ek:k=x:=by omega
     subst ek;have b3:=N.o.e_cell
     by_cases F:(bi most k A).2.e≠0
     ·
      have a8:=acp F;have ba:=zq F; clear F;go_wp2_with (go_at_call 216; refine (uo B _ _ N.o (bi most k A).2.e r.s).mono ?_);rintro e w4 ⟨rfl,am,an⟩;have H:=zq (FIN2.o A _ HL.o ba.o am (O.o.trans an));clear am an;go_wp2_with fail;go_ret;exact ⟨_,rfl,H.o⟩
     . have F:(bi most k A).2.e=0:=by omega
       have a8:=adx F;have H:=zq (FIN.o A _ _ HL.o R.o N.o O.o F);clear F;go_wp2_with fail;go_ret;exact ⟨_,rfl,H.o⟩
  ·
   have ao:A.e=0:=by omega
   have bs:=as7 ao
   by_cases hm:many < (x:Int)
   ·
    have HL:Zq (dm true A=dm (decide (many < (x:Int))) A):=by rw [decide_eq_true hm]; rfl
    have Z:Zq (Rd B (dm true A) (w1.setCell ⟨B,1,none⟩ (.int .i64 6))):=afj ar.o ao;have O:Zq (One B w1 (w1.setCell ⟨B,1,none⟩ (.int .i64 6))):=(Mod.refl (λk=>k=B) w1).setCell (a:=⟨B,1,none⟩) (Or.inl rfl) _;clear ao Y ar;have bw:(dm true A).s.length<=1152921504606846976:=by have:=ru true A; omega
    have ab:Zq (One B w (w1.setCell ⟨B,1,none⟩ (.int .i64 6))):=bp.o.trans O.o;go_wp2_with fail;clear bo bm;go_loopw [9,33] (λv i wr=>∃ k:Nat,k<=x/\i=.int .i64 k/\Zq (Texts w.heap.size v (bi most k (dm true A)).1 wr)/\Zq (Rd B (bi most k (dm true A)).2 wr)/\Zq (One B w wr)) (λ_ i _=>x - (intOf i).toNat)
    case atStart=>exact ⟨0,by omega,rfl,⟨rfl,.inl ⟨rfl,rfl⟩⟩,Z.o,ab.o⟩
    case round =>
     clear Z ab O;obtain ⟨k,hk,rfl,R,N,O⟩:=hrel;have bz:=zg most k (dm true A)
     by_cases hlt:k < x
     ·
      go_wp2_with (go_at_call 154; refine (yn B _ most hn0 hn1 (by omega) _ N.o).mono ?_);rintro e w3 ⟨rfl,ac,U⟩;have ad:=xe most k (dm true A);have av:=lq most k (dm true A)
      have I:Zq (w3.ownsRow w.heap.size 9 1 u9 k ((bi most k (dm true A)).1.map λl=>.string (S l))):=by
       have:=ownsRow_mod R.o U (λg hg=>by rw [hg]; exact ap.o);rw [av] at this; exact this
      have X:Zq (One B w w3):=O.o.trans U;clear R O U;generalize iw most (bi most k (dm true A)).2=tx at *
      have ak:=zq ad; clear ad;have al:=zq ac; clear ac;go_wp2_with (at_builtin; refine wpList_append_own _ rfl (.tmp 35) (.tmp 39) 33 rfl w.heap.size 9 i0 (.string ⟨#[]⟩) 1 16 Tryz.underlying33 bj bk Y bl rfl (by decide) _ k ((bi most k (dm true A)).1.map λl=>.string (S l)) rfl (I.o.alloc _) ⟨w3.heap.size,0,none⟩ 1 1 [.string (S tx.1)] rfl rfl ?c1 ?c2 ?c3 ?c4 ?c5 ?_)
      case c1=>exact cell_one_new _ _ _
      case c2=>intro u hu; simp at hu; subst hu; rfl
      case c3=>unfold maxLen; omega
      case c4=>omega
      case c5=>have:=X.o.size; simp; omega
      intro v' w4 J E _
      have a1:Zq (Texts w.heap.size v' (bi most (k+1) (dm true A)).1 w4):=by
       show w4.ownsRow _ _ _ _ (bi most (k+1) (dm true A)).1.length _;rw [lq,ak.o,List.map_append]; exact J
      have M:∀ g,u9.ownBlock=some g->w.heap.size<=g:=xz I.o;have a6:Zq (One B w w4):=(X.o.alloc _).grown E M
      have a7:Zq (Rd B (bi most (k+1) (dm true A)).2 w4):=by
       have h1:Rd B tx.2 (w3.alloc (.cells #[.string (S tx.1)] 9)):=al.o.mod ((Mod.refl (λ_=>False) w3).alloc _) (λx=>x);have h2:=(E.block B h1.lt (λe=>by have:=M B e.symm; have:=ap.o; omega)).trans h1;rw [ak.o]; exact h2
      clear J E I X al M;go_wp2_with fail;go_roundw
      case rel=>exact ⟨k+1,by omega,by go_num,a1.o,a7.o,a6.o⟩
      case measure=>simp [intOf]; omega
     ·
      have ek:k=x:=by omega
      subst ek;have b3:=N.o.e_cell
      by_cases F:(bi most k (dm true A)).2.e≠0
      ·
       have a8:=acp F;have ba:=zq F; clear F;go_wp2_with (go_at_call 216; refine (uo B _ _ N.o (bi most k (dm true A)).2.e r.s).mono ?_);rintro e w4 ⟨rfl,am,an⟩;have H:=zq (FIN2.o (dm true A) _ HL.o ba.o am (O.o.trans an));clear am an;go_wp2_with fail;go_ret;exact ⟨_,rfl,H.o⟩
      . have F:(bi most k (dm true A)).2.e=0:=by omega
        have a8:=adx F;have H:=zq (FIN.o (dm true A) _ _ HL.o R.o N.o O.o F);clear F;go_wp2_with fail;go_ret;exact ⟨_,rfl,H.o⟩
   ·
    have HL:Zq (A=dm (decide (many < (x:Int))) A):=by rw [decide_eq_false hm,xc]; rfl
    have O:Zq (One B w1 w1):=Mod.refl _ _;have cf:(x:Int)<=many:=by omega
    have Z:=ar;clear ao Y ar;have bw:A.s.length<=1152921504606846976:=by have:=ru true A; omega
    have ab:Zq (One B w w1):=bp.o.trans O.o;go_wp2_with fail;clear bo bm;go_loopw [9,33] (λv i wr=>∃ k:Nat,k<=x/\i=.int .i64 k/\Zq (Texts w.heap.size v (bi most k A).1 wr)/\Zq (Rd B (bi most k A).2 wr)/\Zq (One B w wr)) (λ_ i _=>x - (intOf i).toNat)
    case atStart=>exact ⟨0,by omega,rfl,⟨rfl,.inl ⟨rfl,rfl⟩⟩,Z.o,ab.o⟩
    case round =>
     clear Z ab O;obtain ⟨k,hk,rfl,R,N,O⟩:=hrel;have bz:=zg most k A
     by_cases hlt:k < x
     ·
      go_wp2_with (go_at_call 154; refine (yn B _ most hn0 hn1 (by omega) _ N.o).mono ?_);rintro e w3 ⟨rfl,ac,U⟩;have ad:=xe most k A;have av:=lq most k A
      have I:Zq (w3.ownsRow w.heap.size 9 1 u9 k ((bi most k A).1.map λl=>.string (S l))):=by
       have:=ownsRow_mod R.o U (λg hg=>by rw [hg]; exact ap.o);rw [av] at this; exact this
      have X:Zq (One B w w3):=O.o.trans U;clear R O U;generalize iw most (bi most k A).2=tx at *
      have ak:=zq ad; clear ad;have al:=zq ac; clear ac;go_wp2_with (at_builtin; refine wpList_append_own _ rfl (.tmp 35) (.tmp 39) 33 rfl w.heap.size 9 i0 (.string ⟨#[]⟩) 1 16 Tryz.underlying33 bj bk Y bl rfl (by decide) _ k ((bi most k A).1.map λl=>.string (S l)) rfl (I.o.alloc _) ⟨w3.heap.size,0,none⟩ 1 1 [.string (S tx.1)] rfl rfl ?c1 ?c2 ?c3 ?c4 ?c5 ?_)
      case c1=>exact cell_one_new _ _ _
      case c2=>intro u hu; simp at hu; subst hu; rfl
      case c3=>unfold maxLen; omega
      case c4=>omega
      case c5=>have:=X.o.size; simp; omega
      intro v' w4 J E _
      have a1:Zq (Texts w.heap.size v' (bi most (k+1) A).1 w4):=by
       show w4.ownsRow _ _ _ _ (bi most (k+1) A).1.length _;rw [lq,ak.o,List.map_append]; exact J
      have M:∀ g,u9.ownBlock=some g->w.heap.size<=g:=xz I.o;have a6:Zq (One B w w4):=(X.o.alloc _).grown E M
      have a7:Zq (Rd B (bi most (k+1) A).2 w4):=by
       have h1:Rd B tx.2 (w3.alloc (.cells #[.string (S tx.1)] 9)):=al.o.mod ((Mod.refl (λ_=>False) w3).alloc _) (λx=>x);have h2:=(E.block B h1.lt (λe=>by have:=M B e.symm; have:=ap.o; omega)).trans h1;rw [ak.o]; exact h2
      clear J E I X al M;go_wp2_with fail;go_roundw
      case rel=>exact ⟨k+1,by omega,by go_num,a1.o,a7.o,a6.o⟩
      case measure=>simp [intOf]; omega
     ·
      have ek:k=x:=by omega
      subst ek;have b3:=N.o.e_cell
      by_cases F:(bi most k A).2.e≠0
      ·
       have a8:=acp F;have ba:=zq F; clear F;go_wp2_with (go_at_call 216; refine (uo B _ _ N.o (bi most k A).2.e r.s).mono ?_);rintro e w4 ⟨rfl,am,an⟩;have H:=zq (FIN2.o A _ HL.o ba.o am (O.o.trans an));clear am an;go_wp2_with fail;go_ret;exact ⟨_,rfl,H.o⟩
      . have F:(bi most k A).2.e=0:=by omega
        have a8:=adx F;have H:=zq (FIN.o A _ _ HL.o R.o N.o O.o F);clear F;go_wp2_with fail;go_ret;exact ⟨_,rfl,H.o⟩
end OctW
namespace Bld
open Go.Shelf Go.RowKit
def ren:Go.Shelf.Ren:=⟨λ| 169=>192 | n=>n,λ| 70=>282 | 9=>9 | 0=>0 | 72=>284 | 37=>237 | 127=>323 | 3=>3 | 5=>5 | n=>n,λ| n=>n⟩
theorem lays:Go.Proofs.Lays.n169 Tryz.prog ren:={
 mixed:=by kernel_rfl
 f169:=Tryz.func192.trans (congrArg some (by kernel_rfl))
 t0:=Tryz.underlying0
 a0:=Tryz.isAgg0
 z0:=Tryz.sizeOf0
 v0:=Tryz.zeroValue0
 t3:=Tryz.underlying3
 a3:=Tryz.isAgg3
 z3:=Tryz.sizeOf3
 v3:=Tryz.zeroValue3
 t9:=Tryz.underlying9
 a9:=Tryz.isAgg9
 z9:=Tryz.sizeOf9
 v9:=Tryz.zeroValue9
 t37:=Tryz.underlying237
 a37:=Tryz.isAgg237
 z37:=Tryz.sizeOf237
 v37:=Tryz.zeroValue237
 t70:=Tryz.underlying282
 a70:=Tryz.isAgg282
 z70:=Tryz.sizeOf282
 v70:=Tryz.zeroValue282
 t72:=Tryz.underlying284
 a72:=Tryz.isAgg284
 z72:=Tryz.sizeOf284
 v72:=Tryz.zeroValue284
 t127:=Tryz.underlying323
 a127:=Tryz.isAgg323
 z127:=Tryz.sizeOf323
 v127:=Tryz.zeroValue323 }
theorem extra:Builder.Extra Tryz.prog ren:={
 sizeBuilder:=by kernel_rfl
 liesBuilder:=by kernel_rfl
 t5:=Tryz.underlying5
 a5:=Tryz.isAgg5
 z5:=Tryz.sizeOf5
 v5:=Tryz.zeroValue5
 infoByte:=by kernel_rfl
 cellsByte:=by kernel_rfl
 sizeByte:=by kernel_rfl
 neB5:=by decide }
theorem adz (B b:Nat) (l:List UInt8) (w:World) (h:Lib.IsBuilder 284 5 B b (Lib.byteCells l) w) (hBw:B<=w.heap.size) :
 Calls Tryz.prog 192 #[.pointer (some ⟨b,0,none⟩)] w λe w'=>e=.returned (.string ⟨l.toArray⟩)/\Below B w w':=Any.Builder_String_any lays extra B b l w h hBw
theorem ab1:(Tryz.prog.info? 284).map (·.size)=some 2:=by kernel_rfl
theorem agd:liesAt Tryz.prog Tryz.prog.depth 284 (2 / Tryz.prog.cellsOf 284) 0 284 1=true:=by kernel_rfl
theorem alu:(Tryz.prog.info? 5).map (λi=>(i.zero,i.size,i.bytes))=some (some (.int .u8 0),1,1):=by kernel_rfl
theorem ad1 (b:Nat) (w:World) (h0:w.cell? ⟨b,0,none⟩=some (.pointer (some ⟨b,0,none⟩))) :
 Calls Tryz.prog 234 #[.pointer (some ⟨b,0,none⟩)] w λe w'=>e=.returned (.tuple #[])/\w'=w:=by
 obtain ⟨j,A,_⟩:=Option.map_eq_some_iff.1 ab1;go_enter Tryz.func234,Tryz.ntmps234;go_wp2;rw [Lib.run_neq_ptr_same w _ Tryz.underlying282 A];go_wp2;go_end0;exact ⟨rfl,rfl⟩
theorem adl (b:Nat) (w:World) (h0:w.cell? ⟨b,0,none⟩=some (.pointer none)) (hsh:w.shape? b=some (284,2)) (hfz:w.frozen? ⟨b,0,none⟩=false) :
 Calls Tryz.prog 234 #[.pointer (some ⟨b,0,none⟩)] w λe w'=>e=.returned (.tuple #[])/\w'=w.setCell ⟨b,0,none⟩ (.pointer (some ⟨b,0,none⟩)):=by
 obtain ⟨j,B,A⟩:=Option.map_eq_some_iff.1 ab1;go_enter Tryz.func234,Tryz.ntmps234;go_wp2;rw [Lib.run_to_unsafe w ⟨b,0,none⟩ Tryz.underlying282 Tryz.underlying340 B (by rw [A]; decide) hsh (Nat.zero_lt_succ 1)];simp only [Result.andThen];rw [Oper.upon_value];go_wp2;rw [run_callFunc_extern Tryz.func253 (by kernel_rfl) (by kernel_rfl) (by kernel_rfl) (e:=Extern.AbiNoEscape.same) (by kernel_rfl)];rw [Lib.run_noEscape];simp only [Result.andThen];rw [Oper.upon_value];go_wp2;rw [Lib.run_from_unsafe w ⟨b,0,none⟩ Tryz.underlying340 Tryz.underlying282 B hsh agd];simp only [Result.andThen];rw [Oper.upon_value];go_wp2;go_end0;exact ⟨rfl,rfl⟩
theorem ae8 (B b:Nat) (bs:List Value) (w:World) (h:Lib.IsBuilder 284 5 B b bs w) :
 Calls Tryz.prog 234 #[.pointer (some ⟨b,0,none⟩)] w λe w'=>e=.returned (.tuple #[])/\(Lib.BuilderAt 284 5 B b (.pointer (some ⟨b,0,none⟩)) bs w'/\Below B w w'):=by
 rcases h with h | h
 . refine (adl b w h.cell0 h.shape h.frozen0).mono ?_
   rintro e w' ⟨rfl,rfl⟩;exact ⟨rfl,h.used _,(Below.refl B w).setCell (p:=⟨b,0,none⟩) h.1 _⟩
 . refine (ad1 b w h.cell0).mono ?_
   rintro e w' ⟨rfl,rfl⟩;exact ⟨rfl,h,Below.refl B _⟩
theorem zx (B b:Nat) (bs:List Value) (s:ByteArray) (w:World) (h:Lib.IsBuilder 284 5 B b bs w) (hlen:bs.length+s.size<=140737488355328) (hBw:B<=w.heap.size) :
 Calls Tryz.prog 190 #[.pointer (some ⟨b,0,none⟩),.string s] w λe w'=>e=.returned (.tuple #[.int .i64 s.size,.nilIface])/\(Lib.BuilderAt 284 5 B b (.pointer (some ⟨b,0,none⟩)) (bs++Lib.strCells s) w'/\Below B w w'):=by
 obtain ⟨i0,hi,N,O,R⟩:=info_parts alu;go_enter Tryz.func190,Tryz.ntmps190;go_wp2_with (go_at_call 234; refine (ae8 B b bs _ h).mono ?_);rintro e w1 ⟨rfl,h1,M⟩;obtain ⟨Y,v,F,J,U⟩:=h1;have c0:w1.cell? ⟨b,0,none⟩=some (.pointer (some ⟨b,0,none⟩)):=by rw [Lib.cell_of_heap F]; rfl
 have c1:w1.cell? ⟨b,1,none⟩=some v:=by rw [Lib.cell_of_heap F]; rfl
 go_wp2_with (at_builtin; go_must (refine Lib.wpList_append_own_string _ rfl _ _ 237 9 rfl B 5 i0 Tryz.underlying237 Tryz.underlying9 hi N O R _ _ _ rfl J s rfl ?c3 ?c4 ?c5 ?_))
 case c3=>unfold maxLen; omega
 case c4=>omega
 case c5=>have:=M.size; omega
 intro v' w2 A E _
 have X:b < w1.heap.size:=by
  rcases Nat.lt_or_ge b w1.heap.size with h' | h'
  . exact h'
  . simp [Array.getElem?_eq_none h'] at F
 have I:w2.heap[b]?=some (.cells #[.pointer (some ⟨b,0,none⟩),v] 284 (0,0)):=by
  rw [E.block b X (λe=>U e.symm)];exact F
 have d0:w2.cell? ⟨b,0,none⟩=some (.pointer (some ⟨b,0,none⟩)):=by rw [Lib.cell_of_heap I]; rfl
 have d1:w2.cell? ⟨b,1,none⟩=some v:=by rw [Lib.cell_of_heap I]; rfl
 have f1:w2.frozen? ⟨b,1,none⟩=false:=Lib.frozen_of_heap I 1
 obtain ⟨Z,n',cap,rfl⟩:∃ Z n' cap,v'=.slice Z n' cap:=by
  rcases A.2 with ⟨hv,_⟩ | ⟨g,cap,cur,hv,_⟩
  . exact ⟨_,_,_,hv⟩
  . exact ⟨_,_,_,hv⟩
 go_wp2;go_ret2;refine ⟨rfl,?_,?_⟩
 . exact Lib.BuilderAt.put (T:=284) (e:=5) Y I (bs':=bs++Lib.strCells s) (by simpa [Lib.strCells_length] using A) (by decide)
 . exact (M.grown E (by have:=M.size; omega) (λk hk=>(J.lt k hk).1)).setCell (p:=⟨b,1,none⟩) Y _
end Bld
namespace OctW
open Go.RowKit OctMath
abbrev Bl (B b:Nat) (l:List UInt8) (w:World):Prop:=Lib.IsBuilder 284 5 B b (Lib.byteCells l) w
theorem abe {M:Nat->Prop} {T e B b:Nat} {p:Value} {bs:List Value} {w w':World} (h:Lib.BuilderAt T e B b p bs w) (hm:Mod M w w') (hM:∀ k,M k->k < B):Lib.BuilderAt T e B b p bs w':=by
 obtain ⟨I,v,hb,A,E⟩:=h;have F:=(Array.getElem?_eq_some_iff.1 hb).1;exact ⟨I,v,(hm.block b F (λh=>by have:=hM b h; omega)).trans hb,ownsRow_mod A hm hM,E⟩
theorem Bl.mod {M:Nat->Prop} {B b:Nat} {l:List UInt8} {w w':World} (h:Bl B b l w) (hm:Mod M w w') (hM:∀ k,M k->k < B):Bl B b l w':=by
 rcases h with h | h
 . exact .inl (abe h hm hM)
 . exact .inr (abe h hm hM)
theorem Bl.below {B b:Nat} {l:List UInt8} {w w':World} (h:Bl B b l w) (hm:Below w.heap.size w w'):Bl B b l w':=h.mod (M:=λ_=>False) (Mod.of_below hm) (λ_ x=>x.elim)
def Ints (w:World) (a:Option Addr) (xs:List Int):Prop:=∀ i (h:i < xs.length),∃ b off,a=some ⟨b,off,none⟩/\w.cell? ⟨b,off+i,none⟩=some (.int .i64 xs[i])
theorem Ints.below {w w':World} {a:Option Addr} {xs:List Int} (h:Ints w a xs) (hb:Below w.heap.size w w'):Ints w' a xs:=by
 intro i A;obtain ⟨b,off,rfl,hc⟩:=h i A;exact ⟨b,off,rfl,by rw [hb.cell (ax hc)]; exact hc⟩
def numsL (n:Nat) (xs:List Int):List UInt8:=xs.flatMap λx=>be n x.toNat
def fits (n:Nat) (x:Int):Prop:=0<=x/\x < (256 ^ n:Nat)
instance (n:Nat) (x:Int):Decidable (fits n x):=by unfold fits; infer_instance
def pu (n:Int) (xs:List Int):List UInt8×Nat:=if n < 1\/7 < n then ([],1) else if ∀ x∈xs,fits n.toNat x then (numsL n.toNat xs,0) else ([],2)
theorem ai0 (n:Nat) (xs:List Int) (k:Nat) (h:k < xs.length):numsL n (xs.take (k+1))=numsL n (xs.take k)++be n xs[k].toNat:=by
 unfold numsL; rw [List.take_succ_eq_append_getElem h,List.flatMap_append]; simp
theorem numsL_length (n:Nat) (xs:List Int):(numsL n xs).length=xs.length * n:=by
 unfold numsL; induction xs with
 | nil=>simp
 | cons x xs ih=>simp [bq,ih,Nat.succ_mul]; omega
theorem aud (z m:Nat):((z:Int) / 2 ^ (8 * m) != 0)=decide (256 ^ m<=z):=by
 have h:((z:Int) / 2 ^ (8 * m))=((z / 256 ^ m:Nat):Int):=by
  rw [Int.natCast_ediv,show ((256 ^ m:Nat):Int)=2 ^ (8 * m) from by rw [Int.natCast_pow,Int.pow_mul]; rfl]
 have hp:0 < 256 ^ m:=Nat.pow_pos (by omega);rw [h]
 by_cases hz:256 ^ m<=z
 ·
  have:=Nat.div_pos hz hp;rw [decide_eq_true hz];generalize z / 256 ^ m=q at *
  exact bne_iff_ne.2 (by omega)
 . rw [decide_eq_false hz,Nat.div_eq_of_lt (by omega)]; rfl
theorem nums_any (n:Int) (hn0 : -9223372036854775808<=n) (hn1:n<=9223372036854775807) (a:Option Addr) (cap:Nat) (xs:List Int) (hx:xs.length<=1048576) (hr:∀ x∈xs,-9223372036854775808<=x/\x<=9223372036854775807) (W:World) (h:Ints W a xs) :
 Calls Tryz.prog 126 #[.int .i64 n,.slice a xs.length cap] W λe w'=>e=.returned (.tuple #[.string (S (pu n xs).1),.int .i64 ((pu n xs).2:Int)])/\Below W.heap.size W w':=by
 have HI:=zq h; clear h;have ad:=zq hr; clear hr
 by_cases hw:n < 1\/7 < n
 ·
  have X:Zq (pu n xs=([],1)):=by unfold pu; rw [if_pos hw]; rfl
  go_enter Tryz.func126,Tryz.ntmps126
  rcases hw with hw | hw
  . go_wp2_with fail
    go_ret2;rw [X.o];exact ⟨rfl,Below.refl _ _⟩
  ·
   have a7:1<=n:=by omega
   go_wp2_with fail;go_ret2;rw [X.o];exact ⟨rfl,Below.refl _ _⟩
 ·
  obtain ⟨m,rfl⟩:∃ m:Nat,n=m:=⟨n.toNat,by omega⟩;have a8:1<=m:=by omega
  have ak:m<=7:=by omega
  have X:Zq (pu (m:Int) xs=if ∀ x∈xs,fits m x then (numsL m xs,0) else ([],2)):=by unfold pu; rw [if_neg hw]; rfl
  clear hw;have M:Zq (Bl W.heap.size W.heap.size [] (W.alloc (.cells #[.pointer none,.slice none 0 0] 284))):=Lib.fresh_isBuilder _ _ W;have A:Zq (Below W.heap.size W (W.alloc (.cells #[.pointer none,.slice none 0 0] 284))):=(Below.refl _ W).alloc (Nat.le_refl _) _;go_enter Tryz.func126,Tryz.ntmps126;go_wp2_with fail;go_loopw [17] (λi wr=>∃ k:Nat,k<=xs.length/\i=.int .i64 k/\Zq (Bl W.heap.size W.heap.size (numsL m (xs.take k)) wr)/\Zq (Below W.heap.size W wr)/\Zq (∀ x∈xs.take k,fits m x)) (λi _=>xs.length - (intOf i).toNat)
  case atStart=>exact ⟨0,by omega,rfl,M,A,by simp [Zq]⟩
  case round =>
   clear M A;obtain ⟨k,hk,rfl,M,A,HA⟩:=hrel
   by_cases hlt:k < xs.length
   ·
    obtain ⟨b,off,rfl,hc⟩:=HI.o k hlt;rw [<- A.o.cell (ax hc)] at hc;have am:=ad.o xs[k] (by simp);have Y:=ai0 m xs k hlt;have Z:∀ x,x∈xs.take (k+1)↔x∈xs.take k\/x=xs[k]:=by intro y; rw [List.take_succ_eq_append_getElem hlt,List.mem_append,List.mem_singleton]
    have F:xs[k]∈xs:=by simp
    generalize xs[k]=x at *
    have an:=zq Y; clear Y;have ao:=zq Z; clear Z;have I:=zq F; clear F;obtain ⟨ap,ba⟩:=am
    by_cases h0:x < 0
    . have B:Zq (pu (m:Int) xs=([],2)):=by rw [X.o,if_neg (λh=>by have:=(h x I.o).1; omega)]; rfl
      go_wp2_with fail;go_ret2;rw [B.o];exact ⟨rfl,A.o⟩
    ·
     obtain ⟨z,rfl⟩:∃ z:Nat,x=z:=⟨x.toNat,by omega⟩;clear h0 ap;have ab:=aud z m
     by_cases hf:256 ^ m<=z
     . have B:Zq (pu (m:Int) xs=([],2)):=by rw [X.o,if_neg (λh=>by have:=(h z I.o).2; omega)]; rfl
       rw [decide_eq_true hf] at ab;clear hf;go_wp2_with fail;go_ret2;rw [B.o];exact ⟨rfl,A.o⟩
     ·
      have ar:Zq (fits m z):=⟨by omega,by omega⟩;rw [decide_eq_false hf] at ab;clear hf;go_wp2_with (go_at_call 191; refine (put_any m z (by omega) (by omega) _).mono ?_);rintro e w1 ⟨rfl,N⟩;have O:Zq (Below W.heap.size W w1):=A.o.trans (N.mono A.o.size);have ac:Zq (Bl W.heap.size W.heap.size (numsL m (xs.take k)) w1):=M.o.below N
      have J:(Lib.byteCells (numsL m (xs.take k))).length+(S (be m z)).size<=140737488355328:=by
       rw [Lib.byteCells_length,numsL_length,ai,bq,List.length_take];have:min k xs.length * m<=1048576 * 7:=Nat.mul_le_mul (by omega) ak;omega
      clear N M A;go_wp2_with (go_at_call 190; refine (Bld.zx W.heap.size W.heap.size _ (S (be m z)) _ ac.o J O.o.size).mono ?_);rintro e w2 ⟨rfl,R,E⟩;have U:Zq (Below W.heap.size W w2):=O.o.trans E
      have av:Zq (Bl W.heap.size W.heap.size (numsL m (xs.take (k+1))) w2):=by
       rw [an.o];have:Lib.byteCells (numsL m (xs.take k))++Lib.strCells (S (be m z))=Lib.byteCells (numsL m (xs.take k)++be m z):=by rw [Lib.strCells_eq,lg,Lib.byteCells_append]
       rw [this] at R;exact .inr R
      clear R E ac O J;go_wp2_with fail;go_roundw
      case rel =>
       refine ⟨k+1,by omega,by go_num,av,U,λy hy=>?_⟩
       rcases (ao.o y).1 hy with hy | rfl
       . exact HA.o y hy
       . exact ar.o
      case measure=>simp [intOf]; omega
   ·
    have ek:k=xs.length:=by omega
    subst ek;rw [List.take_length] at M HA;have B:Zq (pu (m:Int) xs=(numsL m xs,0)):=by rw [X.o,if_pos HA.o]; rfl
    go_wp2_with (go_at_call 192; refine (Bld.adz W.heap.size W.heap.size _ _ M.o A.o.size).mono ?_);rintro e w2 ⟨rfl,E⟩;have U:Zq (Below W.heap.size W w2):=A.o.trans E;clear E;go_wp2_with fail;go_ret2;rw [B.o];exact ⟨rfl,U.o⟩
def ik (t:List UInt8):List UInt8:=be 2 t.length++t
def cz (ts:List (List UInt8)):List UInt8:=ts.flatMap ik
def lw (ts:List (List UInt8)):List UInt8×Nat:=if ∀ t∈ts,t.length<=65535 then (cz ts,0) else ([],6)
def uz (ts:List (List UInt8)):List UInt8×Nat:=if 255 < ts.length then ([],6) else if ∀ t∈ts,t.length<=65535 then (be 1 ts.length++cz ts,0) else ([],6)
theorem ag2 (ts:List (List UInt8)) (k:Nat) (h:k < ts.length):cz (ts.take (k+1))=cz (ts.take k)++ik ts[k]:=by
 unfold cz; rw [List.take_succ_eq_append_getElem h,List.flatMap_append]; simp
theorem ad2 (ts:List (List UInt8)) (k:Nat):(cz (ts.take k)).length<=(cz ts).length:=by
 unfold cz
 conv=>rhs; rw [<- List.take_append_drop k ts]
 rw [List.flatMap_append,List.length_append]; omega
theorem acu (a:Option Addr) (cap:Nat) (ts:List (List UInt8)) (hx:ts.length<=1048576) (A:(cz ts).length<=1073741824) (W:World) (h:Strs W a (ts.map S)) :
 Calls Tryz.prog 127 #[.slice a ts.length cap] W λe w'=>e=.returned (.tuple #[.string (S (lw ts).1),.int .i64 ((lw ts).2:Int)])/\Below W.heap.size W w':=by
 have HI:=zq h; clear h;have X:=zq A; clear A;have I:Zq (Bl W.heap.size W.heap.size [] (W.alloc (.cells #[.pointer none,.slice none 0 0] 284))):=Lib.fresh_isBuilder _ _ W;have E:Zq (Below W.heap.size W (W.alloc (.cells #[.pointer none,.slice none 0 0] 284))):=(Below.refl _ W).alloc (Nat.le_refl _) _;go_enter Tryz.func127,Tryz.ntmps127;go_wp2_with fail;go_loopw [9] (λi wr=>∃ k:Nat,k<=ts.length/\i=.int .i64 k/\Zq (Bl W.heap.size W.heap.size (cz (ts.take k)) wr)/\Zq (Below W.heap.size W wr)/\Zq (∀ x∈ts.take k,x.length<=65535)) (λi _=>ts.length - (intOf i).toNat)
 case atStart=>exact ⟨0,by omega,rfl,I,E,by simp [Zq]⟩
 case round =>
  clear I E;obtain ⟨k,hk,rfl,I,E,HA⟩:=hrel
  by_cases hlt:k < ts.length
  ·
   obtain ⟨b,off,rfl,hc⟩:=HI.o k (by simpa using hlt);rw [<- E.o.cell (ax hc),List.getElem_map] at hc;have J:=ag2 ts k hlt;have Y:∀ y,y∈ts.take (k+1)↔y∈ts.take k\/y=ts[k]:=by intro y; rw [List.take_succ_eq_append_getElem hlt,List.mem_append,List.mem_singleton]
   have F:ts[k]∈ts:=by simp
   have ak:(cz (ts.take (k+1))).length<=1073741824:=Nat.le_trans (ad2 ts _) X.o;rw [J,List.length_append] at ak;generalize ts[k]=x at *
   have ar:(ik x).length=x.length+2:=by unfold ik; rw [List.length_append,bq]; omega
   have al:=zq J; clear J;have am:=zq Y; clear Y;have Z:=zq F; clear F;have av:=ai x
   by_cases hf:65535 < x.length
   . have M:Zq (lw ts=([],6)):=by unfold lw; rw [if_neg (λh=>by have:=h x Z.o; omega)]; rfl
     go_wp2_with fail;go_ret2;rw [M.o];exact ⟨rfl,E.o⟩
   ·
    have a1:(S (be 2 x.length)).size=2:=by rw [ai,bq]
    have ab:Zq (S (be 2 x.length)++S x=S (ik x)):=gm _ _;go_wp2_with (go_at_call 191; refine (put_any 2 x.length (by omega) (by omega) _).mono ?_);rintro e w1 ⟨rfl,N⟩;have O:Zq (Below W.heap.size W w1):=E.o.trans (N.mono E.o.size);have ac:Zq (Bl W.heap.size W.heap.size (cz (ts.take k)) w1):=I.o.below N
    have A:(Lib.byteCells (cz (ts.take k))).length+(S (ik x)).size<=140737488355328:=by
     rw [Lib.byteCells_length,ai]; omega
    clear N I E;go_wp2_with fail;rw [ab.o];refine (Bld.zx W.heap.size W.heap.size _ (S (ik x)) _ ac.o A O.o.size).mono ?_;rintro e w2 ⟨rfl,R,B⟩;have U:Zq (Below W.heap.size W w2):=O.o.trans B
    have an:Zq (Bl W.heap.size W.heap.size (cz (ts.take (k+1))) w2):=by
     rw [al.o];have:Lib.byteCells (cz (ts.take k))++Lib.strCells (S (ik x))=Lib.byteCells (cz (ts.take k)++ik x):=by rw [Lib.strCells_eq,lg,Lib.byteCells_append]
     rw [this] at R;exact .inr R
    clear R B ac O A;go_wp2_with fail;go_roundw
    case rel =>
     refine ⟨k+1,by omega,by go_num,an,U,λy hy=>?_⟩
     rcases (am.o y).1 hy with hy | rfl
     . exact HA.o y hy
     . omega
    case measure=>simp [intOf]; omega
  ·
   have ek:k=ts.length:=by omega
   subst ek;rw [List.take_length] at I HA;have M:Zq (lw ts=(cz ts,0)):=by unfold lw; rw [if_pos HA.o]; rfl
   go_wp2_with (go_at_call 192; refine (Bld.adz W.heap.size W.heap.size _ _ I.o E.o.size).mono ?_);rintro e w2 ⟨rfl,B⟩;have U:Zq (Below W.heap.size W w2):=E.o.trans B;clear B;go_wp2_with fail;go_ret2;rw [M.o];exact ⟨rfl,U.o⟩
theorem alv (a:Option Addr) (cap:Nat) (ts:List (List UInt8)) (hx:ts.length<=1048576) (hlen:(cz ts).length<=1073741824) (W:World) (h:Strs W a (ts.map S)) :
 Calls Tryz.prog 265 #[.slice a ts.length cap] W λe w'=>e=.returned (.tuple #[.string (S (uz ts).1),.int .i64 ((uz ts).2:Int)])/\Below W.heap.size W w':=by
 have M:=zq h; clear h;go_enter Tryz.func265,Tryz.ntmps265
 by_cases hl:255 < ts.length
 ·
  have B:Zq (uz ts=([],6)):=by unfold uz; rw [if_pos hl]; rfl
  go_wp2_with fail;go_ret2;rw [B.o];exact ⟨rfl,Below.refl _ _⟩
 ·
  go_wp2_with (go_at_call 127; refine (acu a cap ts hx hlen _ M.o).mono ?_);rintro e w1 ⟨rfl,E⟩;have A:=zq E; clear E
  by_cases hf:∀ t∈ts,t.length<=65535
  ·
   have h1:(lw ts)=(cz ts,0):=by unfold lw; rw [if_pos hf]
   have B:Zq (uz ts=(be 1 ts.length++cz ts,0)):=by unfold uz; rw [if_neg hl,if_pos hf]; rfl
   rw [h1];clear h1 hf;have N:(S (be 1 ts.length)).size=1:=by rw [ai,bq]
   have O:=ai (cz ts);have F:Zq (S (be 1 ts.length)++S (cz ts)=S (be 1 ts.length++cz ts)):=gm _ _;go_wp2_with (go_at_call 191; refine (put_any 1 ts.length (by omega) (by omega) _).mono ?_);rintro e w2 ⟨rfl,I⟩;have J:Zq (Below W.heap.size W w2):=A.o.trans (I.mono A.o.size);clear I;go_wp2_with fail;rw [F.o];go_wp2_with fail;go_ret2;rw [B.o];exact ⟨rfl,J.o⟩
  ·
   have h1:(lw ts)=([],6):=by unfold lw; rw [if_neg hf]
   have B:Zq (uz ts=([],6)):=by unfold uz; rw [if_neg hl,if_neg hf]; rfl
   rw [h1];clear h1 hf;go_wp2_with fail;go_ret2;rw [B.o];exact ⟨rfl,A.o⟩
def afk (most:Int) (l:List UInt8):List UInt8×Nat×Nat :=
 if l.length < 2 then ([],0,3) else if most < (val (l.take 2):Int) then ([],0,6) else if l.length < 2+val (l.take 2) then ([],0,3) else ((l.drop 2).take (val (l.take 2)),2+val (l.take 2),0)
theorem aq6 (n:Nat) (l:List UInt8) (h1:1<=n) (h7:n<=7):dh (n:Int) ⟨l,0⟩=if l.length < n then (0,⟨l,3⟩) else (val (l.take n),⟨l.drop n,0⟩):=by
 have A:ed (n:Int) ⟨l,0⟩=if l.length < n then ([],⟨l,3⟩) else (l.take n,⟨l.drop n,0⟩):=by
  unfold ed;rw [if_neg (by simp),if_neg (by omega)]
  by_cases h:l.length < n
  . rw [if_pos h,if_pos (by simpa using h)]
  . rw [if_neg h,if_neg (by simpa using h)]; simp
 unfold dh;rw [if_neg (by simp),if_neg (by omega),A]
 split <;> rfl
theorem ag3 (most:Int) (l:List UInt8):iw most ⟨l,0⟩=((afk most l).1,⟨l.drop (afk most l).2.1,(afk most l).2.2⟩):=by
 rw [ab0 most _ (by simp)];have A:=aq6 2 l (by omega) (by omega);rw [show dh 2 ⟨l,0⟩=_ from A];unfold afk
 by_cases h2:l.length < 2
 ·
  rw [if_pos h2,if_pos h2];have:dm (decide (most < ((0:Nat):Int))) ⟨l,3⟩=⟨l,3⟩:=acs _ (by simp);simp only [this];have:ed ((0:Nat):Int) ⟨l,3⟩=([],⟨l,3⟩):=by unfold ed; rw [if_pos (by simp)]
  rw [this]; simp
 ·
  rw [if_neg h2,if_neg h2];simp only;generalize hx:val (l.take 2)=x
  by_cases hm:most < (x:Int)
  ·
   rw [decide_eq_true hm,if_pos hm];have:dm true ⟨l.drop 2,0⟩=⟨l.drop 2,6⟩:=by unfold dm; rw [if_pos ⟨rfl,rfl⟩]
   rw [this];have:ed (x:Int) ⟨l.drop 2,6⟩=([],⟨l.drop 2,6⟩):=by unfold ed; rw [if_pos (by simp)]
   rw [this]; simp
  ·
   rw [decide_eq_false hm,if_neg hm,xc]
   have B:ed (x:Int) ⟨l.drop 2,0⟩=if l.length < 2+x then ([],⟨l.drop 2,3⟩) else ((l.drop 2).take x,⟨l.drop (2+x),0⟩):=by
    unfold ed;rw [if_neg (by simp),if_neg (show ¬ (x:Int) < 0 by omega)]
    by_cases hs:l.length < 2+x
    . rw [if_pos hs,if_pos (show ((l.drop 2).length:Int) < x by rw [List.length_drop]; omega)]
    . rw [if_neg hs,if_neg (show ¬ ((l.drop 2).length:Int) < x by rw [List.length_drop]; omega)]; simp
   rw [B]
   by_cases hs:l.length < 2+x
   . rw [if_pos hs,if_pos hs,if_pos (by simp)]; simp
   . rw [if_neg hs,if_neg hs,if_neg (by simp)]
theorem xg (m x:Nat) (rest:List UInt8) (h1:1<=m) (h7:m<=7) (hx:x < 256 ^ m):dh (m:Int) ⟨be m x++rest,0⟩=(x,⟨rest,0⟩):=by
 have A:=bq m x
 have B:ed (m:Int) ⟨be m x++rest,0⟩=(be m x,⟨rest,0⟩):=by
  unfold ed;rw [if_neg (by simp),if_neg (by omega),if_neg (by simp [A]; omega)];simp [A]
 unfold dh;rw [if_neg (by simp),if_neg (by omega),B,aob,Nat.mod_eq_of_lt hx]
theorem jq (t:List UInt8):(ik t).length=t.length+2:=by unfold ik; rw [List.length_append,bq]; omega
theorem aak (t:List UInt8) (ts:List (List UInt8)):cz (t :: ts)=ik t++cz ts:=by unfold cz; simp
theorem ai1 (most:Int) (t rest:List UInt8) (h:t.length<=65535) (hm:(t.length:Int)<=most):afk most (ik t++rest)=(t,2+t.length,0):=by
 have A:(ik t++rest).length=t.length+2+rest.length:=by rw [List.length_append,jq]
 have B:(ik t++rest).take 2=be 2 t.length:=by
  unfold ik; rw [List.append_assoc,List.take_append_of_le_length (by rw [bq]; omega),List.take_of_length_le (by rw [bq]; omega)]
 have hd:(ik t++rest).drop 2=t++rest:=by
  unfold ik; rw [List.append_assoc];have:=bq 2 t.length;rw [List.drop_append,List.drop_of_length_le (by omega),this]; simp
 have E:val (be 2 t.length)=t.length:=by rw [aob]; exact Nat.mod_eq_of_lt (by omega)
 unfold afk;rw [B,E,A,hd,if_neg (by omega),if_neg (by omega),if_neg (by omega)];simp
theorem zh (most:Int) (t rest:List UInt8) (h:t.length<=65535) (hm:(t.length:Int)<=most):iw most ⟨ik t++rest,0⟩=(t,⟨rest,0⟩):=by
 rw [ag3,ai1 most t rest h hm]
 have:(ik t++rest).drop (2+t.length)=rest:=by
  rw [List.drop_append,List.drop_of_length_le (by rw [jq]; omega),jq,show 2+t.length - (t.length+2)=0 by omega]; rfl
 simp only [this]
theorem age (most:Int) (rest:List UInt8):∀ A:List (List UInt8),(∀ t∈A,t.length<=65535/\(t.length:Int)<=most)->bi most A.length ⟨cz A++rest,0⟩=(A,⟨rest,0⟩):=by
 intro A
 induction A with
 | nil=>intro _; rfl
 | cons t A ih =>
   intro h;have h0:=h t (List.mem_cons_self ..);have B:=zh most t (cz A++rest) h0.1 h0.2;rw [aak,List.append_assoc];show ((iw most _).1 :: (bi most A.length (iw most _).2).1,(bi most A.length (iw most _).2).2)=_;rw [B];simp only;rw [ih (λt E=>h t (List.mem_cons_of_mem _ E))]
theorem alx (n:Nat) (rest:List UInt8) (h:n<=255):dh 1 ⟨be 1 n++rest,0⟩=(n,⟨rest,0⟩):=xg 1 n rest (by omega) (by omega) (by omega)
theorem ai2 (many most:Int) (rest:List UInt8) (ts:List (List UInt8)) (hl:ts.length<=255) (hm:(ts.length:Int)<=many) (h:∀ t∈ts,t.length<=65535/\(t.length:Int)<=most) :
 um many most ⟨be 1 ts.length++cz ts++rest,0⟩=(ts,⟨rest,0⟩):=by
 rw [ady _ _ _ (by simp),List.append_assoc,alx _ _ hl];simp only;rw [decide_eq_false (by omega),xc,age most rest ts h,if_neg (by simp)]
end OctW
namespace CrcMath
def poly:BitVec 32:=0xEDB88320#32
def zy (x:BitVec 32):BitVec 32:=if x.getLsbD 0 then (x >>> 1) ^^^ poly else x >>> 1
def steps:Nat->BitVec 32->BitVec 32
 | 0,x=>x
 | n+1,x=>steps n (zy x)
theorem aa2 (m n:Nat) (x:BitVec 32):steps (m+n) x=steps n (steps m x):=by
 induction m generalizing x with
 | zero=>simp [steps]
 | succ m ih=>rw [Nat.succ_add]; simp only [steps]; exact ih _
theorem ac9 (n:Nat) (x:BitVec 32):steps (n+1) x=zy (steps n x):=by
 rw [aa2]; rfl
theorem aoc (x y:BitVec 32) (n:Nat):(x ^^^ y) >>> n=(x >>> n) ^^^ (y >>> n):=by
 ext i hi; simp
theorem ai3 (p a b:BitVec 32):(a ^^^ p) ^^^ (b ^^^ p)=a ^^^ b:=by
 ext i hi; simp; cases a[i] <;> cases b[i] <;> cases p[i] <;> rfl
theorem aly (x y:BitVec 32):zy (x ^^^ y)=zy x ^^^ zy y:=by
 unfold zy;rw [BitVec.getLsbD_xor,aoc]
 cases x.getLsbD 0 <;> cases y.getLsbD 0 <;> simp
 . ac_rfl
 . ac_rfl
 . exact (ai3 _ _ _).symm
theorem yo (n:Nat) (x y:BitVec 32):steps n (x ^^^ y)=steps n x ^^^ steps n y:=by
 induction n generalizing x y with
 | zero=>rfl
 | succ n ih=>simp only [steps,aly]; exact ih _ _
theorem alz (n:Nat) (x:BitVec 32) (h:∀ i,i < n->x.getLsbD i=false):steps n x=x >>> n:=by
 induction n generalizing x with
 | zero=>simp [steps]
 | succ n ih =>
   have h0:zy x=x >>> 1:=by unfold zy; rw [h 0 (by omega)]; simp
   simp only [steps,h0];rw [ih]
   . ext i A; simp; congr 1; omega
   . intro i A; simp; exact h _ (by omega)
def ext (b:BitVec 8):BitVec 32:=b.setWidth 32
theorem aq7 (k:Nat) (x:BitVec 32) (h:∀ i,32 - k<=i->x.getLsbD i=false):(x <<< k) >>> k=x:=by
 ext i hi
 simp;rw [<- BitVec.getLsbD_eq_getElem hi]
 by_cases h2:k+i < 32
 . simp [h2]
 . simp [h2,h i (by omega)]
theorem tq (n k:Nat) (x:BitVec 32) (h:∀ i,32 - k<=i->x.getLsbD i=false):steps (k+n) (x <<< k)=steps n x:=by
 rw [aa2,alz k (x <<< k) (by intro i A; simp; intro _ B; omega),aq7 k x h]
theorem aod (b:BitVec 8) (i:Nat) (hi:8<=i):(ext b).getLsbD i=false:=by
 simp [ext]; intro _; exact BitVec.getLsbD_of_ge _ _ hi
def tab (k:Nat) (b:BitVec 8):BitVec 32:=steps (8 * (k+1)) (ext b)
def upd (r:BitVec 32) (b:BitVec 8):BitVec 32:=steps 8 (r ^^^ ext b)
def reg (r:BitVec 32) (l:List UInt8):BitVec 32:=l.foldl (λr b=>upd r b.toBitVec) r
theorem abl (r:BitVec 32) (a b:List UInt8):reg r (a++b)=reg (reg r a) b:=List.foldl_append ..
theorem aoe (r:BitVec 32) (a:UInt8) (b:List UInt8):reg r (a :: b)=reg (upd r a.toBitVec) b:=rfl
theorem aq8 (r:BitVec 32):reg r []=r:=rfl
theorem ad3 (w:BitVec 32):steps 8 w=tab 0 (w.setWidth 8) ^^^ (w >>> 8):=by
 have h:w=ext (w.setWidth 8) ^^^ ((w >>> 8) <<< 8):=by
  ext i A; simp [ext]
  by_cases h:i < 8
  . simp [h,A]
  . simp [h]
    rw [show 8+(i - 8)=i from by omega]; simp [A]
 have B:steps 8 ((w >>> 8) <<< 8)=w >>> 8:=by
  have:=tq 0 8 (w >>> 8) (by intro i A; simp; exact BitVec.getLsbD_of_ge _ _ (by omega))
  simpa [steps] using this
 conv=>lhs; rw [h]
 rw [yo,B]; rfl
theorem aof (k:Nat) (b:BitVec 8):tab (k+1) b=tab 0 ((tab k b).setWidth 8) ^^^ (tab k b >>> 8):=by
 rw [<- ad3]; unfold tab; rw [<- aa2]; rfl
theorem as8 (r:BitVec 32) (b:BitVec 8):upd r b=tab 0 (r.setWidth 8 ^^^ b) ^^^ (r >>> 8):=by
 unfold upd; rw [ad3];congr 1
 . congr 1; ext i hi; simp [ext]
 . ext i hi; simp [ext]
def aal (a b c d:BitVec 8):BitVec 32:=ext a ||| ext b <<< 8 ||| ext c <<< 16 ||| ext d <<< 24
theorem afl (a b c d:BitVec 8):aal a b c d=ext a ^^^ ext b <<< 8 ^^^ ext c <<< 16 ^^^ ext d <<< 24:=by
 unfold aal
 ext i hi
 simp [ext]
 by_cases h1:i < 8
 . simp [h1,show i < 16 from by omega,show i < 24 from by omega]
 ·
  by_cases h2:i < 16
  . simp [h1,h2,show i < 24 from by omega,BitVec.getLsbD_of_ge a i (by omega)]
  . by_cases h3:i < 24
    . simp [h1,h2,h3,BitVec.getLsbD_of_ge a i (by omega),BitVec.getLsbD_of_ge b (i - 8) (by omega)]
    . simp [h1,h2,h3,BitVec.getLsbD_of_ge a i (by omega),BitVec.getLsbD_of_ge b (i - 8) (by omega),BitVec.getLsbD_of_ge c (i - 16) (by omega)]
theorem aog (y:BitVec 32):y=aal (y.setWidth 8) ((y >>> 8).setWidth 8) ((y >>> 16).setWidth 8) ((y >>> 24).setWidth 8):=by
 unfold aal
 ext i hi
 simp [ext]
 by_cases h1:i < 8
 . simp [h1,hi,show i < 16 from by omega,show i < 24 from by omega]
 ·
  by_cases h2:i < 16
  . simp [h1,h2,show i < 24 from by omega,show i - 8 < 8 from by omega,show 8+(i - 8)=i from by omega,hi]
  . by_cases h3:i < 24
    . simp [h1,h2,h3,show ¬ i - 8 < 8 from by omega,show i - 16 < 8 from by omega,show 16+(i - 16)=i from by omega,hi]
    . simp [h1,h2,h3,show ¬ i - 8 < 8 from by omega,show ¬ i - 16 < 8 from by omega,show i - 24 < 8 from by omega,show 24+(i - 24)=i from by omega,hi]
theorem adp (k:Nat) (hk:k<=24) (b:BitVec 8):∀ i,32 - k<=i->(ext b).getLsbD i=false:=λi A=>aod b i (by omega)
theorem ae9 (a b c d:BitVec 8):steps 32 (aal a b c d)=tab 3 a ^^^ tab 2 b ^^^ tab 1 c ^^^ tab 0 d:=by
 rw [afl,yo,yo,yo];have h1:steps 32 (ext b <<< 8)=tab 2 b:=tq 24 8 (ext b) (adp 8 (by omega) b);have A:steps 32 (ext c <<< 16)=tab 1 c:=tq 16 16 (ext c) (adp 16 (by omega) c);have B:steps 32 (ext d <<< 24)=tab 0 d:=tq 8 24 (ext d) (adp 24 (by omega) d);rw [h1,A,B]; rfl
theorem ad4 (k:Nat) (hk:k<=24) (r:BitVec 32) (b:BitVec 8):upd (steps k r) b=steps (k+8) (r ^^^ ext b <<< k):=by
 unfold upd;have h:=tq 0 k (ext b) (adp k hk b);simp only [Nat.add_zero,steps] at h;rw [aa2 k 8,yo k,h]
theorem aq9 (x:BitVec 32) (a b c d:BitVec 8) :
 upd (upd (upd (upd x a) b) c) d=tab 3 ((x ^^^ aal a b c d).setWidth 8) ^^^ tab 2 (((x ^^^ aal a b c d) >>> 8).setWidth 8) ^^^ tab 1 (((x ^^^ aal a b c d) >>> 16).setWidth 8) ^^^ tab 0 (((x ^^^ aal a b c d) >>> 24).setWidth 8):=by
 rw [<- ae9,<- aog,afl];rw [show upd x a=steps 8 (x ^^^ ext a) from rfl,ad4 8 (by omega),ad4 16 (by omega),ad4 24 (by omega)];congr 1;simp only [BitVec.xor_assoc]
/-! a turned byte shows -/
/-! the sum is linear -/
def sum (l:List UInt8):BitVec 32 := ~~~ reg (BitVec.allOnes 32) l
def be4 (n:Nat):List UInt8:=[UInt8.ofNat (n / 16777216),UInt8.ofNat (n / 65536),UInt8.ofNat (n / 256),UInt8.ofNat n]
def aj (l:List UInt8):List UInt8:=be4 (sum l).toNat++l
theorem ada (l:List UInt8):(aj l).drop 4=l:=rfl
theorem jr (l:List UInt8):(aj l).length=4+l.length:=by simp [aj,be4]; omega
end CrcMath
namespace NameMath
open Go.RowKit OctMath
def nk (n:Nat):Bool:=(decide (97<=n) && decide (n<=122)) || (decide (48<=n) && decide (n<=57)) || n == 45
def nu (c:UInt8):Bool:=nk c.toNat
def fu (l:List UInt8):Bool:=decide (1<=l.length) && decide (l.length<=16) && l.all nu
def iq (l:List UInt8):Bool:=fu l && decide (l.length<=8)
theorem afm (n:Nat) (h:128<=n):nk n=false:=by
 unfold nk;rw [decide_eq_false (show ¬ n<=122 by omega),decide_eq_false (show ¬ n<=57 by omega),Bool.and_false,Bool.and_false];exact beq_eq_false_iff_ne.2 (by omega)
theorem asy (l:List UInt8) (i:Nat) (h:i < l.length):(S l).get! i=l[i]:=by
 show (l.toArray)[i]! = _;simp [h]
theorem decode_ascii (l:List UInt8) (i:Nat) (h:i < l.length) (hb:l[i].toNat < 128):Utf8.decode (S l) i=(l[i].toNat,1):=by
 unfold Utf8.decode;simp only [Nat.add_zero,asy l i h,if_pos hb]
theorem ai4 (l:List UInt8) (i:Nat) (h:i < l.length) (hb:¬ l[i].toNat < 128):128<=(Utf8.decode (S l) i).1:=by
 unfold Utf8.decode;simp only [Nat.add_zero,asy l i h,if_neg hb];have A:128<=Utf8.runeError:=by decide
 (repeat' split) <;> first | exact A | (simp only []; omega) | (rename_i hc; simp only [Bool.and_eq_true,decide_eq_true_eq] at hc; have:=hc.1; simp only []; omega)
theorem ag4 (l:List UInt8):∀ f pos:Nat,l.length<=pos+f->(Lib.idxFuncFrom (λn=>!nk n) true (S l) f pos = -1↔(l.drop pos).all nu=true)
 | 0,pos,h=>by
   rw [List.drop_of_length_le (by omega)];exact ⟨λ_=>rfl,λ_=>rfl⟩
 | f+1,pos,h=>by
   unfold Lib.idxFuncFrom;rw [ai]
   by_cases hp:pos < l.length
   ·
    rw [if_pos hp,List.drop_eq_getElem_cons hp,List.all_cons]
    by_cases hb:l[pos].toNat < 128
    ·
     rw [decode_ascii l pos hp hb];simp only [];have A:nu l[pos]=nk l[pos].toNat:=rfl;rw [A]
     cases nk l[pos].toNat with
     | true =>
       rw [if_neg (by simp),Bool.true_and];exact ag4 l f (pos+1) (by omega)
     | false =>
       rw [if_pos (by simp),Bool.false_and];exact ⟨λh=>by omega,λh=>by simp at h⟩
    . have h1:=afm _ (ai4 l pos hp hb)
      have B:nu l[pos]=false:=afm _ (by omega);rw [h1,B,if_pos (by simp),Bool.false_and];exact ⟨λh=>by omega,λh=>by simp at h⟩
   . rw [if_neg hp,List.drop_of_length_le (by omega)]
     exact ⟨λ_=>rfl,λ_=>rfl⟩
theorem as9 (l:List UInt8):decide (Lib.idxFunc (λn=>!nk n) true (S l) < (0:Int))=l.all nu:=by
 have h:=ag4 l (S l).size 0 (by rw [ai]; omega);rw [List.drop_zero] at h;have A:=Lib.idxFunc_range (λn=>!nk n) true (S l);have B:Lib.idxFunc (λn=>!nk n) true (S l)=Lib.idxFuncFrom (λn=>!nk n) true (S l) (S l).size 0:=rfl;rw [<- B] at h
 cases hb:l.all nu with
 | true=>rw [hb] at h; rw [h.2 rfl]; rfl
 | false =>
   rw [hb] at h
   rcases A with h1 | h1
   . exact absurd (h.1 h1) (by simp)
   . exact decide_eq_false (by omega)
theorem aoh (l:List UInt8):fu l=(decide (l≠[]) && decide (l.length<=16) && decide (Lib.idxFunc (λn=>!nk n) true (S l) < (0:Int))):=by
 rw [as9]; unfold fu;congr 2
 cases l <;> simp
def iy:List UInt8:=[37,114,101,116,114,121,37]
def zz:List UInt8:=[37,100,101,97,100,37]
def ofL (l:List UInt8):List UInt8 :=
 if (Lib.hasPrefix l iy && iq (l.drop 7))=true then l.drop 7
 else if (Lib.hasPrefix l zz && iq (l.drop 6))=true then l.drop 6 else []
def j6 (l:List UInt8):Bool:=fu l || !(ofL l).isEmpty
theorem ad5 (l:List UInt8) (h:iq l=true):l.isEmpty=false:=by
 cases l with
 | nil=>simp [iq,fu] at h
 | cons _ _=>rfl
end NameMath
namespace RecMath
open OctMath OctW NameMath
structure Msg where
 kind:Int
 queue:Int
 due:Int
 retry:Int
 ref:Int
 born:Int
 topic:List UInt8
 tag:List UInt8
 body:List UInt8
 keys:List (List UInt8)
deriving DecidableEq
def pz:Msg:=⟨0,0,0,0,0,0,[],[],[],[]⟩
def gp (n:Int):Bool:=decide (n < 0) || decide (1099511627776 < n)
def ow (c:UInt8):Bool:=decide (33<=c.toNat) && decide (c.toNat<=126)
def qx (l:List UInt8):Bool:=decide (l≠[]) && decide (l.length<=16) && l.all ow
def ara (l:List UInt8):Bool:=l.isEmpty || fu l
def bu (m:Msg):Bool:=j6 m.topic && decide (0<=m.queue) && decide (m.queue < 3) && decide (0<=m.retry) && decide (m.retry<=4) && ara m.tag && decide (m.keys.length<=3) && m.keys.all qx && decide m.keys.Nodup && decide (m.body.length<=200)
def noughts (n:Nat):List UInt8:=List.replicate n 0
def bn (m:Msg):Bool :=
 if gp m.due || gp m.ref || gp m.born then false
 else if m.kind=1 then bu m && decide (m.due=0) && decide (m.ref=0)
 else if m.kind=2\/m.kind=3 then bu m
 else if m.kind=4 then decide (m={ pz with kind:=4,ref:=m.ref,born:=m.born })
 else if m.kind=0 then decide (m.body.length<=1024) && decide (m.body=noughts m.body.length) && decide (m={ pz with body:=m.body })
 else false
def qa (n:Int):List UInt8:=if n < 3\/1024 < n then [] else 90 :: be 2 n.toNat++noughts (n.toNat - 3)
def ay (m:Msg):List UInt8 :=
 be 1 m.kind.toNat++(be 1 m.queue.toNat++(be 1 m.retry.toNat++(be 6 m.born.toNat++(be 6 m.due.toNat++(be 6 m.ref.toNat++(ik m.topic++(ik m.tag++(ik m.body++(be 1 m.keys.length++cz m.keys)))))))))
def bg (m:Msg):List UInt8:=165 :: be 2 (3+(CrcMath.aj (ay m)).length)++CrcMath.aj (ay m)
def acv (m:Msg):List UInt8×Int:=if bn m=false then ([],1) else if m.kind=0 then (if m.body.length < 3 then ([],1) else (qa m.body.length,0)) else (bg m,0)
def qm (s:List UInt8):Msg×RS :=
 let k:=dh 1 ⟨s,0⟩
 let q:=dh 1 k.2
 let rt:=dh 1 q.2
 let b:=dh 6 rt.2
 let d:=dh 6 b.2
 let rf:=dh 6 d.2
 let t:=iw 16 rf.2
 let g:=iw 16 t.2
 let bo:=iw 200 g.2
 let ks:=um 3 16 bo.2
 (⟨k.1,q.1,d.1,rt.1,rf.1,b.1,t.1,g.1,bo.1,ks.1⟩,ks.2)
def ab2 (s:List UInt8):Bool:=decide (yl (qm s).2=0) && decide ((qm s).1.kind≠0) && bn (qm s).1
theorem afn {l:List UInt8} (h:fu l=true):l.length<=16:=by
 unfold fu at h;simp only [Bool.and_eq_true,decide_eq_true_eq] at h;exact h.1.2
theorem al0 {l:List UInt8} (h:j6 l=true):l.length<=16:=by
 unfold j6 at h;rw [Bool.or_eq_true] at h
 rcases h with h | h
 . exact afn h
 ·
  have A:∀ l:List UInt8,iq l=true->l.length<=8:=λl h=>by
   unfold iq at h;simp only [Bool.and_eq_true,decide_eq_true_eq] at h;exact h.2
  unfold ofL at h
  split at h
  . rename_i h1
    have:=A _ (Bool.and_eq_true_iff.1 h1).2;rw [List.length_drop] at this; omega
  ·
   split at h
   . rename_i h1
     have:=A _ (Bool.and_eq_true_iff.1 h1).2;rw [List.length_drop] at this; omega
   . cases h
theorem tu {m:Msg} (h:bn m=true) (h0:m.kind≠0):(0<=m.due/\m.due<=1099511627776)/\(0<=m.ref/\m.ref<=1099511627776)/\(0<=m.born/\m.born<=1099511627776)/\(1<=m.kind/\m.kind<=4)/\(0<=m.queue/\m.queue < 3)/\(0<=m.retry/\m.retry<=4) /\
 m.topic.length<=16/\m.tag.length<=16/\m.body.length<=200/\m.keys.length<=3/\(∀ t∈m.keys,t.length<=16):=by
 have hc:∀ m:Msg,bu m=true->(0<=m.queue/\m.queue < 3)/\(0<=m.retry/\m.retry<=4)/\m.topic.length<=16/\m.tag.length<=16/\m.body.length<=200/\m.keys.length<=3/\(∀ t∈m.keys,t.length<=16):=by
  intro m h;unfold bu at h;simp only [Bool.and_eq_true,decide_eq_true_eq] at h;obtain ⟨⟨⟨⟨⟨⟨⟨⟨⟨h1,E⟩,F⟩,I⟩,J⟩,A⟩,M⟩,N⟩,_⟩,O⟩:=h;refine ⟨⟨E,F⟩,⟨I,J⟩,al0 h1,?_,O,M,λt B=>?_⟩
  ·
   unfold ara at A;rw [Bool.or_eq_true] at A
   rcases A with A | A
   . rw [List.isEmpty_iff.1 A]; exact Nat.zero_le _
   . exact afn A
  . have:=List.all_eq_true.1 N t B
    unfold qx at this;simp only [Bool.and_eq_true,decide_eq_true_eq] at this;exact this.1.2
 unfold bn at h
 split at h
 . cases h
 ·
  rename_i hb
  simp only [gp,Bool.or_eq_true,decide_eq_true_eq,not_or,Int.not_lt] at hb;obtain ⟨⟨⟨d1,d2⟩,R,U⟩,X,Y⟩:=hb;refine ⟨⟨d1,d2⟩,⟨R,U⟩,⟨X,Y⟩,?_⟩
  split at h
  . rename_i hk
    simp only [Bool.and_eq_true] at h;exact ⟨by omega,hc m h.1.1⟩
  ·
   split at h
   . rename_i hk
     exact ⟨by omega,hc m h⟩
   ·
    split at h
    . rename_i hk
      have h:=of_decide_eq_true h;rw [h];refine ⟨by show (1:Int)<=4/\(4:Int)<=4; omega,⟨by show (0:Int)<=0; omega,by show (0:Int) < 3; omega⟩,⟨by show (0:Int)<=0; omega,by show (0:Int)<=4; omega⟩,?_⟩;exact ⟨Nat.zero_le _,Nat.zero_le _,Nat.zero_le _,Nat.zero_le _,λt B=>by cases B⟩
    . first
      | cases h
      | (rw [if_neg h0] at h; cases h)
theorem ai5 (m:Msg) (h:bn m=true) (h0:m.kind≠0):qm (ay m)=(m,⟨[],0⟩):=by
 obtain ⟨⟨d1,d2⟩,⟨E,R⟩,⟨F,U⟩,⟨k1,Y⟩,⟨I,Z⟩,⟨J,t2⟩,l1,l2,l3,l4,M⟩:=tu h h0;have A:∀ (x:Int) (rest:List UInt8),0<=x->x<=4->dh 1 ⟨be 1 x.toNat++rest,0⟩=(x.toNat,⟨rest,0⟩):=λx rest h1 X=>xg 1 x.toNat rest (by omega) (by omega) (by omega)
 have B:∀ (x:Int) (rest:List UInt8),0<=x->x<=1099511627776->dh 6 ⟨be 6 x.toNat++rest,0⟩=(x.toNat,⟨rest,0⟩):=λx rest h1 X=>xg 6 x.toNat rest (by omega) (by omega) (by omega)
 unfold qm ay;simp only;rw [A m.kind _ (by omega) (by omega)];simp only;rw [A m.queue _ I (by omega)];simp only;rw [A m.retry _ J (by omega)];simp only;rw [B m.born _ F U];simp only;rw [B m.due _ d1 d2];simp only;rw [B m.ref _ E R];simp only;rw [zh 16 m.topic _ (by omega) (by omega)];simp only;rw [zh 16 m.tag _ (by omega) (by omega)];simp only;rw [zh 200 m.body _ (by omega) (by omega)];simp only;have N:=ai2 3 16 [] m.keys (by omega) (by omega) (λt O=>⟨by have:=M t O; omega,by have:=M t O; omega⟩);rw [List.append_nil] at N;rw [N];simp only;rw [Int.toNat_of_nonneg (by omega:0<=m.kind),Int.toNat_of_nonneg I,Int.toNat_of_nonneg d1,Int.toNat_of_nonneg J,Int.toNat_of_nonneg E,Int.toNat_of_nonneg F]
theorem zi {m:Msg} (h:bn m=true) (h0:m.kind≠0):(ay m).length<=500:=by
 obtain ⟨_,_,_,_,_,_,l1,l2,F,I,B⟩:=tu h h0
 have hk:∀ ks:List (List UInt8),(∀ t∈ks,t.length<=16)->(cz ks).length<=18 * ks.length:=by
  intro ks
  induction ks with
  | nil=>intro _; exact Nat.le_refl _
  | cons t ks ih =>
    intro A;rw [aak,List.length_append,jq,List.length_cons];have:=A t (.head _);have:=ih λt E=>A t (.tail _ E)
    omega
 have:=hk m.keys B;unfold ay;simp only [List.length_append,bq,jq];omega
theorem xh {m:Msg} (h:bn m=true) (h0:m.kind≠0):(bg m).length=7+(ay m).length/\(bg m).length<=507:=by
 have:=zi h h0
 have e:(bg m).length=7+(ay m).length:=by
  unfold bg;rw [List.cons_append,List.length_cons,List.length_append,bq,CrcMath.jr]; omega
 exact ⟨e,by omega⟩
theorem ad6 {n:Nat} (h:3<=n) (h2:n<=1024):(qa (n:Int)).length=n:=by
 unfold qa;rw [if_neg (by omega),Int.toNat_natCast];simp only [List.cons_append,List.length_cons,List.length_append,bq,noughts,List.length_replicate];omega
end RecMath
namespace TapeMath
open OctMath RecMath
inductive Item where
 | one (m:Msg)
 | fill (n:Nat)
def Item.bytes:Item->List UInt8
 | .one m=>bg m
 | .fill n=>qa (n:Int)
def Item.ok:Item->Prop
 | .one m=>bn m=true/\m.kind≠0
 | .fill n=>3<=n/\n<=1024
def Item.len (x:Item):Nat:=x.bytes.length
def gz (l:List Item):List UInt8:=l.flatMap Item.bytes
theorem oh (x:Item) (l:List Item):gz (x :: l)=x.bytes++gz l:=rfl
theorem ve (a b:List Item):gz (a++b)=gz a++gz b:=by unfold gz; simp
theorem Item.len_ge {x:Item} (h:x.ok):3<=x.len/\x.len<=1024:=by
 cases x with
 | one m =>
   have:=xh h.1 h.2;show 3<=(bg m).length/\(bg m).length<=1024;omega
 | fill n =>
   have:=ad6 h.1 h.2;show 3<=(qa (n:Int)).length/\(qa (n:Int)).length<=1024;rw [this]; exact h
def arb (p:Nat) (x:Item):Prop:=x.ok/\p % 1024+x.len<=1024/\3<=1024 - (p+x.len) % 1024
def Fits:Nat->List Item->Prop
 | _,[]=>True
 | p,x :: l=>arb p x/\Fits (p+x.len) l
def jc:Nat->List Item->List (Nat×Msg)
 | _,[]=>[]
 | p,.one m :: l=>(p,m) :: jc (p+(Item.one m).len) l
 | p,.fill n :: l=>jc (p+(Item.fill n).len) l
theorem Fits.app {p:Nat} {a b:List Item}:Fits p (a++b)↔Fits p a/\Fits (p+(gz a).length) b:=by
 induction a generalizing p with
 | nil=>simp [Fits,gz]
 | cons x a ih =>
   rw [List.cons_append];show arb p x/\Fits (p+x.len) (a++b)↔(arb p x/\Fits (p+x.len) a)/\Fits (p+(gz (x :: a)).length) b;rw [ih,oh,List.length_append];unfold Item.len;rw [Nat.add_assoc,and_assoc]
theorem ad7 {p:Nat} {a b:List Item}:jc p (a++b)=jc p a++jc (p+(gz a).length) b:=by
 induction a generalizing p with
 | nil=>simp [jc,gz]
 | cons x a ih =>
   rw [List.cons_append,oh,List.length_append]
   cases x with
   | one m =>
     show (p,m) :: jc (p+(Item.one m).len) (a++b)=((p,m) :: jc (p+(Item.one m).len) a)++_;rw [ih,List.cons_append];unfold Item.len;rw [Nat.add_assoc]
   | fill n =>
     show jc (p+(Item.fill n).len) (a++b)=jc (p+(Item.fill n).len) a++_;rw [ih];unfold Item.len;rw [Nat.add_assoc]
theorem ad8 {p:Nat} {its:List Item} (hf:Fits p its) {id:Nat} {m:Msg} (h:(id,m)∈jc p its) :
 ∃ a c,its=a++Item.one m :: c/\id=p+(gz a).length:=by
 induction its generalizing p with
 | nil=>cases h
 | cons x l ih =>
   unfold Fits at hf
   cases x with
   | one m' =>
     unfold jc at h
     rcases List.mem_cons.1 h with h | h
     . cases h
       exact ⟨[],l,rfl,rfl⟩
     . obtain ⟨a,c,A,B⟩:=ih hf.2 h
       exact ⟨.one m' :: a,c,by rw [A]; rfl,by rw [B,oh,List.length_append]; unfold Item.len; omega⟩
   | fill n =>
     unfold jc at h;obtain ⟨a,c,A,B⟩:=ih hf.2 h;exact ⟨.fill n :: a,c,by rw [A]; rfl,by rw [B,oh,List.length_append]; unfold Item.len; omega⟩
theorem Fits.at {p:Nat} {a c:List Item} {x:Item} (h:Fits p (a++x :: c)):arb (p+(gz a).length) x:=by
 have:=(Fits.app.1 h).2;exact this.1
theorem al1 {a c:List Item} {x:Item} (k:Nat) (hk:x.len<=k):((gz (a++x :: c)).drop (gz a).length).take k=x.bytes++(gz c).take (k - x.len):=by
 rw [ve,List.drop_left,oh,List.take_append];unfold Item.len at *
 rw [List.take_of_length_le hk]
theorem ol {p:Nat} {its:List Item} (hf:Fits p its):(∀ q∈jc p its,p<=q.1)/\((jc p its).map (·.1)).Pairwise (· < ·):=by
 induction its generalizing p with
 | nil=>exact ⟨λq A=>(by cases A),List.Pairwise.nil⟩
 | cons x l ih =>
   unfold Fits at hf;obtain ⟨h1,B⟩:=ih hf.2;have E:=(Item.len_ge hf.1.1).1
   cases x with
   | one m =>
     unfold jc;refine ⟨λq A=>?_,?_⟩
     . rcases List.mem_cons.1 A with rfl | A
       . exact Nat.le_refl _
       . have:=h1 q A; omega
     . rw [List.map_cons,List.pairwise_cons]
       refine ⟨λu hu=>?_,B⟩;obtain ⟨q,A,rfl⟩:=List.mem_map.1 hu;have:=h1 q A;show p < q.1;omega
   | fill n =>
     unfold jc;exact ⟨λq A=>by have:=h1 q A; omega,B⟩
theorem ak0 {p:Nat} {its:List Item} (hf:Fits p its) {id:Nat} {m:Msg} (h:(id,m)∈jc p its):id+(bg m).length<=p+(gz its).length/\p<=id:=by
 obtain ⟨a,c,rfl,rfl⟩:=ad8 hf h;rw [ve,oh,List.length_append,List.length_append];show _+(Item.one m).bytes.length<=_/\_;omega
def jl (e:Nat):Nat:=1024 - e % 1024
def pg (e:Nat) (m:Msg):List Item:=if jl e=(bg m).length\/(bg m).length+3<=jl e then [.one m] else [.fill (jl e),.one m]
theorem ad9 {p:Nat} {its:List Item} (hf:Fits p its) (hp:p % 1024=0):3<=jl (p+(gz its).length):=by
 rcases List.eq_nil_or_concat its with rfl | ⟨l,x,rfl⟩
 . unfold jl gz
   show 3<=1024 - (p+0) % 1024;omega
 ·
  rw [List.concat_eq_append] at *
  have:=(Fits.at (c:=[]) hf).2.2;rw [ve,oh,List.length_append,List.length_append];show 3<=1024 - (p+((gz l).length+(x.len+0))) % 1024;rw [Nat.add_zero,<- Nat.add_assoc];exact this
theorem al2 {p:Nat} {its:List Item} (hf:Fits p its) (hp:p % 1024=0) {m:Msg} (hm:bn m=true) (h0:m.kind≠0):Fits p (its++pg (p+(gz its).length) m):=by
 refine Fits.app.2 ⟨hf,?_⟩;have E:=ad9 hf hp;generalize p+(gz its).length=e at *
 have F:=xh hm h0;unfold pg
 split
 ·
  rename_i h
  refine ⟨⟨⟨hm,h0⟩,?_,?_⟩,trivial⟩
  . show e % 1024+(bg m).length<=1024
    unfold jl at *; omega
  . show 3<=1024 - (e+(bg m).length) % 1024
    unfold jl at *; omega
 ·
  rename_i h
  have A:(Item.fill (jl e)).len=jl e:=ad6 E (by unfold jl; omega);have B:(e+jl e) % 1024=0:=by unfold jl; omega
  refine ⟨⟨⟨E,by unfold jl; omega⟩,?_,?_⟩,⟨⟨hm,h0⟩,?_,?_⟩,trivial⟩
  . rw [A]; unfold jl; omega
  . rw [A,B]; omega
  . rw [A,B]
    show 0+(bg m).length<=1024;omega
  . rw [A]
    show 3<=1024 - (e+jl e+(bg m).length) % 1024;omega
end TapeMath
namespace SegW
open OctMath
def aea:List UInt8:=[48,49,50,51,52,53,54,55,56,57]
def dig (c:UInt8):Bool:=decide (48<=c.toNat) && decide (c.toNat<=57)
theorem aoi (c:UInt8):aea.contains c=dig c:=by
 have h:∀ k:Fin 256,aea.contains (UInt8.ofNat k.val)=dig (UInt8.ofNat k.val):=by decide +kernel
 have:=h ⟨c.toNat,c.toNat_lt⟩
 simpa using this
def j4 (a:Nat):List UInt8->Nat
 | []=>a
 | c :: l=>j4 (a * 10+(c.toNat - 48)) l
def aam (l:List UInt8):Nat:=j4 0 l
theorem aan (a b:List UInt8) (x:Nat):j4 x (a++b)=j4 (j4 x a) b:=by
 induction a generalizing x with
 | nil=>rfl
 | cons c a ih=>exact ih _
theorem aeb:∀ (l:List UInt8) (a:Nat),(∀ c∈l,dig c=true)->j4 a l < (a+1) * 10 ^ l.length
 | [],a,_=>by show a < _; simp
 | c :: l,a,h=>by
   have hc:=h c (.head _);simp [dig] at hc;have:=aeb l (a * 10+(c.toNat - 48)) (λx A=>h x (.tail _ A));show j4 (a * 10+(c.toNat - 48)) l < _;rw [List.length_cons,Nat.pow_succ];refine Nat.lt_of_lt_of_le this ?_;rw [Nat.mul_comm (10 ^ l.length) 10,<- Nat.mul_assoc];exact Nat.mul_le_mul_right _ (by omega)
theorem ak1 (l:List UInt8) (h:∀ c∈l,dig c=true):aam l < 10 ^ l.length:=by have:=aeb l 0 h; rw [Nat.zero_add,Nat.one_mul] at this; exact this
theorem afo:∀ (l:List UInt8) (a:Nat),(∀ c∈l,dig c=true)->j4 a l < 1000000000000000->Lib.parseUint10 a l=.ok (j4 a l)
 | [],a,_,_=>rfl
 | c :: l,a,h,hn=>by
   have hc:=h c (.head _);simp [dig] at hc
   have A:∀ (l:List UInt8) (a:Nat),a<=j4 a l:=by
    intro l
    induction l with
    | nil=>intro a; exact Nat.le_refl _
    | cons c l ih=>intro a; exact Nat.le_trans (by omega) (ih _)
   have h1:=A l (a * 10+(c.toNat - 48));have B:j4 (a * 10+(c.toNat - 48)) l < 1000000000000000:=hn;unfold Lib.parseUint10;rw [if_pos ⟨hc.1,hc.2⟩,if_neg (by omega),if_neg (by omega)];exact afo l _ (λx E=>h x (.tail _ E)) B
theorem aoj (l:List UInt8) (h0:l≠[]) (h8:l.length<=8) (h:∀ c∈l,dig c=true):Lib.atoiAll l=.ok (aam l:Int):=by
 match l,h0 with
 | c :: r,_ =>
   have hc:=h c (.head _);simp [dig] at hc;have A:=ak1 _ h;have hp:10 ^ (c :: r).length<=10 ^ 8:=Nat.pow_le_pow_right (by omega) h8;have B:aam (c :: r) < 100000000:=Nat.lt_of_lt_of_le A hp;unfold Lib.atoiAll;simp only;rw [if_neg (by omega:¬ (c.toNat=43\/c.toNat=45))]
   have E:Lib.parseMag (c :: r)=.ok (aam (c :: r)):=by
    unfold Lib.parseMag;rw [if_neg (by simp)];exact afo _ 0 h (Nat.lt_of_lt_of_le B (by omega))
   rw [E];simp only;rw [if_neg (by omega),if_neg (by omega),if_neg (by omega)]
theorem afp (l:List UInt8):Lib.trimS l aea=[]↔∀ c∈l,dig c=true:=by
 unfold Lib.trimS Lib.trimLeftS Lib.trimRightS;have h1:(λx=>aea.contains x)=dig:=funext aoi;simp only [h1]
 have B:∀ m:List UInt8,m.dropWhile dig=[]↔∀ c∈m,dig c=true:=by
  intro m
  induction m with
  | nil=>simp
  | cons x m ih =>
    by_cases A:dig x=true
    ·
     rw [List.dropWhile_cons_of_pos A,ih]
     constructor
     . intro h c hc
       rcases List.mem_cons.1 hc with rfl | hc
       . exact A
       . exact h c hc
     . intro h c hc; exact h c (.tail _ hc)
    . rw [List.dropWhile_cons_of_neg A]
      constructor
      . intro h; cases h
      . intro h; exact absurd (h x (.head _)) A
 rw [B]
 constructor
 ·
  intro h
  have key:∀ (m:List UInt8),(∀ c∈(m.dropWhile dig),dig c=true)->∀ c∈m,dig c=true:=by
   intro m
   induction m with
   | nil=>intro _ c hc; cases hc
   | cons x m ih =>
     intro E c hc
     by_cases A:dig x=true
     . rw [List.dropWhile_cons_of_pos A] at E
       rcases List.mem_cons.1 hc with rfl | hc
       . exact A
       . exact ih E c hc
     . rw [List.dropWhile_cons_of_neg A] at E
       exact E c hc
  intro c hc;exact key l.reverse (λx A=>h x (by simpa using A)) c (by simpa using hc)
 . intro h c hc
   have F:c∈l.reverse.dropWhile dig:=by simpa using hc
   exact h c (by simpa using (List.dropWhile_suffix dig).subset F)
/-! names -/
def aec (n:Nat):List UInt8:=List.replicate (8 - (Lib.decDigits n).length) 48++Lib.decDigits n
def ah (head:List UInt8) (n:Nat):List UInt8:=head++aec n
def placeL (head name:List UInt8):Option Nat :=
 if Lib.hasPrefix name head=true/\(name.drop head.length).length=8/\∀ c∈name.drop head.length,dig c=true then some (aam (name.drop head.length)) else none
theorem arc (u:Nat):∀ c∈Lib.decDigits u,dig c=true:=by
 induction u using Nat.strongRecOn with
 | _ u ih =>
   rw [Lib.decDigits]
   by_cases h:u < 10
   . rw [dif_pos h]
     intro c hc;obtain rfl:=List.mem_singleton.1 hc;have A:∀ k:Fin 10,dig (UInt8.ofNat (48+k.val))=true:=by decide +kernel
     exact A ⟨u,h⟩
   ·
    rw [dif_neg h];intro c hc
    rcases List.mem_append.1 hc with hc | hc
    . exact ih (u / 10) (by omega) c hc
    . obtain rfl:=List.mem_singleton.1 hc
      have A:∀ k:Fin 10,dig (UInt8.ofNat (48+k.val))=true:=by decide +kernel
      exact A ⟨u % 10,by omega⟩
theorem ard (u:Nat):aam (Lib.decDigits u)=u:=by
 induction u using Nat.strongRecOn with
 | _ u ih =>
   rw [Lib.decDigits];have A:∀ k:Fin 10,(UInt8.ofNat (48+k.val)).toNat=48+k.val:=by decide +kernel
   by_cases h:u < 10
   . rw [dif_pos h]
     have:=A ⟨u,h⟩;simp only at this;show 0 * 10+((UInt8.ofNat (48+u)).toNat - 48)=u;omega
   ·
    rw [dif_neg h];have:=A ⟨u % 10,by omega⟩;unfold aam at *
    rw [aan,ih (u / 10) (by omega)];show u / 10 * 10+((UInt8.ofNat (48+u % 10)).toNat - 48)=u;simp only at this;omega
theorem agf (u:Nat) (h:u<=99999999):(Lib.decDigits u).length<=8:=by
 have key:∀ (k u:Nat),u < 10 ^ (k+1)->(Lib.decDigits u).length<=k+1:=by
  intro k
  induction k with
  | zero=>intro u hu; rw [Lib.decDigits_one (by simpa using hu)]; simp
  | succ k ih =>
    intro u hu;rw [Lib.decDigits]
    by_cases h:u < 10
    . rw [dif_pos h]; simp
    . rw [dif_neg h,List.length_append]
      have:=ih (u / 10) (by rw [Nat.pow_succ] at hu; omega);show _+1<=_;omega
 exact key 7 u (by omega)
theorem adq (u:Nat) (h:u<=99999999):(aec u).length=8:=by
 have:=agf u h;unfold aec;rw [List.length_append,List.length_replicate];omega
theorem arf (u:Nat):∀ c∈aec u,dig c=true:=by
 intro c hc;unfold aec at hc
 rcases List.mem_append.1 hc with hc | hc
 . obtain rfl:=List.eq_of_mem_replicate hc; rfl
 . exact arc u c hc
theorem agh (u:Nat):aam (aec u)=u:=by
 unfold aec aam
 have h0:∀ k,j4 0 (List.replicate k 48)=0:=by
  intro k
  induction k with
  | zero=>rfl
  | succ k ih=>exact ih
 rw [aan,h0];exact ard u
theorem prefix_append (a b:List UInt8):Lib.hasPrefix (a++b) a=true:=by unfold Lib.hasPrefix; rw [List.isPrefixOf_iff_prefix]; exact List.prefix_append a b
theorem aed (head:List UInt8) (u:Nat) (h:u<=99999999):placeL head (ah head u)=some u:=by
 unfold placeL ah;have hd:(head++aec u).drop head.length=aec u:=List.drop_left;rw [hd,if_pos ⟨prefix_append _ _,adq u h,arf u⟩,agh]
theorem ab3 {head:List UInt8} {u v:Nat} (h:ah head u=ah head v):u=v:=by
 have:=List.append_cancel_left h;rw [<- agh u,this,agh]
theorem ag5 {head name:List UInt8} {n:Nat} (h:placeL head name=some n):n<=99999999:=by
 unfold placeL at h
 split at h
 ·
  rename_i h1
  injection h with h
  have:=ak1 _ h1.2.2;rw [h1.2.1] at this;omega
 . cases h
end SegW
end Go.Proofs.YtkjocpjikcepkaaGreatDoor
namespace Go.Proofs
open Go.Shelf
def Tryz.lays169_ren:Go.Shelf.Ren:=⟨λ| 169=>192 | n=>n,λ| 70=>282 | 9=>9 | 0=>0 | 72=>284 | 37=>237 | 127=>323 | 3=>3 | 5=>5 | n=>n,λ| n=>n⟩
theorem Tryz.lays169:Go.Proofs.Lays.n169 Tryz.prog Tryz.lays169_ren:={
 mixed:=by kernel_rfl
 f169:=Tryz.func192.trans (congrArg some (by kernel_rfl))
 t0:=Tryz.underlying0
 a0:=Tryz.isAgg0
 z0:=Tryz.sizeOf0
 v0:=Tryz.zeroValue0
 t3:=Tryz.underlying3
 a3:=Tryz.isAgg3
 z3:=Tryz.sizeOf3
 v3:=Tryz.zeroValue3
 t9:=Tryz.underlying9
 a9:=Tryz.isAgg9
 z9:=Tryz.sizeOf9
 v9:=Tryz.zeroValue9
 t37:=Tryz.underlying237
 a37:=Tryz.isAgg237
 z37:=Tryz.sizeOf237
 v37:=Tryz.zeroValue237
 t70:=Tryz.underlying282
 a70:=Tryz.isAgg282
 z70:=Tryz.sizeOf282
 v70:=Tryz.zeroValue282
 t72:=Tryz.underlying284
 a72:=Tryz.isAgg284
 z72:=Tryz.sizeOf284
 v72:=Tryz.zeroValue284
 t127:=Tryz.underlying323
 a127:=Tryz.isAgg323
 z127:=Tryz.sizeOf323
 v127:=Tryz.zeroValue323 }
theorem Tryz.Builder_Extra_169:Builder.Extra Tryz.prog Tryz.lays169_ren:={
 sizeBuilder:=by kernel_rfl
 liesBuilder:=by kernel_rfl
 t5:=Tryz.underlying5
 a5:=Tryz.isAgg5
 z5:=Tryz.sizeOf5
 v5:=Tryz.zeroValue5
 infoByte:=by kernel_rfl
 cellsByte:=by kernel_rfl
 sizeByte:=by kernel_rfl
 neB5:=by decide }
open Go.RowKit in
theorem Tryz.Builder_String_any (B b:Nat) (l:List UInt8) (w:World) (h:Lib.IsBuilder 284 5 B b (Lib.byteCells l) w) (hBw:B<=w.heap.size) :
 Calls Tryz.prog 192 #[.pointer (some ⟨b,0,none⟩)] w λe w'=>e=.returned (.string ⟨l.toArray⟩)/\Below B w w':=Any.Builder_String_any Tryz.lays169 Tryz.Builder_Extra_169 B b l w h hBw
def Tryz.lays160_ren:Go.Shelf.Ren:=⟨λ| 160=>268 | 232=>282 | 231=>281 | 227=>283 | 234=>285 | 233=>284 | 236=>287 | 235=>286 | 228=>299 | 271=>302 | 151=>301 | 197=>300 | 120=>313 | 152=>312 | 260=>311 | 137=>317 | 119=>318 | 224=>319 | 225=>320 | 217=>323 | 266=>324 | n=>n,λ| 9=>9 | 4=>4 | 3=>3 | 5=>5 | 117=>370 | 116=>369 | 0=>0 | 124=>373 | 21=>21 | 105=>382 | 46=>169 | 119=>399 | 139=>402 | 138=>401 | n=>n,λ| 3=>6 | 4=>7 | n=>n⟩
theorem Tryz.lays160:Go.Proofs.Lays.n160 Tryz.prog Tryz.lays160_ren:={
 mixed:=by kernel_rfl
 f119:=Tryz.func318.trans (congrArg some (by kernel_rfl))
 f120:=Tryz.func313.trans (congrArg some (by kernel_rfl))
 f137:=Tryz.func317.trans (congrArg some (by kernel_rfl))
 f151:=Tryz.func301.trans (congrArg some (by kernel_rfl))
 f152:=Tryz.func312.trans (congrArg some (by kernel_rfl))
 f160:=Tryz.func268.trans (congrArg some (by kernel_rfl))
 f197:=Tryz.func300.trans (congrArg some (by kernel_rfl))
 f217:=Tryz.func323.trans (congrArg some (by kernel_rfl))
 f224:=Tryz.func319.trans (congrArg some (by kernel_rfl))
 f225:=Tryz.func320.trans (congrArg some (by kernel_rfl))
 f227:=Tryz.func283.trans (congrArg some (by kernel_rfl))
 f228:=Tryz.func299.trans (congrArg some (by kernel_rfl))
 f231:=Tryz.func281.trans (congrArg some (by kernel_rfl))
 f232:=Tryz.func282.trans (congrArg some (by kernel_rfl))
 f233:=Tryz.func284.trans (congrArg some (by kernel_rfl))
 f234:=Tryz.func285.trans (congrArg some (by kernel_rfl))
 f235:=Tryz.func286.trans (congrArg some (by kernel_rfl))
 f236:=Tryz.func287.trans (congrArg some (by kernel_rfl))
 f260:=Tryz.func311.trans (congrArg some (by kernel_rfl))
 f266:=Tryz.func324.trans (congrArg some (by kernel_rfl))
 f271:=Tryz.func302.trans (congrArg some (by kernel_rfl))
 t0:=Tryz.underlying0
 a0:=Tryz.isAgg0
 z0:=Tryz.sizeOf0
 v0:=Tryz.zeroValue0
 t3:=Tryz.underlying3
 a3:=Tryz.isAgg3
 z3:=Tryz.sizeOf3
 v3:=Tryz.zeroValue3
 t4:=Tryz.underlying4
 a4:=Tryz.isAgg4
 z4:=Tryz.sizeOf4
 v4:=Tryz.zeroValue4
 t5:=Tryz.underlying5
 a5:=Tryz.isAgg5
 z5:=Tryz.sizeOf5
 v5:=Tryz.zeroValue5
 t9:=Tryz.underlying9
 a9:=Tryz.isAgg9
 z9:=Tryz.sizeOf9
 v9:=Tryz.zeroValue9
 t21:=Tryz.underlying21
 a21:=Tryz.isAgg21
 z21:=Tryz.sizeOf21
 v21:=Tryz.zeroValue21
 t46:=Tryz.underlying169
 a46:=Tryz.isAgg169
 z46:=Tryz.sizeOf169
 v46:=Tryz.zeroValue169
 t105:=Tryz.underlying382
 a105:=Tryz.isAgg382
 z105:=Tryz.sizeOf382
 v105:=Tryz.zeroValue382
 t116:=Tryz.underlying369
 a116:=Tryz.isAgg369
 z116:=Tryz.sizeOf369
 t117:=Tryz.underlying370
 a117:=Tryz.isAgg370
 z117:=Tryz.sizeOf370
 v117:=Tryz.zeroValue370
 t119:=Tryz.underlying399
 a119:=Tryz.isAgg399
 z119:=Tryz.sizeOf399
 t124:=Tryz.underlying373
 a124:=Tryz.isAgg373
 z124:=Tryz.sizeOf373
 v124:=Tryz.zeroValue373
 t138:=Tryz.underlying401
 a138:=Tryz.isAgg401
 z138:=Tryz.sizeOf401
 v138:=Tryz.zeroValue401
 t139:=Tryz.underlying402
 a139:=Tryz.isAgg402
 z139:=Tryz.sizeOf402
 v139:=Tryz.zeroValue402
 g3:=by kernel_rfl
 g4:=by kernel_rfl }
def Tryz.lays210_ren:Go.Shelf.Ren:=⟨λ| 210=>193 | 206=>229 | n=>n,λ| 9=>9 | 4=>4 | 3=>3 | n=>n,λ| n=>n⟩
def Tryz.lays103_ren:Go.Shelf.Ren:=⟨λ| 103=>128 | 210=>193 | 206=>229 | n=>n,λ| 9=>9 | 4=>4 | 24=>138 | 3=>3 | n=>n,λ| n=>n⟩
theorem Tryz.lays103:Go.Proofs.Lays.n103 Tryz.prog Tryz.lays103_ren:={
 mixed:=by kernel_rfl
 f103:=Tryz.func128.trans (congrArg some (by kernel_rfl))
 f206:=Tryz.func229.trans (congrArg some (by kernel_rfl))
 f210:=Tryz.func193.trans (congrArg some (by kernel_rfl))
 t3:=Tryz.underlying3
 a3:=Tryz.isAgg3
 z3:=Tryz.sizeOf3
 v3:=Tryz.zeroValue3
 t4:=Tryz.underlying4
 a4:=Tryz.isAgg4
 z4:=Tryz.sizeOf4
 v4:=Tryz.zeroValue4
 t9:=Tryz.underlying9
 a9:=Tryz.isAgg9
 z9:=Tryz.sizeOf9
 v9:=Tryz.zeroValue9
 t24:=Tryz.underlying138
 a24:=Tryz.isAgg138
 z24:=Tryz.sizeOf138
 v24:=Tryz.zeroValue138 }
open Go.RowKit in
theorem Tryz.strings_CutPrefix (s p:ByteArray) (w:World) :
 Calls Tryz.prog 128 #[.string s,.string p] w λe w'=>e=.returned (.tuple #[.string ⟨(Lib.trimPrefix s.data.toList p.data.toList).toArray⟩,.bool (Lib.hasPrefix s.data.toList p.data.toList)])/\w'=w:=Any.strings_CutPrefix Tryz.lays103 s p w
def Tryz.lays172_ren:Go.Shelf.Ren:=⟨λ| 172=>269 | 244=>288 | 245=>289 | 247=>303 | 279=>304 | 280=>305 | 281=>306 | 282=>307 | 287=>314 | 316=>315 | 171=>210 | 205=>316 | 321=>321 | 322=>322 | 243=>242 | 246=>266 | 283=>277 | 284=>278 | 285=>279 | 286=>280 | 129=>264 | 317=>295 | 318=>296 | 319=>297 | 320=>298 | 337=>309 | 338=>310 | n=>n,λ| 9=>9 | 3=>3 | 75=>286 | 76=>287 | 4=>4 | 5=>5 | 167=>385 | 37=>237 | 0=>0 | 85=>386 | 2=>2 | 168=>388 | 53=>331 | 175=>392 | 46=>169 | 210=>395 | 127=>323 | 145=>407 | 143=>405 | 21=>21 | 171=>363 | 173=>365 | 212=>379 | 51=>275 | 20=>20 | 213=>380 | 232=>397 | 233=>398 | 80=>290 | n=>n,λ| 15=>2 | 16=>3 | 17=>1 | 18=>4 | 19=>5 | n=>n⟩
def Tryz.laysM246_ren:Go.Shelf.Ren:=⟨λ| 246=>266 | 283=>277 | 284=>278 | 285=>279 | 286=>280 | 129=>264 | 317=>295 | 318=>296 | 319=>297 | 320=>298 | 337=>309 | 338=>310 | n=>n,λ| 2=>2 | 3=>3 | 9=>9 | 4=>4 | 171=>363 | 0=>0 | 53=>331 | 37=>237 | 5=>5 | 173=>365 | 212=>379 | 51=>275 | 20=>20 | 213=>380 | 46=>169 | 232=>397 | 233=>398 | n=>n,λ| 17=>1 | 18=>4 | 19=>5 | n=>n⟩
def Tryz.laysM243_ren:Go.Shelf.Ren:=⟨λ| 243=>242 | 246=>266 | 283=>277 | 284=>278 | 285=>279 | 286=>280 | 129=>264 | 317=>295 | 318=>296 | 319=>297 | 320=>298 | 337=>309 | 338=>310 | n=>n,λ| 3=>3 | 9=>9 | 2=>2 | 4=>4 | 171=>363 | 0=>0 | 53=>331 | 37=>237 | 5=>5 | 173=>365 | 212=>379 | 51=>275 | 20=>20 | 213=>380 | 46=>169 | 232=>397 | 233=>398 | n=>n,λ| 17=>1 | 18=>4 | 19=>5 | n=>n⟩
def Tryz.laysM171_ren:Go.Shelf.Ren:=⟨λ| 171=>210 | 243=>242 | 246=>266 | 283=>277 | 284=>278 | 285=>279 | 286=>280 | 129=>264 | 317=>295 | 318=>296 | 319=>297 | 320=>298 | 337=>309 | 338=>310 | n=>n,λ| 3=>3 | 9=>9 | 2=>2 | 4=>4 | 171=>363 | 0=>0 | 53=>331 | 37=>237 | 5=>5 | 173=>365 | 212=>379 | 51=>275 | 20=>20 | 213=>380 | 46=>169 | 232=>397 | 233=>398 | n=>n,λ| 17=>1 | 18=>4 | 19=>5 | n=>n⟩
theorem Tryz.laysM171:Go.Proofs.LaysM.n171 Tryz.prog Tryz.laysM171_ren:={
 mixed:=by kernel_rfl
 f129:=Tryz.func264.trans (congrArg some (by kernel_rfl))
 f171:=Tryz.func210.trans (congrArg some (by kernel_rfl))
 f243:=Tryz.func242.trans (congrArg some (by kernel_rfl))
 f246:=Tryz.func266.trans (congrArg some (by kernel_rfl))
 f283:=Tryz.func277.trans (congrArg some (by kernel_rfl))
 f284:=Tryz.func278.trans (congrArg some (by kernel_rfl))
 f285:=Tryz.func279.trans (congrArg some (by kernel_rfl))
 f286:=Tryz.func280.trans (congrArg some (by kernel_rfl))
 f317:=Tryz.func295.trans (congrArg some (by kernel_rfl))
 f318:=Tryz.func296.trans (congrArg some (by kernel_rfl))
 f319:=Tryz.func297.trans (congrArg some (by kernel_rfl))
 f320:=Tryz.func298.trans (congrArg some (by kernel_rfl))
 f337:=Tryz.func309.trans (congrArg some (by kernel_rfl))
 f338:=Tryz.func310.trans (congrArg some (by kernel_rfl))
 t0:=Tryz.underlying0
 a0:=Tryz.isAgg0
 z0:=Tryz.sizeOf0
 v0:=Tryz.zeroValue0
 t2:=Tryz.underlying2
 a2:=Tryz.isAgg2
 z2:=Tryz.sizeOf2
 v2:=Tryz.zeroValue2
 t3:=Tryz.underlying3
 a3:=Tryz.isAgg3
 z3:=Tryz.sizeOf3
 v3:=Tryz.zeroValue3
 t4:=Tryz.underlying4
 a4:=Tryz.isAgg4
 z4:=Tryz.sizeOf4
 v4:=Tryz.zeroValue4
 t5:=Tryz.underlying5
 a5:=Tryz.isAgg5
 z5:=Tryz.sizeOf5
 v5:=Tryz.zeroValue5
 t9:=Tryz.underlying9
 a9:=Tryz.isAgg9
 z9:=Tryz.sizeOf9
 v9:=Tryz.zeroValue9
 t20:=Tryz.underlying20
 a20:=Tryz.isAgg20
 z20:=Tryz.sizeOf20
 v20:=Tryz.zeroValue20
 t37:=Tryz.underlying237
 a37:=Tryz.isAgg237
 z37:=Tryz.sizeOf237
 v37:=Tryz.zeroValue237
 t46:=Tryz.underlying169
 a46:=Tryz.isAgg169
 z46:=Tryz.sizeOf169
 v46:=Tryz.zeroValue169
 t51:=Tryz.underlying275
 a51:=Tryz.isAgg275
 z51:=Tryz.sizeOf275
 v51:=Tryz.zeroValue275
 t53:=Tryz.underlying331
 a53:=Tryz.isAgg331
 z53:=Tryz.sizeOf331
 v53:=Tryz.zeroValue331
 t171:=Tryz.underlying363
 a171:=Tryz.isAgg363
 z171:=Tryz.sizeOf363
 v171:=Tryz.zeroValue363
 t173:=Tryz.underlying365
 a173:=Tryz.isAgg365
 z173:=Tryz.sizeOf365
 v173:=Tryz.zeroValue365
 t212:=Tryz.underlying379
 a212:=Tryz.isAgg379
 z212:=Tryz.sizeOf379
 v212:=Tryz.zeroValue379
 t213:=Tryz.underlying380
 a213:=Tryz.isAgg380
 z213:=Tryz.sizeOf380
 t232:=Tryz.underlying397
 a232:=Tryz.isAgg397
 z232:=Tryz.sizeOf397
 v232:=Tryz.zeroValue397
 t233:=Tryz.underlying398
 a233:=Tryz.isAgg398
 z233:=Tryz.sizeOf398
 v233:=Tryz.zeroValue398
 g17:=by kernel_rfl
 g18:=by kernel_rfl
 g19:=by kernel_rfl
 i0:=by kernel_rfl
 i2:=by kernel_rfl
 i3:=by kernel_rfl
 i4:=by kernel_rfl
 i5:=by kernel_rfl
 i9:=by kernel_rfl
 i20:=by kernel_rfl
 i37:=by kernel_rfl
 i46:=by kernel_rfl
 i51:=by kernel_rfl
 i53:=by kernel_rfl
 i171:=by kernel_rfl
 i173:=by kernel_rfl
 i212:=by kernel_rfl
 i232:=by kernel_rfl
 i233:=by kernel_rfl
 m17:=by kernel_rfl
 m18:=by kernel_rfl
 m19:=by kernel_rfl }
open Go.RowKit Go.Sort Go.Lib in
theorem Tryz.strconv_Itoa (n:Int) (h0 : -9223372036854775808<=n) (h1:n<=9223372036854775807) (w:World) (htab:Lib.TabIs Tryz.prog w "internal/strconv.uint64pow10" .u64 Lib.pow10Tab) :
 Calls Tryz.prog 210 #[.int .i64 n] w λe w'=>e=.returned (.string ⟨(Lib.itoa n).toArray⟩)/\∃ k os,w'=grow (w.drewN k) os:=Any.strconv_Itoa Tryz.laysM171 n h0 h1 w htab
def Tryz.laysC172_ren:Go.Shelf.Ren:=⟨λ| 172=>269 | 244=>288 | 245=>289 | 247=>303 | 279=>304 | 280=>305 | 281=>306 | 282=>307 | 287=>314 | 316=>315 | 171=>210 | 205=>316 | 321=>321 | 322=>322 | 243=>242 | 246=>266 | 283=>277 | 284=>278 | 285=>279 | 286=>280 | 129=>264 | 317=>295 | 318=>296 | 319=>297 | 320=>298 | 337=>309 | 338=>310 | n=>n,λ| 9=>9 | 3=>3 | 75=>286 | 76=>287 | 4=>4 | 5=>5 | 167=>385 | 37=>237 | 0=>0 | 85=>386 | 2=>2 | 168=>388 | 53=>331 | 175=>392 | 46=>169 | 210=>395 | 127=>323 | 145=>407 | 143=>405 | 21=>21 | 171=>363 | 173=>365 | 212=>379 | 51=>275 | 20=>20 | 213=>380 | 232=>397 | 233=>398 | 80=>290 | n=>n,λ| 15=>2 | 16=>3 | 17=>1 | 18=>4 | 19=>5 | n=>n⟩
theorem Tryz.laysC172:Go.Proofs.LaysC.n172 Tryz.prog Tryz.laysC172_ren:={
 mixed:=by kernel_rfl
 f129:=Tryz.func264.trans (congrArg some (by kernel_rfl))
 f171:=Tryz.func210.trans (congrArg some (by kernel_rfl))
 f172:=Tryz.func269.trans (congrArg some (by kernel_rfl))
 f205:=Tryz.func316.trans (congrArg some (by kernel_rfl))
 f243:=Tryz.func242.trans (congrArg some (by kernel_rfl))
 f244:=Tryz.func288.trans (congrArg some (by kernel_rfl))
 f245:=Tryz.func289.trans (congrArg some (by kernel_rfl))
 f246:=Tryz.func266.trans (congrArg some (by kernel_rfl))
 f247:=Tryz.func303.trans (congrArg some (by kernel_rfl))
 f279:=Tryz.func304.trans (congrArg some (by kernel_rfl))
 f280:=Tryz.func305.trans (congrArg some (by kernel_rfl))
 f281:=Tryz.func306.trans (congrArg some (by kernel_rfl))
 f282:=Tryz.func307.trans (congrArg some (by kernel_rfl))
 f283:=Tryz.func277.trans (congrArg some (by kernel_rfl))
 f284:=Tryz.func278.trans (congrArg some (by kernel_rfl))
 f285:=Tryz.func279.trans (congrArg some (by kernel_rfl))
 f286:=Tryz.func280.trans (congrArg some (by kernel_rfl))
 f287:=Tryz.func314.trans (congrArg some (by kernel_rfl))
 f316:=Tryz.func315.trans (congrArg some (by kernel_rfl))
 f317:=Tryz.func295.trans (congrArg some (by kernel_rfl))
 f318:=Tryz.func296.trans (congrArg some (by kernel_rfl))
 f319:=Tryz.func297.trans (congrArg some (by kernel_rfl))
 f320:=Tryz.func298.trans (congrArg some (by kernel_rfl))
 f321:=Tryz.func321.trans (congrArg some (by kernel_rfl))
 f322:=Tryz.func322.trans (congrArg some (by kernel_rfl))
 f337:=Tryz.func309.trans (congrArg some (by kernel_rfl))
 f338:=Tryz.func310.trans (congrArg some (by kernel_rfl))
 t0:=Tryz.underlying0
 a0:=Tryz.isAgg0
 z0:=Tryz.sizeOf0
 v0:=Tryz.zeroValue0
 t2:=Tryz.underlying2
 a2:=Tryz.isAgg2
 z2:=Tryz.sizeOf2
 v2:=Tryz.zeroValue2
 t3:=Tryz.underlying3
 a3:=Tryz.isAgg3
 z3:=Tryz.sizeOf3
 v3:=Tryz.zeroValue3
 t4:=Tryz.underlying4
 a4:=Tryz.isAgg4
 z4:=Tryz.sizeOf4
 v4:=Tryz.zeroValue4
 t5:=Tryz.underlying5
 a5:=Tryz.isAgg5
 z5:=Tryz.sizeOf5
 v5:=Tryz.zeroValue5
 t9:=Tryz.underlying9
 a9:=Tryz.isAgg9
 z9:=Tryz.sizeOf9
 v9:=Tryz.zeroValue9
 t20:=Tryz.underlying20
 a20:=Tryz.isAgg20
 z20:=Tryz.sizeOf20
 v20:=Tryz.zeroValue20
 t21:=Tryz.underlying21
 a21:=Tryz.isAgg21
 z21:=Tryz.sizeOf21
 v21:=Tryz.zeroValue21
 t37:=Tryz.underlying237
 a37:=Tryz.isAgg237
 z37:=Tryz.sizeOf237
 v37:=Tryz.zeroValue237
 t46:=Tryz.underlying169
 a46:=Tryz.isAgg169
 z46:=Tryz.sizeOf169
 v46:=Tryz.zeroValue169
 t51:=Tryz.underlying275
 a51:=Tryz.isAgg275
 z51:=Tryz.sizeOf275
 v51:=Tryz.zeroValue275
 t53:=Tryz.underlying331
 a53:=Tryz.isAgg331
 z53:=Tryz.sizeOf331
 v53:=Tryz.zeroValue331
 t75:=Tryz.underlying286
 a75:=Tryz.isAgg286
 z75:=Tryz.sizeOf286
 v75:=Tryz.zeroValue286
 t76:=Tryz.underlying287
 a76:=Tryz.isAgg287
 z76:=Tryz.sizeOf287
 v76:=Tryz.zeroValue287
 t85:=Tryz.underlying386
 a85:=Tryz.isAgg386
 z85:=Tryz.sizeOf386
 v85:=Tryz.zeroValue386
 t127:=Tryz.underlying323
 a127:=Tryz.isAgg323
 z127:=Tryz.sizeOf323
 v127:=Tryz.zeroValue323
 t143:=Tryz.underlying405
 a143:=Tryz.isAgg405
 z143:=Tryz.sizeOf405
 v143:=Tryz.zeroValue405
 t145:=Tryz.underlying407
 a145:=Tryz.isAgg407
 z145:=Tryz.sizeOf407
 v145:=Tryz.zeroValue407
 t167:=Tryz.underlying385
 a167:=Tryz.isAgg385
 z167:=Tryz.sizeOf385
 v167:=Tryz.zeroValue385
 t168:=Tryz.underlying388
 a168:=Tryz.isAgg388
 z168:=Tryz.sizeOf388
 v168:=Tryz.zeroValue388
 t171:=Tryz.underlying363
 a171:=Tryz.isAgg363
 z171:=Tryz.sizeOf363
 v171:=Tryz.zeroValue363
 t173:=Tryz.underlying365
 a173:=Tryz.isAgg365
 z173:=Tryz.sizeOf365
 v173:=Tryz.zeroValue365
 t175:=Tryz.underlying392
 a175:=Tryz.isAgg392
 z175:=Tryz.sizeOf392
 v175:=Tryz.zeroValue392
 t210:=Tryz.underlying395
 a210:=Tryz.isAgg395
 z210:=Tryz.sizeOf395
 v210:=Tryz.zeroValue395
 t212:=Tryz.underlying379
 a212:=Tryz.isAgg379
 z212:=Tryz.sizeOf379
 v212:=Tryz.zeroValue379
 t213:=Tryz.underlying380
 a213:=Tryz.isAgg380
 z213:=Tryz.sizeOf380
 t232:=Tryz.underlying397
 a232:=Tryz.isAgg397
 z232:=Tryz.sizeOf397
 v232:=Tryz.zeroValue397
 t233:=Tryz.underlying398
 a233:=Tryz.isAgg398
 z233:=Tryz.sizeOf398
 v233:=Tryz.zeroValue398
 g15:=by kernel_rfl
 g16:=by kernel_rfl
 g17:=by kernel_rfl
 g18:=by kernel_rfl
 g19:=by kernel_rfl
 t80:=Tryz.underlying290
 a80:=Tryz.isAgg290
 z80:=Tryz.sizeOf290
 v80:=Tryz.zeroValue290
 i0:=by kernel_rfl
 i2:=by kernel_rfl
 i3:=by kernel_rfl
 i4:=by kernel_rfl
 i5:=by kernel_rfl
 i9:=by kernel_rfl
 i20:=by kernel_rfl
 i21:=by kernel_rfl
 i37:=by kernel_rfl
 i46:=by kernel_rfl
 i51:=by kernel_rfl
 i53:=by kernel_rfl
 i75:=by kernel_rfl
 i76:=by kernel_rfl
 i80:=by kernel_rfl
 i85:=by kernel_rfl
 i127:=by kernel_rfl
 i143:=by kernel_rfl
 i145:=by kernel_rfl
 i167:=by kernel_rfl
 i168:=by kernel_rfl
 i171:=by kernel_rfl
 i173:=by kernel_rfl
 i175:=by kernel_rfl
 i210:=by kernel_rfl
 i212:=by kernel_rfl
 i232:=by kernel_rfl
 i233:=by kernel_rfl
 m15:=by kernel_rfl
 m16:=by kernel_rfl
 m17:=by kernel_rfl
 m18:=by kernel_rfl
 m19:=by kernel_rfl
 c0:=by kernel_rfl
 c2:=by kernel_rfl
 c3:=by kernel_rfl
 c4:=by kernel_rfl
 c5:=by kernel_rfl
 c9:=by kernel_rfl
 c20:=by kernel_rfl
 c21:=by kernel_rfl
 c37:=by kernel_rfl
 c46:=by kernel_rfl
 c51:=by kernel_rfl
 c53:=by kernel_rfl
 c75:=by kernel_rfl
 c76:=by kernel_rfl
 c80:=by kernel_rfl
 c85:=by kernel_rfl
 c127:=by kernel_rfl
 c143:=by kernel_rfl
 c145:=by kernel_rfl
 c167:=by kernel_rfl
 c168:=by kernel_rfl
 c171:=by kernel_rfl
 c173:=by kernel_rfl
 c175:=by kernel_rfl
 c210:=by kernel_rfl
 c212:=by kernel_rfl
 c213:=by kernel_rfl
 c232:=by kernel_rfl
 c233:=by kernel_rfl }
open Go.RowKit in
theorem Tryz.strconv_Atoi_ok (s:ByteArray) (hmax:s.size<=9223372036854775806) (v:Int) (h:Lib.atoiAll s.data.toList=.ok v) (w:World) :
 Calls Tryz.prog 269 #[.string s] w λe w'=>e=.returned (.tuple #[.int .i64 v,.nilIface])/\(w'=w\/∃ t,w'=Lib.bytesWorld w 5 t):=Any.strconv_Atoi_ok Tryz.laysC172 s hmax v h w
def Tryz.lays190_ren:Go.Shelf.Ren:=⟨λ| 190=>195 | 125=>237 | 258=>236 | 128=>263 | 129=>264 | 302=>254 | 303=>255 | 304=>256 | 305=>257 | 306=>258 | 307=>259 | 308=>260 | 309=>261 | 310=>262 | 333=>272 | 329=>273 | 330=>274 | 334=>275 | 335=>276 | 336=>160 | 344=>294 | n=>n,λ| 31=>33 | 9=>9 | 3=>3 | 46=>169 | 0=>0 | 51=>275 | 53=>331 | 4=>4 | 183=>344 | 182=>343 | 131=>113 | 5=>5 | 218=>357 | 222=>361 | 228=>375 | 229=>376 | n=>n,λ| n=>n⟩
theorem Tryz.lays190:Go.Proofs.Lays.n190 Tryz.prog Tryz.lays190_ren:={
 mixed:=by kernel_rfl
 f125:=Tryz.func237.trans (congrArg some (by kernel_rfl))
 f128:=Tryz.func263.trans (congrArg some (by kernel_rfl))
 f129:=Tryz.func264.trans (congrArg some (by kernel_rfl))
 f190:=Tryz.func195.trans (congrArg some (by kernel_rfl))
 f258:=Tryz.func236.trans (congrArg some (by kernel_rfl))
 f302:=Tryz.func254.trans (congrArg some (by kernel_rfl))
 f303:=Tryz.func255.trans (congrArg some (by kernel_rfl))
 f304:=Tryz.func256.trans (congrArg some (by kernel_rfl))
 f305:=Tryz.func257.trans (congrArg some (by kernel_rfl))
 f306:=Tryz.func258.trans (congrArg some (by kernel_rfl))
 f307:=Tryz.func259.trans (congrArg some (by kernel_rfl))
 f308:=Tryz.func260.trans (congrArg some (by kernel_rfl))
 f309:=Tryz.func261.trans (congrArg some (by kernel_rfl))
 f310:=Tryz.func262.trans (congrArg some (by kernel_rfl))
 f329:=Tryz.func273.trans (congrArg some (by kernel_rfl))
 f330:=Tryz.func274.trans (congrArg some (by kernel_rfl))
 f333:=Tryz.func272.trans (congrArg some (by kernel_rfl))
 f334:=Tryz.func275.trans (congrArg some (by kernel_rfl))
 f335:=Tryz.func276.trans (congrArg some (by kernel_rfl))
 f336:=Tryz.func160.trans (congrArg some (by kernel_rfl))
 f344:=Tryz.func294.trans (congrArg some (by kernel_rfl))
 t0:=Tryz.underlying0
 a0:=Tryz.isAgg0
 z0:=Tryz.sizeOf0
 v0:=Tryz.zeroValue0
 t3:=Tryz.underlying3
 a3:=Tryz.isAgg3
 z3:=Tryz.sizeOf3
 v3:=Tryz.zeroValue3
 t4:=Tryz.underlying4
 a4:=Tryz.isAgg4
 z4:=Tryz.sizeOf4
 v4:=Tryz.zeroValue4
 t5:=Tryz.underlying5
 a5:=Tryz.isAgg5
 z5:=Tryz.sizeOf5
 v5:=Tryz.zeroValue5
 t9:=Tryz.underlying9
 a9:=Tryz.isAgg9
 z9:=Tryz.sizeOf9
 v9:=Tryz.zeroValue9
 t31:=Tryz.underlying33
 a31:=Tryz.isAgg33
 z31:=Tryz.sizeOf33
 v31:=Tryz.zeroValue33
 t46:=Tryz.underlying169
 a46:=Tryz.isAgg169
 z46:=Tryz.sizeOf169
 v46:=Tryz.zeroValue169
 t51:=Tryz.underlying275
 a51:=Tryz.isAgg275
 z51:=Tryz.sizeOf275
 v51:=Tryz.zeroValue275
 t53:=Tryz.underlying331
 a53:=Tryz.isAgg331
 z53:=Tryz.sizeOf331
 v53:=Tryz.zeroValue331
 t131:=Tryz.underlying113
 a131:=Tryz.isAgg113
 z131:=Tryz.sizeOf113
 v131:=Tryz.zeroValue113
 t182:=Tryz.underlying343
 a182:=Tryz.isAgg343
 z182:=Tryz.sizeOf343
 v182:=Tryz.zeroValue343
 t183:=Tryz.underlying344
 a183:=Tryz.isAgg344
 z183:=Tryz.sizeOf344
 v183:=Tryz.zeroValue344
 t218:=Tryz.underlying357
 a218:=Tryz.isAgg357
 z218:=Tryz.sizeOf357
 v218:=Tryz.zeroValue357
 t222:=Tryz.underlying361
 a222:=Tryz.isAgg361
 z222:=Tryz.sizeOf361
 v222:=Tryz.zeroValue361
 t228:=Tryz.underlying375
 a228:=Tryz.isAgg375
 z228:=Tryz.sizeOf375
 v228:=Tryz.zeroValue375
 t229:=Tryz.underlying376
 a229:=Tryz.isAgg376
 z229:=Tryz.sizeOf376
 v229:=Tryz.zeroValue376 }
open Go.Sort Go.RowKit in
theorem Tryz.slices_Sort_string (blk off cap:Nat) (ss:List (List UInt8)) (w:World) (hH:Holds encStr w blk off ss.toArray) (hblk:blk < w.heap.size) (hsz:ss.length < 4611686018427387904) :
 Calls Tryz.prog 195 #[.slice (some ⟨blk,off,none⟩) ss.length cap] w λe w' =>
  e=.returned (.tuple #[])/\∃ n os,w'=grow (putRow encStr (Sort.ahead w n) blk off (ss.mergeSort λx y=>decide (x<=y)).toArray) os:=Any.slices_Sort_string Tryz.lays190 blk off cap ss w hH hblk hsz
def Tryz.laysGw15_ren:Go.Shelf.Ren:=⟨λ| 15=>162 | 20=>219 | n=>n,λ| 9=>9 | 23=>243 | 3=>3 | 4=>4 | 0=>0 | 21=>21 | n=>n,λ| n=>n⟩
theorem Tryz.laysGw15:Go.Proofs.LaysGw.n15 Tryz.prog Tryz.laysGw15_ren:={
 mixed:=by kernel_rfl
 f15:=Tryz.func162.trans (congrArg some (by kernel_rfl))
 f20:=Tryz.func219.trans (congrArg some (by kernel_rfl))
 t0:=Tryz.underlying0
 a0:=Tryz.isAgg0
 z0:=Tryz.sizeOf0
 v0:=Tryz.zeroValue0
 i0:=by kernel_rfl
 t3:=Tryz.underlying3
 a3:=Tryz.isAgg3
 z3:=Tryz.sizeOf3
 v3:=Tryz.zeroValue3
 i3:=by kernel_rfl
 t4:=Tryz.underlying4
 a4:=Tryz.isAgg4
 z4:=Tryz.sizeOf4
 v4:=Tryz.zeroValue4
 i4:=by kernel_rfl
 t9:=Tryz.underlying9
 a9:=Tryz.isAgg9
 z9:=Tryz.sizeOf9
 v9:=Tryz.zeroValue9
 i9:=by kernel_rfl
 t21:=Tryz.underlying21
 a21:=Tryz.isAgg21
 z21:=Tryz.sizeOf21
 v21:=Tryz.zeroValue21
 i21:=by kernel_rfl
 t23:=Tryz.underlying243
 a23:=Tryz.isAgg243
 z23:=Tryz.sizeOf243
 v23:=Tryz.zeroValue243
 i23:=by kernel_rfl }
open Go.RowKit Go.Lib in
theorem Tryz.strings_IndexFunc (g:Nat) (lb:Array Value) (eg:∀ args w,(callFunc g args).run Tryz.prog w=.ok (.enter g args) w) (p:Nat->Bool) (s:ByteArray) (w:World) (hp:PredAt Tryz.prog g lb encR p w) :
 Calls Tryz.prog 162 #[.string s,.func (.func g) #[] lb] w λe w'=>e=.returned (.int .i64 (Lib.idxFunc p true s))/\Below w.heap.size w w':=Any.strings_IndexFunc Tryz.laysGw15 g lb eg p s w hp
def Tryz.lays99_ren:Go.Shelf.Ren:=⟨λ| 99=>184 | 206=>229 | n=>n,λ| 9=>9 | 4=>4 | 3=>3 | n=>n,λ| n=>n⟩
theorem Tryz.lays99:Go.Proofs.Lays.n99 Tryz.prog Tryz.lays99_ren:={
 mixed:=by kernel_rfl
 f99:=Tryz.func184.trans (congrArg some (by kernel_rfl))
 f206:=Tryz.func229.trans (congrArg some (by kernel_rfl))
 t3:=Tryz.underlying3
 a3:=Tryz.isAgg3
 z3:=Tryz.sizeOf3
 v3:=Tryz.zeroValue3
 t4:=Tryz.underlying4
 a4:=Tryz.isAgg4
 z4:=Tryz.sizeOf4
 v4:=Tryz.zeroValue4
 t9:=Tryz.underlying9
 a9:=Tryz.isAgg9
 z9:=Tryz.sizeOf9
 v9:=Tryz.zeroValue9 }
open Go.RowKit Go.Lib in
theorem Tryz.strings_HasPrefix (s p:ByteArray) (w:World) :
 Calls Tryz.prog 184 #[.string s,.string p] w λe w'=>e=.returned (.bool (Lib.hasPrefix s.data.toList p.data.toList))/\w'=w:=Any.strings_HasPrefix Tryz.lays99 s p w
def Tryz.lays105_ren:Go.Shelf.Ren:=⟨λ| 105=>151 | 212=>211 | 99=>184 | 165=>212 | 166=>190 | 170=>213 | 169=>192 | 263=>243 | 264=>244 | 206=>229 | 240=>234 | 241=>245 | 276=>253 | 277=>267 | n=>n,λ| 9=>9 | 3=>3 | 4=>4 | 20=>20 | 0=>0 | 46=>169 | 109=>303 | 5=>5 | 72=>284 | 76=>287 | 51=>275 | 146=>329 | 53=>331 | 148=>332 | 70=>282 | 37=>237 | 75=>286 | 127=>323 | 164=>340 | 80=>290 | n=>n,λ| n=>n⟩
theorem Tryz.lays105:Go.Proofs.Lays.n105 Tryz.prog Tryz.lays105_ren:={
 mixed:=by kernel_rfl
 f99:=Tryz.func184.trans (congrArg some (by kernel_rfl))
 f105:=Tryz.func151.trans (congrArg some (by kernel_rfl))
 f165:=Tryz.func212.trans (congrArg some (by kernel_rfl))
 f166:=Tryz.func190.trans (congrArg some (by kernel_rfl))
 f169:=Tryz.func192.trans (congrArg some (by kernel_rfl))
 f170:=Tryz.func213.trans (congrArg some (by kernel_rfl))
 f206:=Tryz.func229.trans (congrArg some (by kernel_rfl))
 f212:=Tryz.func211.trans (congrArg some (by kernel_rfl))
 f240:=Tryz.func234.trans (congrArg some (by kernel_rfl))
 f241:=Tryz.func245.trans (congrArg some (by kernel_rfl))
 f263:=Tryz.func243.trans (congrArg some (by kernel_rfl))
 f264:=Tryz.func244.trans (congrArg some (by kernel_rfl))
 f276:=Tryz.func253.trans (congrArg some (by kernel_rfl))
 f277:=Tryz.func267.trans (congrArg some (by kernel_rfl))
 t0:=Tryz.underlying0
 a0:=Tryz.isAgg0
 z0:=Tryz.sizeOf0
 v0:=Tryz.zeroValue0
 t3:=Tryz.underlying3
 a3:=Tryz.isAgg3
 z3:=Tryz.sizeOf3
 v3:=Tryz.zeroValue3
 t4:=Tryz.underlying4
 a4:=Tryz.isAgg4
 z4:=Tryz.sizeOf4
 v4:=Tryz.zeroValue4
 t5:=Tryz.underlying5
 a5:=Tryz.isAgg5
 z5:=Tryz.sizeOf5
 v5:=Tryz.zeroValue5
 t9:=Tryz.underlying9
 a9:=Tryz.isAgg9
 z9:=Tryz.sizeOf9
 v9:=Tryz.zeroValue9
 t20:=Tryz.underlying20
 a20:=Tryz.isAgg20
 z20:=Tryz.sizeOf20
 v20:=Tryz.zeroValue20
 t37:=Tryz.underlying237
 a37:=Tryz.isAgg237
 z37:=Tryz.sizeOf237
 v37:=Tryz.zeroValue237
 t46:=Tryz.underlying169
 a46:=Tryz.isAgg169
 z46:=Tryz.sizeOf169
 v46:=Tryz.zeroValue169
 t51:=Tryz.underlying275
 a51:=Tryz.isAgg275
 z51:=Tryz.sizeOf275
 v51:=Tryz.zeroValue275
 t53:=Tryz.underlying331
 a53:=Tryz.isAgg331
 z53:=Tryz.sizeOf331
 v53:=Tryz.zeroValue331
 t70:=Tryz.underlying282
 a70:=Tryz.isAgg282
 z70:=Tryz.sizeOf282
 v70:=Tryz.zeroValue282
 t72:=Tryz.underlying284
 a72:=Tryz.isAgg284
 z72:=Tryz.sizeOf284
 v72:=Tryz.zeroValue284
 t75:=Tryz.underlying286
 a75:=Tryz.isAgg286
 z75:=Tryz.sizeOf286
 v75:=Tryz.zeroValue286
 t76:=Tryz.underlying287
 a76:=Tryz.isAgg287
 z76:=Tryz.sizeOf287
 v76:=Tryz.zeroValue287
 t109:=Tryz.underlying303
 a109:=Tryz.isAgg303
 z109:=Tryz.sizeOf303
 v109:=Tryz.zeroValue303
 t127:=Tryz.underlying323
 a127:=Tryz.isAgg323
 z127:=Tryz.sizeOf323
 v127:=Tryz.zeroValue323
 t146:=Tryz.underlying329
 a146:=Tryz.isAgg329
 z146:=Tryz.sizeOf329
 v146:=Tryz.zeroValue329
 t148:=Tryz.underlying332
 a148:=Tryz.isAgg332
 z148:=Tryz.sizeOf332
 v148:=Tryz.zeroValue332
 t164:=Tryz.underlying340
 a164:=Tryz.isAgg340
 z164:=Tryz.sizeOf340
 v164:=Tryz.zeroValue340 }
theorem Tryz.Builder_Extra_105:Builder.Extra Tryz.prog Tryz.lays105_ren:={
 sizeBuilder:=by kernel_rfl
 liesBuilder:=by kernel_rfl
 t5:=Tryz.underlying5
 a5:=Tryz.isAgg5
 z5:=Tryz.sizeOf5
 v5:=Tryz.zeroValue5
 infoByte:=by kernel_rfl
 cellsByte:=by kernel_rfl
 sizeByte:=by kernel_rfl
 neB5:=by decide }
open Go.RowKit Go.Lib in
theorem Tryz.strings_Repeat (s:ByteArray) (c:Nat) (w:World) (hc:c<=9223372036854775807) (hlen:s.size * c<=140737488355328) :
 Calls Tryz.prog 151 #[.string s,.int .i64 c] w λe w'=>e=.returned (.string ⟨(Lib.repeatL s.data.toList c).toArray⟩)/\Below w.heap.size w w':=Any.strings_Repeat Tryz.lays105 Tryz.Builder_Extra_105 s c w hc hlen
def Tryz.lays110_ren:Go.Shelf.Ren:=⟨λ| 110=>119 | 109=>180 | n=>n,λ| 31=>33 | 9=>9 | 4=>4 | 3=>3 | 0=>0 | n=>n,λ| n=>n⟩
def Tryz.lays193_ren:Go.Shelf.Ren:=⟨λ| 193=>209 | n=>n,λ| 31=>33 | 9=>9 | 4=>4 | 3=>3 | 0=>0 | n=>n,λ| n=>n⟩
theorem Tryz.lays193:Go.Proofs.Lays.n193 Tryz.prog Tryz.lays193_ren:={
 mixed:=by kernel_rfl
 f193:=Tryz.func209.trans (congrArg some (by kernel_rfl))
 t0:=Tryz.underlying0
 a0:=Tryz.isAgg0
 z0:=Tryz.sizeOf0
 v0:=Tryz.zeroValue0
 t3:=Tryz.underlying3
 a3:=Tryz.isAgg3
 z3:=Tryz.sizeOf3
 v3:=Tryz.zeroValue3
 t4:=Tryz.underlying4
 a4:=Tryz.isAgg4
 z4:=Tryz.sizeOf4
 v4:=Tryz.zeroValue4
 t9:=Tryz.underlying9
 a9:=Tryz.isAgg9
 z9:=Tryz.sizeOf9
 v9:=Tryz.zeroValue9
 t31:=Tryz.underlying33
 a31:=Tryz.isAgg33
 z31:=Tryz.sizeOf33
 v31:=Tryz.zeroValue33 }
open Go.RowKit Go.Lib in
theorem Tryz.slices_Equal_string (b1 o1 n c b2 o2 m d:Nat) (xs ys:List ByteArray) (w:World) (hx:n<=xs.length) (hy:m<=ys.length) (hbig:n<=9223372036854775807) (hbig2:m<=9223372036854775807) (hc1:∀ j,j < xs.length->w.cell? ⟨b1,o1+j,none⟩=some (.string (xs.getD j ByteArray.empty))) (hc2:∀ j,j < ys.length->w.cell? ⟨b2,o2+j,none⟩=some (.string (ys.getD j ByteArray.empty))) :
 Calls Tryz.prog 209 #[.slice (some ⟨b1,o1,none⟩) n c,.slice (some ⟨b2,o2,none⟩) m d] w λe w'=>e=.returned (.bool (decide (xs.take n=ys.take m)))/\∃ q,w'=w.drewN q:=Any.slices_Equal_string Tryz.lays193 b1 o1 n c b2 o2 m d xs ys w hx hy hbig hbig2 hc1 hc2
open Go.RowKit Go.Lib in
theorem Tryz.slices_Equal_string_empty (a1 a2:Option Addr) (c m d:Nat) (w:World) (hbig2:m<=9223372036854775807) :
 Calls Tryz.prog 209 #[.slice a1 0 c,.slice a2 m d] w λe w'=>e=.returned (.bool (decide (m=0)))/\w'=w:=Any.slices_Equal_string_empty Tryz.lays193 a1 a2 c m d w hbig2
def Tryz.laysNm215_ren:Go.Shelf.Ren:=⟨λ| 15=>172 | n=>n,λ| 22=>25 | 3=>3 | 4=>4 | n=>n,λ| n=>n⟩
theorem Tryz.laysNm215:Go.Proofs.Lays2.n15 Tryz.prog Tryz.laysNm215_ren:={
 mixed:=by kernel_rfl
 f15:=Tryz.func172.trans (congrArg some (by kernel_rfl))
 t3:=Tryz.underlying3
 a3:=Tryz.isAgg3
 z3:=Tryz.sizeOf3
 v3:=Tryz.zeroValue3
 t4:=Tryz.underlying4
 a4:=Tryz.isAgg4
 z4:=Tryz.sizeOf4
 v4:=Tryz.zeroValue4
 t22:=Tryz.underlying25
 a22:=Tryz.isAgg25
 z22:=Tryz.sizeOf25
 v22:=Tryz.zeroValue25
 i3:=by kernel_rfl }
open Go.RowKit Go.Lib in
theorem Tryz.slices_Clone_int (b off n c:Nat) (zs:List Int) (w:World) (hz:n<=zs.length) (hbig:n * 8<=140737488355328) (hc:∀ j,j < zs.length->w.cell? ⟨b,off+j,none⟩=some (.int .i64 (zs.getD j 0))) :
 Calls Tryz.prog 172 #[.slice (some ⟨b,off,none⟩) n c] w λe w'=>∃ v',e=.returned v'/\w'.ownsRow w.heap.size 3 1 v' n ((zs.take n).map (Value.int .i64))/\v'≠.slice none 0 0/\Below w.heap.size w w':=Any.slices_Clone_int Tryz.laysNm215 b off n c zs w hz hbig hc
open Go.RowKit Go.Lib in
theorem Tryz.slices_Clone_int_nil (n c:Nat) (w:World) :
 Calls Tryz.prog 172 #[.slice none n c] w λe w'=>e=.returned (.slice none 0 0)/\w'=w:=Any.slices_Clone_int_nil Tryz.laysNm215 n c w
def Tryz.laysNm216_ren:Go.Shelf.Ren:=⟨λ| 16=>71 | n=>n,λ| 24=>33 | 9=>9 | 4=>4 | n=>n,λ| n=>n⟩
theorem Tryz.laysNm216:Go.Proofs.Lays2.n16 Tryz.prog Tryz.laysNm216_ren:={
 mixed:=by kernel_rfl
 f16:=Tryz.func71.trans (congrArg some (by kernel_rfl))
 t4:=Tryz.underlying4
 a4:=Tryz.isAgg4
 z4:=Tryz.sizeOf4
 v4:=Tryz.zeroValue4
 t9:=Tryz.underlying9
 a9:=Tryz.isAgg9
 z9:=Tryz.sizeOf9
 v9:=Tryz.zeroValue9
 t24:=Tryz.underlying33
 a24:=Tryz.isAgg33
 z24:=Tryz.sizeOf33
 v24:=Tryz.zeroValue33
 i9:=by kernel_rfl }
open Go.RowKit Go.Lib in
theorem Tryz.slices_Clone_string (b off n c:Nat) (zs:List ByteArray) (w:World) (hz:n<=zs.length) (hbig:n * 16<=140737488355328) (hc:∀ j,j < zs.length->w.cell? ⟨b,off+j,none⟩=some (.string (zs.getD j ByteArray.empty))) :
 Calls Tryz.prog 71 #[.slice (some ⟨b,off,none⟩) n c] w λe w'=>∃ v',e=.returned v'/\w'.ownsRow w.heap.size 9 1 v' n ((zs.take n).map (Value.string))/\v'≠.slice none 0 0/\Below w.heap.size w w':=Any.slices_Clone_string Tryz.laysNm216 b off n c zs w hz hbig hc
open Go.RowKit Go.Lib in
theorem Tryz.slices_Clone_string_nil (n c:Nat) (w:World) :
 Calls Tryz.prog 71 #[.slice none n c] w λe w'=>e=.returned (.slice none 0 0)/\w'=w:=Any.slices_Clone_string_nil Tryz.laysNm216 n c w
open Go.RowKit Go.Lib in
theorem Tryz.slices_Clone_string_zero (a:Addr) (c:Nat) (w:World) :
 Calls Tryz.prog 71 #[.slice (some a) 0 c] w λe w'=>∃ v',e=.returned v'/\w'.ownsRow w.heap.size 9 1 v' 0 []/\v'≠.slice none 0 0/\Below w.heap.size w w':=Any.slices_Clone_string_zero Tryz.laysNm216 a c w
def Tryz.lays194_ren:Go.Shelf.Ren:=⟨λ| 194=>132 | n=>n,λ| 31=>33 | 9=>9 | 3=>3 | 4=>4 | 0=>0 | n=>n,λ| n=>n⟩
theorem Tryz.lays194:Go.Proofs.Lays.n194 Tryz.prog Tryz.lays194_ren:={
 mixed:=by kernel_rfl
 f194:=Tryz.func132.trans (congrArg some (by kernel_rfl))
 t0:=Tryz.underlying0
 a0:=Tryz.isAgg0
 z0:=Tryz.sizeOf0
 v0:=Tryz.zeroValue0
 t3:=Tryz.underlying3
 a3:=Tryz.isAgg3
 z3:=Tryz.sizeOf3
 v3:=Tryz.zeroValue3
 t4:=Tryz.underlying4
 a4:=Tryz.isAgg4
 z4:=Tryz.sizeOf4
 v4:=Tryz.zeroValue4
 t9:=Tryz.underlying9
 a9:=Tryz.isAgg9
 z9:=Tryz.sizeOf9
 v9:=Tryz.zeroValue9
 t31:=Tryz.underlying33
 a31:=Tryz.isAgg33
 z31:=Tryz.sizeOf33
 v31:=Tryz.zeroValue33 }
open Go.RowKit Go.Lib Go.Sort in
theorem Tryz.slices_Compact_string (blk off cap:Nat) (zs:List (List UInt8)) (w:World) (hH:Holds encStr w blk off zs.toArray) (hsz:zs.length<=9223372036854775807) (hcap:zs.length<=cap) :
 Calls Tryz.prog 132 #[.slice (some ⟨blk,off,none⟩) zs.length cap] w λe w'=>e=.returned (.slice (some ⟨blk,off,none⟩) (Lib.compact zs).length cap)/\∃ q,w'=putRow encStr (Sort.ahead w q) blk off (Lib.compact zs++List.replicate (zs.length - (Lib.compact zs).length) []).toArray:=Any.slices_Compact_string Tryz.lays194 blk off cap zs w hH hsz hcap
open Go.RowKit Go.Lib Go.Sort in
theorem Tryz.slices_Compact_string_empty (a:Option Addr) (cap:Nat) (w:World) :
 Calls Tryz.prog 132 #[.slice a 0 cap] w λe w'=>e=.returned (.slice a 0 cap)/\w'=w:=Any.slices_Compact_string_empty Tryz.lays194 a cap w
def Tryz.laysNm225_ren:Go.Shelf.Ren:=⟨λ| 25=>202 | 31=>239 | 32=>240 | 37=>161 | n=>n,λ| 22=>25 | 3=>3 | 4=>4 | 40=>169 | 0=>0 | n=>n,λ| n=>n⟩
theorem Tryz.laysNm225:Go.Proofs.Lays2.n25 Tryz.prog Tryz.laysNm225_ren:={
 mixed:=by kernel_rfl
 f25:=Tryz.func202.trans (congrArg some (by kernel_rfl))
 f31:=Tryz.func239.trans (congrArg some (by kernel_rfl))
 f32:=Tryz.func240.trans (congrArg some (by kernel_rfl))
 f37:=Tryz.func161.trans (congrArg some (by kernel_rfl))
 t0:=Tryz.underlying0
 a0:=Tryz.isAgg0
 z0:=Tryz.sizeOf0
 v0:=Tryz.zeroValue0
 t3:=Tryz.underlying3
 a3:=Tryz.isAgg3
 z3:=Tryz.sizeOf3
 v3:=Tryz.zeroValue3
 t4:=Tryz.underlying4
 a4:=Tryz.isAgg4
 z4:=Tryz.sizeOf4
 v4:=Tryz.zeroValue4
 t22:=Tryz.underlying25
 a22:=Tryz.isAgg25
 z22:=Tryz.sizeOf25
 v22:=Tryz.zeroValue25
 t40:=Tryz.underlying169
 a40:=Tryz.isAgg169
 z40:=Tryz.sizeOf169
 v40:=Tryz.zeroValue169 }
open Go.RowKit Go.Lib in
theorem Tryz.slices_BinarySearch_int (b off n c:Nat) (zs:List Int) (x:Int) (w:World) (hz:n<=zs.length) (hbig:n < 4611686018427387904) (hc:∀ j,j < zs.length->w.cell? ⟨b,off+j,none⟩=some (.int .i64 (zs.getD j 0))) (hs:(zs.take n).Pairwise (·<=·)) :
 Calls Tryz.prog 202 #[.slice (some ⟨b,off,none⟩) n c,.int .i64 x] w λe w'=>e=.returned (.tuple #[.int .i64 ((zs.take n).countP (· < x):Nat),.bool ((zs.take n).contains x)])/\∃ q,w'=w.drewN q:=Any.slices_BinarySearch_int Tryz.laysNm225 b off n c zs x w hz hbig hc hs
open Go.RowKit Go.Sort in
theorem Tryz.slices_Sort_string_none (p:Option Addr) (cap:Nat) (w:World) :
 Calls Tryz.prog 195 #[.slice p 0 cap] w λe w'=>e=.returned (.tuple #[])/\w'=w:=Any.slices_Sort_string_none Tryz.lays190 p cap w
open Go.RowKit Go.Lib in
theorem Tryz.slices_BinarySearch_int_empty (a:Option Addr) (c:Nat) (x:Int) (w:World) :
 Calls Tryz.prog 202 #[.slice a 0 c,.int .i64 x] w λe w'=>e=.returned (.tuple #[.int .i64 0,.bool false])/\w'=w:=Any.slices_BinarySearch_int_empty Tryz.laysNm225 a c x w
open Go.RowKit Go.Lib in
theorem Tryz.slices_Equal_string_lens (a1 a2:Option Addr) (n c m d:Nat) (w:World) (hnm:n≠m) :
 Calls Tryz.prog 209 #[.slice a1 n c,.slice a2 m d] w λe w'=>e=.returned (.bool false)/\w'=w:=Any.slices_Equal_string_lens Tryz.lays193 a1 a2 n c m d w hnm
def Tryz.laysSlH8_f42_ren:Go.Shelf.Ren:=⟨λ| 8=>42 | 6=>92 | n=>n,λ| 22=>25 | 23=>3 | 25=>109 | 4=>4 | 3=>3 | 0=>0 | n=>n,λ| n=>n⟩
theorem Tryz.laysSlH8_f42:Go.Proofs.SlLaysH.n8 Tryz.prog Tryz.laysSlH8_f42_ren:={
 mixed:=by kernel_rfl
 f6:=⟨Tryz.f92.name,by decide,Tryz.func92.trans (congrArg some (by kernel_rfl))⟩
 f8:=⟨Tryz.f42.name,by decide,Tryz.func42.trans (congrArg some (by kernel_rfl))⟩
 t0:=Tryz.underlying0
 a0:=Tryz.isAgg0
 z0:=Tryz.sizeOf0
 v0:=Tryz.zeroValue0
 t3:=Tryz.underlying3
 a3:=Tryz.isAgg3
 z3:=Tryz.sizeOf3
 v3:=Tryz.zeroValue3
 t4:=Tryz.underlying4
 a4:=Tryz.isAgg4
 z4:=Tryz.sizeOf4
 v4:=Tryz.zeroValue4
 t22:=Tryz.underlying25
 a22:=Tryz.isAgg25
 z22:=Tryz.sizeOf25
 v22:=Tryz.zeroValue25
 a23:=Tryz.isAgg3
 z23:=Tryz.sizeOf3
 t25:=Tryz.underlying109
 a25:=Tryz.isAgg109
 z25:=Tryz.sizeOf109
 v25:=Tryz.zeroValue109 }
open Go.RowKit Go.Lib in
theorem Tryz.slices_ContainsFunc {α:Type} [Inhabited α] (enc:α->Value) (p:α->Bool) (g:Nat) (lb:Array Value) (eg:∀ args w,(callFunc g args).run Tryz.prog w=.ok (.enter g args) w) (b off n c:Nat) (zs:List α) (w:World) (hp:PredAt Tryz.prog g lb enc p w) (hz:n<=zs.length) (hbig:n<=9223372036854775807) (hc:∀ j,j < zs.length->w.cell? ⟨b,off+j,none⟩=some (enc zs[j]!)) :
 Calls Tryz.prog 42 #[.slice (some ⟨b,off,none⟩) n c,.func (.func g) #[] lb] w λe w'=>e=.returned (.bool ((zs.take n).any p))/\∃ q,w'=w.drewN q:=AnyE.slices_ContainsFunc Tryz.laysSlH8_f42 enc p g lb eg b off n c zs w hp hz hbig hc
def Tryz.laysSlH10_f182_ren:Go.Shelf.Ren:=⟨λ| 10=>182 | 6=>228 | n=>n,λ| 22=>33 | 23=>9 | 25=>57 | 3=>3 | 4=>4 | 0=>0 | n=>n,λ| n=>n⟩
theorem Tryz.laysSlH10_f182:Go.Proofs.SlLaysH.n10 Tryz.prog Tryz.laysSlH10_f182_ren:={
 mixed:=by kernel_rfl
 f6:=⟨Tryz.f228.name,by decide,Tryz.func228.trans (congrArg some (by kernel_rfl))⟩
 f10:=⟨Tryz.f182.name,by decide,Tryz.func182.trans (congrArg some (by kernel_rfl))⟩
 t0:=Tryz.underlying0
 a0:=Tryz.isAgg0
 z0:=Tryz.sizeOf0
 v0:=Tryz.zeroValue0
 t3:=Tryz.underlying3
 a3:=Tryz.isAgg3
 z3:=Tryz.sizeOf3
 v3:=Tryz.zeroValue3
 t4:=Tryz.underlying4
 a4:=Tryz.isAgg4
 z4:=Tryz.sizeOf4
 v4:=Tryz.zeroValue4
 t22:=Tryz.underlying33
 a22:=Tryz.isAgg33
 z22:=Tryz.sizeOf33
 v22:=Tryz.zeroValue33
 a23:=Tryz.isAgg9
 z23:=Tryz.sizeOf9
 t25:=Tryz.underlying57
 a25:=Tryz.isAgg57
 z25:=Tryz.sizeOf57
 v25:=Tryz.zeroValue57 }
open Go.RowKit Go.Lib Go.Sort in
theorem Tryz.slices_DeleteFunc {α:Type} [Inhabited α] (enc:α->Value) (hO:OneCell enc) (p:α->Bool) (g:Nat) (lb:Array Value) (eg:∀ args w,(callFunc g args).run Tryz.prog w=.ok (.enter g args) w) (zr:α) (v23:∀ w,(zeroValue 9).run Tryz.prog w=.ok (enc zr) w) (blk off cap:Nat) (d:Array α) (w:World) (hp:PredAt Tryz.prog g lb enc p w) (hpo:PredOver Tryz.prog g lb enc p blk off d.size w) (hH:Holds enc w blk off d) (hsz:d.size<=9223372036854775807) (hcap:d.size<=cap) :
 Calls Tryz.prog 182 #[.slice (some ⟨blk,off,none⟩) d.size cap,.func (.func g) #[] lb] w λe w'=>e=.returned (.slice (some ⟨blk,off,none⟩) (d.toList.filter λx=>!p x).length cap)/\∃ q,w'=putRow enc (Sort.ahead w q) blk off ((d.toList.filter λx=>!p x)++List.replicate (d.size - (d.toList.filter λx=>!p x).length) zr).toArray:=AnyE.slices_DeleteFunc Tryz.laysSlH10_f182 enc hO p g lb eg zr v23 blk off cap d w hp hpo hH hsz hcap
def Tryz.sortedZ_ren:Go.Shelf.Ren:=⟨λ| 6=>130 | 8=>194 | 9=>195 | 11=>235 | 13=>237 | 12=>236 | 23=>263 | 24=>264 | 14=>254 | 15=>255 | 16=>256 | 17=>257 | 18=>258 | 19=>259 | 20=>260 | 21=>261 | 22=>262 | 25=>272 | 26=>273 | 27=>274 | 28=>275 | 29=>276 | 30=>160 | 31=>294 | n=>n,λ| 26=>9 | 28=>216 | 24=>33 | 0=>0 | 3=>3 | 37=>169 | 48=>275 | 50=>331 | 4=>4 | 40=>344 | 39=>343 | 45=>113 | 5=>5 | 9=>9 | 51=>357 | 55=>361 | 57=>375 | 58=>376 | 33=>57 | n=>n,λ| n=>n⟩
theorem Tryz.sortedZ:Go.Proofs.SlLaysZ.n6 Tryz.prog Tryz.sortedZ_ren:={
 mixed:=by kernel_rfl
 f6:=⟨Tryz.f130.name,by decide,Tryz.func130.trans (congrArg some (by kernel_rfl))⟩
 f8:=⟨Tryz.f194.name,by decide,Tryz.func194.trans (congrArg some (by kernel_rfl))⟩
 f11:=⟨Tryz.f235.name,by decide,Tryz.func235.trans (congrArg some (by kernel_rfl))⟩
 t0:=Tryz.underlying0
 a0:=Tryz.isAgg0
 z0:=Tryz.sizeOf0
 v0:=Tryz.zeroValue0
 t24:=Tryz.underlying33
 a24:=Tryz.isAgg33
 z24:=Tryz.sizeOf33
 v24:=Tryz.zeroValue33
 t26:=Tryz.underlying9
 a26:=Tryz.isAgg9
 z26:=Tryz.sizeOf9
 v26:=Tryz.zeroValue9
 t28:=Tryz.underlying216
 a28:=Tryz.isAgg216
 z28:=Tryz.sizeOf216
 v28:=Tryz.zeroValue216
 i26:=by kernel_rfl }
def Tryz.delZ_ren:Go.Shelf.Ren:=⟨λ| 10=>182 | 6=>228 | n=>n,λ| 22=>33 | 23=>9 | 25=>57 | 3=>3 | 4=>4 | 0=>0 | n=>n,λ| n=>n⟩
theorem Tryz.delZ:Go.Proofs.SlLaysH.n10 Tryz.prog Tryz.delZ_ren:={
 mixed:=by kernel_rfl
 f6:=⟨Tryz.f228.name,by decide,Tryz.func228.trans (congrArg some (by kernel_rfl))⟩
 f10:=⟨Tryz.f182.name,by decide,Tryz.func182.trans (congrArg some (by kernel_rfl))⟩
 t0:=Tryz.underlying0
 a0:=Tryz.isAgg0
 z0:=Tryz.sizeOf0
 v0:=Tryz.zeroValue0
 t3:=Tryz.underlying3
 a3:=Tryz.isAgg3
 z3:=Tryz.sizeOf3
 v3:=Tryz.zeroValue3
 t4:=Tryz.underlying4
 a4:=Tryz.isAgg4
 z4:=Tryz.sizeOf4
 v4:=Tryz.zeroValue4
 t22:=Tryz.underlying33
 a22:=Tryz.isAgg33
 z22:=Tryz.sizeOf33
 v22:=Tryz.zeroValue33
 a23:=Tryz.isAgg9
 z23:=Tryz.sizeOf9
 t25:=Tryz.underlying57
 a25:=Tryz.isAgg57
 z25:=Tryz.sizeOf57
 v25:=Tryz.zeroValue57 }
def Tryz.keysZ_ren:Go.Shelf.Ren:=⟨λ| 7=>181 | 10=>227 | n=>n,λ| 23=>82 | 26=>9 | 3=>272 | 28=>216 | 0=>0 | 27=>215 | 33=>57 | 4=>4 | n=>n,λ| n=>n⟩
theorem Tryz.keysZ:Go.Proofs.SlLaysZ.n7 Tryz.prog Tryz.keysZ_ren:={
 mixed:=by kernel_rfl
 f7:=⟨Tryz.f181.name,by decide,Tryz.func181.trans (congrArg some (by kernel_rfl))⟩
 f10:=⟨Tryz.f227.name,by decide,Tryz.func227.trans (congrArg some (by kernel_rfl))⟩
 t0:=Tryz.underlying0
 a0:=Tryz.isAgg0
 z0:=Tryz.sizeOf0
 v0:=Tryz.zeroValue0
 t4:=Tryz.underlying4
 a4:=Tryz.isAgg4
 z4:=Tryz.sizeOf4
 v4:=Tryz.zeroValue4
 t23:=Tryz.underlying82
 a23:=Tryz.isAgg82
 z23:=Tryz.sizeOf82
 v23:=Tryz.zeroValue82
 t26:=Tryz.underlying9
 a26:=Tryz.isAgg9
 z26:=Tryz.sizeOf9
 v26:=Tryz.zeroValue9
 t27:=Tryz.underlying215
 a27:=Tryz.isAgg215
 z27:=Tryz.sizeOf215
 v27:=Tryz.zeroValue215
 t28:=Tryz.underlying216
 a28:=Tryz.isAgg216
 z28:=Tryz.sizeOf216
 v28:=Tryz.zeroValue216
 t33:=Tryz.underlying57
 a33:=Tryz.isAgg57
 z33:=Tryz.sizeOf57
 v33:=Tryz.zeroValue57 }
def Tryz.keysZ1_ren:Go.Shelf.Ren:=⟨λ| 10=>227 | n=>n,λ| 33=>57 | 23=>82 | 0=>0 | 4=>4 | 26=>9 | 3=>272 | n=>n,λ| n=>n⟩
theorem Tryz.keysZ1:Go.Proofs.SlLaysZ.n10 Tryz.prog Tryz.keysZ1_ren:={
 mixed:=by kernel_rfl
 f10:=⟨Tryz.f227.name,by decide,Tryz.func227.trans (congrArg some (by kernel_rfl))⟩
 t0:=Tryz.underlying0
 a0:=Tryz.isAgg0
 z0:=Tryz.sizeOf0
 v0:=Tryz.zeroValue0
 t4:=Tryz.underlying4
 a4:=Tryz.isAgg4
 z4:=Tryz.sizeOf4
 v4:=Tryz.zeroValue4
 t23:=Tryz.underlying82
 a23:=Tryz.isAgg82
 z23:=Tryz.sizeOf82
 v23:=Tryz.zeroValue82
 t26:=Tryz.underlying9
 a26:=Tryz.isAgg9
 z26:=Tryz.sizeOf9
 v26:=Tryz.zeroValue9
 t33:=Tryz.underlying57
 a33:=Tryz.isAgg57
 z33:=Tryz.sizeOf57
 v33:=Tryz.zeroValue57 }
end Go.Proofs
