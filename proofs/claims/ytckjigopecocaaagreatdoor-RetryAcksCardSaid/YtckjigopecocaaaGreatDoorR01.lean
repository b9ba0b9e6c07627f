/- octet.Reader: Num, Text, List. And what follows. -/
import Derived.Test.YtckjigopecocaaaGreatDoorR00
import Derived.Shelf.Strings.Builder1
import Derived.Shelf.GgClosure.StringsIndexFunc
import Derived.Lib.AtoiAll
import Derived.Lib.ItoaNum
import Derived.Lib.Strings
import Derived.Lib.Repeat
import Derived.Lib.SlTrimSet
set_option linter.unusedVariables false
set_option linter.unusedSimpArgs false
set_option maxHeartbeats 25600000
set_option maxRecDepth 100000
namespace Go.Proofs.YtckjigopecocaaaGreatDoor
namespace OctW
open Go.RowKit OctMath
theorem ae2 (n:Int) (r:RS):(ed n r).2.s.length<=r.s.length:=by
 unfold ed; split
 . exact Nat.le_refl _
 ·
  split
  . exact Nat.le_refl _
  . split
    . exact Nat.le_refl _
    . simp
theorem ab7 (n:Int) (r:RS):(ed n r).1.length<=n.toNat:=by
 unfold ed; split
 . simp
 ·
  split
  . simp
  . split
    . simp
    . simp; omega
theorem je (n:Int) (r:RS):(dm n r).2.s.length<=r.s.length:=by
 unfold dm; split
 . exact Nat.le_refl _
 . split
   . exact Nat.le_refl _
   . exact ae2 _ _
theorem abj (n:Int) (r:RS):(dm n r).1 < 256 ^ n.toNat:=by
 have hp:0 < 256 ^ n.toNat:=Nat.pow_pos (by omega);unfold dm; split
 . exact hp
 . split
   . exact hp
   . exact Nat.lt_of_lt_of_le (aif _) (Nat.pow_le_pow_right (by omega) (ab7 n r))
theorem pz (B:Nat) (r:RS) (n:Int) (hn0 : -9223372036854775808<=n) (hn1:n<=9223372036854775807) (hl:r.s.length<=1152921504606846976) (w:World) (h:Rd B r w) :
 Calls Tryz.prog 140 #[.pointer (some ⟨B,0,none⟩),.int .i64 n] w λe w'=>e=.returned (.int .i64 ((dm n r).1:Int))/\Rd B (dm n r).2 w'/\One B w w':=by
 have J:=zq h;have Z:=h.e_free;have he:=h.e_cell;go_enter Tryz.func140,Tryz.ntmps140;go_wp2_with (go_at_call 141; refine (aan B r _ J.o).mono ?_);rintro e w' ⟨rfl,rfl⟩
 by_cases hz:r.e≠0
 ·
  have hb:=ab6 hz;have I:=zq hz; clear hz h;have A:Zq (dm n r=(0,r)):=by unfold dm; rw [if_pos I.o]; rfl
  go_wp2_with fail;go_ret;rw [A.o];exact ⟨rfl,J.o,Mod.refl _ _⟩
 ·
  have hb:=adh (show r.e=0 by omega);have I:=zq hz; clear hz;have M:=zq (h.set1 1);have N:Zq (One B w (w.setCell ⟨B,1,none⟩ (.int .i64 ((1:Nat):Int)))):=(Mod.refl (λk=>k=B) w).setCell (a:=⟨B,1,none⟩) (Or.inl rfl) _;clear h
  by_cases hw:n < 1\/7 < n
  ·
   have A:Zq (dm n r=(0,⟨r.s,1⟩)):=by unfold dm; rw [if_neg I.o,if_pos hw]; rfl
   rcases hw with hw | hw
   . go_wp2_with fail
     go_ret;rw [A.o];exact ⟨rfl,M.o,N.o⟩
   . have O:1<=n:=by omega
     go_wp2_with fail;go_ret;rw [A.o];exact ⟨rfl,M.o,N.o⟩
  ·
   have A:Zq (dm n r=(val (ed n r).1,(ed n r).2)):=by unfold dm; rw [if_neg I.o,if_neg hw]; rfl
   have O:1<=n:=by omega
   have ab:n<=7:=by omega
   have ho:=Nat.le_trans (ab7 n r) (show n.toNat<=7 by omega);clear hw M N;go_wp2_with (go_at_call 139; refine (xu B r n (by omega) (by omega) hl _ J.o).mono ?_);rintro e w1 ⟨rfl,E,F⟩;have R:=zq E; clear E;have U:=zq F; clear F;go_wp2_with (go_at_call 212; refine (get_any _ ho _).mono ?_);rintro e w2 ⟨rfl,hd⟩;have X:Zq (Rd B (ed n r).2 w2):=R.o.drawn hd;have Y:Zq (One B w w2):=U.o.drawn hd;clear hd;go_wp2_with fail;go_ret;rw [A.o];exact ⟨rfl,X.o,Y.o⟩
theorem ae3 {B:Nat} {r:RS} {w:World} (h:Rd B r w) (h0:r.e=0):Rd B (dh true r) (w.setCell ⟨B,1,none⟩ (.int .i64 ((6:Nat):Int))):=by
 have:=h.set1 6;unfold dh; rw [if_pos ⟨h0,rfl⟩]; exact this
theorem vg (r:RS):dh false r=r:=by unfold dh; simp
theorem ab8 {r:RS} (b:Bool) (h:r.e≠0):dh b r=r:=by unfold dh; rw [if_neg (λx=>h x.1)]
theorem qh (b:Bool) (r:RS):(dh b r).s.length<=r.s.length:=by unfold dh; split <;> exact Nat.le_refl _
theorem abk (most:Int) (r:RS) (h:¬ r.e≠0):ig most r=(if (ed ((dm 2 r).1:Int) (dh (decide (most < ((dm 2 r).1:Int))) (dm 2 r).2)).2.e≠0
 then ((ed ((dm 2 r).1:Int) (dh (decide (most < ((dm 2 r).1:Int))) (dm 2 r).2)).1,⟨r.s,(ed ((dm 2 r).1:Int) (dh (decide (most < ((dm 2 r).1:Int))) (dm 2 r).2)).2.e⟩)
 else ed ((dm 2 r).1:Int) (dh (decide (most < ((dm 2 r).1:Int))) (dm 2 r).2)):=by
 unfold ig; rw [if_neg h]
theorem xw (B:Nat) (r:RS) (most:Int) (hn0 : -9223372036854775808<=most) (hn1:most<=9223372036854775807) (hl:r.s.length<=1152921504606846976) (w:World) (h:Rd B r w) :
 Calls Tryz.prog 155 #[.pointer (some ⟨B,0,none⟩),.int .i64 most] w λe w'=>e=.returned (.string (S (ig most r).1))/\Rd B (ig most r).2 w'/\One B w w':=by
 have HR:=zq h;have bb:=h.s_cell;clear h;go_enter Tryz.func155,Tryz.ntmps155;go_wp2_with (go_at_call 141; refine (aan B r _ HR.o).mono ?_);rintro e w' ⟨rfl,rfl⟩
 by_cases hz:r.e≠0
 ·
  have hb:=ab6 hz;have HZ:=zq hz; clear hz;have HT:Zq (ig most r=([],r)):=by unfold ig; rw [if_pos HZ.o]; rfl
  go_wp2_with fail;go_ret;rw [HT.o];exact ⟨rfl,HR.o,Mod.refl _ _⟩
 ·
  have hb:=adh (show r.e=0 by omega);have HT:=zq (abk most r hz);clear hz;go_wp2_with (go_at_call 140; refine (pz B r 2 (by omega) (by omega) hl _ HR.o).mono ?_);rintro e w1 ⟨rfl,ab,an⟩;have hx:(dm 2 r).1 < 65536:=abj 2 r;have bd:(dm 2 r).2.s.length<=r.s.length:=je 2 r;generalize dm 2 r=nr at *
  obtain ⟨x,E⟩:=nr;simp only at *
  have al:=ab.e_cell;have am:=ab.e_free;have ao:=zq an; clear an;have U:=zq ab; clear ab
  have fin:∀ (L:RS) (w2 w3:World),L=dh (decide (most < (x:Int))) E->One B w1 w2->Rd B (ed (x:Int) L).2 w3->One B w2 w3->(ed (x:Int) L).2.e=0 ->
   S (ed (x:Int) L).1=S (ig most r).1/\Rd B (ig most r).2 w3/\One B w w3:=by
   intro L w2 w3 h1 h2 h3 h4 h5;have:=HT.o;rw [<- h1,if_neg (by rw [h5]; simp)] at this;rw [this];exact ⟨rfl,h3,(ao.o.trans h2).trans h4⟩
  have ac:∀ (L:RS) (w2 w3 w4:World),L=dh (decide (most < (x:Int))) E->One B w1 w2->One B w2 w3->(ed (x:Int) L).2.e≠0->Rd B ⟨r.s,(ed (x:Int) L).2.e⟩ w4->One B w3 w4 ->
   S (ed (x:Int) L).1=S (ig most r).1/\Rd B (ig most r).2 w4/\One B w w4:=by
   intro L w2 w3 w4 h1 h2 h4 h5 h6 h7;have:=HT.o;rw [<- h1,if_pos h5] at this;rw [this];exact ⟨rfl,h6,((ao.o.trans h2).trans h4).trans h7⟩
  have FIN:=zq fin; clear fin;have FIN2:=zq ac; clear ac;have bl:(x:Int)<=9223372036854775807:=by omega
  by_cases hz1:E.e≠0
  ·
   have bm:=ab6 hz1;have ap:=ap5 hz1;have HL:Zq (E=dh (decide (most < (x:Int))) E):=(ab8 _ hz1).symm;have HW:Zq (One B w1 w1):=Mod.refl _ _;clear hz1;have X:=U;clear U;go_wp2_with (go_at_call 139; refine (xu B E x (by omega) (by omega) (by omega) _ X.o).mono ?_)
   first | rintro e w3 rfl F I | rintro e w3 ⟨rfl,F,I⟩
   have ar:=F.e_cell;have J:=zq F; clear F;have M:=zq I; clear I;clear am al
   by_cases A:(ed (x:Int) E).2.e≠0
   ·
    have Y:=ab6 A;have Z:=zq A; clear A;go_wp2_with (go_at_call 222; refine (sw B _ _ J.o (ed (x:Int) E).2.e r.s).mono ?_);rintro e w4 ⟨rfl,N,O⟩;have H:=zq (FIN2.o E _ _ _ HL.o HW.o M.o Z.o N O);clear N O;go_wp2_with fail;go_ret;exact ⟨yj H.o.1,H.o.2⟩
   ·
    have A:(ed (x:Int) E).2.e=0:=by omega
    have Y:=adh A;have H:=zq (FIN.o E _ _ HL.o HW.o J.o M.o A);clear A;go_wp2_with fail;go_ret;exact ⟨yj H.o.1,H.o.2⟩
  ·
   have R:E.e=0:=by omega
   have ap:=ar5 R
   by_cases hm:most < (x:Int)
   ·
    have HL:Zq (dh true E=dh (decide (most < (x:Int))) E):=by rw [decide_eq_true hm]; rfl
    have av:(dh true E).s.length<=1152921504606846976:=by have:=qh true E; omega
    have X:Zq (Rd B (dh true E) (w1.setCell ⟨B,1,none⟩ (.int .i64 6))):=ae3 U.o R;have HW:Zq (One B w1 (w1.setCell ⟨B,1,none⟩ (.int .i64 6))):=(Mod.refl (λk=>k=B) w1).setCell (a:=⟨B,1,none⟩) (Or.inl rfl) _;clear R hz1 U;go_wp2_with (go_at_call 139; refine (xu B (dh true E) x (by omega) (by omega) av _ X.o).mono ?_)
    first | rintro e w3 rfl F I | rintro e w3 ⟨rfl,F,I⟩
    have ar:=F.e_cell;have J:=zq F; clear F;have M:=zq I; clear I;clear am al
    by_cases A:(ed (x:Int) (dh true E)).2.e≠0
    ·
     have Y:=ab6 A;have Z:=zq A; clear A;go_wp2_with (go_at_call 222; refine (sw B _ _ J.o (ed (x:Int) (dh true E)).2.e r.s).mono ?_);rintro e w4 ⟨rfl,N,O⟩;have H:=zq (FIN2.o (dh true E) _ _ _ HL.o HW.o M.o Z.o N O);clear N O;go_wp2_with fail;go_ret;exact ⟨yj H.o.1,H.o.2⟩
    ·
     have A:(ed (x:Int) (dh true E)).2.e=0:=by omega
     have Y:=adh A;have H:=zq (FIN.o (dh true E) _ _ HL.o HW.o J.o M.o A);clear A;go_wp2_with fail;go_ret;exact ⟨yj H.o.1,H.o.2⟩
   ·
    have HL:Zq (E=dh (decide (most < (x:Int))) E):=by rw [decide_eq_false hm,vg]; rfl
    have HW:Zq (One B w1 w1):=Mod.refl _ _;have bo:(x:Int)<=most:=by omega
    have X:=U;clear R hz1 U;go_wp2_with (go_at_call 139; refine (xu B E x (by omega) (by omega) (by omega) _ X.o).mono ?_)
    first | rintro e w3 rfl F I | rintro e w3 ⟨rfl,F,I⟩
    have ar:=F.e_cell;have J:=zq F; clear F;have M:=zq I; clear I;clear am al
    by_cases A:(ed (x:Int) E).2.e≠0
    ·
     have Y:=ab6 A;have Z:=zq A; clear A;go_wp2_with (go_at_call 222; refine (sw B _ _ J.o (ed (x:Int) E).2.e r.s).mono ?_);rintro e w4 ⟨rfl,N,O⟩;have H:=zq (FIN2.o E _ _ _ HL.o HW.o M.o Z.o N O);clear N O;go_wp2_with fail;go_ret;exact ⟨yj H.o.1,H.o.2⟩
    ·
     have A:(ed (x:Int) E).2.e=0:=by omega
     have Y:=adh A;have H:=zq (FIN.o E _ _ HL.o HW.o J.o M.o A);clear A;go_wp2_with fail;go_ret;exact ⟨yj H.o.1,H.o.2⟩
theorem ownsRow_mod {M:Nat->Prop} {w w':World} {base e sz n:Nat} {v:Value} {xs:List Value} (h:w.ownsRow base e sz v n xs) (hm:Mod M w w') (hM:∀ k,M k->k < base):w'.ownsRow base e sz v n xs:=by
 refine ⟨h.1,?_⟩
 rcases h.2 with hn | ⟨g,cap,cur,hv,hb,hg,rest⟩
 . exact .inl hn
 . exact .inr ⟨g,cap,cur,hv,hb,(hm.block g (Array.getElem?_eq_some_iff.1 hg).1 (λhk=>by have:=hM g hk; omega)).trans hg,rest⟩
theorem wy {w:World} {base e sz n:Nat} {v:Value} {xs:List Value} (h:w.ownsRow base e sz v n xs):∀ g,v.ownBlock=some g->base<=g:=by
 intro g A
 rcases h.2 with ⟨rfl,_⟩ | ⟨g',cap,cur,rfl,hb,_⟩
 . cases A
 . cases A; exact hb
theorem _root_.Go.Proofs.YtckjigopecocaaaGreatDoor.Mod.grown {M:Nat->Prop} {u v w:World} {row:Option Nat} (h:Mod M u v) (k:v.grownBy w row) (hr:∀ g,row=some g->u.heap.size<=g):Mod M u w:=by
 refine ⟨k.os.trans h.os,k.tape.trans h.tape,k.output.trans h.output,Nat.le_trans h.size k.size,λi A B=>?_⟩;rw [k.block i (Nat.lt_of_lt_of_le A h.size) (λe=>by have:=hr i e.symm; omega)];exact h.block i A B
abbrev Texts (base:Nat) (v:Value) (ts:List (List UInt8)) (w:World):Prop:=w.ownsRow base 9 1 v ts.length (ts.map λl=>.string (S l))
theorem Texts.strs {base:Nat} {v:Value} {ts:List (List UInt8)} {w:World} (h:Texts base v ts w):∃ a cap,v=.slice a ts.length cap/\Strs w a (ts.map S):=by
 obtain ⟨E,h⟩:=h
 rcases h with ⟨rfl,h0⟩ | ⟨g,cap,cur,rfl,hb,hg,hc1,hc2,hcs,hcur⟩
 . refine ⟨none,0,by rw [h0],λi A=>?_⟩
   simp [h0] at A
 ·
  refine ⟨some ⟨g,0,none⟩,cap,rfl,λi A=>⟨g,0,rfl,?_⟩⟩;unfold World.cell?;rw [hg];have B:i < ts.length:=by simpa using A
  have:cur[0+i]?=(cur.toList.take (ts.length * 1))[i]?:=by
   rw [List.getElem?_take,if_pos (by omega)]; simp
  simp only [this,hcur];simp [B]
theorem vk (most:Int) (k:Nat):∀ r:RS,bg most (k+1) r=((bg most k r).1++[(ig most (bg most k r).2).1],(ig most (bg most k r).2).2):=by
 induction k with
 | zero=>intro r; rfl
 | succ k ih =>
   intro r;have h:=ih (ig most r).2;show ((ig most r).1 :: (bg most (k+1) (ig most r).2).1,(bg most (k+1) (ig most r).2).2)=_;rw [h]; rfl
theorem kv (most:Int) (k:Nat):∀ r:RS,(bg most k r).1.length=k:=by
 induction k with
 | zero=>intro r; rfl
 | succ k ih=>intro r; simp [bg,ih]
theorem qj (most:Int) (r:RS):(ig most r).2.s.length<=r.s.length:=by
 by_cases h:r.e≠0
 . unfold ig; rw [if_pos h]; exact Nat.le_refl _
 ·
  rw [abk most r h]
  split
  . exact Nat.le_refl _
  . exact Nat.le_trans (ae2 _ _) (Nat.le_trans (qh _ _) (je _ _))
theorem yn (most:Int) (k:Nat):∀ r:RS,(bg most k r).2.s.length<=r.s.length:=by
 induction k with
 | zero=>intro r; exact Nat.le_refl _
 | succ k ih=>intro r; exact Nat.le_trans (ih _) (qj most r)
theorem adi (many most:Int) (r:RS) (h:¬ r.e≠0):rz many most r=(if (bg most (dm 1 r).1 (dh (decide (many < ((dm 1 r).1:Int))) (dm 1 r).2)).2.e≠0
 then ([],⟨r.s,(bg most (dm 1 r).1 (dh (decide (many < ((dm 1 r).1:Int))) (dm 1 r).2)).2.e⟩)
 else bg most (dm 1 r).1 (dh (decide (many < ((dm 1 r).1:Int))) (dm 1 r).2)):=by
 unfold rz; rw [if_neg h]
theorem list_any (B:Nat) (r:RS) (many most:Int) (hn0 : -9223372036854775808<=most) (hn1:most<=9223372036854775807) (hm0 : -9223372036854775808<=many) (bh:many<=9223372036854775807) (hl:r.s.length<=1152921504606846976) (w:World) (h:Rd B r w) :
 Calls Tryz.prog 214 #[.pointer (some ⟨B,0,none⟩),.int .i64 many,.int .i64 most] w λe w'=>∃ v,e=.returned v/\Texts w.heap.size v (rz many most r).1 w'/\Rd B (rz many most r).2 w'/\One B w w':=by
 obtain ⟨i0,bj,bk,Y,bl⟩:=info_parts (show (Tryz.prog.info? 9).map (λi=>(i.zero,i.size,i.bytes))=some (some (.string ⟨#[]⟩),1,16) by kernel_rfl);have HR:=zq h;have b7:=h.s_cell;have ap:Zq (B < w.heap.size):=h.lt;clear h;go_enter Tryz.func214,Tryz.ntmps214;go_wp2_with (go_at_call 141; refine (aan B r _ HR.o).mono ?_);rintro e w' ⟨rfl,rfl⟩
 by_cases hz:r.e≠0
 ·
  have hb:=ab6 hz;have HZ:=zq hz; clear hz;have HT:Zq (rz many most r=([],r)):=by unfold rz; rw [if_pos HZ.o]; rfl
  go_wp2_with fail;go_ret;rw [HT.o];exact ⟨_,rfl,⟨rfl,.inl ⟨rfl,rfl⟩⟩,HR.o,Mod.refl _ _⟩
 ·
  have hb:=adh (show r.e=0 by omega);have HT:=zq (adi many most r hz);clear hz;go_wp2_with (go_at_call 140; refine (pz B r 1 (by omega) (by omega) hl _ HR.o).mono ?_);rintro e w1 ⟨rfl,bb,bh⟩;have hx:(dm 1 r).1 < 256:=abj 1 r;have b9:(dm 1 r).2.s.length<=r.s.length:=je 1 r;generalize dm 1 r=nr at *
  obtain ⟨x,A⟩:=nr;simp only at *
  have bm:=bb.e_cell;have bo:=bb.e_free;have bp:=zq bh; clear bh;have ar:=zq bb; clear bb
  have fin:∀ (L:RS) (v:Value) (w3:World),L=dh (decide (many < (x:Int))) A->Texts w.heap.size v (bg most x L).1 w3->Rd B (bg most x L).2 w3->One B w w3->(bg most x L).2.e=0 ->
   Texts w.heap.size v (rz many most r).1 w3/\Rd B (rz many most r).2 w3/\One B w w3:=by
   intro L v w3 h1 h2 h3 h4 h5;have:=HT.o;rw [<- h1,if_neg (by rw [h5]; simp)] at this;rw [this];exact ⟨h2,h3,h4⟩
  have bc:∀ (L:RS) (w4:World),L=dh (decide (many < (x:Int))) A->(bg most x L).2.e≠0->Rd B ⟨r.s,(bg most x L).2.e⟩ w4->One B w w4 ->
   Texts w.heap.size (.slice none 0 0) (rz many most r).1 w4/\Rd B (rz many most r).2 w4/\One B w w4:=by
   intro L w4 h1 h5 h6 h7;have:=HT.o;rw [<- h1,if_pos h5] at this;rw [this];exact ⟨⟨rfl,.inl ⟨rfl,rfl⟩⟩,h6,h7⟩
  have FIN:=zq fin; clear fin;have FIN2:=zq bc; clear bc
  by_cases Y:A.e≠0
  ·
   have ce:=ab6 Y;have bs:=ap5 Y;have HL:Zq (A=dh (decide (many < (x:Int))) A):=(ab8 _ Y).symm;have O:Zq (One B w1 w1):=Mod.refl _ _;clear Y;have Z:=ar;clear ar;have bw:A.s.length<=1152921504606846976:=by have:=qh true A; omega
   have ab:Zq (One B w w1):=bp.o.trans O.o;go_wp2_with fail;clear bo bm;go_loopw [9,33] (λv i wr=>∃ k:Nat,k<=x/\i=.int .i64 k/\Zq (Texts w.heap.size v (bg most k A).1 wr)/\Zq (Rd B (bg most k A).2 wr)/\Zq (One B w wr)) (λ_ i _=>x - (intOf i).toNat)
   case atStart=>exact ⟨0,by omega,rfl,⟨rfl,.inl ⟨rfl,rfl⟩⟩,Z.o,ab.o⟩
   case round =>
    clear Z ab O;obtain ⟨k,hk,rfl,R,N,O⟩:=hrel;have bz:=yn most k A
    by_cases hlt:k < x
    ·
     go_wp2_with (go_at_call 155; refine (xw B _ most hn0 hn1 (by omega) _ N.o).mono ?_);rintro e w3 ⟨rfl,ac,U⟩;have ad:=vk most k A;have av:=kv most k A
     have I:Zq (w3.ownsRow w.heap.size 9 1 u9 k ((bg most k A).1.map λl=>.string (S l))):=by
      have:=ownsRow_mod R.o U (λg hg=>by rw [hg]; exact ap.o);rw [av] at this; exact this
     have X:Zq (One B w w3):=O.o.trans U;clear R O U;generalize ig most (bg most k A).2=tx at *
     have ak:=zq ad; clear ad;have al:=zq ac; clear ac;go_wp2_with (at_builtin; refine wpList_append_own _ rfl (.tmp 35) (.tmp 39) 32 rfl w.heap.size 9 i0 (.string ⟨#[]⟩) 1 16 Tryz.underlying32 bj bk Y bl rfl (by decide) _ k ((bg most k A).1.map λl=>.string (S l)) rfl (I.o.alloc _) ⟨w3.heap.size,0,none⟩ 1 1 [.string (S tx.1)] rfl rfl ?c1 ?c2 ?c3 ?c4 ?c5 ?_)
     case c1=>exact cell_one_new _ _ _
     case c2=>intro u hu; simp at hu; subst hu; rfl
     case c3=>unfold maxLen; omega
     case c4=>omega
     case c5=>have:=X.o.size; simp; omega
     intro v' w4 J E _
     have a1:Zq (Texts w.heap.size v' (bg most (k+1) A).1 w4):=by
      show w4.ownsRow _ _ _ _ (bg most (k+1) A).1.length _;rw [kv,ak.o,List.map_append]; exact J
     have M:∀ g,u9.ownBlock=some g->w.heap.size<=g:=wy I.o;have a6:Zq (One B w w4):=(X.o.alloc _).grown E M
     have a7:Zq (Rd B (bg most (k+1) A).2 w4):=by
      have h1:Rd B tx.2 (w3.alloc (.cells #[.string (S tx.1)] 9)):=al.o.mod ((Mod.refl (λ_=>False) w3).alloc _) (λx=>x);have h2:=(E.block B h1.lt (λe=>by have:=M B e.symm; have:=ap.o; omega)).trans h1;rw [ak.o]; exact h2
     clear J E I X al M;go_wp2_with fail;go_roundw
     case rel=>exact ⟨k+1,by omega,by go_num,a1.o,a7.o,a6.o⟩
     case measure=>simp [intOf]; omega
    ·
     have ek:k=x:=by omega
     subst ek;have b3:=N.o.e_cell
     by_cases F:(bg most k A).2.e≠0
     ·
      have a8:=ab6 F;have ba:=zq F; clear F;go_wp2_with (go_at_call 222; refine (sw B _ _ N.o (bg most k A).2.e r.s).mono ?_);rintro e w4 ⟨rfl,am,an⟩;have H:=zq (FIN2.o A _ HL.o ba.o am (O.o.trans an));clear am an;go_wp2_with fail;go_ret;exact ⟨_,rfl,H.o⟩
     . have F:(bg most k A).2.e=0:=by omega
       have a8:=adh F;have H:=zq (FIN.o A _ _ HL.o R.o N.o O.o F);clear F;go_wp2_with fail;go_ret;exact ⟨_,rfl,H.o⟩
  ·
   have ao:A.e=0:=by omega
   have bs:=ar5 ao
   by_cases hm:many < (x:Int)
   ·
    have HL:Zq (dh true A=dh (decide (many < (x:Int))) A):=by rw [decide_eq_true hm]; rfl
    have Z:Zq (Rd B (dh true A) (w1.setCell ⟨B,1,none⟩ (.int .i64 6))):=ae3 ar.o ao;have O:Zq (One B w1 (w1.setCell ⟨B,1,none⟩ (.int .i64 6))):=(Mod.refl (λk=>k=B) w1).setCell (a:=⟨B,1,none⟩) (Or.inl rfl) _;clear ao Y ar;have bw:(dh true A).s.length<=1152921504606846976:=by have:=qh true A; omega
    have ab:Zq (One B w (w1.setCell ⟨B,1,none⟩ (.int .i64 6))):=bp.o.trans O.o;go_wp2_with fail;clear bo bm;go_loopw [9,33] (λv i wr=>∃ k:Nat,k<=x/\i=.int .i64 k/\Zq (Texts w.heap.size v (bg most k (dh true A)).1 wr)/\Zq (Rd B (bg most k (dh true A)).2 wr)/\Zq (One B w wr)) (λ_ i _=>x - (intOf i).toNat)
    case atStart=>exact ⟨0,by omega,rfl,⟨rfl,.inl ⟨rfl,rfl⟩⟩,Z.o,ab.o⟩
    case round =>
     clear Z ab O;obtain ⟨k,hk,rfl,R,N,O⟩:=hrel;have bz:=yn most k (dh true A)
     by_cases hlt:k < x
     ·
      go_wp2_with (go_at_call 155; refine (xw B _ most hn0 hn1 (by omega) _ N.o).mono ?_);rintro e w3 ⟨rfl,ac,U⟩;have ad:=vk most k (dh true A);have av:=kv most k (dh true A)
      have I:Zq (w3.ownsRow w.heap.size 9 1 u9 k ((bg most k (dh true A)).1.map λl=>.string (S l))):=by
       have:=ownsRow_mod R.o U (λg hg=>by rw [hg]; exact ap.o);rw [av] at this; exact this
      have X:Zq (One B w w3):=O.o.trans U;clear R O U;generalize ig most (bg most k (dh true A)).2=tx at *
      have ak:=zq ad; clear ad;have al:=zq ac; clear ac;go_wp2_with (at_builtin; refine wpList_append_own _ rfl (.tmp 35) (.tmp 39) 32 rfl w.heap.size 9 i0 (.string ⟨#[]⟩) 1 16 Tryz.underlying32 bj bk Y bl rfl (by decide) _ k ((bg most k (dh true A)).1.map λl=>.string (S l)) rfl (I.o.alloc _) ⟨w3.heap.size,0,none⟩ 1 1 [.string (S tx.1)] rfl rfl ?c1 ?c2 ?c3 ?c4 ?c5 ?_)
      case c1=>exact cell_one_new _ _ _
      case c2=>intro u hu; simp at hu; subst hu; rfl
      case c3=>unfold maxLen; omega
      case c4=>omega
      case c5=>have:=X.o.size; simp; omega
      intro v' w4 J E _
      have a1:Zq (Texts w.heap.size v' (bg most (k+1) (dh true A)).1 w4):=by
       show w4.ownsRow _ _ _ _ (bg most (k+1) (dh true A)).1.length _;rw [kv,ak.o,List.map_append]; exact J
      have M:∀ g,u9.ownBlock=some g->w.heap.size<=g:=wy I.o;have a6:Zq (One B w w4):=(X.o.alloc _).grown E M
      have a7:Zq (Rd B (bg most (k+1) (dh true A)).2 w4):=by
       have h1:Rd B tx.2 (w3.alloc (.cells #[.string (S tx.1)] 9)):=al.o.mod ((Mod.refl (λ_=>False) w3).alloc _) (λx=>x);have h2:=(E.block B h1.lt (λe=>by have:=M B e.symm; have:=ap.o; omega)).trans h1;rw [ak.o]; exact h2
      clear J E I X al M;go_wp2_with fail;go_roundw
      case rel=>exact ⟨k+1,by omega,by go_num,a1.o,a7.o,a6.o⟩
      case measure=>simp [intOf]; omega
     ·
      have ek:k=x:=by omega
      subst ek;have b3:=N.o.e_cell
      by_cases F:(bg most k (dh true A)).2.e≠0
      ·
       have a8:=ab6 F;have ba:=zq F; clear F;go_wp2_with (go_at_call 222; refine (sw B _ _ N.o (bg most k (dh true A)).2.e r.s).mono ?_);rintro e w4 ⟨rfl,am,an⟩;have H:=zq (FIN2.o (dh true A) _ HL.o ba.o am (O.o.trans an));clear am an;go_wp2_with fail;go_ret;exact ⟨_,rfl,H.o⟩
      . have F:(bg most k (dh true A)).2.e=0:=by omega
        have a8:=adh F;have H:=zq (FIN.o (dh true A) _ _ HL.o R.o N.o O.o F);clear F;go_wp2_with fail;go_ret;exact ⟨_,rfl,H.o⟩
   ·
    have HL:Zq (A=dh (decide (many < (x:Int))) A):=by rw [decide_eq_false hm,vg]; rfl
    have O:Zq (One B w1 w1):=Mod.refl _ _;have cf:(x:Int)<=many:=by omega
    have Z:=ar;clear ao Y ar;have bw:A.s.length<=1152921504606846976:=by have:=qh true A; omega
    have ab:Zq (One B w w1):=bp.o.trans O.o;go_wp2_with fail;clear bo bm;go_loopw [9,33] (λv i wr=>∃ k:Nat,k<=x/\i=.int .i64 k/\Zq (Texts w.heap.size v (bg most k A).1 wr)/\Zq (Rd B (bg most k A).2 wr)/\Zq (One B w wr)) (λ_ i _=>x - (intOf i).toNat)
    case atStart=>exact ⟨0,by omega,rfl,⟨rfl,.inl ⟨rfl,rfl⟩⟩,Z.o,ab.o⟩
    case round =>
     clear Z ab O;obtain ⟨k,hk,rfl,R,N,O⟩:=hrel;have bz:=yn most k A
     by_cases hlt:k < x
     ·
      go_wp2_with (go_at_call 155; refine (xw B _ most hn0 hn1 (by omega) _ N.o).mono ?_);rintro e w3 ⟨rfl,ac,U⟩;have ad:=vk most k A;have av:=kv most k A
      have I:Zq (w3.ownsRow w.heap.size 9 1 u9 k ((bg most k A).1.map λl=>.string (S l))):=by
       have:=ownsRow_mod R.o U (λg hg=>by rw [hg]; exact ap.o);rw [av] at this; exact this
      have X:Zq (One B w w3):=O.o.trans U;clear R O U;generalize ig most (bg most k A).2=tx at *
      have ak:=zq ad; clear ad;have al:=zq ac; clear ac;go_wp2_with (at_builtin; refine wpList_append_own _ rfl (.tmp 35) (.tmp 39) 32 rfl w.heap.size 9 i0 (.string ⟨#[]⟩) 1 16 Tryz.underlying32 bj bk Y bl rfl (by decide) _ k ((bg most k A).1.map λl=>.string (S l)) rfl (I.o.alloc _) ⟨w3.heap.size,0,none⟩ 1 1 [.string (S tx.1)] rfl rfl ?c1 ?c2 ?c3 ?c4 ?c5 ?_)
      case c1=>exact cell_one_new _ _ _
      case c2=>intro u hu; simp at hu; subst hu; rfl
      case c3=>unfold maxLen; omega
      case c4=>omega
      case c5=>have:=X.o.size; simp; omega
      intro v' w4 J E _
      have a1:Zq (Texts w.heap.size v' (bg most (k+1) A).1 w4):=by
       show w4.ownsRow _ _ _ _ (bg most (k+1) A).1.length _;rw [kv,ak.o,List.map_append]; exact J
      have M:∀ g,u9.ownBlock=some g->w.heap.size<=g:=wy I.o;have a6:Zq (One B w w4):=(X.o.alloc _).grown E M
      have a7:Zq (Rd B (bg most (k+1) A).2 w4):=by
       have h1:Rd B tx.2 (w3.alloc (.cells #[.string (S tx.1)] 9)):=al.o.mod ((Mod.refl (λ_=>False) w3).alloc _) (λx=>x);have h2:=(E.block B h1.lt (λe=>by have:=M B e.symm; have:=ap.o; omega)).trans h1;rw [ak.o]; exact h2
      clear J E I X al M;go_wp2_with fail;go_roundw
      case rel=>exact ⟨k+1,by omega,by go_num,a1.o,a7.o,a6.o⟩
      case measure=>simp [intOf]; omega
     ·
      have ek:k=x:=by omega
      subst ek;have b3:=N.o.e_cell
      by_cases F:(bg most k A).2.e≠0
      ·
       have a8:=ab6 F;have ba:=zq F; clear F;go_wp2_with (go_at_call 222; refine (sw B _ _ N.o (bg most k A).2.e r.s).mono ?_);rintro e w4 ⟨rfl,am,an⟩;have H:=zq (FIN2.o A _ HL.o ba.o am (O.o.trans an));clear am an;go_wp2_with fail;go_ret;exact ⟨_,rfl,H.o⟩
      . have F:(bg most k A).2.e=0:=by omega
        have a8:=adh F;have H:=zq (FIN.o A _ _ HL.o R.o N.o O.o F);clear F;go_wp2_with fail;go_ret;exact ⟨_,rfl,H.o⟩
end OctW
namespace Bld
open Go.Shelf Go.RowKit
def ren:Go.Shelf.Ren:=⟨λ| 169=>183 | n=>n,λ| 70=>271 | 9=>9 | 0=>0 | 72=>273 | 37=>241 | 127=>328 | 3=>3 | 5=>5 | n=>n,λ| n=>n⟩
theorem lays:Go.Proofs.Lays.n169 Tryz.prog ren:={
 mixed:=by kernel_rfl
 f169:=Tryz.func183.trans (congrArg some (by kernel_rfl))
 t0:=Tryz.underlying0
 a0:=Tryz.isAgg0
 z0:=Tryz.sizeOf0
 v0:=Tryz.zeroValue0
 t3:=Tryz.underlying3
 a3:=Tryz.isAgg3
 z3:=Tryz.sizeOf3
 v3:=Tryz.zeroValue3
 t9:=Tryz.underlying9
 a9:=Tryz.isAgg9
 z9:=Tryz.sizeOf9
 v9:=Tryz.zeroValue9
 t37:=Tryz.underlying241
 a37:=Tryz.isAgg241
 z37:=Tryz.sizeOf241
 v37:=Tryz.zeroValue241
 t70:=Tryz.underlying271
 a70:=Tryz.isAgg271
 z70:=Tryz.sizeOf271
 v70:=Tryz.zeroValue271
 t72:=Tryz.underlying273
 a72:=Tryz.isAgg273
 z72:=Tryz.sizeOf273
 v72:=Tryz.zeroValue273
 t127:=Tryz.underlying328
 a127:=Tryz.isAgg328
 z127:=Tryz.sizeOf328
 v127:=Tryz.zeroValue328 }
theorem extra:Builder.Extra Tryz.prog ren:={
 sizeBuilder:=by kernel_rfl
 liesBuilder:=by kernel_rfl
 t5:=Tryz.underlying5
 a5:=Tryz.isAgg5
 z5:=Tryz.sizeOf5
 v5:=Tryz.zeroValue5
 infoByte:=by kernel_rfl
 cellsByte:=by kernel_rfl
 sizeByte:=by kernel_rfl
 neB5:=by decide }
theorem adj (B b:Nat) (l:List UInt8) (w:World) (h:Lib.IsBuilder 273 5 B b (Lib.byteCells l) w) (hBw:B<=w.heap.size) :
 Calls Tryz.prog 183 #[.pointer (some ⟨b,0,none⟩)] w λe w'=>e=.returned (.string ⟨l.toArray⟩)/\Below B w w':=Any.Builder_String_any lays extra B b l w h hBw
theorem abl:(Tryz.prog.info? 273).map (·.size)=some 2:=by kernel_rfl
theorem afw:liesAt Tryz.prog Tryz.prog.depth 273 (2 / Tryz.prog.cellsOf 273) 0 273 1=true:=by kernel_rfl
theorem ak0:(Tryz.prog.info? 5).map (λi=>(i.zero,i.size,i.bytes))=some (some (.int .u8 0),1,1):=by kernel_rfl
theorem adk (b:Nat) (w:World) (h0:w.cell? ⟨b,0,none⟩=some (.pointer (some ⟨b,0,none⟩))) :
 Calls Tryz.prog 238 #[.pointer (some ⟨b,0,none⟩)] w λe w'=>e=.returned (.tuple #[])/\w'=w:=by
 obtain ⟨j,A,_⟩:=Option.map_eq_some_iff.1 abl;go_enter Tryz.func238,Tryz.ntmps238;go_wp2;rw [Lib.run_neq_ptr_same w _ Tryz.underlying271 A];go_wp2;go_end0;exact ⟨rfl,rfl⟩
theorem ac5 (b:Nat) (w:World) (h0:w.cell? ⟨b,0,none⟩=some (.pointer none)) (hsh:w.shape? b=some (273,2)) (hfz:w.frozen? ⟨b,0,none⟩=false) :
 Calls Tryz.prog 238 #[.pointer (some ⟨b,0,none⟩)] w λe w'=>e=.returned (.tuple #[])/\w'=w.setCell ⟨b,0,none⟩ (.pointer (some ⟨b,0,none⟩)):=by
 obtain ⟨j,B,A⟩:=Option.map_eq_some_iff.1 abl;go_enter Tryz.func238,Tryz.ntmps238;go_wp2;rw [Lib.run_to_unsafe w ⟨b,0,none⟩ Tryz.underlying271 Tryz.underlying349 B (by rw [A]; decide) hsh (Nat.zero_lt_succ 1)];simp only [Result.andThen];rw [Oper.upon_value];go_wp2;rw [run_callFunc_extern Tryz.func261 (by kernel_rfl) (by kernel_rfl) (by kernel_rfl) (e:=Extern.AbiNoEscape.same) (by kernel_rfl)];rw [Lib.run_noEscape];simp only [Result.andThen];rw [Oper.upon_value];go_wp2;rw [Lib.run_from_unsafe w ⟨b,0,none⟩ Tryz.underlying349 Tryz.underlying271 B hsh afw];simp only [Result.andThen];rw [Oper.upon_value];go_wp2;go_end0;exact ⟨rfl,rfl⟩
theorem aes (B b:Nat) (bs:List Value) (w:World) (h:Lib.IsBuilder 273 5 B b bs w) :
 Calls Tryz.prog 238 #[.pointer (some ⟨b,0,none⟩)] w λe w'=>e=.returned (.tuple #[])/\(Lib.BuilderAt 273 5 B b (.pointer (some ⟨b,0,none⟩)) bs w'/\Below B w w'):=by
 rcases h with h | h
 . refine (ac5 b w h.cell0 h.shape h.frozen0).mono ?_
   rintro e w' ⟨rfl,rfl⟩;exact ⟨rfl,h.used _,(Below.refl B w).setCell (p:=⟨b,0,none⟩) h.1 _⟩
 . refine (adk b w h.cell0).mono ?_
   rintro e w' ⟨rfl,rfl⟩;exact ⟨rfl,h,Below.refl B _⟩
theorem zi (B b:Nat) (bs:List Value) (s:ByteArray) (w:World) (h:Lib.IsBuilder 273 5 B b bs w) (hlen:bs.length+s.size<=140737488355328) (hBw:B<=w.heap.size) :
 Calls Tryz.prog 181 #[.pointer (some ⟨b,0,none⟩),.string s] w λe w'=>e=.returned (.tuple #[.int .i64 s.size,.nilIface])/\(Lib.BuilderAt 273 5 B b (.pointer (some ⟨b,0,none⟩)) (bs++Lib.strCells s) w'/\Below B w w'):=by
 obtain ⟨i0,hi,N,O,R⟩:=info_parts ak0;go_enter Tryz.func181,Tryz.ntmps181;go_wp2_with (go_at_call 238; refine (aes B b bs _ h).mono ?_);rintro e w1 ⟨rfl,h1,M⟩;obtain ⟨Y,v,F,J,U⟩:=h1;have c0:w1.cell? ⟨b,0,none⟩=some (.pointer (some ⟨b,0,none⟩)):=by rw [Lib.cell_of_heap F]; rfl
 have c1:w1.cell? ⟨b,1,none⟩=some v:=by rw [Lib.cell_of_heap F]; rfl
 go_wp2_with (at_builtin; go_must (refine Lib.wpList_append_own_string _ rfl _ _ 241 9 rfl B 5 i0 Tryz.underlying241 Tryz.underlying9 hi N O R _ _ _ rfl J s rfl ?c3 ?c4 ?c5 ?_))
 case c3=>unfold maxLen; omega
 case c4=>omega
 case c5=>have:=M.size; omega
 intro v' w2 A E _
 have X:b < w1.heap.size:=by
  rcases Nat.lt_or_ge b w1.heap.size with h' | h'
  . exact h'
  . simp [Array.getElem?_eq_none h'] at F
 have I:w2.heap[b]?=some (.cells #[.pointer (some ⟨b,0,none⟩),v] 273 (0,0)):=by
  rw [E.block b X (λe=>U e.symm)];exact F
 have d0:w2.cell? ⟨b,0,none⟩=some (.pointer (some ⟨b,0,none⟩)):=by rw [Lib.cell_of_heap I]; rfl
 have d1:w2.cell? ⟨b,1,none⟩=some v:=by rw [Lib.cell_of_heap I]; rfl
 have f1:w2.frozen? ⟨b,1,none⟩=false:=Lib.frozen_of_heap I 1
 obtain ⟨Z,n',cap,rfl⟩:∃ Z n' cap,v'=.slice Z n' cap:=by
  rcases A.2 with ⟨hv,_⟩ | ⟨g,cap,cur,hv,_⟩
  . exact ⟨_,_,_,hv⟩
  . exact ⟨_,_,_,hv⟩
 go_wp2;go_ret2;refine ⟨rfl,?_,?_⟩
 . exact Lib.BuilderAt.put (T:=273) (e:=5) Y I (bs':=bs++Lib.strCells s) (by simpa [Lib.strCells_length] using A) (by decide)
 . exact (M.grown E (by have:=M.size; omega) (λk hk=>(J.lt k hk).1)).setCell (p:=⟨b,1,none⟩) Y _
end Bld
namespace OctW
open Go.RowKit OctMath
abbrev Bl (B b:Nat) (l:List UInt8) (w:World):Prop:=Lib.IsBuilder 273 5 B b (Lib.byteCells l) w
theorem aaz {M:Nat->Prop} {T e B b:Nat} {p:Value} {bs:List Value} {w w':World} (h:Lib.BuilderAt T e B b p bs w) (hm:Mod M w w') (hM:∀ k,M k->k < B):Lib.BuilderAt T e B b p bs w':=by
 obtain ⟨I,v,hb,A,E⟩:=h;have F:=(Array.getElem?_eq_some_iff.1 hb).1;exact ⟨I,v,(hm.block b F (λh=>by have:=hM b h; omega)).trans hb,ownsRow_mod A hm hM,E⟩
theorem Bl.mod {M:Nat->Prop} {B b:Nat} {l:List UInt8} {w w':World} (h:Bl B b l w) (hm:Mod M w w') (hM:∀ k,M k->k < B):Bl B b l w':=by
 rcases h with h | h
 . exact .inl (aaz h hm hM)
 . exact .inr (aaz h hm hM)
theorem Bl.below {B b:Nat} {l:List UInt8} {w w':World} (h:Bl B b l w) (hm:Below w.heap.size w w'):Bl B b l w':=h.mod (M:=λ_=>False) (Mod.of_below hm) (λ_ x=>x.elim)
def Ints (w:World) (a:Option Addr) (xs:List Int):Prop:=∀ i (h:i < xs.length),∃ b off,a=some ⟨b,off,none⟩/\w.cell? ⟨b,off+i,none⟩=some (.int .i64 xs[i])
theorem Ints.below {w w':World} {a:Option Addr} {xs:List Int} (h:Ints w a xs) (hb:Below w.heap.size w w'):Ints w' a xs:=by
 intro i A;obtain ⟨b,off,rfl,hc⟩:=h i A;exact ⟨b,off,rfl,by rw [hb.cell (ay hc)]; exact hc⟩
def numsL (n:Nat) (xs:List Int):List UInt8:=xs.flatMap λx=>be n x.toNat
def fits (n:Nat) (x:Int):Prop:=0<=x/\x < (256 ^ n:Nat)
instance (n:Nat) (x:Int):Decidable (fits n x):=by unfold fits; infer_instance
def ol (n:Int) (xs:List Int):List UInt8×Nat:=if n < 1\/7 < n then ([],1) else if ∀ x∈xs,fits n.toNat x then (numsL n.toNat xs,0) else ([],2)
theorem aig (n:Nat) (xs:List Int) (k:Nat) (h:k < xs.length):numsL n (xs.take (k+1))=numsL n (xs.take k)++be n xs[k].toNat:=by
 unfold numsL; rw [List.take_succ_eq_append_getElem h,List.flatMap_append]; simp
theorem numsL_length (n:Nat) (xs:List Int):(numsL n xs).length=xs.length * n:=by
 unfold numsL; induction xs with
 | nil=>simp
 | cons x xs ih=>simp [bn,ih,Nat.succ_mul]; omega
theorem as9 (z m:Nat):((z:Int) / 2 ^ (8 * m) != 0)=decide (256 ^ m<=z):=by
 have h:((z:Int) / 2 ^ (8 * m))=((z / 256 ^ m:Nat):Int):=by
  rw [Int.natCast_ediv,show ((256 ^ m:Nat):Int)=2 ^ (8 * m) from by rw [Int.natCast_pow,Int.pow_mul]; rfl]
 have hp:0 < 256 ^ m:=Nat.pow_pos (by omega);rw [h]
 by_cases hz:256 ^ m<=z
 ·
  have:=Nat.div_pos hz hp;rw [decide_eq_true hz];generalize z / 256 ^ m=q at *
  exact bne_iff_ne.2 (by omega)
 . rw [decide_eq_false hz,Nat.div_eq_of_lt (by omega)]; rfl
theorem nums_any (n:Int) (hn0 : -9223372036854775808<=n) (hn1:n<=9223372036854775807) (a:Option Addr) (cap:Nat) (xs:List Int) (hx:xs.length<=1048576) (hr:∀ x∈xs,-9223372036854775808<=x/\x<=9223372036854775807) (W:World) (h:Ints W a xs) :
 Calls Tryz.prog 106 #[.int .i64 n,.slice a xs.length cap] W λe w'=>e=.returned (.tuple #[.string (S (ol n xs).1),.int .i64 ((ol n xs).2:Int)])/\Below W.heap.size W w':=by
 have HI:=zq h; clear h;have ad:=zq hr; clear hr
 by_cases hw:n < 1\/7 < n
 ·
  have X:Zq (ol n xs=([],1)):=by unfold ol; rw [if_pos hw]; rfl
  go_enter Tryz.func106,Tryz.ntmps106
  rcases hw with hw | hw
  . go_wp2_with fail
    go_ret2;rw [X.o];exact ⟨rfl,Below.refl _ _⟩
  ·
   have a7:1<=n:=by omega
   go_wp2_with fail;go_ret2;rw [X.o];exact ⟨rfl,Below.refl _ _⟩
 ·
  obtain ⟨m,rfl⟩:∃ m:Nat,n=m:=⟨n.toNat,by omega⟩;have a8:1<=m:=by omega
  have ak:m<=7:=by omega
  have X:Zq (ol (m:Int) xs=if ∀ x∈xs,fits m x then (numsL m xs,0) else ([],2)):=by unfold ol; rw [if_neg hw]; rfl
  clear hw;have M:Zq (Bl W.heap.size W.heap.size [] (W.alloc (.cells #[.pointer none,.slice none 0 0] 273))):=Lib.fresh_isBuilder _ _ W;have A:Zq (Below W.heap.size W (W.alloc (.cells #[.pointer none,.slice none 0 0] 273))):=(Below.refl _ W).alloc (Nat.le_refl _) _;go_enter Tryz.func106,Tryz.ntmps106;go_wp2_with fail;go_loopw [17] (λi wr=>∃ k:Nat,k<=xs.length/\i=.int .i64 k/\Zq (Bl W.heap.size W.heap.size (numsL m (xs.take k)) wr)/\Zq (Below W.heap.size W wr)/\Zq (∀ x∈xs.take k,fits m x)) (λi _=>xs.length - (intOf i).toNat)
  case atStart=>exact ⟨0,by omega,rfl,M,A,by simp [Zq]⟩
  case round =>
   clear M A;obtain ⟨k,hk,rfl,M,A,HA⟩:=hrel
   by_cases hlt:k < xs.length
   ·
    obtain ⟨b,off,rfl,hc⟩:=HI.o k hlt;rw [<- A.o.cell (ay hc)] at hc;have am:=ad.o xs[k] (by simp);have Y:=aig m xs k hlt;have Z:∀ x,x∈xs.take (k+1)↔x∈xs.take k\/x=xs[k]:=by intro y; rw [List.take_succ_eq_append_getElem hlt,List.mem_append,List.mem_singleton]
    have F:xs[k]∈xs:=by simp
    generalize xs[k]=x at *
    have an:=zq Y; clear Y;have ao:=zq Z; clear Z;have I:=zq F; clear F;obtain ⟨ap,ba⟩:=am
    by_cases h0:x < 0
    . have B:Zq (ol (m:Int) xs=([],2)):=by rw [X.o,if_neg (λh=>by have:=(h x I.o).1; omega)]; rfl
      go_wp2_with fail;go_ret2;rw [B.o];exact ⟨rfl,A.o⟩
    ·
     obtain ⟨z,rfl⟩:∃ z:Nat,x=z:=⟨x.toNat,by omega⟩;clear h0 ap;have ab:=as9 z m
     by_cases hf:256 ^ m<=z
     . have B:Zq (ol (m:Int) xs=([],2)):=by rw [X.o,if_neg (λh=>by have:=(h z I.o).2; omega)]; rfl
       rw [decide_eq_true hf] at ab;clear hf;go_wp2_with fail;go_ret2;rw [B.o];exact ⟨rfl,A.o⟩
     ·
      have ar:Zq (fits m z):=⟨by omega,by omega⟩;rw [decide_eq_false hf] at ab;clear hf;go_wp2_with (go_at_call 182; refine (put_any m z (by omega) (by omega) _).mono ?_);rintro e w1 ⟨rfl,N⟩;have O:Zq (Below W.heap.size W w1):=A.o.trans (N.mono A.o.size);have ac:Zq (Bl W.heap.size W.heap.size (numsL m (xs.take k)) w1):=M.o.below N
      have J:(Lib.byteCells (numsL m (xs.take k))).length+(S (be m z)).size<=140737488355328:=by
       rw [Lib.byteCells_length,numsL_length,au,bn,List.length_take];have:min k xs.length * m<=1048576 * 7:=Nat.mul_le_mul (by omega) ak;omega
      clear N M A;go_wp2_with (go_at_call 181; refine (Bld.zi W.heap.size W.heap.size _ (S (be m z)) _ ac.o J O.o.size).mono ?_);rintro e w2 ⟨rfl,R,E⟩;have U:Zq (Below W.heap.size W w2):=O.o.trans E
      have av:Zq (Bl W.heap.size W.heap.size (numsL m (xs.take (k+1))) w2):=by
       rw [an.o];have:Lib.byteCells (numsL m (xs.take k))++Lib.strCells (S (be m z))=Lib.byteCells (numsL m (xs.take k)++be m z):=by rw [Lib.strCells_eq,kg,Lib.byteCells_append]
       rw [this] at R;exact .inr R
      clear R E ac O J;go_wp2_with fail;go_roundw
      case rel =>
       refine ⟨k+1,by omega,by go_num,av,U,λy hy=>?_⟩
       rcases (ao.o y).1 hy with hy | rfl
       . exact HA.o y hy
       . exact ar.o
      case measure=>simp [intOf]; omega
   ·
    have ek:k=xs.length:=by omega
    subst ek;rw [List.take_length] at M HA;have B:Zq (ol (m:Int) xs=(numsL m xs,0)):=by rw [X.o,if_pos HA.o]; rfl
    go_wp2_with (go_at_call 183; refine (Bld.adj W.heap.size W.heap.size _ _ M.o A.o.size).mono ?_);rintro e w2 ⟨rfl,E⟩;have U:Zq (Below W.heap.size W w2):=A.o.trans E;clear E;go_wp2_with fail;go_ret2;rw [B.o];exact ⟨rfl,U.o⟩
def gy (t:List UInt8):List UInt8:=be 2 t.length++t
def cz (ts:List (List UInt8)):List UInt8:=ts.flatMap gy
def ll (ts:List (List UInt8)):List UInt8×Nat:=if ∀ t∈ts,t.length<=65535 then (cz ts,0) else ([],6)
def ui (ts:List (List UInt8)):List UInt8×Nat:=if 255 < ts.length then ([],6) else if ∀ t∈ts,t.length<=65535 then (be 1 ts.length++cz ts,0) else ([],6)
theorem agk (ts:List (List UInt8)) (k:Nat) (h:k < ts.length):cz (ts.take (k+1))=cz (ts.take k)++gy ts[k]:=by
 unfold cz; rw [List.take_succ_eq_append_getElem h,List.flatMap_append]; simp
theorem adl (ts:List (List UInt8)) (k:Nat):(cz (ts.take k)).length<=(cz ts).length:=by
 unfold cz
 conv=>rhs; rw [<- List.take_append_drop k ts]
 rw [List.flatMap_append,List.length_append]; omega
theorem ab9 (a:Option Addr) (cap:Nat) (ts:List (List UInt8)) (hx:ts.length<=1048576) (A:(cz ts).length<=1073741824) (W:World) (h:Strs W a (ts.map S)) :
 Calls Tryz.prog 107 #[.slice a ts.length cap] W λe w'=>e=.returned (.tuple #[.string (S (ll ts).1),.int .i64 ((ll ts).2:Int)])/\Below W.heap.size W w':=by
 have HI:=zq h; clear h;have X:=zq A; clear A;have I:Zq (Bl W.heap.size W.heap.size [] (W.alloc (.cells #[.pointer none,.slice none 0 0] 273))):=Lib.fresh_isBuilder _ _ W;have E:Zq (Below W.heap.size W (W.alloc (.cells #[.pointer none,.slice none 0 0] 273))):=(Below.refl _ W).alloc (Nat.le_refl _) _;go_enter Tryz.func107,Tryz.ntmps107;go_wp2_with fail;go_loopw [9] (λi wr=>∃ k:Nat,k<=ts.length/\i=.int .i64 k/\Zq (Bl W.heap.size W.heap.size (cz (ts.take k)) wr)/\Zq (Below W.heap.size W wr)/\Zq (∀ x∈ts.take k,x.length<=65535)) (λi _=>ts.length - (intOf i).toNat)
 case atStart=>exact ⟨0,by omega,rfl,I,E,by simp [Zq]⟩
 case round =>
  clear I E;obtain ⟨k,hk,rfl,I,E,HA⟩:=hrel
  by_cases hlt:k < ts.length
  ·
   obtain ⟨b,off,rfl,hc⟩:=HI.o k (by simpa using hlt);rw [<- E.o.cell (ay hc),List.getElem_map] at hc;have J:=agk ts k hlt;have Y:∀ y,y∈ts.take (k+1)↔y∈ts.take k\/y=ts[k]:=by intro y; rw [List.take_succ_eq_append_getElem hlt,List.mem_append,List.mem_singleton]
   have F:ts[k]∈ts:=by simp
   have ak:(cz (ts.take (k+1))).length<=1073741824:=Nat.le_trans (adl ts _) X.o;rw [J,List.length_append] at ak;generalize ts[k]=x at *
   have ar:(gy x).length=x.length+2:=by unfold gy; rw [List.length_append,bn]; omega
   have al:=zq J; clear J;have am:=zq Y; clear Y;have Z:=zq F; clear F;have av:=au x
   by_cases hf:65535 < x.length
   . have M:Zq (ll ts=([],6)):=by unfold ll; rw [if_neg (λh=>by have:=h x Z.o; omega)]; rfl
     go_wp2_with fail;go_ret2;rw [M.o];exact ⟨rfl,E.o⟩
   ·
    have a1:(S (be 2 x.length)).size=2:=by rw [au,bn]
    have ab:Zq (S (be 2 x.length)++S x=S (gy x)):=gu _ _;go_wp2_with (go_at_call 182; refine (put_any 2 x.length (by omega) (by omega) _).mono ?_);rintro e w1 ⟨rfl,N⟩;have O:Zq (Below W.heap.size W w1):=E.o.trans (N.mono E.o.size);have ac:Zq (Bl W.heap.size W.heap.size (cz (ts.take k)) w1):=I.o.below N
    have A:(Lib.byteCells (cz (ts.take k))).length+(S (gy x)).size<=140737488355328:=by
     rw [Lib.byteCells_length,au]; omega
    clear N I E;go_wp2_with fail;rw [ab.o];refine (Bld.zi W.heap.size W.heap.size _ (S (gy x)) _ ac.o A O.o.size).mono ?_;rintro e w2 ⟨rfl,R,B⟩;have U:Zq (Below W.heap.size W w2):=O.o.trans B
    have an:Zq (Bl W.heap.size W.heap.size (cz (ts.take (k+1))) w2):=by
     rw [al.o];have:Lib.byteCells (cz (ts.take k))++Lib.strCells (S (gy x))=Lib.byteCells (cz (ts.take k)++gy x):=by rw [Lib.strCells_eq,kg,Lib.byteCells_append]
     rw [this] at R;exact .inr R
    clear R B ac O A;go_wp2_with fail;go_roundw
    case rel =>
     refine ⟨k+1,by omega,by go_num,an,U,λy hy=>?_⟩
     rcases (am.o y).1 hy with hy | rfl
     . exact HA.o y hy
     . omega
    case measure=>simp [intOf]; omega
  ·
   have ek:k=ts.length:=by omega
   subst ek;rw [List.take_length] at I HA;have M:Zq (ll ts=(cz ts,0)):=by unfold ll; rw [if_pos HA.o]; rfl
   go_wp2_with (go_at_call 183; refine (Bld.adj W.heap.size W.heap.size _ _ I.o E.o.size).mono ?_);rintro e w2 ⟨rfl,B⟩;have U:Zq (Below W.heap.size W w2):=E.o.trans B;clear B;go_wp2_with fail;go_ret2;rw [M.o];exact ⟨rfl,U.o⟩
theorem ak1 (a:Option Addr) (cap:Nat) (ts:List (List UInt8)) (hx:ts.length<=1048576) (hlen:(cz ts).length<=1073741824) (W:World) (h:Strs W a (ts.map S)) :
 Calls Tryz.prog 271 #[.slice a ts.length cap] W λe w'=>e=.returned (.tuple #[.string (S (ui ts).1),.int .i64 ((ui ts).2:Int)])/\Below W.heap.size W w':=by
 have M:=zq h; clear h;go_enter Tryz.func271,Tryz.ntmps271
 by_cases hl:255 < ts.length
 ·
  have B:Zq (ui ts=([],6)):=by unfold ui; rw [if_pos hl]; rfl
  go_wp2_with fail;go_ret2;rw [B.o];exact ⟨rfl,Below.refl _ _⟩
 ·
  go_wp2_with (go_at_call 107; refine (ab9 a cap ts hx hlen _ M.o).mono ?_);rintro e w1 ⟨rfl,E⟩;have A:=zq E; clear E
  by_cases hf:∀ t∈ts,t.length<=65535
  ·
   have h1:(ll ts)=(cz ts,0):=by unfold ll; rw [if_pos hf]
   have B:Zq (ui ts=(be 1 ts.length++cz ts,0)):=by unfold ui; rw [if_neg hl,if_pos hf]; rfl
   rw [h1];clear h1 hf;have N:(S (be 1 ts.length)).size=1:=by rw [au,bn]
   have O:=au (cz ts);have F:Zq (S (be 1 ts.length)++S (cz ts)=S (be 1 ts.length++cz ts)):=gu _ _;go_wp2_with (go_at_call 182; refine (put_any 1 ts.length (by omega) (by omega) _).mono ?_);rintro e w2 ⟨rfl,I⟩;have J:Zq (Below W.heap.size W w2):=A.o.trans (I.mono A.o.size);clear I;go_wp2_with fail;rw [F.o];go_wp2_with fail;go_ret2;rw [B.o];exact ⟨rfl,J.o⟩
  ·
   have h1:(ll ts)=([],6):=by unfold ll; rw [if_neg hf]
   have B:Zq (ui ts=([],6)):=by unfold ui; rw [if_neg hl,if_neg hf]; rfl
   rw [h1];clear h1 hf;go_wp2_with fail;go_ret2;rw [B.o];exact ⟨rfl,A.o⟩
def ae4 (most:Int) (l:List UInt8):List UInt8×Nat×Nat :=
 if l.length < 2 then ([],0,3) else if most < (val (l.take 2):Int) then ([],0,6) else if l.length < 2+val (l.take 2) then ([],0,3) else ((l.drop 2).take (val (l.take 2)),2+val (l.take 2),0)
theorem ap6 (n:Nat) (l:List UInt8) (h1:1<=n) (h7:n<=7):dm (n:Int) ⟨l,0⟩=if l.length < n then (0,⟨l,3⟩) else (val (l.take n),⟨l.drop n,0⟩):=by
 have A:ed (n:Int) ⟨l,0⟩=if l.length < n then ([],⟨l,3⟩) else (l.take n,⟨l.drop n,0⟩):=by
  unfold ed;rw [if_neg (by simp),if_neg (by omega)]
  by_cases h:l.length < n
  . rw [if_pos h,if_pos (by simpa using h)]
  . rw [if_neg h,if_neg (by simpa using h)]; simp
 unfold dm;rw [if_neg (by simp),if_neg (by omega),A]
 split <;> rfl
theorem agl (most:Int) (l:List UInt8):ig most ⟨l,0⟩=((ae4 most l).1,⟨l.drop (ae4 most l).2.1,(ae4 most l).2.2⟩):=by
 rw [abk most _ (by simp)];have A:=ap6 2 l (by omega) (by omega);rw [show dm 2 ⟨l,0⟩=_ from A];unfold ae4
 by_cases h2:l.length < 2
 ·
  rw [if_pos h2,if_pos h2];have:dh (decide (most < ((0:Nat):Int))) ⟨l,3⟩=⟨l,3⟩:=ab8 _ (by simp);simp only [this];have:ed ((0:Nat):Int) ⟨l,3⟩=([],⟨l,3⟩):=by unfold ed; rw [if_pos (by simp)]
  rw [this]; simp
 ·
  rw [if_neg h2,if_neg h2];simp only;generalize hx:val (l.take 2)=x
  by_cases hm:most < (x:Int)
  ·
   rw [decide_eq_true hm,if_pos hm];have:dh true ⟨l.drop 2,0⟩=⟨l.drop 2,6⟩:=by unfold dh; rw [if_pos ⟨rfl,rfl⟩]
   rw [this];have:ed (x:Int) ⟨l.drop 2,6⟩=([],⟨l.drop 2,6⟩):=by unfold ed; rw [if_pos (by simp)]
   rw [this]; simp
  ·
   rw [decide_eq_false hm,if_neg hm,vg]
   have B:ed (x:Int) ⟨l.drop 2,0⟩=if l.length < 2+x then ([],⟨l.drop 2,3⟩) else ((l.drop 2).take x,⟨l.drop (2+x),0⟩):=by
    unfold ed;rw [if_neg (by simp),if_neg (show ¬ (x:Int) < 0 by omega)]
    by_cases hs:l.length < 2+x
    . rw [if_pos hs,if_pos (show ((l.drop 2).length:Int) < x by rw [List.length_drop]; omega)]
    . rw [if_neg hs,if_neg (show ¬ ((l.drop 2).length:Int) < x by rw [List.length_drop]; omega)]; simp
   rw [B]
   by_cases hs:l.length < 2+x
   . rw [if_pos hs,if_pos hs,if_pos (by simp)]; simp
   . rw [if_neg hs,if_neg hs,if_neg (by simp)]
theorem vo (m x:Nat) (rest:List UInt8) (h1:1<=m) (h7:m<=7) (hx:x < 256 ^ m):dm (m:Int) ⟨be m x++rest,0⟩=(x,⟨rest,0⟩):=by
 have A:=bn m x
 have B:ed (m:Int) ⟨be m x++rest,0⟩=(be m x,⟨rest,0⟩):=by
  unfold ed;rw [if_neg (by simp),if_neg (by omega),if_neg (by simp [A]; omega)];simp [A]
 unfold dm;rw [if_neg (by simp),if_neg (by omega),B,am9,Nat.mod_eq_of_lt hx]
theorem jh (t:List UInt8):(gy t).length=t.length+2:=by unfold gy; rw [List.length_append,bn]; omega
theorem zy (t:List UInt8) (ts:List (List UInt8)):cz (t :: ts)=gy t++cz ts:=by unfold cz; simp
theorem aih (most:Int) (t rest:List UInt8) (h:t.length<=65535) (hm:(t.length:Int)<=most):ae4 most (gy t++rest)=(t,2+t.length,0):=by
 have A:(gy t++rest).length=t.length+2+rest.length:=by rw [List.length_append,jh]
 have B:(gy t++rest).take 2=be 2 t.length:=by
  unfold gy; rw [List.append_assoc,List.take_append_of_le_length (by rw [bn]; omega),List.take_of_length_le (by rw [bn]; omega)]
 have hd:(gy t++rest).drop 2=t++rest:=by
  unfold gy; rw [List.append_assoc];have:=bn 2 t.length;rw [List.drop_append,List.drop_of_length_le (by omega),this]; simp
 have E:val (be 2 t.length)=t.length:=by rw [am9]; exact Nat.mod_eq_of_lt (by omega)
 unfold ae4;rw [B,E,A,hd,if_neg (by omega),if_neg (by omega),if_neg (by omega)];simp
theorem yo (most:Int) (t rest:List UInt8) (h:t.length<=65535) (hm:(t.length:Int)<=most):ig most ⟨gy t++rest,0⟩=(t,⟨rest,0⟩):=by
 rw [agl,aih most t rest h hm]
 have:(gy t++rest).drop (2+t.length)=rest:=by
  rw [List.drop_append,List.drop_of_length_le (by rw [jh]; omega),jh,show 2+t.length - (t.length+2)=0 by omega]; rfl
 simp only [this]
theorem afx (most:Int) (rest:List UInt8):∀ A:List (List UInt8),(∀ t∈A,t.length<=65535/\(t.length:Int)<=most)->bg most A.length ⟨cz A++rest,0⟩=(A,⟨rest,0⟩):=by
 intro A
 induction A with
 | nil=>intro _; rfl
 | cons t A ih =>
   intro h;have h0:=h t (List.mem_cons_self ..);have B:=yo most t (cz A++rest) h0.1 h0.2;rw [zy,List.append_assoc];show ((ig most _).1 :: (bg most A.length (ig most _).2).1,(bg most A.length (ig most _).2).2)=_;rw [B];simp only;rw [ih (λt E=>h t (List.mem_cons_of_mem _ E))]
theorem ak2 (n:Nat) (rest:List UInt8) (h:n<=255):dm 1 ⟨be 1 n++rest,0⟩=(n,⟨rest,0⟩):=vo 1 n rest (by omega) (by omega) (by omega)
theorem aii (many most:Int) (rest:List UInt8) (ts:List (List UInt8)) (hl:ts.length<=255) (hm:(ts.length:Int)<=many) (h:∀ t∈ts,t.length<=65535/\(t.length:Int)<=most) :
 rz many most ⟨be 1 ts.length++cz ts++rest,0⟩=(ts,⟨rest,0⟩):=by
 rw [adi _ _ _ (by simp),List.append_assoc,ak2 _ _ hl];simp only;rw [decide_eq_false (by omega),vg,afx most rest ts h,if_neg (by simp)]
end OctW
namespace CrcMath
def poly:BitVec 32:=0xEDB88320#32
def zk (x:BitVec 32):BitVec 32:=if x.getLsbD 0 then (x >>> 1) ^^^ poly else x >>> 1
def steps:Nat->BitVec 32->BitVec 32
 | 0,x=>x
 | n+1,x=>steps n (zk x)
theorem aao (m n:Nat) (x:BitVec 32):steps (m+n) x=steps n (steps m x):=by
 induction m generalizing x with
 | zero=>simp [steps]
 | succ m ih=>rw [Nat.succ_add]; simp only [steps]; exact ih _
theorem acr (n:Nat) (x:BitVec 32):steps (n+1) x=zk (steps n x):=by
 rw [aao]; rfl
theorem ana (x y:BitVec 32) (n:Nat):(x ^^^ y) >>> n=(x >>> n) ^^^ (y >>> n):=by
 ext i hi; simp
theorem aij (p a b:BitVec 32):(a ^^^ p) ^^^ (b ^^^ p)=a ^^^ b:=by
 ext i hi; simp; cases a[i] <;> cases b[i] <;> cases p[i] <;> rfl
theorem ak3 (x y:BitVec 32):zk (x ^^^ y)=zk x ^^^ zk y:=by
 unfold zk;rw [BitVec.getLsbD_xor,ana]
 cases x.getLsbD 0 <;> cases y.getLsbD 0 <;> simp
 . ac_rfl
 . ac_rfl
 . exact (aij _ _ _).symm
theorem xx (n:Nat) (x y:BitVec 32):steps n (x ^^^ y)=steps n x ^^^ steps n y:=by
 induction n generalizing x y with
 | zero=>rfl
 | succ n ih=>simp only [steps,ak3]; exact ih _ _
theorem ak4 (n:Nat) (x:BitVec 32) (h:∀ i,i < n->x.getLsbD i=false):steps n x=x >>> n:=by
 induction n generalizing x with
 | zero=>simp [steps]
 | succ n ih =>
   have h0:zk x=x >>> 1:=by unfold zk; rw [h 0 (by omega)]; simp
   simp only [steps,h0];rw [ih]
   . ext i A; simp; congr 1; omega
   . intro i A; simp; exact h _ (by omega)
def ext (b:BitVec 8):BitVec 32:=b.setWidth 32
theorem ap7 (k:Nat) (x:BitVec 32) (h:∀ i,32 - k<=i->x.getLsbD i=false):(x <<< k) >>> k=x:=by
 ext i hi
 simp;rw [<- BitVec.getLsbD_eq_getElem hi]
 by_cases h2:k+i < 32
 . simp [h2]
 . simp [h2,h i (by omega)]
theorem qx (n k:Nat) (x:BitVec 32) (h:∀ i,32 - k<=i->x.getLsbD i=false):steps (k+n) (x <<< k)=steps n x:=by
 rw [aao,ak4 k (x <<< k) (by intro i A; simp; intro _ B; omega),ap7 k x h]
theorem anb (b:BitVec 8) (i:Nat) (hi:8<=i):(ext b).getLsbD i=false:=by
 simp [ext]; intro _; exact BitVec.getLsbD_of_ge _ _ hi
def tab (k:Nat) (b:BitVec 8):BitVec 32:=steps (8 * (k+1)) (ext b)
def upd (r:BitVec 32) (b:BitVec 8):BitVec 32:=steps 8 (r ^^^ ext b)
def reg (r:BitVec 32) (l:List UInt8):BitVec 32:=l.foldl (λr b=>upd r b.toBitVec) r
theorem aa6 (r:BitVec 32) (a b:List UInt8):reg r (a++b)=reg (reg r a) b:=List.foldl_append ..
theorem anc (r:BitVec 32) (a:UInt8) (b:List UInt8):reg r (a :: b)=reg (upd r a.toBitVec) b:=rfl
theorem ap8 (r:BitVec 32):reg r []=r:=rfl
theorem adm (w:BitVec 32):steps 8 w=tab 0 (w.setWidth 8) ^^^ (w >>> 8):=by
 have h:w=ext (w.setWidth 8) ^^^ ((w >>> 8) <<< 8):=by
  ext i A; simp [ext]
  by_cases h:i < 8
  . simp [h,A]
  . simp [h]
    rw [show 8+(i - 8)=i from by omega]; simp [A]
 have B:steps 8 ((w >>> 8) <<< 8)=w >>> 8:=by
  have:=qx 0 8 (w >>> 8) (by intro i A; simp; exact BitVec.getLsbD_of_ge _ _ (by omega))
  simpa [steps] using this
 conv=>lhs; rw [h]
 rw [xx,B]; rfl
theorem ane (k:Nat) (b:BitVec 8):tab (k+1) b=tab 0 ((tab k b).setWidth 8) ^^^ (tab k b >>> 8):=by
 rw [<- adm]; unfold tab; rw [<- aao]; rfl
theorem ar6 (r:BitVec 32) (b:BitVec 8):upd r b=tab 0 (r.setWidth 8 ^^^ b) ^^^ (r >>> 8):=by
 unfold upd; rw [adm];congr 1
 . congr 1; ext i hi; simp [ext]
 . ext i hi; simp [ext]
def zz (a b c d:BitVec 8):BitVec 32:=ext a ||| ext b <<< 8 ||| ext c <<< 16 ||| ext d <<< 24
theorem ae5 (a b c d:BitVec 8):zz a b c d=ext a ^^^ ext b <<< 8 ^^^ ext c <<< 16 ^^^ ext d <<< 24:=by
 unfold zz
 ext i hi
 simp [ext]
 by_cases h1:i < 8
 . simp [h1,show i < 16 from by omega,show i < 24 from by omega]
 ·
  by_cases h2:i < 16
  . simp [h1,h2,show i < 24 from by omega,BitVec.getLsbD_of_ge a i (by omega)]
  . by_cases h3:i < 24
    . simp [h1,h2,h3,BitVec.getLsbD_of_ge a i (by omega),BitVec.getLsbD_of_ge b (i - 8) (by omega)]
    . simp [h1,h2,h3,BitVec.getLsbD_of_ge a i (by omega),BitVec.getLsbD_of_ge b (i - 8) (by omega),BitVec.getLsbD_of_ge c (i - 16) (by omega)]
theorem anf (y:BitVec 32):y=zz (y.setWidth 8) ((y >>> 8).setWidth 8) ((y >>> 16).setWidth 8) ((y >>> 24).setWidth 8):=by
 unfold zz
 ext i hi
 simp [ext]
 by_cases h1:i < 8
 . simp [h1,hi,show i < 16 from by omega,show i < 24 from by omega]
 ·
  by_cases h2:i < 16
  . simp [h1,h2,show i < 24 from by omega,show i - 8 < 8 from by omega,show 8+(i - 8)=i from by omega,hi]
  . by_cases h3:i < 24
    . simp [h1,h2,h3,show ¬ i - 8 < 8 from by omega,show i - 16 < 8 from by omega,show 16+(i - 16)=i from by omega,hi]
    . simp [h1,h2,h3,show ¬ i - 8 < 8 from by omega,show ¬ i - 16 < 8 from by omega,show i - 24 < 8 from by omega,show 24+(i - 24)=i from by omega,hi]
theorem ac9 (k:Nat) (hk:k<=24) (b:BitVec 8):∀ i,32 - k<=i->(ext b).getLsbD i=false:=λi A=>anb b i (by omega)
theorem aet (a b c d:BitVec 8):steps 32 (zz a b c d)=tab 3 a ^^^ tab 2 b ^^^ tab 1 c ^^^ tab 0 d:=by
 rw [ae5,xx,xx,xx];have h1:steps 32 (ext b <<< 8)=tab 2 b:=qx 24 8 (ext b) (ac9 8 (by omega) b);have A:steps 32 (ext c <<< 16)=tab 1 c:=qx 16 16 (ext c) (ac9 16 (by omega) c);have B:steps 32 (ext d <<< 24)=tab 0 d:=qx 8 24 (ext d) (ac9 24 (by omega) d);rw [h1,A,B]; rfl
theorem adn (k:Nat) (hk:k<=24) (r:BitVec 32) (b:BitVec 8):upd (steps k r) b=steps (k+8) (r ^^^ ext b <<< k):=by
 unfold upd;have h:=qx 0 k (ext b) (ac9 k hk b);simp only [Nat.add_zero,steps] at h;rw [aao k 8,xx k,h]
theorem ap9 (x:BitVec 32) (a b c d:BitVec 8) :
 upd (upd (upd (upd x a) b) c) d=tab 3 ((x ^^^ zz a b c d).setWidth 8) ^^^ tab 2 (((x ^^^ zz a b c d) >>> 8).setWidth 8) ^^^ tab 1 (((x ^^^ zz a b c d) >>> 16).setWidth 8) ^^^ tab 0 (((x ^^^ zz a b c d) >>> 24).setWidth 8):=by
 rw [<- aet,<- anf,ae5];rw [show upd x a=steps 8 (x ^^^ ext a) from rfl,adn 8 (by omega),adn 16 (by omega),adn 24 (by omega)];congr 1;simp only [BitVec.xor_assoc]
/-! a turned byte shows -/
/-! the sum is linear -/
def sum (l:List UInt8):BitVec 32 := ~~~ reg (BitVec.allOnes 32) l
def be4 (n:Nat):List UInt8:=[UInt8.ofNat (n / 16777216),UInt8.ofNat (n / 65536),UInt8.ofNat (n / 256),UInt8.ofNat n]
def ai (l:List UInt8):List UInt8:=be4 (sum l).toNat++l
theorem acs (l:List UInt8):(ai l).drop 4=l:=rfl
theorem ji (l:List UInt8):(ai l).length=4+l.length:=by simp [ai,be4]; omega
end CrcMath
namespace NameMath
open Go.RowKit OctMath
def sj (n:Nat):Bool:=(decide (97<=n) && decide (n<=122)) || (decide (48<=n) && decide (n<=57)) || n == 45
def ae6 (c:UInt8):Bool:=sj c.toNat
def ik (l:List UInt8):Bool:=decide (1<=l.length) && decide (l.length<=16) && l.all ae6
def iq (l:List UInt8):Bool:=ik l && decide (l.length<=8)
theorem ae7 (n:Nat) (h:128<=n):sj n=false:=by
 unfold sj;rw [decide_eq_false (show ¬ n<=122 by omega),decide_eq_false (show ¬ n<=57 by omega),Bool.and_false,Bool.and_false];exact beq_eq_false_iff_ne.2 (by omega)
theorem arv (l:List UInt8) (i:Nat) (h:i < l.length):(S l).get! i=l[i]:=by
 show (l.toArray)[i]! = _;simp [h]
theorem decode_ascii (l:List UInt8) (i:Nat) (h:i < l.length) (hb:l[i].toNat < 128):Utf8.decode (S l) i=(l[i].toNat,1):=by
 unfold Utf8.decode;simp only [Nat.add_zero,arv l i h,if_pos hb]
theorem aik (l:List UInt8) (i:Nat) (h:i < l.length) (hb:¬ l[i].toNat < 128):128<=(Utf8.decode (S l) i).1:=by
 unfold Utf8.decode;simp only [Nat.add_zero,arv l i h,if_neg hb];have A:128<=Utf8.runeError:=by decide
 (repeat' split) <;> first | exact A | (simp only []; omega) | (rename_i hc; simp only [Bool.and_eq_true,decide_eq_true_eq] at hc; have:=hc.1; simp only []; omega)
theorem agm (l:List UInt8):∀ f pos:Nat,l.length<=pos+f->(Lib.idxFuncFrom (λn=>!sj n) true (S l) f pos = -1↔(l.drop pos).all ae6=true)
 | 0,pos,h=>by
   rw [List.drop_of_length_le (by omega)];exact ⟨λ_=>rfl,λ_=>rfl⟩
 | f+1,pos,h=>by
   unfold Lib.idxFuncFrom;rw [au]
   by_cases hp:pos < l.length
   ·
    rw [if_pos hp,List.drop_eq_getElem_cons hp,List.all_cons]
    by_cases hb:l[pos].toNat < 128
    ·
     rw [decode_ascii l pos hp hb];simp only [];have A:ae6 l[pos]=sj l[pos].toNat:=rfl;rw [A]
     cases sj l[pos].toNat with
     | true =>
       rw [if_neg (by simp),Bool.true_and];exact agm l f (pos+1) (by omega)
     | false =>
       rw [if_pos (by simp),Bool.false_and];exact ⟨λh=>by omega,λh=>by simp at h⟩
    . have h1:=ae7 _ (aik l pos hp hb)
      have B:ae6 l[pos]=false:=ae7 _ (by omega);rw [h1,B,if_pos (by simp),Bool.false_and];exact ⟨λh=>by omega,λh=>by simp at h⟩
   . rw [if_neg hp,List.drop_of_length_le (by omega)]
     exact ⟨λ_=>rfl,λ_=>rfl⟩
theorem ar7 (l:List UInt8):decide (Lib.idxFunc (λn=>!sj n) true (S l) < (0:Int))=l.all ae6:=by
 have h:=agm l (S l).size 0 (by rw [au]; omega);rw [List.drop_zero] at h;have A:=Lib.idxFunc_range (λn=>!sj n) true (S l);have B:Lib.idxFunc (λn=>!sj n) true (S l)=Lib.idxFuncFrom (λn=>!sj n) true (S l) (S l).size 0:=rfl;rw [<- B] at h
 cases hb:l.all ae6 with
 | true=>rw [hb] at h; rw [h.2 rfl]; rfl
 | false =>
   rw [hb] at h
   rcases A with h1 | h1
   . exact absurd (h.1 h1) (by simp)
   . exact decide_eq_false (by omega)
theorem ang (l:List UInt8):ik l=(decide (l≠[]) && decide (l.length<=16) && decide (Lib.idxFunc (λn=>!sj n) true (S l) < (0:Int))):=by
 rw [ar7]; unfold ik;congr 2
 cases l <;> simp
def lw:List UInt8:=[37,114,101,116,114,121,37]
def acu:List UInt8:=[37,100,101,97,100,37]
def ofL (l:List UInt8):List UInt8 :=
 if (Lib.hasPrefix l lw && iq (l.drop 7))=true then l.drop 7
 else if (Lib.hasPrefix l acu && iq (l.drop 6))=true then l.drop 6 else []
def jq (l:List UInt8):Bool:=ik l || !(ofL l).isEmpty
theorem ado (l:List UInt8) (h:iq l=true):l.isEmpty=false:=by
 cases l with
 | nil=>simp [iq,ik] at h
 | cons _ _=>rfl
end NameMath
namespace RecMath
open OctMath OctW NameMath
structure Msg where
 kind:Int
 queue:Int
 due:Int
 retry:Int
 ref:Int
 born:Int
 topic:List UInt8
 tag:List UInt8
 body:List UInt8
 keys:List (List UInt8)
deriving DecidableEq
def om:Msg:=⟨0,0,0,0,0,0,[],[],[],[]⟩
def gm (n:Int):Bool:=decide (n < 0) || decide (1099511627776 < n)
def ny (c:UInt8):Bool:=decide (33<=c.toNat) && decide (c.toNat<=126)
def qc (l:List UInt8):Bool:=decide (l≠[]) && decide (l.length<=16) && l.all ny
def aqa (l:List UInt8):Bool:=l.isEmpty || ik l
def bu (m:Msg):Bool:=jq m.topic && decide (0<=m.queue) && decide (m.queue < 3) && decide (0<=m.retry) && decide (m.retry<=4) && aqa m.tag && decide (m.keys.length<=3) && m.keys.all qc && decide m.keys.Nodup && decide (m.body.length<=200)
def noughts (n:Nat):List UInt8:=List.replicate n 0
def bq (m:Msg):Bool :=
 if gm m.due || gm m.ref || gm m.born then false
 else if m.kind=1 then bu m && decide (m.due=0) && decide (m.ref=0)
 else if m.kind=2\/m.kind=3 then bu m
 else if m.kind=4 then decide (m={ om with kind:=4,ref:=m.ref,born:=m.born })
 else if m.kind=0 then decide (m.body.length<=1024) && decide (m.body=noughts m.body.length) && decide (m={ om with body:=m.body })
 else false
def oo (n:Int):List UInt8:=if n < 3\/1024 < n then [] else 90 :: be 2 n.toNat++noughts (n.toNat - 3)
def ax (m:Msg):List UInt8 :=
 be 1 m.kind.toNat++(be 1 m.queue.toNat++(be 1 m.retry.toNat++(be 6 m.born.toNat++(be 6 m.due.toNat++(be 6 m.ref.toNat++(gy m.topic++(gy m.tag++(gy m.body++(be 1 m.keys.length++cz m.keys)))))))))
def bi (m:Msg):List UInt8:=165 :: be 2 (3+(CrcMath.ai (ax m)).length)++CrcMath.ai (ax m)
def aca (m:Msg):List UInt8×Int:=if bq m=false then ([],1) else if m.kind=0 then (if m.body.length < 3 then ([],1) else (oo m.body.length,0)) else (bi m,0)
def qa (s:List UInt8):Msg×RS :=
 let k:=dm 1 ⟨s,0⟩
 let q:=dm 1 k.2
 let rt:=dm 1 q.2
 let b:=dm 6 rt.2
 let d:=dm 6 b.2
 let rf:=dm 6 d.2
 let t:=ig 16 rf.2
 let g:=ig 16 t.2
 let bo:=ig 200 g.2
 let ks:=rz 3 16 bo.2
 (⟨k.1,q.1,d.1,rt.1,rf.1,b.1,t.1,g.1,bo.1,ks.1⟩,ks.2)
def abm (s:List UInt8):Bool:=decide (ym (qa s).2=0) && decide ((qa s).1.kind≠0) && bq (qa s).1
theorem ae8 {l:List UInt8} (h:ik l=true):l.length<=16:=by
 unfold ik at h;simp only [Bool.and_eq_true,decide_eq_true_eq] at h;exact h.1.2
theorem ak5 {l:List UInt8} (h:jq l=true):l.length<=16:=by
 unfold jq at h;rw [Bool.or_eq_true] at h
 rcases h with h | h
 . exact ae8 h
 ·
  have A:∀ l:List UInt8,iq l=true->l.length<=8:=λl h=>by
   unfold iq at h;simp only [Bool.and_eq_true,decide_eq_true_eq] at h;exact h.2
  unfold ofL at h
  split at h
  . rename_i h1
    have:=A _ (Bool.and_eq_true_iff.1 h1).2;rw [List.length_drop] at this; omega
  ·
   split at h
   . rename_i h1
     have:=A _ (Bool.and_eq_true_iff.1 h1).2;rw [List.length_drop] at this; omega
   . cases h
theorem qy {m:Msg} (h:bq m=true) (h0:m.kind≠0):(0<=m.due/\m.due<=1099511627776)/\(0<=m.ref/\m.ref<=1099511627776)/\(0<=m.born/\m.born<=1099511627776)/\(1<=m.kind/\m.kind<=4)/\(0<=m.queue/\m.queue < 3)/\(0<=m.retry/\m.retry<=4) /\
 m.topic.length<=16/\m.tag.length<=16/\m.body.length<=200/\m.keys.length<=3/\(∀ t∈m.keys,t.length<=16):=by
 have hc:∀ m:Msg,bu m=true->(0<=m.queue/\m.queue < 3)/\(0<=m.retry/\m.retry<=4)/\m.topic.length<=16/\m.tag.length<=16/\m.body.length<=200/\m.keys.length<=3/\(∀ t∈m.keys,t.length<=16):=by
  intro m h;unfold bu at h;simp only [Bool.and_eq_true,decide_eq_true_eq] at h;obtain ⟨⟨⟨⟨⟨⟨⟨⟨⟨h1,E⟩,F⟩,I⟩,J⟩,A⟩,M⟩,N⟩,_⟩,O⟩:=h;refine ⟨⟨E,F⟩,⟨I,J⟩,ak5 h1,?_,O,M,λt B=>?_⟩
  ·
   unfold aqa at A;rw [Bool.or_eq_true] at A
   rcases A with A | A
   . rw [List.isEmpty_iff.1 A]; exact Nat.zero_le _
   . exact ae8 A
  . have:=List.all_eq_true.1 N t B
    unfold qc at this;simp only [Bool.and_eq_true,decide_eq_true_eq] at this;exact this.1.2
 unfold bq at h
 split at h
 . cases h
 ·
  rename_i hb
  simp only [gm,Bool.or_eq_true,decide_eq_true_eq,not_or,Int.not_lt] at hb;obtain ⟨⟨⟨d1,d2⟩,R,U⟩,X,Y⟩:=hb;refine ⟨⟨d1,d2⟩,⟨R,U⟩,⟨X,Y⟩,?_⟩
  split at h
  . rename_i hk
    simp only [Bool.and_eq_true] at h;exact ⟨by omega,hc m h.1.1⟩
  ·
   split at h
   . rename_i hk
     exact ⟨by omega,hc m h⟩
   ·
    split at h
    . rename_i hk
      have h:=of_decide_eq_true h;rw [h];refine ⟨by show (1:Int)<=4/\(4:Int)<=4; omega,⟨by show (0:Int)<=0; omega,by show (0:Int) < 3; omega⟩,⟨by show (0:Int)<=0; omega,by show (0:Int)<=4; omega⟩,?_⟩;exact ⟨Nat.zero_le _,Nat.zero_le _,Nat.zero_le _,Nat.zero_le _,λt B=>by cases B⟩
    . first
      | cases h
      | (rw [if_neg h0] at h; cases h)
theorem ail (m:Msg) (h:bq m=true) (h0:m.kind≠0):qa (ax m)=(m,⟨[],0⟩):=by
 obtain ⟨⟨d1,d2⟩,⟨E,R⟩,⟨F,U⟩,⟨k1,Y⟩,⟨I,Z⟩,⟨J,t2⟩,l1,l2,l3,l4,M⟩:=qy h h0;have A:∀ (x:Int) (rest:List UInt8),0<=x->x<=4->dm 1 ⟨be 1 x.toNat++rest,0⟩=(x.toNat,⟨rest,0⟩):=λx rest h1 X=>vo 1 x.toNat rest (by omega) (by omega) (by omega)
 have B:∀ (x:Int) (rest:List UInt8),0<=x->x<=1099511627776->dm 6 ⟨be 6 x.toNat++rest,0⟩=(x.toNat,⟨rest,0⟩):=λx rest h1 X=>vo 6 x.toNat rest (by omega) (by omega) (by omega)
 unfold qa ax;simp only;rw [A m.kind _ (by omega) (by omega)];simp only;rw [A m.queue _ I (by omega)];simp only;rw [A m.retry _ J (by omega)];simp only;rw [B m.born _ F U];simp only;rw [B m.due _ d1 d2];simp only;rw [B m.ref _ E R];simp only;rw [yo 16 m.topic _ (by omega) (by omega)];simp only;rw [yo 16 m.tag _ (by omega) (by omega)];simp only;rw [yo 200 m.body _ (by omega) (by omega)];simp only;have N:=aii 3 16 [] m.keys (by omega) (by omega) (λt O=>⟨by have:=M t O; omega,by have:=M t O; omega⟩);rw [List.append_nil] at N;rw [N];simp only;rw [Int.toNat_of_nonneg (by omega:0<=m.kind),Int.toNat_of_nonneg I,Int.toNat_of_nonneg d1,Int.toNat_of_nonneg J,Int.toNat_of_nonneg E,Int.toNat_of_nonneg F]
theorem yt {m:Msg} (h:bq m=true) (h0:m.kind≠0):(ax m).length<=500:=by
 obtain ⟨_,_,_,_,_,_,l1,l2,F,I,B⟩:=qy h h0
 have hk:∀ ks:List (List UInt8),(∀ t∈ks,t.length<=16)->(cz ks).length<=18 * ks.length:=by
  intro ks
  induction ks with
  | nil=>intro _; exact Nat.le_refl _
  | cons t ks ih =>
    intro A;rw [zy,List.length_append,jh,List.length_cons];have:=A t (.head _);have:=ih λt E=>A t (.tail _ E)
    omega
 have:=hk m.keys B;unfold ax;simp only [List.length_append,bn,jh];omega
theorem vv {m:Msg} (h:bq m=true) (h0:m.kind≠0):(bi m).length=7+(ax m).length/\(bi m).length<=507:=by
 have:=yt h h0
 have e:(bi m).length=7+(ax m).length:=by
  unfold bi;rw [List.cons_append,List.length_cons,List.length_append,bn,CrcMath.ji]; omega
 exact ⟨e,by omega⟩
theorem adp {n:Nat} (h:3<=n) (h2:n<=1024):(oo (n:Int)).length=n:=by
 unfold oo;rw [if_neg (by omega),Int.toNat_natCast];simp only [List.cons_append,List.length_cons,List.length_append,bn,noughts,List.length_replicate];omega
end RecMath
namespace TapeMath
open OctMath RecMath
inductive Item where
 | one (m:Msg)
 | fill (n:Nat)
def Item.bytes:Item->List UInt8
 | .one m=>bi m
 | .fill n=>oo (n:Int)
def Item.ok:Item->Prop
 | .one m=>bq m=true/\m.kind≠0
 | .fill n=>3<=n/\n<=1024
def Item.len (x:Item):Nat:=x.bytes.length
def gq (l:List Item):List UInt8:=l.flatMap Item.bytes
theorem mr (x:Item) (l:List Item):gq (x :: l)=x.bytes++gq l:=rfl
theorem uj (a b:List Item):gq (a++b)=gq a++gq b:=by unfold gq; simp
theorem Item.len_ge {x:Item} (h:x.ok):3<=x.len/\x.len<=1024:=by
 cases x with
 | one m =>
   have:=vv h.1 h.2;show 3<=(bi m).length/\(bi m).length<=1024;omega
 | fill n =>
   have:=adp h.1 h.2;show 3<=(oo (n:Int)).length/\(oo (n:Int)).length<=1024;rw [this]; exact h
def aqb (p:Nat) (x:Item):Prop:=x.ok/\p % 1024+x.len<=1024/\3<=1024 - (p+x.len) % 1024
def Fits:Nat->List Item->Prop
 | _,[]=>True
 | p,x :: l=>aqb p x/\Fits (p+x.len) l
def gz:Nat->List Item->List (Nat×Msg)
 | _,[]=>[]
 | p,.one m :: l=>(p,m) :: gz (p+(Item.one m).len) l
 | p,.fill n :: l=>gz (p+(Item.fill n).len) l
theorem Fits.app {p:Nat} {a b:List Item}:Fits p (a++b)↔Fits p a/\Fits (p+(gq a).length) b:=by
 induction a generalizing p with
 | nil=>simp [Fits,gq]
 | cons x a ih =>
   rw [List.cons_append];show aqb p x/\Fits (p+x.len) (a++b)↔(aqb p x/\Fits (p+x.len) a)/\Fits (p+(gq (x :: a)).length) b;rw [ih,mr,List.length_append];unfold Item.len;rw [Nat.add_assoc,and_assoc]
theorem adq {p:Nat} {a b:List Item}:gz p (a++b)=gz p a++gz (p+(gq a).length) b:=by
 induction a generalizing p with
 | nil=>simp [gz,gq]
 | cons x a ih =>
   rw [List.cons_append,mr,List.length_append]
   cases x with
   | one m =>
     show (p,m) :: gz (p+(Item.one m).len) (a++b)=((p,m) :: gz (p+(Item.one m).len) a)++_;rw [ih,List.cons_append];unfold Item.len;rw [Nat.add_assoc]
   | fill n =>
     show gz (p+(Item.fill n).len) (a++b)=gz (p+(Item.fill n).len) a++_;rw [ih];unfold Item.len;rw [Nat.add_assoc]
theorem adr {p:Nat} {its:List Item} (hf:Fits p its) {id:Nat} {m:Msg} (h:(id,m)∈gz p its) :
 ∃ a c,its=a++Item.one m :: c/\id=p+(gq a).length:=by
 induction its generalizing p with
 | nil=>cases h
 | cons x l ih =>
   unfold Fits at hf
   cases x with
   | one m' =>
     unfold gz at h
     rcases List.mem_cons.1 h with h | h
     . cases h
       exact ⟨[],l,rfl,rfl⟩
     . obtain ⟨a,c,A,B⟩:=ih hf.2 h
       exact ⟨.one m' :: a,c,by rw [A]; rfl,by rw [B,mr,List.length_append]; unfold Item.len; omega⟩
   | fill n =>
     unfold gz at h;obtain ⟨a,c,A,B⟩:=ih hf.2 h;exact ⟨.fill n :: a,c,by rw [A]; rfl,by rw [B,mr,List.length_append]; unfold Item.len; omega⟩
theorem Fits.at {p:Nat} {a c:List Item} {x:Item} (h:Fits p (a++x :: c)):aqb (p+(gq a).length) x:=by
 have:=(Fits.app.1 h).2;exact this.1
theorem ak6 {a c:List Item} {x:Item} (k:Nat) (hk:x.len<=k):((gq (a++x :: c)).drop (gq a).length).take k=x.bytes++(gq c).take (k - x.len):=by
 rw [uj,List.drop_left,mr,List.take_append];unfold Item.len at *
 rw [List.take_of_length_le hk]
theorem ng {p:Nat} {its:List Item} (hf:Fits p its):(∀ q∈gz p its,p<=q.1)/\((gz p its).map (·.1)).Pairwise (· < ·):=by
 induction its generalizing p with
 | nil=>exact ⟨λq A=>(by cases A),List.Pairwise.nil⟩
 | cons x l ih =>
   unfold Fits at hf;obtain ⟨h1,B⟩:=ih hf.2;have E:=(Item.len_ge hf.1.1).1
   cases x with
   | one m =>
     unfold gz;refine ⟨λq A=>?_,?_⟩
     . rcases List.mem_cons.1 A with rfl | A
       . exact Nat.le_refl _
       . have:=h1 q A; omega
     . rw [List.map_cons,List.pairwise_cons]
       refine ⟨λu hu=>?_,B⟩;obtain ⟨q,A,rfl⟩:=List.mem_map.1 hu;have:=h1 q A;show p < q.1;omega
   | fill n =>
     unfold gz;exact ⟨λq A=>by have:=h1 q A; omega,B⟩
theorem aka {p:Nat} {its:List Item} (hf:Fits p its) {id:Nat} {m:Msg} (h:(id,m)∈gz p its):id+(bi m).length<=p+(gq its).length/\p<=id:=by
 obtain ⟨a,c,rfl,rfl⟩:=adr hf h;rw [uj,mr,List.length_append,List.length_append];show _+(Item.one m).bytes.length<=_/\_;omega
def jd (e:Nat):Nat:=1024 - e % 1024
def oh (e:Nat) (m:Msg):List Item:=if jd e=(bi m).length\/(bi m).length+3<=jd e then [.one m] else [.fill (jd e),.one m]
theorem ads {p:Nat} {its:List Item} (hf:Fits p its) (hp:p % 1024=0):3<=jd (p+(gq its).length):=by
 rcases List.eq_nil_or_concat its with rfl | ⟨l,x,rfl⟩
 . unfold jd gq
   show 3<=1024 - (p+0) % 1024;omega
 ·
  rw [List.concat_eq_append] at *
  have:=(Fits.at (c:=[]) hf).2.2;rw [uj,mr,List.length_append,List.length_append];show 3<=1024 - (p+((gq l).length+(x.len+0))) % 1024;rw [Nat.add_zero,<- Nat.add_assoc];exact this
theorem ak7 {p:Nat} {its:List Item} (hf:Fits p its) (hp:p % 1024=0) {m:Msg} (hm:bq m=true) (h0:m.kind≠0):Fits p (its++oh (p+(gq its).length) m):=by
 refine Fits.app.2 ⟨hf,?_⟩;have E:=ads hf hp;generalize p+(gq its).length=e at *
 have F:=vv hm h0;unfold oh
 split
 ·
  rename_i h
  refine ⟨⟨⟨hm,h0⟩,?_,?_⟩,trivial⟩
  . show e % 1024+(bi m).length<=1024
    unfold jd at *; omega
  . show 3<=1024 - (e+(bi m).length) % 1024
    unfold jd at *; omega
 ·
  rename_i h
  have A:(Item.fill (jd e)).len=jd e:=adp E (by unfold jd; omega);have B:(e+jd e) % 1024=0:=by unfold jd; omega
  refine ⟨⟨⟨E,by unfold jd; omega⟩,?_,?_⟩,⟨⟨hm,h0⟩,?_,?_⟩,trivial⟩
  . rw [A]; unfold jd; omega
  . rw [A,B]; omega
  . rw [A,B]
    show 0+(bi m).length<=1024;omega
  . rw [A]
    show 3<=1024 - (e+jd e+(bi m).length) % 1024;omega
end TapeMath
namespace SegW
open OctMath
def adt:List UInt8:=[48,49,50,51,52,53,54,55,56,57]
def dig (c:UInt8):Bool:=decide (48<=c.toNat) && decide (c.toNat<=57)
theorem anh (c:UInt8):adt.contains c=dig c:=by
 have h:∀ k:Fin 256,adt.contains (UInt8.ofNat k.val)=dig (UInt8.ofNat k.val):=by decide +kernel
 have:=h ⟨c.toNat,c.toNat_lt⟩
 simpa using this
def jo (a:Nat):List UInt8->Nat
 | []=>a
 | c :: l=>jo (a * 10+(c.toNat - 48)) l
def aaa (l:List UInt8):Nat:=jo 0 l
theorem aab (a b:List UInt8) (x:Nat):jo x (a++b)=jo (jo x a) b:=by
 induction a generalizing x with
 | nil=>rfl
 | cons c a ih=>exact ih _
theorem adu:∀ (l:List UInt8) (a:Nat),(∀ c∈l,dig c=true)->jo a l < (a+1) * 10 ^ l.length
 | [],a,_=>by show a < _; simp
 | c :: l,a,h=>by
   have hc:=h c (.head _);simp [dig] at hc;have:=adu l (a * 10+(c.toNat - 48)) (λx A=>h x (.tail _ A));show jo (a * 10+(c.toNat - 48)) l < _;rw [List.length_cons,Nat.pow_succ];refine Nat.lt_of_lt_of_le this ?_;rw [Nat.mul_comm (10 ^ l.length) 10,<- Nat.mul_assoc];exact Nat.mul_le_mul_right _ (by omega)
theorem akb (l:List UInt8) (h:∀ c∈l,dig c=true):aaa l < 10 ^ l.length:=by have:=adu l 0 h; rw [Nat.zero_add,Nat.one_mul] at this; exact this
theorem ae9:∀ (l:List UInt8) (a:Nat),(∀ c∈l,dig c=true)->jo a l < 1000000000000000->Lib.parseUint10 a l=.ok (jo a l)
 | [],a,_,_=>rfl
 | c :: l,a,h,hn=>by
   have hc:=h c (.head _);simp [dig] at hc
   have A:∀ (l:List UInt8) (a:Nat),a<=jo a l:=by
    intro l
    induction l with
    | nil=>intro a; exact Nat.le_refl _
    | cons c l ih=>intro a; exact Nat.le_trans (by omega) (ih _)
   have h1:=A l (a * 10+(c.toNat - 48));have B:jo (a * 10+(c.toNat - 48)) l < 1000000000000000:=hn;unfold Lib.parseUint10;rw [if_pos ⟨hc.1,hc.2⟩,if_neg (by omega),if_neg (by omega)];exact ae9 l _ (λx E=>h x (.tail _ E)) B
theorem ani (l:List UInt8) (h0:l≠[]) (h8:l.length<=8) (h:∀ c∈l,dig c=true):Lib.atoiAll l=.ok (aaa l:Int):=by
 match l,h0 with
 | c :: r,_ =>
   have hc:=h c (.head _);simp [dig] at hc;have A:=akb _ h;have hp:10 ^ (c :: r).length<=10 ^ 8:=Nat.pow_le_pow_right (by omega) h8;have B:aaa (c :: r) < 100000000:=Nat.lt_of_lt_of_le A hp;unfold Lib.atoiAll;simp only;rw [if_neg (by omega:¬ (c.toNat=43\/c.toNat=45))]
   have E:Lib.parseMag (c :: r)=.ok (aaa (c :: r)):=by
    unfold Lib.parseMag;rw [if_neg (by simp)];exact ae9 _ 0 h (Nat.lt_of_lt_of_le B (by omega))
   rw [E];simp only;rw [if_neg (by omega),if_neg (by omega),if_neg (by omega)]
theorem afa (l:List UInt8):Lib.trimS l adt=[]↔∀ c∈l,dig c=true:=by
 unfold Lib.trimS Lib.trimLeftS Lib.trimRightS;have h1:(λx=>adt.contains x)=dig:=funext anh;simp only [h1]
 have B:∀ m:List UInt8,m.dropWhile dig=[]↔∀ c∈m,dig c=true:=by
  intro m
  induction m with
  | nil=>simp
  | cons x m ih =>
    by_cases A:dig x=true
    ·
     rw [List.dropWhile_cons_of_pos A,ih]
     constructor
     . intro h c hc
       rcases List.mem_cons.1 hc with rfl | hc
       . exact A
       . exact h c hc
     . intro h c hc; exact h c (.tail _ hc)
    . rw [List.dropWhile_cons_of_neg A]
      constructor
      . intro h; cases h
      . intro h; exact absurd (h x (.head _)) A
 rw [B]
 constructor
 ·
  intro h
  have key:∀ (m:List UInt8),(∀ c∈(m.dropWhile dig),dig c=true)->∀ c∈m,dig c=true:=by
   intro m
   induction m with
   | nil=>intro _ c hc; cases hc
   | cons x m ih =>
     intro E c hc
     by_cases A:dig x=true
     . rw [List.dropWhile_cons_of_pos A] at E
       rcases List.mem_cons.1 hc with rfl | hc
       . exact A
       . exact ih E c hc
     . rw [List.dropWhile_cons_of_neg A] at E
       exact E c hc
  intro c hc;exact key l.reverse (λx A=>h x (by simpa using A)) c (by simpa using hc)
 . intro h c hc
   have F:c∈l.reverse.dropWhile dig:=by simpa using hc
   exact h c (by simpa using (List.dropWhile_suffix dig).subset F)
/-! names -/
def adv (n:Nat):List UInt8:=List.replicate (8 - (Lib.decDigits n).length) 48++Lib.decDigits n
def ah (head:List UInt8) (n:Nat):List UInt8:=head++adv n
def placeL (head name:List UInt8):Option Nat :=
 if Lib.hasPrefix name head=true/\(name.drop head.length).length=8/\∀ c∈name.drop head.length,dig c=true then some (aaa (name.drop head.length)) else none
theorem aqc (u:Nat):∀ c∈Lib.decDigits u,dig c=true:=by
 induction u using Nat.strongRecOn with
 | _ u ih =>
   rw [Lib.decDigits]
   by_cases h:u < 10
   . rw [dif_pos h]
     intro c hc;obtain rfl:=List.mem_singleton.1 hc;have A:∀ k:Fin 10,dig (UInt8.ofNat (48+k.val))=true:=by decide +kernel
     exact A ⟨u,h⟩
   ·
    rw [dif_neg h];intro c hc
    rcases List.mem_append.1 hc with hc | hc
    . exact ih (u / 10) (by omega) c hc
    . obtain rfl:=List.mem_singleton.1 hc
      have A:∀ k:Fin 10,dig (UInt8.ofNat (48+k.val))=true:=by decide +kernel
      exact A ⟨u % 10,by omega⟩
theorem aqd (u:Nat):aaa (Lib.decDigits u)=u:=by
 induction u using Nat.strongRecOn with
 | _ u ih =>
   rw [Lib.decDigits];have A:∀ k:Fin 10,(UInt8.ofNat (48+k.val)).toNat=48+k.val:=by decide +kernel
   by_cases h:u < 10
   . rw [dif_pos h]
     have:=A ⟨u,h⟩;simp only at this;show 0 * 10+((UInt8.ofNat (48+u)).toNat - 48)=u;omega
   ·
    rw [dif_neg h];have:=A ⟨u % 10,by omega⟩;unfold aaa at *
    rw [aab,ih (u / 10) (by omega)];show u / 10 * 10+((UInt8.ofNat (48+u % 10)).toNat - 48)=u;simp only at this;omega
theorem afy (u:Nat) (h:u<=99999999):(Lib.decDigits u).length<=8:=by
 have key:∀ (k u:Nat),u < 10 ^ (k+1)->(Lib.decDigits u).length<=k+1:=by
  intro k
  induction k with
  | zero=>intro u hu; rw [Lib.decDigits_one (by simpa using hu)]; simp
  | succ k ih =>
    intro u hu;rw [Lib.decDigits]
    by_cases h:u < 10
    . rw [dif_pos h]; simp
    . rw [dif_neg h,List.length_append]
      have:=ih (u / 10) (by rw [Nat.pow_succ] at hu; omega);show _+1<=_;omega
 exact key 7 u (by omega)
theorem ada (u:Nat) (h:u<=99999999):(adv u).length=8:=by
 have:=afy u h;unfold adv;rw [List.length_append,List.length_replicate];omega
theorem aqe (u:Nat):∀ c∈adv u,dig c=true:=by
 intro c hc;unfold adv at hc
 rcases List.mem_append.1 hc with hc | hc
 . obtain rfl:=List.eq_of_mem_replicate hc; rfl
 . exact aqc u c hc
theorem afz (u:Nat):aaa (adv u)=u:=by
 unfold adv aaa
 have h0:∀ k,jo 0 (List.replicate k 48)=0:=by
  intro k
  induction k with
  | zero=>rfl
  | succ k ih=>exact ih
 rw [aab,h0];exact aqd u
theorem prefix_append (a b:List UInt8):Lib.hasPrefix (a++b) a=true:=by unfold Lib.hasPrefix; rw [List.isPrefixOf_iff_prefix]; exact List.prefix_append a b
theorem adw (head:List UInt8) (u:Nat) (h:u<=99999999):placeL head (ah head u)=some u:=by
 unfold placeL ah;have hd:(head++adv u).drop head.length=adv u:=List.drop_left;rw [hd,if_pos ⟨prefix_append _ _,ada u h,aqe u⟩,afz]
theorem abn {head:List UInt8} {u v:Nat} (h:ah head u=ah head v):u=v:=by
 have:=List.append_cancel_left h;rw [<- afz u,this,afz]
theorem agn {head name:List UInt8} {n:Nat} (h:placeL head name=some n):n<=99999999:=by
 unfold placeL at h
 split at h
 ·
  rename_i h1
  injection h with h
  have:=akb _ h1.2.2;rw [h1.2.1] at this;omega
 . cases h
end SegW
end Go.Proofs.YtckjigopecocaaaGreatDoor
