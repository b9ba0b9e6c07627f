/- cq: what may be; a queue that is begun. And what follows. -/
import Derived.Test.YtckjigopecocaaaGreatDoorR07
set_option linter.unusedVariables false
set_option linter.unusedSimpArgs false
set_option maxHeartbeats 25600000
set_option maxRecDepth 100000
namespace Go.Proofs.YtckjigopecocaaaGreatDoor
namespace CqW
open Go.RowKit Go.MapKept OctMath DskW SegW MapG CacheW
theorem ahq (t:List UInt8) (q:Nat) (ht:NameMath.jq t=true) (hl:t.length<=1073741824) (hq:q < 3) (w:World) :
 Calls Tryz.prog 162 #[.string (S t),.int .i64 (q:Int)] w λe w'=>e=.returned (.int .i64 0)/\Below w.heap.size w w':=by
 have A:=zq (NameW.aas t (by omega) w);rw [ht] at A;clear ht;go_enter Tryz.func162,Tryz.ntmps162;go_wp2_with fail;refine A.o.mono ?_;rintro e w1 ⟨rfl,hb⟩;have B:=zq hb;clear hb A;go_wp2_with fail;go_ret;exact ⟨rfl,B.o⟩
def ku (t:List UInt8) (q:Nat):List UInt8:=[113,45]++t++[46]++Lib.decDigits q++[45]
def acm (db:Nat) (hd:List UInt8):SegD:=⟨0,db,hd,200,0,0,[],0,.slice none 0 0⟩
theorem amk {D:DiskD} {hd:List UInt8} (hl:hd.length<=1048576) (ho:∀ p,p<=99999999->D.find (ah hd p)=none):LaidOn D (acm D.blk hd) :=
 ⟨⟨by show 16<=200; decide,by show 200<=4096; decide⟩,λ_=>⟨rfl,rfl⟩,λh=>absurd h (Nat.lt_irrefl 0),rfl,hl,λi A=>absurd A (Nat.not_lt_zero _),λp hp _=>ho p hp,rfl⟩
def fT (blk:Nat):Value:=.tuple #[.pointer (some ⟨blk,0,none⟩),.int .i64 0]
def fP (blk:Nat):Value:=.pointer (some ⟨blk,0,none⟩)
def OpenF (base:Nat) (W:World) (D:DiskD) (db:Nat) (hd:List UInt8) (f:Nat->Value) (v:Value) (w:World):Prop:=∃ blk pv,v=f blk/\Whole base w D ((acm db hd).openR blk pv)/\∀ k,((acm db hd).openR blk pv).foot k->W.heap.size<=k
theorem OpenF.below {base:Nat} {W:World} {D:DiskD} {db:Nat} {hd:List UInt8} {f:Nat->Value} {v:Value} {w w':World} (h:OpenF base W D db hd f v w) (hb:Below w.heap.size w w'):OpenF base W D db hd f v w':=by
 obtain ⟨blk,pv,h1,A,B⟩:=h;exact ⟨blk,pv,h1,A.below hb,B⟩
theorem aml {base:Nat} {D:DiskD} {C:CqD} (t:List UInt8) (q p:Nat) (W:World) (hC:CqAt base W C) (hD:DiskAt base W D) (hdb:C.db=D.blk) (hq:Quiet D) (hfl:D.files.length<=1048576) (hnl:∀ p∈D.files,p.1.length<=1073741824) (hbase:base<=W.heap.size) (hT:TabB base W)
 (hn:∀ x∈C.qs,x.key≠.agg #[.string (S t),.int .i64 (q:Int)]) (htl:t.length<=1000) (hql:q<=1000) (hp:p<=1099511627776) (ho:∀ m,m<=99999999->D.find (ah (ku t q) m)=none) (haw:∀ k,C.foot k->¬ D.foot k) :
 Calls Tryz.prog 163 #[.pointer (some ⟨C.blk,0,none⟩),.agg #[.string (S t),.int .i64 (q:Int)],.int .i64 (p:Int)] W λe w'=>∃ x:QueD,e=.returned (.tuple #[.pointer (some ⟨x.blk,0,none⟩),.int .i64 0])/\x.topic=t/\x.q=(q:Int)/\x.b0=p/\x.least=p /\
  (∃ blk pv,x.R=(acm C.db (ku t q)).openR blk pv)/\Whole base w' D x.R/\CqAt base w' { C with qs:=C.qs++[x] }/\Mod (λk=>k=C.mB) W w'/\W.heap.size<=x.blk/\(∀ k,x.R.foot k->W.heap.size<=k/\k≠x.blk):=by
 have bk:(Lib.decDigits q).length<=8:=afy q (by omega);obtain ⟨hd,U⟩:∃ hd,hd=ku t q:=⟨_,rfl⟩;have cn:hd.length<=1048576:=by rw [U]; unfold ku; simp only [List.length_append,List.length_cons,List.length_nil]; omega
 rw [<- U] at ho ⊢;have J:Zq (Below W.heap.size W (W.alloc (.cells #[.string (S t),.int .i64 (q:Int)] 143))):=(Below.refl _ W).alloc (Nat.le_refl _) _;have HK:Zq ((W.alloc (.cells #[.string (S t),.int .i64 (q:Int)] 143)).heap[W.heap.size]?=some (.cells #[.string (S t),.int .i64 (q:Int)] 143 (0,0))):=heap_alloc_new W _;have X:LaidOn D (acm C.db hd):=by rw [hdb]; exact amk cn ho
 have co:=zq X;have HC:=zq hC;have HD:=zq hD;have HQ:=zq hq;have cp:=zq hfl;have cq:=zq hnl;have cr:=zq hT;have HN:=zq hn;have cs:=zq haw;have cv:=zq hdb
 have dt:Zq (S [113,45]++S t++S [46]++S (Lib.decDigits q)++S [45]=S hd):=by
  show _=_;rw [gu,gu,gu,gu,U]; rfl
 obtain ⟨l6,O⟩:∃ l,l=[113,45]++t:=⟨_,rfl⟩;obtain ⟨l7,Z⟩:∃ l,l=l6++[46]:=⟨_,rfl⟩;obtain ⟨ab,N⟩:∃ l,l=l7++Lib.decDigits q:=⟨_,rfl⟩;have bm:Zq (S [113,45]++S t=S l6):=by show _=_; rw [gu,O]
 have bo:Zq (S l6++S [46]=S l7):=by show _=_; rw [gu,Z]
 have ar:Zq (S l7++S (Lib.decDigits q)=S ab):=by show _=_; rw [gu,N]
 have av:Zq (S ab++S [45]=S hd):=by show _=_; rw [gu,U,N,Z,O]; rfl
 have cw:Zq ((S t).size<=1000):=by show _<=_; rw [au]; exact htl
 have cx:Zq ((S l6).size<=1010):=by show _<=_; rw [au,O,List.length_append]; simp; omega
 have cy:Zq ((S l7).size+(S (Lib.decDigits q)).size<=1020):=by show _<=_; rw [au,au,Z,O]; simp; omega
 have bp:Zq ((S ab).size<=1030):=by show _<=_; rw [au,N,Z,O]; simp; omega
 clear O Z N;have du:(S t).size<=1000:=by rw [au]; exact htl
 have dv:(S (Lib.decDigits q)).size<=8:=by rw [au]; exact bk
 clear X hC hD hdb hq hfl hnl hT hn haw U ho bk htl;go_enter Tryz.func163,Tryz.ntmps163;go_upto_region 1 with fail
 generalize W.alloc (.cells #[.string (S t),.int .i64 (q:Int)] 143)=w1 at *
 obtain ⟨A,hA⟩:∃ A,W.heap.size=A:=⟨_,rfl⟩;rw [hA] at HK ⊢;have c7:=zq hA;clear hA;have a6:Zq (∀ w,Below w1.heap.size w1 w->w.cell? ⟨A,0,none⟩=some (.string (S t))):=λw hb=>by rw [Lib.cell_of_heap ((hb.block A (Array.getElem?_eq_some_iff.1 HK.o).1).trans HK.o)]; rfl
 have a7:Zq (∀ w,Below w1.heap.size w1 w->w.cell? ⟨A,1,none⟩=some (.int .i64 (q:Int))):=λw hb=>by rw [Lib.cell_of_heap ((hb.block A (Array.getElem?_eq_some_iff.1 HK.o).1).trans HK.o)]; rfl
 have am:Zq (∀ w,Below w1.heap.size w1 w->CqAt base w C):=λw hb=>(HC.o.below J.o).below hb
 have br:Zq (∀ w,Below w1.heap.size w1 w->w.cell? ⟨C.blk,0,none⟩=some (.pointer (some ⟨C.db,0,none⟩))):=λw hb=>by rw [Lib.cell_of_heap (am.o w hb).cells]; rfl
 have bs:Zq (∀ w,Below w1.heap.size w1 w->Calls Tryz.prog 225 #[.int .i64 (q:Int)] w λe w'=>e=.returned (.string (S (Lib.decDigits q)))/\Below w.heap.size w w'):=λw hb=>agp q w ((cr.o.below J.o).below hb).tab (by omega)
 have bw:Zq (∀ w,Below w1.heap.size w1 w->Calls Tryz.prog 149 #[.pointer (some ⟨C.db,0,none⟩),.string (S hd),.int .i64 200] w λe w'=>∃ blk pv,e=.returned (.tuple #[.pointer (some ⟨blk,0,none⟩),.int .i64 0])/\Whole base w' D ((acm C.db hd).openR blk pv)/\Below w.heap.size w w'/\∀ k,((acm C.db hd).openR blk pv).foot k->w.heap.size<=k):=λw hb=>by
  have:=ag0 w rfl co.o ((HD.o.below J.o).below hb) HQ.o cp.o cq.o (by have:=J.o.size; have:=hb.size; omega);rw [<- cv.o] at this; exact this
 refine GrowN.aj 19 [none,none,none,none,none,none,some (.inl (.string (S l6))),some (.inl (.string (S l7))),none,none,some (.inl (.string (S (Lib.decDigits q)))),some (.inl (.string (S ab))),some (.inl (.string (S hd))),some (.inr (λ_ v w=>OpenF base W D C.db hd fT v w)),some (.inr (λ_ v w=>OpenF base W D C.db hd fT v w)),some (.inr (λ_ v w=>OpenF base W D C.db hd fP v w)),some (.inl (.int .i64 0)),some (.inr (λ_ v w=>OpenF base W D C.db hd fP v w)),some (.inl (.int .i64 0))] (RecW.ExtR) (by kernel_rfl) (by kernel_rfl) (by kernel_rfl) (RecW.ExtR.refl) (λ_ _ _=>RecW.ExtR.trans) ?_ ?_
 ·
  intro K hK Y hY l v w w' hR h;simp only [List.mem_cons,List.not_mem_nil,or_false] at hK
  rcases hK with rfl | rfl | rfl | rfl | rfl | rfl | rfl | rfl | rfl | rfl | rfl | rfl | rfl | rfl | rfl | rfl | rfl | rfl | rfl <;> simp only [reduceCtorEq,Option.some.injEq,Sum.inr.injEq] at hY
  all_goals (
   subst hY;exact h.below hR
   )
 simp only [List.take_succ_cons,List.take_zero,List.drop_succ_cons,List.drop_zero]
 iterate 3
  refine GrowN.g_det rfl ?_;apply Exists.intro;refine ⟨λw E B=>?_,?_⟩
  . clear B
    go_simp;exact ⟨rfl,RecW.ExtR.refl _⟩
  go_frame
 refine GrowN.g_det rfl ?_;apply Exists.intro;refine ⟨λw E B=>?_,?_⟩
 ·
  clear B;have hb:=(Below.refl w1.heap.size w1).drew.trans E;have c0:=br.o w hb;go_simp;exact ⟨rfl,RecW.ExtR.refl _⟩
 go_frame;refine GrowN.g_det rfl ?_;apply Exists.intro;refine ⟨λw E B=>?_,?_⟩
 . clear B
   go_simp;exact ⟨rfl,RecW.ExtR.refl _⟩
 go_frame;refine GrowN.g_det rfl ?_;apply Exists.intro;refine ⟨λw E B=>?_,?_⟩
 ·
  clear B;have hb:=(Below.refl w1.heap.size w1).drew.trans E;have k0:=a6.o w hb;go_simp;exact ⟨rfl,RecW.ExtR.refl _⟩
 go_frame;refine GrowN.g_con rfl (λw E B=>?_) ?_
 ·
  clear B;have hz:¬ 9223372036854775807 < 2+(S t).size:=by have:=cw.o; omega
  go_simp;exact ⟨(by first | exact bm.o | (rw [<- bm.o]; rfl)),RecW.ExtR.refl _⟩
 go_frame;refine GrowN.g_con rfl (λw E B=>?_) ?_
 ·
  clear B;have hz:¬ 9223372036854775807 < (S l6).size+1:=by have:=cx.o; omega
  go_simp;exact ⟨(by first | exact bo.o | (rw [<- bo.o]; rfl)),RecW.ExtR.refl _⟩
 go_frame;refine GrowN.g_det rfl ?_;apply Exists.intro;refine ⟨λw E B=>?_,?_⟩
 . clear B
   go_simp;exact ⟨rfl,RecW.ExtR.refl _⟩
 go_frame;refine GrowN.g_det rfl ?_;apply Exists.intro;refine ⟨λw E B=>?_,?_⟩
 ·
  clear B;have hb:=(Below.refl w1.heap.size w1).drew.trans E;have k1:=a7.o w hb;go_simp;exact ⟨rfl,RecW.ExtR.refl _⟩
 go_frame;refine GrowN.g_con rfl (λw E B=>?_) ?_
 ·
  clear B;have hb:=(Below.refl w1.heap.size w1).drew.trans E;go_simp;exact (bs.o w hb).mono λe w3 h=>⟨_,h.1,rfl,h.2⟩
 go_frame;refine GrowN.g_con rfl (λw E B=>?_) ?_
 ·
  clear B;have hz:¬ 9223372036854775807 < (S l7).size+(S (Lib.decDigits q)).size:=by have:=cy.o; omega
  go_simp;exact ⟨(by first | exact ar.o | (rw [<- ar.o]; rfl)),RecW.ExtR.refl _⟩
 go_frame;refine GrowN.g_con rfl (λw E B=>?_) ?_
 ·
  clear B;have hz:¬ 9223372036854775807 < (S ab).size+1:=by have:=bp.o; omega
  go_simp;exact ⟨(by first | exact av.o | (rw [<- av.o]; rfl)),RecW.ExtR.refl _⟩
 go_frame;refine GrowN.g_new rfl (λw E B=>?_) (λv13=>?_)
 ·
  clear B;have hb:=(Below.refl w1.heap.size w1).drew.trans E;go_simp;exact (bw.o w hb).mono λe w3 ⟨blk,pv,h1,M,h3,h4⟩=>⟨_,h1,⟨blk,pv,rfl,M,λk hk=>Nat.le_trans (Nat.le_trans J.o.size hb.size) (h4 k hk)⟩,h3⟩
 go_frame;refine GrowN.g_new rfl (λw E B=>?_) (λv14=>?_)
 ·
  skip
  obtain ⟨blk,pv,rfl,M,h3⟩:=B _ (.head _) (by kernel_rfl);clear B;go_simp;exact ⟨⟨blk,pv,rfl,M,h3⟩,RecW.ExtR.refl _⟩
 go_frame;refine GrowN.g_new rfl (λw E B=>?_) (λv15=>?_)
 ·
  skip
  obtain ⟨blk,pv,rfl,M,h3⟩:=B _ (.head _) (by kernel_rfl);clear B;go_simp;exact ⟨⟨blk,pv,rfl,M,h3⟩,RecW.ExtR.refl _⟩
 go_frame;refine GrowN.g_con rfl (λw E B=>?_) ?_
 ·
  obtain ⟨blk,pv,rfl,M,h3⟩:=B _ (.tail _ (.head _)) (by kernel_rfl);clear B;unfold fT;go_simp;exact RecW.ExtR.refl _
 go_frame;refine GrowN.g_new rfl (λw E B=>?_) (λv17=>?_)
 ·
  skip
  obtain ⟨blk,pv,rfl,M,h3⟩:=B _ (.head _) (by kernel_rfl);clear B;go_simp;exact ⟨⟨blk,pv,rfl,M,h3⟩,RecW.ExtR.refl _⟩
 go_frame;refine GrowN.g_con rfl (λw E B=>?_) ?_
 . clear B
   go_simp;exact RecW.ExtR.refl _
 go_frame;refine GrowN.g_nil λw2 bz B=>?_
 obtain ⟨rb,pv,rfl,b1,b2⟩:=B _ (.head _);clear B;have a8:=zq ((Below.refl w1.heap.size w1).drew.trans bz);clear bz;unfold fP;have b3:=zq b1;have ao:=zq b2;clear b1 b2 bw bs;go_wp2_with fail;have ba:Below w2.heap.size w2 (w2.alloc (.cells #[.pointer (some ⟨rb,0,none⟩),.int .i64 (p:Int),.int .i64 (p:Int)] 146)):=(Below.refl _ _).alloc (Nat.le_refl _) _;have bb:(w2.alloc (.cells #[.pointer (some ⟨rb,0,none⟩),.int .i64 (p:Int),.int .i64 (p:Int)] 146)).heap[w2.heap.size]?=some (.cells #[.pointer (some ⟨rb,0,none⟩),.int .i64 (p:Int),.int .i64 (p:Int)] 146 (0,0)):=heap_alloc_new w2 _;generalize w2.alloc (.cells #[.pointer (some ⟨rb,0,none⟩),.int .i64 (p:Int),.int .i64 (p:Int)] 146)=w3 at *
 obtain ⟨xb,ap⟩:∃ x,w2.heap.size=x:=⟨_,rfl⟩;rw [ap] at bb ⊢;have I:=zq (a8.o.trans (ba.mono a8.o.size));have b4:=zq bb;have da:=zq ap;have dc:=zq (b3.o.below ba);clear ba bb ap;have b5:Zq (∀ w,Below w3.heap.size w3 w->w.cell? ⟨C.blk,1,none⟩=some (.map (some C.mB))):=λw hb=>by rw [Lib.cell_of_heap (am.o w (I.o.trans (hb.mono I.o.size))).cells]; rfl
 have b6:Zq (∀ w,Below w3.heap.size w3 w->w.cell? ⟨A,0,none⟩=some (.string (S t))/\w.cell? ⟨A,1,none⟩=some (.int .i64 (q:Int))):=λw hb=>⟨a6.o w (I.o.trans (hb.mono I.o.size)),a7.o w (I.o.trans (hb.mono I.o.size))⟩
 refine GrowN.aj 6 [none,none,none,none,some (.inl (.agg #[.string (S t),.int .i64 (q:Int)])),none] (RecW.ExtR) (by kernel_rfl) (by kernel_rfl) (by kernel_rfl) (RecW.ExtR.refl) (λ_ _ _=>RecW.ExtR.trans) ?_ ?_
 . exact GrowN.jg rfl
 simp only [List.take_succ_cons,List.take_zero,List.drop_succ_cons,List.drop_zero]
 iterate 3
  refine GrowN.g_det rfl ?_;apply Exists.intro;refine ⟨λw E B=>?_,?_⟩
  . clear B
    go_simp;exact ⟨rfl,RecW.ExtR.refl _⟩
  go_frame
 refine GrowN.g_det rfl ?_;apply Exists.intro;refine ⟨λw E B=>?_,?_⟩
 ·
  clear B;have hb:=(Below.refl w3.heap.size w3).drew.trans E;have c1:=b5.o w hb;go_simp;exact ⟨rfl,RecW.ExtR.refl _⟩
 go_frame;refine GrowN.g_con rfl (λw E B=>?_) ?_
 ·
  clear B;have hb:=(Below.refl w3.heap.size w3).drew.trans E;obtain ⟨k0,k1⟩:=b6.o w hb;go_simp;exact RecW.ExtR.refl _
 go_frame;refine GrowN.g_det rfl ?_;apply Exists.intro;refine ⟨λw E B=>?_,?_⟩
 . clear B
   go_simp;exact ⟨rfl,RecW.ExtR.refl _⟩
 go_frame;refine GrowN.g_nil λw4 b7 B=>?_
 clear B;have ac:=zq ((Below.refl w3.heap.size w3).drew.trans b7);clear b7;have bc:=am.o w4 (I.o.trans (ac.o.mono I.o.size));have b8:w4.heap[xb]?=some (.cells #[.pointer (some ⟨rb,0,none⟩),.int .i64 (p:Int),.int .i64 (p:Int)] 146 (0,0)):=(ac.o.block xb (Array.getElem?_eq_some_iff.1 b4.o).1).trans b4.o;have b9:=dc.o.below ac.o
 have ca:∀ x∈C.qs.map (λx:QueD=>(x.key,Value.pointer (some ⟨x.blk,0,none⟩))),atd x.1:=λx hx=>by
  obtain ⟨y,_,rfl⟩:=List.mem_map.1 hx;exact ⟨_,_,rfl⟩
 obtain ⟨w5,d0,cc,cd⟩:=ut Tryz.underlying139 aec bc.map ca (k:=.agg #[.string (S t),.int .i64 (q:Int)]) ⟨t,q,rfl⟩ (λx hx=>by
  obtain ⟨y,hy,rfl⟩:=List.mem_map.1 hx;exact HN.o y hy) (.pointer (some ⟨xb,0,none⟩))
 have ce:=zq cc;have ak:=zq cd;have cf:=zq b8;have dd:=zq b9;have F:=zq bc;clear cc cd b8 b9 bc ca br am a6 a7 b5 b6;go_wp2_with fail;go_ret2;have d5:=J.o.size;have d6:=a8.o.size;have d7:=I.o.size;have d8:=ac.o.size;have d9:=c7.o;have ap:=da.o;have ea:C.mB < W.heap.size:=HC.o.map.lt;have cg:Mod (λk=>k=C.mB) W w5:=((Mod.of_below (J.o.trans (I.o.mono J.o.size |>.trans (ac.o.mono (by omega))))).trans ak.o);have bd:∀ k,((acm C.db hd).openR rb pv).foot k->k≠C.mB/\k < w2.heap.size:=λk hk=>⟨λe=>by have:=ao.o k hk; omega,b3.o.seg.lt hk⟩
 have ci:Whole base w5 D ((acm C.db hd).openR rb pv):=dd.o.mod ak.o (λk hk e=>cs.o C.mB (.inr (.inl rfl)) (e ▸ hk)) (λk hk e=>(bd k hk).1 e);have de:xb < w4.heap.size:=(Array.getElem?_eq_some_iff.1 cf.o).1;have dj:w5.heap[xb]?=_:=(ak.o.block xb de (λe=>by omega)).trans cf.o;have cj:∀ k,C.foot k->k≠C.mB->w5.heap[k]?=w4.heap[k]?:=λk hk dk=>ak.o.block k (F.o.lt hk) dk
 refine ⟨⟨t,(q:Int),xb,(acm C.db hd).openR rb pv,p,p⟩,rfl,rfl,rfl,rfl,rfl,⟨rb,pv,rfl⟩,ci,⟨?_,?_,λx hx=>?_,⟨F.o.low.1,F.o.low.2.1,λx hx=>?_⟩,λx hx=>?_,?_⟩,cg,?_,λk hk=>⟨ao.o k hk,λe=>?_⟩⟩
 ·
  exact (cj C.blk (.inl rfl) (λe=>by
   obtain ⟨es,c,h1,_⟩:=F.o.map;have M:=F.o.cells;rw [e,h1] at M; cases M)).trans F.o.cells
 . show PairsAt w5 C.mB ((C.qs++[_]).map _)
   rw [List.map_append]; exact ce.o
 ·
  have al:x∈C.qs++[(⟨t,(q:Int),xb,(acm C.db hd).openR rb pv,p,p⟩:QueD)]:=hx
  rcases List.mem_append.1 al with h | h
  . obtain ⟨a1,a2,a3⟩:=F.o.away x h
    obtain ⟨q1,q2,q3⟩:=F.o.que x h;exact ⟨(cj x.blk (.inr (.inr ⟨x,h,.inl rfl⟩)) a1).trans q1,q2.mod ak.o (λk hk e=>(a3 k hk).1 e),q3⟩
  . rw [List.mem_singleton] at h
    subst h;exact ⟨dj,ci.seg,rfl⟩
 ·
  have al:x∈C.qs++[(⟨t,(q:Int),xb,(acm C.db hd).openR rb pv,p,p⟩:QueD)]:=hx
  rcases List.mem_append.1 al with h | h
  . exact F.o.low.2.2 x h
  . rw [List.mem_singleton] at h
    subst h;show base<=xb;omega
 ·
  have al:x∈C.qs++[(⟨t,(q:Int),xb,(acm C.db hd).openR rb pv,p,p⟩:QueD)]:=hx;have eg:C.blk < W.heap.size:=HC.o.lt (.inl rfl)
  rcases List.mem_append.1 al with h | h
  . exact F.o.away x h
  ·
   rw [List.mem_singleton] at h;subst h;refine ⟨by show xb≠C.mB; omega,by show xb≠C.blk; omega,λk hk=>?_⟩;have h1:=ao.o k hk;have M:=(bd k hk).2;have eh:W.heap.size<=k:=h1;have ei:k < w2.heap.size:=M;exact (show k≠C.mB/\k≠C.blk/\k≠xb from ⟨by omega,by omega,by omega⟩)
 ·
  show (C.qs++[_]).Pairwise _;rw [List.pairwise_append];refine ⟨F.o.sep,List.pairwise_singleton _ _,λx hx y hy k hk dl=>?_⟩;rw [List.mem_singleton] at hy;subst hy;have h1:k < W.heap.size:=HC.o.lt (.inr (.inr ⟨x,hx,hk⟩))
  rcases dl with M | M
  . have h3:k=xb:=M
    omega
  . have:=ao.o k M
    omega
 . show W.heap.size<=xb
   omega
 . have:=(bd k hk).2
   have e2:k=xb:=e;omega
def DrR (u v:World):Prop:=∃ n,v=u.drewN n
theorem DrR.refl (w:World):DrR w w:=⟨0,rfl⟩
theorem DrR.trans {u v w:World} (h:DrR u v) (k:DrR v w):DrR u w:=by obtain ⟨m,rfl⟩:=h; obtain ⟨n,rfl⟩:=k; exact ⟨m+n,World.drewN_drewN ..⟩
theorem next_any {base:Nat} {x:QueD} (w:World) (hx:w.heap[x.blk]?=some (.cells x.cells 146 (0,0))) (hR:SegAt base w x.R) (hb:x.b0<=1099511627776) :
 Calls Tryz.prog 60 #[.pointer (some ⟨x.blk,0,none⟩)] w λe w'=>e=.returned (.int .i64 ((x.b0+x.R.e / 20:Nat):Int))/\Drawn w w':=by
 have c0:w.cell? ⟨x.blk,0,none⟩=some (.pointer (some ⟨x.R.blk,0,none⟩)):=by rw [Lib.cell_of_heap hx]; rfl
 have c1:w.cell? ⟨x.blk,1,none⟩=some (.int .i64 (x.b0:Int)):=by rw [Lib.cell_of_heap hx]; rfl
 have F:Zq (∀ w2,Drawn w w2->Calls Tryz.prog 125 #[.pointer (some ⟨x.R.blk,0,none⟩)] w2 λe w'=>e=.returned (.int .i64 (x.R.e:Int))/\w'=w2):=λw2 hd=>SegW.end_any w2 (hR.below (hd.below _))
 have I:=hR.e_le;clear hx hR;go_enter Tryz.func60,Tryz.ntmps60;go_wp2_with fail;refine GrowN.aj 12 [none,none,none,none,none,none,none,none,some (.inl (.int .i64 (x.R.e:Int))),some (.inl (.int .i64 ((x.R.e / 20:Nat):Int))),some (.inl (.int .i64 ((x.b0+x.R.e / 20:Nat):Int))),none] (DrR) (by kernel_rfl) (by kernel_rfl) (by kernel_rfl) (DrR.refl) (λ_ _ _=>DrR.trans) ?_ ?_
 . exact GrowN.jg rfl
 simp only [List.take_succ_cons,List.take_zero,List.drop_succ_cons,List.drop_zero]
 iterate 2
  refine GrowN.g_det rfl ?_;apply Exists.intro;refine ⟨λw B A=>?_,?_⟩
  . clear A
    go_simp;exact ⟨rfl,DrR.refl _⟩
  go_frame;refine GrowN.g_det rfl ?_;apply Exists.intro;refine ⟨λw B A=>?_,?_⟩
  . clear A
    go_simp;exact ⟨rfl,DrR.refl _⟩
  go_frame;refine GrowN.g_det rfl ?_;apply Exists.intro;refine ⟨λw B A=>?_,?_⟩
  . clear A
    go_simp;exact ⟨rfl,DrR.refl _⟩
  go_frame;refine GrowN.g_det rfl ?_;apply Exists.intro;refine ⟨λw B A=>?_,?_⟩
  . clear A
    obtain ⟨n,rfl⟩:=B;go_simp;exact ⟨rfl,DrR.refl _⟩
  go_frame
 refine GrowN.g_con rfl (λw B A=>?_) ?_
 ·
  clear A;obtain ⟨n,rfl⟩:=B;go_simp;exact (F.o _ ⟨1+n,by first | rfl | (rw [<- World.drewN_drewN]; rfl)⟩).mono λe w3 h=>⟨_,h.1,rfl,h.2 ▸ DrR.refl _⟩
 iterate 2
  go_frame;refine GrowN.g_con rfl (λw B A=>?_) ?_
  . clear A
    go_simp;exact ⟨by rw [IntWalk.i64_in _ (by omega)],DrR.refl _⟩
 go_frame;refine GrowN.g_det rfl ?_;apply Exists.intro;refine ⟨λw B A=>?_,?_⟩
 . clear A
   go_simp;exact ⟨rfl,DrR.refl _⟩
 go_frame;refine GrowN.g_nil λw2 E A=>?_
 clear A
 have hd:Drawn w w2:=by
  obtain ⟨n,rfl⟩:=E;exact ⟨1+n,by rw [<- World.drewN_drewN]; rfl⟩
 have J:=zq hd;clear hd E;go_wp2_with fail;go_ret;exact ⟨rfl,J.o⟩
theorem ahr (w:World):(zeroValue 131).run Tryz.prog w=.ok (.pointer none) w:=by kernel_rfl
theorem CqAt.setR {base:Nat} {w w':World} {C:CqD} {D:DiskD} {x:QueD} {R':SegD} {l:List QueD} (h:CqAt base w C) (hl:C.qs=l++[x]) (hm:Mod (λk=>D.foot k\/x.R.foot k) w w') (haw:∀ k,C.foot k->¬ D.foot k) (hS:SegAt base w' R') (e1:R'.blk=x.R.blk) (e2:R'.db=x.R.db) (hf:∀ k,R'.foot k->x.R.foot k\/w.heap.size<=k) :
 CqAt base w' { C with qs:=l++[{ x with R:=R' }] }:=by
 have J:x∈C.qs:=by rw [hl]; simp
 have F:=h.sep;rw [hl,List.pairwise_append] at F;obtain ⟨s1,_,s3⟩:=F;have E:∀ y∈l,y∈C.qs:=λy A=>by rw [hl]; exact List.mem_append_left _ A
 obtain ⟨Z,a2,a3⟩:=h.away x J;have key:∀ k,C.foot k->¬ x.R.foot k->w'.heap[k]?=w.heap[k]?:=λk hk M=>hm.block k (h.lt hk) (λB=>B.elim (haw k hk) M)
 refine ⟨(key C.blk (.inl rfl) (λB=>(a3 _ B).2.1 rfl)).trans h.cells,?_,λy A=>?_,⟨h.low.1,h.low.2.1,λy A=>?_⟩,λy A=>?_,?_⟩
 ·
  have:=h.map.mod hm (λB=>B.elim (haw C.mB (.inr (.inl rfl))) (λN=>(a3 _ N).1 rfl));rw [hl,List.map_append] at this;show PairsAt w' C.mB ((l++[_]).map _);rw [List.map_append]; exact this
 ·
  rcases List.mem_append.1 A with A | A
  . obtain ⟨O,X,U⟩:=h.que y (E y A)
    have M:∀ k,(k=y.blk\/y.R.foot k)->¬ x.R.foot k:=λk hk I=>s3 y A x (.head _) k hk (.inr I)
    refine ⟨(key y.blk (.inr (.inr ⟨y,E y A,.inl rfl⟩)) (M _ (.inl rfl))).trans O,X.mod hm (λk hk B=>B.elim (haw k (.inr (.inr ⟨y,E y A,.inr hk⟩))) (M k (.inr hk))),U⟩
  ·
   rw [List.mem_singleton] at A;subst A;obtain ⟨O,X,U⟩:=h.que x J;refine ⟨?_,hS,e2.trans U⟩;have:=(key x.blk (.inr (.inr ⟨x,J,.inl rfl⟩)) (λB=>(a3 _ B).2.2 rfl)).trans O;show w'.heap[x.blk]?=some (.cells (QueD.cells { x with R:=R' }) _ _);unfold QueD.cells at this ⊢;rw [e1]; exact this
 ·
  rcases List.mem_append.1 A with A | A
  . exact h.low.2.2 y (E y A)
  . rw [List.mem_singleton] at A
    subst A; exact h.low.2.2 x J
 ·
  rcases List.mem_append.1 A with A | A
  . exact h.away y (E y A)
  ·
   rw [List.mem_singleton] at A;subst A;have l1:=h.lt (k:=C.mB) (.inr (.inl rfl));have l2:=h.lt (k:=C.blk) (.inl rfl);have l3:=h.lt (k:=x.blk) (.inr (.inr ⟨x,J,.inl rfl⟩));refine ⟨Z,a2,λk hk=>?_⟩
   rcases hf k hk with B | B
   . exact a3 k B
   . exact (show k≠C.mB/\k≠C.blk/\k≠x.blk from ⟨by omega,by omega,by omega⟩)
 ·
  show (l++[_]).Pairwise _;rw [List.pairwise_append];refine ⟨s1,List.pairwise_singleton _ _,λy A z Y k hk I=>?_⟩;rw [List.mem_singleton] at Y;subst Y;have h1:=h.lt (k:=k) (.inr (.inr ⟨y,E y A,hk⟩))
  rcases I with B | B
  . exact s3 y A x (.head _) k hk (.inl B)
  . rcases hf k B with N | N
    . exact s3 y A x (.head _) k hk (.inr N)
    . omega
structure ate (base:Nat) (W w':World) (C:CqD) (D:DiskD) (t:List UInt8) (q:Nat) (s:List UInt8) (x:QueD) (D':DiskD):Prop where
 cq:CqAt base w' { C with qs:=C.qs++[x] }
 dsk:DiskAt base w' D'
 topic:x.topic=t
 qq:x.q=(q:Int)
 b0:x.b0=0
 least:x.least=0
 b:x.R.b=0
 txt:x.R.txt=s
 quiet:Quiet D'
 dblk:D'.blk=D.blk
 room:D'.room=D.room - (s.length:Int)
 waits:D'.waits.length=D.waits.length+1
 other:∀ n,(∀ p,p<=99999999->n≠ah (ku t q) p)->D'.find n=D.find n
 files:D'.files.length<=D.files.length+1
 names:∀ p∈D'.files,p.1.length<=(ku t q).length+8\/∃ r∈D.files,r.1=p.1
 dfoot:∀ k,D'.foot k->D.foot k\/W.heap.size<=k
 xfoot:∀ k,(k=x.blk\/x.R.foot k)->W.heap.size<=k
 away:∀ k,CqD.foot { C with qs:=C.qs++[x] } k->¬ D'.foot k
 mod:Mod (λk=>k=C.mB\/D.foot k) W w'
 whole:Whole base w' D' x.R
 hd:x.R.head=ku t q
 sz:x.R.size=200
theorem aqz {base:Nat} {D:DiskD} {C:CqD} (t:List UInt8) (q:Nat) (a b c d:Int) (W:World) (hC:CqAt base W C) (hD:DiskAt base W D) (hdb:C.db=D.blk) (hq:Quiet D) (hfl:D.files.length<=1048576) (hnl:∀ p∈D.files,p.1.length<=1073741824) (hbase:base<=W.heap.size) (hT:TabB base W)
 (hn:∀ x∈C.qs,x.key≠.agg #[.string (S t),.int .i64 (q:Int)]) (ht:NameMath.jq t=true) (htl:t.length<=1000) (hql:q < 3) (ho:∀ m,m<=99999999->D.find (ah (ku t q) m)=none) (haw:∀ k,C.foot k->¬ D.foot k)
 (s:List UInt8) (hs:s.length=20) (hput:∀ w,Calls Tryz.prog 194 #[.agg #[.int .i64 a,.int .i64 b,.int .i64 c,.int .i64 d]] w λe w'=>e=.returned (.tuple #[.string (S s),.bool true])/\Below w.heap.size w w') (hroom:20<=D.room) (hwl:D.waits.length<=1000000) :
 Calls Tryz.prog 123 #[.pointer (some ⟨C.blk,0,none⟩),.string (S t),.int .i64 (q:Int),.agg #[.int .i64 a,.int .i64 b,.int .i64 c,.int .i64 d]] W λe w'=>e=.returned (.tuple #[.int .i64 0,.int .i64 0])/\∃ x D',ate base W w' C D t q s x D':=by
 have b1:Zq (Below W.heap.size W (W.alloc (.cells #[.int .i64 a,.int .i64 b,.int .i64 c,.int .i64 d] 95))):=(Below.refl _ W).alloc (Nat.le_refl _) _;have Z:Zq ((W.alloc (.cells #[.int .i64 a,.int .i64 b,.int .i64 c,.int .i64 d] 95)).heap[W.heap.size]?=some (.cells #[.int .i64 a,.int .i64 b,.int .i64 c,.int .i64 d] 95 (0,0))):=heap_alloc_new W _;have b2:=zq (λ(w:World)=>ahq t q ht (by omega) hql w);have b3:=zq (λ(w:World) (hb:Below W.heap.size W w)=>aml t q 0 w (hC.below hb) (hD.below hb) hdb hq hfl hnl (Nat.le_trans hbase hb.size) (hT.below hb) hn htl (by omega) (by omega) ho haw);have b4:=zq hput;have HC:=zq hC;have HD:=zq hD;have HQ:=zq hq;have dc:=zq hT;have HN:=zq hn;have ab:=zq haw;have ea:=zq hdb;have dd:=zq hroom;have bb:=zq hs;have de:=zq hwl;have dj:=zq hbase;clear hC hD hdb hq hfl hnl hbase hT hn ht htl ho haw hput hroom hs hwl;go_enter Tryz.func123,Tryz.ntmps123;go_upto_region 1 with fail
 generalize W.alloc (.cells #[.int .i64 a,.int .i64 b,.int .i64 c,.int .i64 d] 95)=w1 at *
 obtain ⟨A,hA⟩:∃ A,W.heap.size=A:=⟨_,rfl⟩;rw [hA] at Z ⊢;have eb:=zq hA;clear hA;go_wp2_with fail;refine (b2.o w1).mono ?_;rintro e w2 ⟨rfl,hb⟩;have b5:=zq (b1.o.trans (hb.mono b1.o.size));have O:w2.heap[A]?=_:=(hb.block A (Array.getElem?_eq_some_iff.1 Z.o).1).trans Z.o;have p0:w2.cell? ⟨A,0,none⟩=some (.int .i64 a):=by rw [Lib.cell_of_heap O]; rfl
 have p1:w2.cell? ⟨A,1,none⟩=some (.int .i64 b):=by rw [Lib.cell_of_heap O]; rfl
 have p2:w2.cell? ⟨A,2,none⟩=some (.int .i64 c):=by rw [Lib.cell_of_heap O]; rfl
 have p3:w2.cell? ⟨A,3,none⟩=some (.int .i64 d):=by rw [Lib.cell_of_heap O]; rfl
 clear hb O b2 Z;go_wp2_with fail;refine (b4.o w2).mono ?_;rintro e E ⟨rfl,hb⟩;have ar:=zq (b5.o.trans (hb.mono b5.o.size));clear hb p0 p1 p2 p3 b4;go_upto_region 10 with fail
 have b6:Below E.heap.size E (E.alloc (.cells #[.string (S t),.int .i64 (q:Int)] 143)):=(Below.refl _ _).alloc (Nat.le_refl _) _;have bc:(E.alloc (.cells #[.string (S t),.int .i64 (q:Int)] 143)).heap[E.heap.size]?=some (.cells #[.string (S t),.int .i64 (q:Int)] 143 (0,0)):=heap_alloc_new E _;generalize E.alloc (.cells #[.string (S t),.int .i64 (q:Int)] 143)=w3 at *
 obtain ⟨G,hG⟩:∃ G,E.heap.size=G:=⟨_,rfl⟩;rw [hG] at bc ⊢;have N:=zq (ar.o.trans (b6.mono ar.o.size));have b7:=zq bc;clear b6 bc hG
 have HK:Zq (∀ w,Below w3.heap.size w3 w->w.cell? ⟨G,0,none⟩=some (.string (S t))/\w.cell? ⟨G,1,none⟩=some (.int .i64 (q:Int))):=λw hb=>by
  have h:=(hb.block G (Array.getElem?_eq_some_iff.1 b7.o).1).trans b7.o;exact ⟨by rw [Lib.cell_of_heap h]; rfl,by rw [Lib.cell_of_heap h]; rfl⟩
 have b8:Zq (∀ w,Below w3.heap.size w3 w->w.cell? ⟨C.blk,1,none⟩=some (.map (some C.mB))):=λw hb=>by rw [Lib.cell_of_heap (HC.o.below (N.o.trans (hb.mono N.o.size))).cells]; rfl
 have b9:Zq (∀ w,Below w3.heap.size w3 w->(Instr.lookup 139 (.map (some C.mB)) (.agg #[.string (S t),.int .i64 (q:Int)]) false).run Tryz.prog w=.ok (.pointer none) w):=λw hb=>by
  have dl:=HC.o.below (N.o.trans (hb.mono N.o.size))
  exact za Tryz.underlying139 aec dl.map (λx hx=>by
   obtain ⟨y,_,rfl⟩:=List.mem_map.1 hx;exact ⟨_,_,rfl⟩) (k:=.agg #[.string (S t),.int .i64 (q:Int)]) ⟨t,q,rfl⟩ (λx hx=>by
   obtain ⟨y,I,rfl⟩:=List.mem_map.1 hx;exact HN.o y I) ahr false
 refine GrowN.aj 7 [none,none,none,none,some (.inl (.agg #[.string (S t),.int .i64 (q:Int)])),some (.inl (.pointer none)),none] (RecW.ExtR) (by kernel_rfl) (by kernel_rfl) (by kernel_rfl) (RecW.ExtR.refl) (λ_ _ _=>RecW.ExtR.trans) ?_ ?_
 . exact GrowN.jg rfl
 simp only [List.take_succ_cons,List.take_zero,List.drop_succ_cons,List.drop_zero]
 iterate 3
  refine GrowN.g_det rfl ?_;apply Exists.intro;refine ⟨λw hw U=>?_,?_⟩
  . clear U
    go_simp;exact ⟨rfl,RecW.ExtR.refl _⟩
  go_frame
 refine GrowN.g_det rfl ?_;apply Exists.intro;refine ⟨λw hw U=>?_,?_⟩
 ·
  clear U;have hb:=(Below.refl w3.heap.size w3).drew.trans hw;have c1:=b8.o w hb;go_simp;exact ⟨rfl,RecW.ExtR.refl _⟩
 go_frame;refine GrowN.g_con rfl (λw hw U=>?_) ?_
 ·
  clear U;have hb:=(Below.refl w3.heap.size w3).drew.trans hw;obtain ⟨k0,k1⟩:=HK.o w hb;go_simp;exact RecW.ExtR.refl _
 go_frame;refine GrowN.g_con rfl (λw hw U=>?_) ?_
 ·
  clear U;have hb:=(Below.refl w3.heap.size w3).drew.trans hw;have hl:=b9.o w hb;go_simp;exact RecW.ExtR.refl _
 go_frame;refine GrowN.g_det rfl ?_;apply Exists.intro;refine ⟨λw hw U=>?_,?_⟩
 . clear U
   go_simp;exact ⟨rfl,RecW.ExtR.refl _⟩
 go_frame;refine GrowN.g_nil λw4 ca U=>?_
 clear U;have cb:=zq ((Below.refl w3.heap.size w3).drew.trans ca);clear ca b8 b9;obtain ⟨k0,k1⟩:=HK.o w4 cb.o;go_wp2_with fail;have B:Below W.heap.size W w4:=N.o.trans (cb.o.mono N.o.size);refine (b3.o w4 B).mono ?_;rintro e w5 ⟨x,rfl,cc,cd,ad,ce,⟨rb,pv,F⟩,ak,bd,al,a1,cf⟩;have bh:=(bd.que x (by show x∈C.qs++[x]; simp)).1;have X:x.R.e=0:=by rw [F]; rfl
 have cg:x.R.room=200:=by rw [F]; rfl
 have a6:x.R.b=0:=by rw [F]; rfl
 have ci:x.R.txt=[]:=by rw [F]; rfl
 have a7:x.R.db=C.db:=by rw [F]; rfl
 have a8:x.R.size=200:=by rw [F]; rfl
 have cj:x.R.head=ku t q:=by rw [F]; rfl
 have bj:=next_any w5 bh ak.seg (by rw [ad]; omega);rw [ad,X] at bj;have ck:Zq (Calls Tryz.prog 60 #[.pointer (some ⟨x.blk,0,none⟩)] w5 λe w'=>e=.returned (.int .i64 0)/\Drawn w5 w'):=bj;have cm:=zq bh;have ef:=zq ak;have dp:=zq bd;have cn:=zq al;have ba:=zq B;have dq:Zq (x.topic=t/\x.q=(q:Int)/\x.b0=0/\x.least=0/\x.R.b=0/\x.R.txt=[]/\x.R.db=C.db/\x.R.head=ku t q/\x.R.e=0/\x.R.size=200):=⟨cc,cd,ad,ce,a6,ci,a7,cj,X,a8⟩;have dr:Zq (w4.heap.size<=x.blk/\∀ k,x.R.foot k->w4.heap.size<=k/\k≠x.blk):=⟨a1,cf⟩;have co:TabB base w5:=(dc.o.below B).mod al (λk hk=>by rw [hk]; exact HC.o.low.2.1);have bk:=zq (λ(w:World) (hd:Drawn w5 w)=>append_ok s w (co.mod (M:=λ_=>False) (Mod.of_below (hd.below _)) (λ_ h=>h.elim)) (ak.below (hd.below _)) (by have h1:=dj.o; have J:=B.size; have h3:=al.size; have h4:=hd.heap; rw [h4]; omega) HQ.o (by intro e; have:=bb.o; rw [e] at this; cases this) (by rw [cg]; have:=bb.o; omega) (by have h1:=dd.o; have J:=bb.o; omega) (by have:=de.o; omega) (λ_=>by rw [X]; omega));rw [X] at bk;clear cc cd ad ce F ak bd al a1 cf bh X cg a6 ci a7 cj a8 bj B co b3 k0 k1;go_wp2_with fail;refine ck.o.mono ?_;rintro e w6 ⟨rfl,bl⟩
 have c0:w6.cell? ⟨x.blk,0,none⟩=some (.pointer (some ⟨x.R.blk,0,none⟩)):=by
  have h:w6.heap[x.blk]?=_:=(congrArg (λh=>h[x.blk]?) bl.heap).trans cm.o;rw [Lib.cell_of_heap h]; rfl
 have am:=zq bl;clear bl ck;go_wp2_with fail;refine (bk.o w6 am.o).mono ?_;rintro e w7 ⟨rfl,cp,D',R',cq,Y,cr,cs,cv⟩;have bm:=zq cp;have an:=zq cq;have ds:=zq Y;have dt:=zq cr;have cw:=zq cs;have cx:=zq cv;clear cp cq Y cr cs cv bk c0;go_wp2_with fail;go_ret2;obtain ⟨x1,x2,x3,x4,x5,x6,x7,x8,x9,dv⟩:=dq.o;obtain ⟨ep,bo⟩:=dr.o;have hR:=dt.o;have Y:=ds.o;have e1:R'.blk=x.R.blk:=by rw [hR]
 have e2:R'.db=x.R.db:=by rw [hR]
 have e3:R'.b=x.R.b:=by rw [hR]
 have e4:R'.txt=x.R.txt++s:=by rw [hR]
 have B:=ba.o.size;have ey:=cn.o.size;have ez:w6.heap.size=w5.heap.size:=by rw [am.o.heap]
 have e0:=bm.o.size;have cy:∀ k,D.foot k->k < W.heap.size:=λk hk=>HD.o.lt hk
 have bp:∀ k,C.foot k->k < W.heap.size:=λk hk=>HC.o.lt hk
 have dx:CqAt base w6 { C with qs:=C.qs++[x] }:=dp.o.mod (M:=λ_=>False) (Mod.of_below (am.o.below _)) (λ_ _ h=>h)
 have dy:∀ k,CqD.foot { C with qs:=C.qs++[x] } k->C.foot k\/W.heap.size<=k:=λk hk=>by
  rcases hk with hk | hk | ⟨y,I,hk⟩
  . exact .inl (.inl hk)
  . exact .inl (.inr (.inl hk))
  ·
   have br:y∈C.qs++[x]:=I
   rcases List.mem_append.1 br with I | I
   . exact .inl (.inr (.inr ⟨y,I,hk⟩))
   ·
    rw [List.mem_singleton] at I;subst I
    right
    rcases hk with hk | hk
    . rw [hk]; omega
    . have:=(bo k hk).1; omega
 have c6:∀ k,CqD.foot { C with qs:=C.qs++[x] } k->¬ D.foot k:=λk hk h=>by
  rcases dy k hk with J | J
  . exact ab.o k J h
  . have:=cy k h; omega
 have c7:=CqAt.setR (l:=C.qs) dx rfl bm.o c6 an.o.seg e1 e2 cx.o;have ao:∀ k,D'.foot k->D.foot k\/W.heap.size<=k:=λk hk=>(cw.o k hk).imp_right λh=>by omega
 have c8:Mod (λk=>k=C.mB\/D.foot k) W w5:=(Mod.of_below ba.o).trans (cn.o.mono λk _ hk=>.inl hk);have dz:Mod (λk=>k=C.mB\/D.foot k) W w6:=c8.drawn am.o;refine ⟨rfl,{ x with R:=R' },D',c7,an.o.dsk,x1,x2,x3,x4,e3.trans x5,by show R'.txt=s; rw [e4,x6]; rfl,Y.quiet,Y.blk,Y.room,?_,λn hn=>Y.other n (by rw [x8]; exact hn),Y.files,λp hp=>?_,ao,λk hk=>?_,λk hk h=>?_,?_,an.o,by show R'.head=_; rw [hR]; exact x8,by show R'.size=_; rw [hR]; exact dv⟩
 . obtain ⟨f',o,_,hw⟩:=Y.waits
   rw [hw,List.length_append]; rfl
 . have:=Y.names p hp
   rw [x8] at this; exact this
 ·
  rcases hk with hk | hk
  . have:k=x.blk:=hk
    omega
  . rcases cx.o k hk with h | h
    . have:=(bo k h).1; omega
    . omega
 ·
  rcases hk with hk | hk | ⟨y,I,hk⟩
  . rcases ao k h with J | J
    . exact ab.o k (.inl hk) J
    . have:=bp k (.inl hk); omega
  . rcases ao k h with J | J
    . exact ab.o k (.inr (.inl hk)) J
    . have:=bp k (.inr (.inl hk)); omega
  ·
   have br:y∈C.qs++[{ x with R:=R' }]:=I
   rcases List.mem_append.1 br with I | I
   . rcases ao k h with J | J
     . exact ab.o k (.inr (.inr ⟨y,I,hk⟩)) J
     . have:=bp k (.inr (.inr ⟨y,I,hk⟩)); omega
   ·
    rw [List.mem_singleton] at I;subst I
    rcases hk with hk | hk
    . have e5:k=x.blk:=hk
      rcases cw.o k h with J | J
      . have:=cy k J; omega
      . have h3:x.blk < w5.heap.size:=(Array.getElem?_eq_some_iff.1 cm.o).1
        omega
    . exact an.o.ap k h hk
 ·
  refine iw dz bm.o (λk hk=>?_)
  rcases hk with h | h
  . exact .inl (.inr h)
  . right; have:=(bo k h).1; omega
theorem CqAt.setAt {base:Nat} {w w':World} {C:CqD} {D:DiskD} {x:QueD} {R':SegD} {l1 l2:List QueD} (h:CqAt base w C) (hl:C.qs=l1++x :: l2) (hm:Mod (λk=>D.foot k\/x.R.foot k) w w') (haw:∀ k,C.foot k->¬ D.foot k) (hS:SegAt base w' R') (e1:R'.blk=x.R.blk) (e2:R'.db=x.R.db) (hf:∀ k,R'.foot k->x.R.foot k\/w.heap.size<=k) :
 CqAt base w' { C with qs:=l1++{ x with R:=R' } :: l2 }:=by
 have X:x∈C.qs:=by rw [hl]; simp
 have I:∀ y∈l1++l2,y∈C.qs:=λy A=>by rw [hl]; rcases List.mem_append.1 A with h | h <;> simp [h]
 have J:=h.sep;rw [hl] at J
 have O:∀ y∈l1++l2,∀ k,(k=y.blk\/y.R.foot k)->¬ (k=x.blk\/x.R.foot k):=λy A k hk E=>by
  have hp:=List.pairwise_append.1 J
  rcases List.mem_append.1 A with h1 | h1
  . exact hp.2.2 y h1 x (.head _) k hk E
  . exact (List.pairwise_cons.1 hp.2.1).1 y h1 k E hk
 have hold:∀ k,C.foot k->¬ x.R.foot k->w'.heap[k]?=w.heap[k]?:=λk hk hn=>hm.block k (h.lt hk) (λB=>B.elim (haw k hk) hn)
 have M:∀ y,y∈l1++{ x with R:=R' } :: l2->y∈l1++l2\/y={ x with R:=R' }:=λy A=>by
  rcases List.mem_append.1 A with h1 | h1
  . exact .inl (List.mem_append_left _ h1)
  . rcases List.mem_cons.1 h1 with B | B
    . exact .inr B
    . exact .inl (List.mem_append_right _ B)
 have F:=h.away x X;refine ⟨?_,?_,λy A=>?_,⟨h.low.1,h.low.2.1,λy A=>?_⟩,λy A=>?_,?_⟩
 . rw [show w'.heap[C.blk]?=w.heap[C.blk]? from hold _ (.inl rfl) (λB=>(F.2.2 _ B).2.1 rfl)]; exact h.cells
 ·
  have e:(l1++{ x with R:=R' } :: l2).map (λy=>(y.key,Value.pointer (some ⟨y.blk,0,none⟩)))=C.qs.map λy=>(y.key,.pointer (some ⟨y.blk,0,none⟩)):=by
   rw [hl]; simp [QueD.key]
  show PairsAt w' C.mB ((l1++{ x with R:=R' } :: l2).map _);rw [e];exact h.map.mod hm (λB=>B.elim (haw _ (.inr (.inl rfl))) λU=>(F.2.2 _ U).1 rfl)
 ·
  rcases M y A with h1 | rfl
  . obtain ⟨Z,a2,a3⟩:=h.que y (I y h1)
    have Y:∀ k,(k=y.blk\/y.R.foot k)->¬ (D.foot k\/x.R.foot k):=λk hk B=>B.elim (haw k (.inr (.inr ⟨y,I y h1,hk⟩))) λU=>O y h1 k hk (.inr U)
    exact ⟨(hm.block _ (Array.getElem?_eq_some_iff.1 Z).1 (Y _ (.inl rfl))).trans Z,a2.mod hm (λk hk=>Y k (.inr hk)),a3⟩
  ·
   obtain ⟨Z,a2,a3⟩:=h.que x X;refine ⟨?_,hS,e2.trans a3⟩;show w'.heap[x.blk]?=some (.cells (QueD.cells { x with R:=R' }) _ _);rw [show w'.heap[x.blk]?=w.heap[x.blk]? from hold _ (.inr (.inr ⟨x,X,.inl rfl⟩)) (λB=>(F.2.2 _ B).2.2 rfl),Z];unfold QueD.cells;rw [show ({ x with R:=R' }:QueD).R.blk=x.R.blk from e1]
 . rcases M y A with h1 | rfl
   . exact h.low.2.2 y (I y h1)
   . exact h.low.2.2 x X
 ·
  rcases M y A with h1 | rfl
  . exact h.away y (I y h1)
  ·
   refine ⟨F.1,F.2.1,λk hk=>?_⟩
   rcases hf k hk with B | B
   . exact F.2.2 k B
   . have b1:=h.lt (.inl rfl:C.foot C.blk)
     have b2:=h.lt (.inr (.inl rfl):C.foot C.mB);have b3:=h.lt (.inr (.inr ⟨x,X,.inl rfl⟩):C.foot x.blk);exact ⟨by show k≠C.mB; omega,by show k≠C.blk; omega,by show k≠x.blk; omega⟩
 ·
  have N:∀ y∈l1++l2,∀ k,(k=y.blk\/y.R.foot k)->¬ (k=x.blk\/R'.foot k):=λy A k hk E=>by
   rcases E with B | B
   . exact O y A k hk (.inl B)
   . rcases hf k B with U | U
     . exact O y A k hk (.inr U)
     . have:=h.lt (.inr (.inr ⟨y,I y A,hk⟩):C.foot k); omega
  have hp:=List.pairwise_append.1 J;have ab:=List.pairwise_cons.1 hp.2.1;refine List.pairwise_append.2 ⟨hp.1,List.pairwise_cons.2 ⟨λy A k hk E=>N y (List.mem_append_right _ A) k E hk,ab.2⟩,λy A z hz k hk E=>?_⟩
  rcases List.mem_cons.1 hz with rfl | hz
  . exact N y (List.mem_append_left _ A) k hk E
  . exact hp.2.2 y A z (.tail _ hz) k hk E
structure asl (base:Nat) (W w':World) (C:CqD) (D:DiskD) (l1 l2:List QueD) (x:QueD) (s:List UInt8) (R':SegD) (D':DiskD):Prop where
 cq:CqAt base w' { C with qs:=l1++{ x with R:=R' } :: l2 }
 whole:Whole base w' D' R'
 app:AppOk D D' x.R R' s
 row:R'={ x.R with n:=R'.n,pv:=R'.pv,txt:=x.R.txt++s }
 dfoot:∀ k,D'.foot k->D.foot k\/W.heap.size<=k
 rfoot:∀ k,R'.foot k->x.R.foot k\/W.heap.size<=k
 mod:Mod (λk=>D.foot k\/x.R.foot k) W w'
theorem aq0 {base:Nat} {D:DiskD} {C:CqD} {l1 l2:List QueD} {x:QueD} (t:List UInt8) (q:Nat) (a b c d:Int) (W:World) (hC:CqAt base W C) (hD:DiskAt base W D) (hdb:C.db=D.blk) (hq:Quiet D) (hbase:base<=W.heap.size) (hT:TabB base W)
 (hl:C.qs=l1++x :: l2) (hx:x.topic=t/\x.q=(q:Int)) (ht:NameMath.jq t=true) (htl:t.length<=1000) (hql:q < 3) (haw:∀ k,C.foot k->¬ D.foot k) (hok:zn D x.R) (hon:wh D x.R) (hsz:x.R.size=200) (hdv:x.R.txt.length % 20=0) (he:x.R.e<=90000000) (hb0:x.b0<=1099511627776)
 (s:List UInt8) (hs:s.length=20) (hput:∀ w,Calls Tryz.prog 194 #[.agg #[.int .i64 a,.int .i64 b,.int .i64 c,.int .i64 d]] w λe w'=>e=.returned (.tuple #[.string (S s),.bool true])/\Below w.heap.size w w') (hroom:20<=D.room) (hwl:D.waits.length<=1000000) :
 Calls Tryz.prog 123 #[.pointer (some ⟨C.blk,0,none⟩),.string (S t),.int .i64 (q:Int),.agg #[.int .i64 a,.int .i64 b,.int .i64 c,.int .i64 d]] W λe w'=>e=.returned (.tuple #[.int .i64 ((x.b0+x.R.e / 20:Nat):Int),.int .i64 0])/\∃ R' D',asl base W w' C D l1 l2 x s R' D':=by
 have ad:Zq (Below W.heap.size W (W.alloc (.cells #[.int .i64 a,.int .i64 b,.int .i64 c,.int .i64 d] 95))):=(Below.refl _ W).alloc (Nat.le_refl _) _;have O:Zq ((W.alloc (.cells #[.int .i64 a,.int .i64 b,.int .i64 c,.int .i64 d] 95)).heap[W.heap.size]?=some (.cells #[.int .i64 a,.int .i64 b,.int .i64 c,.int .i64 d] 95 (0,0))):=heap_alloc_new W _;have ak:=zq (λ(w:World)=>ahq t q ht (by omega) hql w);have al:=zq hput;have HC:=zq hC;have HD:=zq hD;have HX:=zq hx;have B:Zq (x∈C.qs):=by show x∈C.qs; rw [hl]; simp
 have am:=zq (λ(w:World) (hb:Below W.heap.size W w)=>next_any w ((hC.below hb).que x B.o).1 ((hC.below hb).que x B.o).2.1 hb0);have bs:=hC.away x B.o;have an:∀ k,D.foot k->¬ x.R.foot k:=λk hk h=>haw k (.inr (.inr ⟨x,B.o,.inr h⟩)) hk
 have X:=(hC.que x B.o).2.1
 have ao:20<=x.R.room:=by
  unfold SegD.room
  split
  . rename_i h
    have h1:=X.long h.1;rw [hsz] at h1 h ⊢;omega
  . omega
 have ap:=zq (λ(w:World) (hb:Below W.heap.size W w)=>append_ok s w (hT.below hb) ⟨X.below hb,hD.below hb,((hC.que x B.o).2.2).trans hdb,an,hok,hon⟩ (Nat.le_trans hbase hb.size) hq (by intro e; rw [e] at hs; cases hs) (by rw [hs]; exact ao) (by rw [hs]; exact hroom) (by omega) (λ_=>by omega));have bw:=zq haw;have HL:=zq hl;clear hC hD hdb hq hbase hT hl hx ht htl haw hok hon hput hroom hs hwl hsz hdv bs an X ao;go_enter Tryz.func123,Tryz.ntmps123;go_upto_region 1 with fail
 generalize W.alloc (.cells #[.int .i64 a,.int .i64 b,.int .i64 c,.int .i64 d] 95)=w1 at *
 obtain ⟨A,hA⟩:∃ A,W.heap.size=A:=⟨_,rfl⟩;rw [hA] at O ⊢;have cd:=zq hA;clear hA;go_wp2_with fail;refine (ak.o w1).mono ?_;rintro e w2 ⟨rfl,hb⟩;have ar:=zq (ad.o.trans (hb.mono ad.o.size));have I:w2.heap[A]?=_:=(hb.block A (Array.getElem?_eq_some_iff.1 O.o).1).trans O.o;have p0:w2.cell? ⟨A,0,none⟩=some (.int .i64 a):=by rw [Lib.cell_of_heap I]; rfl
 have p1:w2.cell? ⟨A,1,none⟩=some (.int .i64 b):=by rw [Lib.cell_of_heap I]; rfl
 have p2:w2.cell? ⟨A,2,none⟩=some (.int .i64 c):=by rw [Lib.cell_of_heap I]; rfl
 have p3:w2.cell? ⟨A,3,none⟩=some (.int .i64 d):=by rw [Lib.cell_of_heap I]; rfl
 clear hb I ak O;go_wp2_with fail;refine (al.o w2).mono ?_;rintro e E ⟨rfl,hb⟩;have U:=zq (ar.o.trans (hb.mono ar.o.size));clear hb p0 p1 p2 p3 al;go_upto_region 10 with fail
 have av:Below E.heap.size E (E.alloc (.cells #[.string (S t),.int .i64 (q:Int)] 143)):=(Below.refl _ _).alloc (Nat.le_refl _) _;have Y:(E.alloc (.cells #[.string (S t),.int .i64 (q:Int)] 143)).heap[E.heap.size]?=some (.cells #[.string (S t),.int .i64 (q:Int)] 143 (0,0)):=heap_alloc_new E _;generalize E.alloc (.cells #[.string (S t),.int .i64 (q:Int)] 143)=w3 at *
 obtain ⟨G,hG⟩:∃ G,E.heap.size=G:=⟨_,rfl⟩;rw [hG] at Y ⊢;have F:=zq (U.o.trans (av.mono U.o.size));have a1:=zq Y;clear av Y hG
 have HK:Zq (∀ w,Below w3.heap.size w3 w->w.cell? ⟨G,0,none⟩=some (.string (S t))/\w.cell? ⟨G,1,none⟩=some (.int .i64 (q:Int))):=λw hb=>by
  have h:=(hb.block G (Array.getElem?_eq_some_iff.1 a1.o).1).trans a1.o;exact ⟨by rw [Lib.cell_of_heap h]; rfl,by rw [Lib.cell_of_heap h]; rfl⟩
 have a6:Zq (∀ w,Below w3.heap.size w3 w->w.cell? ⟨C.blk,1,none⟩=some (.map (some C.mB))):=λw hb=>by rw [Lib.cell_of_heap (HC.o.below (F.o.trans (hb.mono F.o.size))).cells]; rfl
 have a7:Zq (∀ w,Below w3.heap.size w3 w->(Instr.lookup 139 (.map (some C.mB)) (.agg #[.string (S t),.int .i64 (q:Int)]) false).run Tryz.prog w=.ok (.pointer (some ⟨x.blk,0,none⟩)) w):=λw hb=>by
  have b1:=HC.o.below (F.o.trans (hb.mono F.o.size))
  exact yz Tryz.underlying139 aec b1.map (λp hp=>by
   obtain ⟨y,_,rfl⟩:=List.mem_map.1 hp;exact ⟨_,_,rfl⟩) (k:=.agg #[.string (S t),.int .i64 (q:Int)]) ⟨t,q,rfl⟩ (List.mem_map.2 ⟨x,B.o,by unfold QueD.key; rw [HX.o.1,HX.o.2]⟩) false
 refine GrowN.aj 7 [none,none,none,none,some (.inl (.agg #[.string (S t),.int .i64 (q:Int)])),some (.inl (.pointer (some ⟨x.blk,0,none⟩))),none] (RecW.ExtR) (by kernel_rfl) (by kernel_rfl) (by kernel_rfl) (RecW.ExtR.refl) (λ_ _ _=>RecW.ExtR.trans) ?_ ?_
 . exact GrowN.jg rfl
 simp only [List.take_succ_cons,List.take_zero,List.drop_succ_cons,List.drop_zero]
 iterate 3
  refine GrowN.g_det rfl ?_;apply Exists.intro;refine ⟨λw Z J=>?_,?_⟩
  . clear J
    go_simp;exact ⟨rfl,RecW.ExtR.refl _⟩
  go_frame
 refine GrowN.g_det rfl ?_;apply Exists.intro;refine ⟨λw Z J=>?_,?_⟩
 ·
  clear J;have hb:=(Below.refl w3.heap.size w3).drew.trans Z;have c1:=a6.o w hb;go_simp;exact ⟨rfl,RecW.ExtR.refl _⟩
 go_frame;refine GrowN.g_con rfl (λw Z J=>?_) ?_
 ·
  clear J;have hb:=(Below.refl w3.heap.size w3).drew.trans Z;obtain ⟨k0,k1⟩:=HK.o w hb;go_simp;exact RecW.ExtR.refl _
 go_frame;refine GrowN.g_con rfl (λw Z J=>?_) ?_
 ·
  clear J;have hb:=(Below.refl w3.heap.size w3).drew.trans Z;have hl:=a7.o w hb;go_simp;exact RecW.ExtR.refl _
 go_frame;refine GrowN.g_det rfl ?_;apply Exists.intro;refine ⟨λw Z J=>?_,?_⟩
 . clear J
   go_simp;exact ⟨rfl,RecW.ExtR.refl _⟩
 go_frame;refine GrowN.g_nil λw4 a8 J=>?_
 clear J;have b2:=zq ((Below.refl w3.heap.size w3).drew.trans a8);clear a8 a6 a7;have M:Zq (Below W.heap.size W w4):=F.o.trans (b2.o.mono F.o.size);obtain ⟨nx,ab⟩:∃ nx:Nat,nx=x.b0+x.R.e / 20:=⟨_,rfl⟩;have ac:=zq (am.o w4 M.o);rw [<- ab] at ac;have b3:=zq ab;clear am ab;go_wp2_with fail;refine ac.o.mono ?_;rintro e w6 ⟨rfl,ba⟩;have N:Zq (Below W.heap.size W w6):=M.o.trans ((ba.below _).mono M.o.size)
 have c0:w6.cell? ⟨x.blk,0,none⟩=some (.pointer (some ⟨x.R.blk,0,none⟩)):=by
  rw [Lib.cell_of_heap ((HC.o.below N.o).que x B.o).1]; rfl
 clear ba ac;go_wp2_with fail;refine (ap.o w6 N.o).mono ?_;rintro e w7 ⟨rfl,bb,D',R',bc,ha,bd,bh,bj⟩;have bk:=zq bb;have bl:=zq bc;have b5:=zq ha;have bm:=zq bd;have b6:=zq bh;have bo:=zq bj;clear bb bc ha bd bh bj ap c0;go_wp2_with fail;go_ret2;have h6:=N.o.size;have hR:=bm.o;exact ⟨by rw [<- b3.o]; rfl,R',D',CqAt.setAt (HC.o.below N.o) HL.o bk.o bw.o bl.o.seg (by rw [hR]) (by rw [hR]) bo.o,bl.o,b5.o,bm.o,λk hk=>(b6.o k hk).imp_right λh=>by omega,λk hk=>(bo.o k hk).imp_right λh=>by omega,(Mod.of_below N.o).trans bk.o⟩
end CqW
namespace NameW
open Go.RowKit OctMath NameMath
def aed (h:Nat) (c:UInt8):Nat:=(31 * h+c.toNat) % 4294967296
def aa3 (h:Nat) (l:List UInt8):Nat:=l.foldl aed h
def mi (ls:List (List UInt8)):Nat:=ls.foldl aa3 0
theorem wrap_u32 (x:Nat):IntKind.u32.wrap (x:Int)=((x % 4294967296:Nat):Int):=by
 simp [IntKind.wrap,IntKind.signed,IntKind.bits]
theorem aop (l:List UInt8):∀ h,h < 4294967296->aa3 h l < 4294967296:=by
 induction l with
 | nil=>exact λh A=>A
 | cons c l ih=>exact λh A=>ih _ (Nat.mod_lt _ (by decide))
theorem ab0 (ls:List (List UInt8)):mi ls < 4294967296:=by
 have:∀ (ls:List (List UInt8)) h,h < 4294967296->ls.foldl aa3 h < 4294967296:=λls=>by
  induction ls with
  | nil=>exact λh A=>A
  | cons l ls ih=>exact λh A=>ih _ (aop l h A)
 exact this ls 0 (by decide)
theorem ahs (ls:List (List UInt8)) (hls:ls.length<=1048576) (hl:∀ l∈ls,l.length<=1073741824) (a:Option Addr) (cp:Nat) (w:World) (h:Strs w a (ls.map S)) :
 Calls Tryz.prog 122 #[.slice a ls.length cp] w λe w'=>e=.returned (.int .i64 ((mi ls:Nat):Int))/\w'=w:=by
 obtain ⟨E,A⟩:∃ E:World,E=w:=⟨_,rfl⟩;have HH:=zq h;have HL:=zq hl;have HT:=zq (ab0 ls);clear h hl;go_enter Tryz.func122,Tryz.ntmps122;go_wp2_with fail;go_loopw [9,3] (λi s wr=>wr=E/\∃ k u:Nat,k<=ls.length/\i=.int .i64 (k:Int)/\s=.int .u32 (u:Int)/\Zq (u=mi (ls.take k))/\u < 4294967296) (λi _ _=>ls.length+1 - (intOf i).toNat)
 case atStart=>exact ⟨A.symm,0,0,by omega,rfl,rfl,by simp [Zq,mi],by omega⟩
 case round =>
  obtain ⟨rfl,k,u,hk,rfl,rfl,J,hu⟩:=hrel;subst A
  by_cases hlt:k < ls.length
  ·
   obtain ⟨b,off,rfl,B⟩:=HH.o k (by rw [List.length_map]; exact hlt);rw [List.getElem_map] at B
   have F:Zq (mi (ls.take (k+1))=aa3 (mi (ls.take k)) ls[k]):=by
    show _=_;rw [List.take_succ_eq_append_getElem hlt];unfold mi;rw [List.foldl_append];rfl
   have ad:=HL.o ls[k] (List.getElem_mem hlt);generalize ls[k]=l at *
   have M:=au l;go_wp2_with fail;obtain ⟨E,A⟩:∃ N:World,N=wr:=⟨_,rfl⟩;go_loopw [15,3] (λi s O=>O=E/\∃ j v:Nat,j<=l.length/\i=.int .i64 (j:Int)/\s=.int .u32 (v:Int)/\Zq (v=aa3 u (l.take j))/\v < 4294967296) (λi _ _=>l.length+1 - (intOf i).toNat)
   case atStart=>exact ⟨A.symm,0,u,by omega,rfl,rfl,by simp [Zq,aa3],hu⟩
   case round =>
    obtain ⟨rfl,j,v,hj,rfl,rfl,R,hv⟩:=hrel;subst A
    by_cases hjl:j < l.length
    ·
     have al:j < (S l).size:=by rw [M]; exact hjl
     have am:=λw=>an4 l j (j:Int) rfl hjl .i64 w
     have I:Zq (aa3 u (l.take (j+1))=aed (aa3 u (l.take j)) l[j]):=by
      show _=_;rw [List.take_succ_eq_append_getElem hjl];unfold aa3;rw [List.foldl_append];rfl
     generalize l[j]=c at *
     have hc:=c.toNat_lt;have w1:IntKind.u32.wrap (31 * (v:Int))=((31 * v % 4294967296:Nat):Int):=by rw [show 31 * (v:Int)=((31 * v:Nat):Int) by omega,wrap_u32]
     have Z:IntKind.u32.wrap (c.toNat:Int)=(c.toNat:Int):=by rw [wrap_u32,Nat.mod_eq_of_lt (by omega)]
     have w2:IntKind.u32.wrap (((31 * v % 4294967296:Nat):Int)+(c.toNat:Int))=((aed v c:Nat):Int):=by
      rw [show (((31 * v % 4294967296:Nat):Int)+(c.toNat:Int))=((31 * v % 4294967296+c.toNat:Nat):Int) by omega,wrap_u32];unfold aed;congr 1;omega
     have U:Zq (aed v c < 4294967296):=Nat.mod_lt _ (by decide);have X:Zq (aed v c=aa3 u (l.take (j+1))):=by show _=_; rw [I.o,<- R.o]
     clear I;generalize aed v c=v2 at *
     generalize ((31 * v % 4294967296:Nat):Int)=z at *
     go_wp2_with fail;go_roundw
     case rel=>exact ⟨trivial,j+1,v2,by omega,by go_num,rfl,X,U.o⟩
     case measure=>simp [intOf]; omega
    ·
     obtain rfl:j=l.length:=by omega
     have Y:Zq (v=mi (ls.take (k+1))):=by
      show _=_;rw [F.o,<- J.o,R.o,List.take_length]
     clear R F;go_wp2_with fail;go_roundw
     case rel=>exact ⟨trivial,k+1,v,by omega,by go_num,rfl,Y,hv⟩
     case measure=>simp [intOf]; omega
  ·
   obtain rfl:k=ls.length:=by omega
   rw [List.take_length] at J;go_wp2_with fail;go_ret;exact ⟨by rw [<- J.o]; rfl,rfl⟩
end NameW
namespace KxW
open Go.RowKit OctMath DskW SegW MapG CacheW NameW
structure KxD where
 blk:Nat
 many:Nat
structure KxAt (base:Nat) (w:World) (X:KxD) (D:DiskD):Prop where
 cells:w.heap[X.blk]?=some (.cells #[.pointer (some ⟨D.blk,0,none⟩),.int .i64 (X.many:Int)] 238 (0,0))
 slots:∃ f,D.find ib=some f/\f.now.length=24
 links:∃ f,D.find iy=some f/\f.now.length=20 * X.many
 low:base<=X.blk
 away:¬ D.foot X.blk
theorem KxAt.below {base:Nat} {w w':World} {X:KxD} {D:DiskD} (h:KxAt base w X D) (hb:Below w.heap.size w w'):KxAt base w' X D :=
 { h with cells:=(hb.block _ (Array.getElem?_eq_some_iff.1 h.cells).1).trans h.cells }
def ade (t k:List UInt8):Nat:=mi [t,[35],k]
theorem ajs (t k:List UInt8):ade t k < 4294967296:=ab0 _
theorem ajt (t k:List UInt8) (ht:t.length<=1073741824) (hk:k.length<=1073741824) (w:World) :
 Calls Tryz.prog 195 #[.string (S t),.string (S k)] w λe w'=>e=.returned (.int .i64 ((ade t k:Nat):Int))/\Below w.heap.size w w':=by
 have E:Zq (Below w.heap.size w (w.alloc (.cells #[.string (S t),.string ⟨#[35]⟩,.string (S k)] 9))):=(Below.refl _ w).alloc (Nat.le_refl _) _
 have A:=zq (ahs [t,[35],k] (by simp) (λl B=>by
  simp only [List.mem_cons,List.not_mem_nil,or_false] at B
  rcases B with rfl | rfl | rfl
  . exact ht
  . decide
  . exact hk) (some ⟨w.heap.size,0,none⟩) 3 (w.alloc (.cells #[.string (S t),.string ⟨#[35]⟩,.string (S k)] 9)) (λi F=>by
  have I:i < 3:=F;refine ⟨w.heap.size,0,rfl,?_⟩;rw [World.cell?_alloc_new]
  rcases (show i=0\/i=1\/i=2 by omega) with rfl | rfl | rfl <;> rfl))
 rw [show ([t,[35],k]:List (List UInt8)).length=3 from rfl,show mi [t,[35],k]=ade t k from rfl] at A;go_enter Tryz.func195,Tryz.ntmps195;go_wp2_with fail;refine A.o.mono ?_;rintro e w2 ⟨rfl,J⟩;obtain rfl:=J.symm;go_wp2_with fail;go_ret;exact ⟨rfl,E.o⟩
theorem aq1 (s:List UInt8):(dm 3 ⟨s,0⟩).1 < 16777216:=by
 unfold dm;rw [if_neg (by simp),if_neg (by omega)];have h:=aif (ed 3 ⟨s,0⟩).1;have A:=OctW.ab7 3 ⟨s,0⟩;have B:256 ^ (ed 3 ⟨s,0⟩).1.length<=256 ^ 3:=Nat.pow_le_pow_right (by decide) A;exact Nat.lt_of_lt_of_le h B
theorem aq2 {D:DiskD} {n:List UInt8} {f:FileD} (hq:Quiet D) (hf:D.find n=some f) (o k:Nat) (h:o+k<=f.now.length):D.readE n (o:Int) (k:Int)=0/\D.readT n (o:Int) (k:Int)=(f.now.drop o).take k:=by
 have hb:D.bars [n]=0:=by unfold DiskD.bars; rw [hq.up]; simp [hf]
 have A:D.bytes n=f.now:=by unfold DiskD.bytes; rw [hf]; rfl
 have B:D.readOk n (o:Int) (k:Int)=true:=by
  unfold DiskD.readOk;rw [A];simp;omega
 unfold DiskD.readE DiskD.readT;rw [if_pos hb,if_pos B,if_pos ⟨hb,B⟩,A];exact ⟨rfl,rfl⟩
theorem aoq {base:Nat} {X:KxD} {D:DiskD} (b:Nat) (hb:b < 8) (w:World) (h:KxAt base w X D) (hD:DiskAt base w D) (hq:Quiet D) :
 Calls Tryz.prog 196 #[.pointer (some ⟨X.blk,0,none⟩),.int .i64 (b:Int)] w λe w'=>∃ u:Nat,e=.returned (.tuple #[.int .i64 (u:Int),.int .i64 0])/\u < 16777216/\Below w.heap.size w w':=by
 obtain ⟨f,N,I⟩:=h.slots;obtain ⟨O,R⟩:=aq2 hq N (3 * b) 3 (by omega);have B:=zq (DskW.read_any ib ((3 * b:Nat):Int) ((3:Nat):Int) (by omega) (by omega) w hD);rw [O,R] at B;rw [show ((3 * b:Nat):Int)=3 * (b:Int) by omega,show ((3:Nat):Int)=3 from rfl] at B;have c0:w.cell? ⟨X.blk,0,none⟩=some (.pointer (some ⟨D.blk,0,none⟩)):=by rw [Lib.cell_of_heap h.cells]; rfl
 have U:Zq (S ib=⟨#[120,45,115,108,111,116,115]⟩):=rfl;rw [U.o] at B;have Y:IntKind.i64.wrap (3 * (b:Int))=3 * (b:Int):=IntWalk.i64_in _ (by omega);clear h hD hq N I O R;have Z:((f.now.drop (3 * b)).take 3).length<=3:=List.length_take_le ..
 generalize (f.now.drop (3 * b)).take 3=s at *
 go_enter Tryz.func196,Tryz.ntmps196;go_wp2_with fail;refine B.o.mono ?_;rintro e w2 ⟨rfl,E⟩;have A:=zq E;clear E B c0;go_wp2_with fail;refine (OctW.new_any s w2).mono ?_;rintro e w3 ⟨rfl,J,M⟩;have HN:=zq (OctW.pz w2.heap.size ⟨s,0⟩ 3 (by omega) (by omega) (by show s.length<=_; omega) w3 J);have F:=zq (A.o.trans (M.mono A.o.size));go_wp2_with fail;refine HN.o.mono ?_;rintro e w4 ⟨rfl,_,ho⟩;go_wp2_with fail;go_ret2;exact ⟨_,rfl,aq1 s,F.o.trans (ho.to_below _ F.o.size λk e=>e ▸ A.o.size)⟩
end KxW
namespace CacheW
open Go.RowKit OctMath DskW SegW MapG
theorem asn {base:Nat} {D:DiskD} (n:List UInt8) (f:FileD) (t:List UInt8) (o:Nat) (w:World) (h:DiskAt base w D) (hq:Quiet D) (hf:D.find n=some f) (ho:o+t.length<=f.now.length) (ht:t≠[]) (htl:t.length<=1048576) (hwl:D.waits.length<=1048576) (hbase:base<=w.heap.size) :
 Calls Tryz.prog 160 #[.pointer (some ⟨D.blk,0,none⟩),.string (S n),.int .i64 (o:Int),.string (S t)] w λe w'=>e=.returned (.int .i64 0)/\∃ D',DiskAt base w' D'/\Grows D D' [] 0 1/\Mod D.foot w w'/\(∀ k,D'.foot k->D.foot k\/w.heap.size<=k)/\(∃ f',D'.find n=some f'/\f'.now.length=f.now.length)/\∀ m,m≠n->D'.find m=D.find m:=by
 have A:=h.small n
 have N:f.now.length<=16777216:=by
  unfold DiskD.bytes at A; rw [hf] at A; exact A
 refine (aaq n (o:Int) (by omega) t (by omega) hwl w h hbase).mono ?_;rintro e w' ⟨wv,rfl,hd,O,hk⟩;have hb:D.bars [n]=0:=by rw [ul,hq.up,hf]; rfl
 have R:0<=D.room:=by
  have:=h.fits;unfold DiskD.room;omega
 have B:D.fitB f (o:Int) t=0:=by
  unfold DiskD.fitB;rw [if_neg (by omega),if_neg (by omega)]
 have h1:D.writeE n (o:Int) t=0:=by
  unfold DiskD.writeE;rw [if_pos hb,hf];simp only;rw [if_pos B,hq.done]
 have F:D.write n (o:Int) t wv={ D with files:=fe D.files n (laidL f.now o t),wv:=wv,waits:=D.waits++[⟨f.blk,o,t⟩] }:=by
  unfold DiskD.write;rw [if_pos hb,hf];simp only;rw [if_pos B,if_neg (by rw [hq.left]; simp [ht]),hq.burn,Int.toNat_natCast]
 have I:(laidL f.now o t).length=f.now.length:=by
  unfold laidL;rw [if_neg ht,show o+t.length - f.now.length=0 by omega,List.replicate_zero,List.append_nil,rq _ _ _ (by omega)];omega
 have E:=nz hf;refine ⟨by rw [h1],D.write n (o:Int) t wv,hd,?_,O,hk,?_,λm J=>?_⟩
 ·
  rw [F];refine ⟨⟨hq.left,hq.up⟩,rfl,rfl,by rw [List.append_nil]; exact aa7 _ _ _,?_,by simp⟩;have:=aap D.files n (laidL f.now o t) f h.names E;show gp (fe D.files n (laidL f.now o t))=gp D.files+0;omega
 ·
  rw [F];have:=ru D.files n (laidL f.now o t) n;rw [if_pos rfl] at this;refine ⟨{ f with now:=laidL f.now o t },?_,I⟩;have M:(D.files.find? λp=>p.1 == n).map (·.2)=some f:=hf;show (((fe D.files n (laidL f.now o t)).find? λp=>p.1 == n).map (·.2))=_;rw [this,M]; rfl
 ·
  rw [F];have:=ru D.files n (laidL f.now o t) m;rw [if_neg J] at this;exact this
end CacheW
namespace TlW
open Go.RowKit OctMath DskW SegW MapG CacheW KxW
structure atw (w:World) (wb p:Nat) (D:DiskD):Prop where
 cells:w.heap[wb]?=some (.cells #[.pointer (some ⟨D.blk,0,none⟩),.int .i64 (p:Int)] 319 (0,0))
 slots:∃ f,D.find ni=some f/\f.now.length=96
open EntW
structure TlD where
 blk:Nat
 wb:Nat
 p:Nat
 many:Nat
structure atx (base:Nat) (w:World) (L:TlD) (D:DiskD):Prop where
 cells:w.heap[L.blk]?=some (.cells #[.pointer (some ⟨L.wb,0,none⟩),.int .i64 (L.many:Int)] 246 (0,0))
 wheel:atw w L.wb L.p D
 marks:∃ f,D.find ry=some f/\f.now.length=20 * L.many
 low:base<=L.blk/\base<=L.wb
 away:¬ D.foot L.blk/\¬ D.foot L.wb/\L.blk≠L.wb
end TlW
namespace StoW
open Go.RowKit Go.MapKept OctMath RecMath RecW TapeMath DskW SegW MapG TapeW PendW CacheW CqW KxW TlW
structure aor (base B kb:Nat) (w w':World) (D D':DiskD) (C:CqD):Prop where
 cq:CqAt base w' C
 qs:C.qs=[]
 db:C.db=D.blk
 dsk:DiskAt base w' D'
 grow:Grows D D' [iy,ib,ni,ry] 120 2
 cnew:∀ k,C.foot k->w.heap.size<=k
 dnew:∀ k,D'.foot k->D.foot k\/w.heap.size<=k
 away:∀ k,C.foot k->¬ D'.foot k
 mod:Mod (λk=>D.foot k\/k=B) w w'
 kx:KxAt base w' ⟨kb,0⟩ D'
 knew:w.heap.size<=kb
 kaway:¬ C.foot kb
structure atf (base tb wb now kb:Nat) (w w':World) (D':DiskD) (C:CqD):Prop where
 tl:atx base w' ⟨tb,wb,now,0⟩ D'
 tnew:w.heap.size<=tb/\w.heap.size<=wb
 away:¬ C.foot tb/\¬ C.foot wb
 kne:tb≠kb/\wb≠kb
theorem amm {base B:Nat} {D:DiskD} (v0 v1 v2 v3 v4 v5 v6 v7 v8 v9 v10:Value) (now:Nat) (hnow:now<=1099511627776) (w:World) (hB:w.heap[B]?=some (.cells #[v0,v1,v2,v3,v4,v5,v6,v7,v8,v9,v10,.int .i64 (now:Int)] 48 (0,0))) (hBD:¬ D.foot B)
 (h:DiskAt base w D) (hq:Quiet D) (hf:D.files=[]) (hr:120<=D.room) (hwl:D.waits=[]) (hbase:base<=w.heap.size) :
 Calls Tryz.prog 38 #[.pointer (some ⟨B,0,none⟩),.pointer (some ⟨D.blk,0,none⟩)] w λe w'=>e=.returned (.int .i64 0)/\∃ C D' kb tb wb,aor base B kb w w' D D' C/\atf base tb wb now kb w w' D' C /\
  w'.heap[B]?=some (.cells #[v0,.pointer (some ⟨C.blk,0,none⟩),.pointer (some ⟨kb,0,none⟩),v3,v4,.pointer (some ⟨tb,0,none⟩),v6,v7,v8,v9,v10,.int .i64 (now:Int)] 48 (0,0)):=by
 have b1:=zq (aqw w h (by rw [hf]; simp) (by rw [hf]; intro p hp; cases hp) (by rw [hf]; intro p hp; cases hp) hbase);have HB:=zq hB;have ab:=zq hBD;have HD:=zq h;have HQ:=zq hq;have HF:=zq hf;have b2:=zq hr;have b3:=zq hwl;have ac:=zq hbase;have c7:=zq hnow;have c8:=(Array.getElem?_eq_some_iff.1 hB).1;clear hB hBD h hq hf hr hwl hbase hnow;go_enter Tryz.func38,Tryz.ntmps38;go_wp2_with fail;refine b1.o.mono ?_;rintro e w2 ⟨C,rfl,hC,b4,b5,R,bb⟩;have ad:w2.heap[B]?=_:=(R.block B c8).trans HB.o;have f1:=ae ad 1;have d1:=aa ad 1 _ rfl;have J:Mod (λk=>k=B) w2 (w2.setCell ⟨B,1,none⟩ (.pointer (some ⟨C.blk,0,none⟩))):=(Mod.refl (λk=>k=B) w2).setCell (.inl rfl) _;have b6:=heap_setCell_same w2 B 1 _ _ (.pointer (some ⟨C.blk,0,none⟩)) ad;have da:=zq J;have U:=zq b6;have bc:=zq R;have E:=zq bb;have b7:CqAt base (w2.setCell ⟨B,1,none⟩ (.pointer (some ⟨C.blk,0,none⟩))) C:=hC.mod J (λk hk e=>by have:=bb k hk; omega);have b8:=zq b7;have bd:DiskAt base (w2.setCell ⟨B,1,none⟩ (.pointer (some ⟨C.blk,0,none⟩))) D:=(HD.o.below R).mod J (λk hk e=>ab.o (e ▸ hk));have d8:=zq bd;have db:=zq b4;have dc:=zq b5;have b9:=zq (ame _ bd HQ.o (by rw [HF.o]; simp) (by rw [HF.o]; intro p hp; cases hp) (by rw [HF.o]; intro p hp; cases hp) (by have:=b2.o; omega) (by rw [b3.o]; simp) (Nat.le_trans ac.o (Nat.le_trans R.size J.size)));have ca:w2.heap.size<=(w2.setCell ⟨B,1,none⟩ (.pointer (some ⟨C.blk,0,none⟩))).heap.size:=J.size;have cb:=zq ca;clear hC b4 b5 R bb ad J b6 b7 bd ca b1;go_wp2_with fail;generalize w2.setCell ⟨B,1,none⟩ (.pointer (some ⟨C.blk,0,none⟩))=w3 at *
 refine b9.o.mono ?_;rintro e w4 ⟨kb,rfl,bh,cc,D1,cd,F,X,bj,ak,ar,av⟩;have al:w4.heap[B]?=_:=(X.block B (Array.getElem?_eq_some_iff.1 U.o).1 ab.o).trans U.o;have f2:=ae al 2;have d2:=aa al 2 _ rfl;have N:Mod (λk=>k=B) w4 (w4.setCell ⟨B,2,none⟩ (.pointer (some ⟨kb,0,none⟩))):=(Mod.refl (λk=>k=B) w4).setCell (.inl rfl) _;have bk:=heap_setCell_same w4 B 2 _ _ (.pointer (some ⟨kb,0,none⟩)) al;have dd:=aa bk 11 _ rfl;have ce:B < w3.heap.size:=(Array.getElem?_eq_some_iff.1 U.o).1;have bl:∀ k,C.foot k->¬ D.foot k:=λk hk A=>by have:=E.o k hk; have:=HD.o.lt A; omega
 have bm:∀ k,C.foot k->k≠B:=λk hk e=>by have:=E.o k hk; omega
 have cf:=zq bl;have de:=zq bm;have cg:CqAt base (w4.setCell ⟨B,2,none⟩ (.pointer (some ⟨kb,0,none⟩))) C:=(b8.o.mod X bl).mod N bm
 have Y:¬ D1.foot B:=λA=>by
  rcases (bj B A).1 with h3 | h3
  . exact ab.o h3
  . omega
 have bo:DiskAt base (w4.setCell ⟨B,2,none⟩ (.pointer (some ⟨kb,0,none⟩))) D1:=cd.mod N (λk hk e=>Y (e ▸ hk));have am:D1.files.map (·.1)=[iy,ib]:=by rw [F.names,HF.o]; rfl
 have dj:D1.files.length=2:=by have:=congrArg List.length am; rw [List.length_map] at this; exact this
 have ci:D1.waits.length=1:=by rw [F.waits,b3.o]; rfl
 have bp:=zq (amd now c7.o _ bo F.quiet (by omega) (λp hp=>by
  have:p.1∈D1.files.map (·.1):=List.mem_map.2 ⟨p,hp,rfl⟩;rw [am] at this
  rcases List.mem_cons.1 this with e | A
  . rw [e]; decide
  . rcases List.mem_cons.1 A with e | A
    . rw [e]; decide
    . cases A) (λx hx=>by
  rw [am] at hx
  rcases List.mem_cons.1 hx with e | A
  . rw [e]; rfl
  . rcases List.mem_cons.1 A with e | A
    . rw [e]; rfl
    . cases A) (by rw [F.room]; have:=b2.o; omega) (by omega) (Nat.le_trans ac.o (Nat.le_trans bc.o.size (Nat.le_trans cb.o (Nat.le_trans X.size N.size)))))
 rw [F.blk] at bp;have cj:=zq bk;have dk:=zq cg;have ea:=zq bo;have br:=zq F;have ck:=zq Y;have bs:=zq X;have bw:=zq N;have cm:=zq bj;have dl:=zq (show w3.heap.size<=kb/\(w4.setCell ⟨B,2,none⟩ (.pointer (some ⟨kb,0,none⟩))).heap[kb]?=some (.cells #[.pointer (some ⟨D.blk,0,none⟩),.int .i64 0] 238 (0,0))/\(∃ f,D1.find ib=some f/\f.now.length=24)/\∃ f,D1.find iy=some f/\f.now.length=0 from ⟨cc,(N.block kb (Array.getElem?_eq_some_iff.1 bh).1 (λe=>by omega)).trans bh,ar,av⟩);clear al N bk bl bm cg Y bo am dj ci cd F X bj ak bh cc ar av b9 f1 d1 ce;go_wp2_with fail;generalize w4.setCell ⟨B,2,none⟩ (.pointer (some ⟨kb,0,none⟩))=w5 at *
 refine bp.o.mono ?_;rintro e w6 ⟨tb,wb,rfl,cn,co,cp,cq,cr,D2,cs,cv,bz,cw,I,a7,a8⟩;have an:w6.heap[B]?=_:=(bz.block B (Array.getElem?_eq_some_iff.1 cj.o).1 ck.o).trans cj.o;have f5:=ae an 5;have d5:=aa an 5 _ rfl;have dn:=zq an;have ao:=zq bz;have ap:=zq cw;have b0:=zq cv;have dp:=zq cs;have ba:=zq I;have dq:=zq (And.intro cn (And.intro co (And.intro cp (And.intro cq (And.intro cr (And.intro a7 a8))))));clear a7 a8 cn co cp cq cr cs cv bz cw I an bp f2 d2 dd;go_wp2_with fail;go_ret;have O:Mod (λk=>k=B) w6 (w6.setCell ⟨B,5,none⟩ (.pointer (some ⟨tb,0,none⟩))):=(Mod.refl (λk=>k=B) w6).setCell (.inl rfl) _;have g1:∀ k,D1.foot k->D.foot k\/w3.heap.size<=k:=λk hk=>(cm.o k hk).1
 have g2:∀ k,D2.foot k->D.foot k\/w3.heap.size<=k:=λk hk=>by
  rcases (ap.o k hk).1 with A | A
  . exact g1 k A
  . have:=bs.o.size; have:=bw.o.size; exact .inr (by omega)
 have Z:∀ k,C.foot k->k < w3.heap.size:=λk hk=>b8.o.lt hk
 have g3:∀ k,C.foot k->¬ D1.foot k:=λk hk A=>by
  rcases g1 k A with h3 | h3
  . exact cf.o k hk h3
  . have:=Z k hk; omega
 have g4:∀ k,C.foot k->¬ D2.foot k:=λk hk A=>by
  rcases g2 k A with h3 | h3
  . exact cf.o k hk h3
  . have:=Z k hk; omega
 have dv:w.heap.size<=w3.heap.size:=Nat.le_trans bc.o.size cb.o;obtain ⟨k1,k2,k3,k4⟩:=dl.o;have cx:kb < w5.heap.size:=(Array.getElem?_eq_some_iff.1 k2).1;have cy:¬ D1.foot kb:=λA=>(cm.o kb A).2 rfl
 have dy:B < w3.heap.size:=(Array.getElem?_eq_some_iff.1 U.o).1;have hM:Mod (λk=>(D.foot k\/k=B)\/w.heap.size<=k) w w3:=(Mod.of_below (M:=λk=>(D.foot k\/k=B)\/w.heap.size<=k) bc.o).trans (da.o.mono λk _ e=>.inl (.inr e));have dr:Mod (λk=>(D.foot k\/k=B)\/w.heap.size<=k) w3 w6:=((bs.o.mono λk _ e=>.inl (.inl e)).trans (bw.o.mono λk _ e=>.inl (.inr e))).trans (ao.o.mono λk _ e=>(g1 k e).elim (λh=>.inl (.inl h)) λh=>.inr (by omega));have ds:Mod (λk=>D.foot k\/k=B) w (w6.setCell ⟨B,5,none⟩ (.pointer (some ⟨tb,0,none⟩))):=((hM.trans dr).trans (O.mono λk _ e=>.inl (.inr e))).mono λk hk e=>e.elim (λh=>h) λh=>by omega
 obtain ⟨n1,n2,n3,n4,n5,n6,n7⟩:=dq.o;have ef:=Nat.le_trans bs.o.size bw.o.size;refine ⟨rfl,C,D2,kb,tb,wb,⟨(dk.o.mod ao.o g3).mod O de.o,db.o,dc.o,dp.o.mod O (λk hk e=>?_),br.o.trans b0.o,E.o,λk hk=>(g2 k hk).imp (λh=>h) λh=>by omega,g4,ds,⟨?_,?_,?_,?_,?_⟩,by omega,λh=>by have:=Z kb h; omega⟩,⟨⟨?_,⟨?_,n6⟩,?_,by have:=ac.o; show base<=tb/\base<=wb; omega,⟨λA=>(ap.o tb A).2.1 rfl,λA=>(ap.o wb A).2.2 rfl,n5⟩⟩,by omega,⟨λA=>by have:=Z tb A; omega,λA=>by have:=Z wb A; omega⟩,by omega⟩,heap_setCell_same _ B 5 _ _ _ dn.o⟩
 ·
  subst e
  rcases g2 _ hk with h3 | h3
  . exact ab.o h3
  . have:=(Array.getElem?_eq_some_iff.1 U.o).1; omega
 . show (w6.setCell ⟨B,5,none⟩ (.pointer (some ⟨tb,0,none⟩))).heap[kb]?=some (.cells #[.pointer (some ⟨D2.blk,0,none⟩),.int .i64 0] 238 (0,0))
   rw [(br.o.trans b0.o).blk];exact (O.block kb (Nat.lt_of_lt_of_le cx ao.o.size) (λe=>by omega)).trans ((ao.o.block kb cx cy).trans k2)
 . rw [ba.o ib (by decide) (by decide)]; exact k3
 . rw [ba.o iy (by decide) (by decide)]; exact k4
 . have:=ac.o; show base<=kb; omega
 . exact λA=>(ap.o kb A).1.elim cy λh=>by omega
 . exact (O.block tb (Array.getElem?_eq_some_iff.1 n1).1 (λe=>by omega)).trans n1
 . show (w6.setCell ⟨B,5,none⟩ (.pointer (some ⟨tb,0,none⟩))).heap[wb]?=some (.cells #[.pointer (some ⟨D2.blk,0,none⟩),.int .i64 (now:Int)] 319 (0,0))
   rw [(br.o.trans b0.o).blk];exact (O.block wb (Array.getElem?_eq_some_iff.1 n2).1 (λe=>by omega)).trans n2
 . obtain ⟨f,a1,a2⟩:=n7
   exact ⟨f,a1,a2⟩
def uz (l:List (Nat×Msg)) (all:List (Int×Int×Int)):List (Int×Int×Int):=l.foldl (λa p=>su a (p.1:Int) p.2) all
theorem di {M:Nat->Prop} {u v:World} (h:Mod M u v) {b:Nat} {o:Obj} (hb:u.heap[b]?=some o) (hM:¬ M b):v.heap[b]?=some o :=
 (h.block b (Array.getElem?_eq_some_iff.1 hb).1 hM).trans hb
theorem ag {u v:World} (h:Below u.heap.size u v) {b:Nat} {o:Obj} (hb:u.heap[b]?=some o):v.heap[b]?=some o :=
 (h.block b (Array.getElem?_eq_some_iff.1 hb).1).trans hb
def OnceG (B s0:Nat) (o:Nat->Obj) (n:Obj) (u v:World):Prop:=Mod (λk=>k=B) u v/\(v.heap[B]?=u.heap[B]?\/∃ b,v.heap[B]?=some (o b)/\v.heap[b]?=some n/\s0<=b)
theorem OnceG.refl (B s0:Nat) (o:Nat->Obj) (n:Obj) (w:World):OnceG B s0 o n w w:=⟨Mod.refl _ _,.inl rfl⟩
theorem OnceG.keep {B s0:Nat} {o:Nat->Obj} {n:Obj} (hB:B < s0) {u v:World} (h:OnceG B s0 o n u v) {b:Nat} (hb:s0<=b) (hn:u.heap[b]?=some n):v.heap[b]?=some n:=di h.1 hn (by omega)
theorem OnceG.trans {B s0:Nat} {o:Nat->Obj} {n:Obj} (hB:B < s0) {u v w:World} (h:OnceG B s0 o n u v) (k:OnceG B s0 o n v w):OnceG B s0 o n u w :=
 ⟨h.1.trans k.1,k.2.elim (λe=>h.2.elim (λE=>.inl (e.trans E)) λ⟨b,h1,F,A⟩=>.inr ⟨b,e.trans h1,k.keep hB A F,A⟩) .inr⟩
theorem OnceG.below {B s0:Nat} {o:Nat->Obj} {n:Obj} {u v:World} (h:Below u.heap.size u v) (hB:B < u.heap.size):OnceG B s0 o n u v:=⟨Mod.of_below h,.inl (h.block B hB)⟩
def YT (s0:Nat) (n:Obj) (v:Value) (w:World):Prop:=∃ b,v=.tuple #[.pointer (some ⟨b,0,none⟩),.int .i64 0]/\w.heap[b]?=some n/\s0<=b
def YP (s0:Nat) (n:Obj) (v:Value) (w:World):Prop:=∃ b,v=.pointer (some ⟨b,0,none⟩)/\w.heap[b]?=some n/\s0<=b
def YS (B s0:Nat) (o:Nat->Obj) (n:Obj) (w:World):Prop:=∃ b,w.heap[B]?=some (o b)/\w.heap[b]?=some n/\s0<=b
theorem aju {base B cb kb tb:Nat} {T:TapeD} {P:PendD} (v3 v4 now:Value) (W:World) (h0r:T.O.recs=[]) (hB:W.heap[B]?=some (.cells #[.pointer (some ⟨T.O.blk,0,none⟩),.pointer (some ⟨cb,0,none⟩),.pointer (some ⟨kb,0,none⟩),v3,v4,.pointer (some ⟨tb,0,none⟩),.pointer (some ⟨P.blk,0,none⟩),.pointer none,.pointer none,.pointer none,.pointer (some ⟨T.D.blk,0,none⟩),now] 48 (0,0))) (h:TapeAt base W T) (hP:PendAt base W P) (haw:(∀ k,T.foot k->k≠B/\¬ P.foot k)/\∀ k,P.foot k->k≠B)
 (hT:TabB base W) (hbase:base<=W.heap.size) (hq:Quiet T.D) (hn:T.D.find TopW.ahi=none) (hl:T.O.recs.length<=1000000) (hk2:∀ p∈T.O.recs,p.2.kind≠2)
 (hBb:base<=B) {M:Nat->Prop} {Post:Nat->World->World->Prop} (hMb:∀ k,M k->base<=k) (hM:∀ k,M k->k < W.heap.size/\k≠B/\¬ T.foot k/\¬ P.foot k)
 (hall:∀ (w:World) (Z:Nat),Mod (λk=>k=B\/P.foot k) W w->W.heap.size<=Z->w.heap[Z]?=some (.cells #[.pointer (some ⟨T.O.blk,0,none⟩),.pointer (some ⟨cb,0,none⟩),.pointer (some ⟨kb,0,none⟩),.int .i64 (T.R.b:Int)] 129 (0,0)) ->
  Calls Tryz.prog 8 #[.pointer (some ⟨Z,0,none⟩)] w λe w'=>∃ n:Int,e=.returned (.tuple #[.int .i64 n,.int .i64 0])/\Post Z w w'/\Mod (λk=>M k\/k=Z) w w')
 (hstab:∀ Z w0 w1 w2 b8 b9,Post Z w0 w1->W.heap.size<=b8->b8 < w0.heap.size->W.heap.size<=b9->b9 < w0.heap.size->b8≠Z->b9≠Z->Mod (λk=>k=b8\/k=b9) w1 w2->Post Z w0 w2) :
 Calls Tryz.prog 39 #[.pointer (some ⟨B,0,none⟩)] W λe w'=>e=.returned (.int .i64 0)/\∃ Z b8 b9 w0,w'.heap[B]?=some (.cells #[.pointer (some ⟨T.O.blk,0,none⟩),.pointer (some ⟨cb,0,none⟩),.pointer (some ⟨kb,0,none⟩),v3,v4,.pointer (some ⟨tb,0,none⟩),.pointer (some ⟨P.blk,0,none⟩),.pointer (some ⟨Z,0,none⟩),.pointer (some ⟨b8,0,none⟩),.pointer (some ⟨b9,0,none⟩),.pointer (some ⟨T.D.blk,0,none⟩),now] 48 (0,0))/\TapeAt base w' T/\PendAt base w' { P with all:=uz T.O.recs P.all } /\
  Post Z w0 w'/\W.heap.size<=Z/\Z < w0.heap.size/\Mod (λk=>k=B\/P.foot k\/M k) W w':=by
 have d7:=zq h0r;clear h0r;have ea:=zq (TopW.acz W h.whole.dsk hq.up hn);have eb:(T.O.recs.map (·.1)).Pairwise (· < ·):=by rw [h.recs]; exact (ng h.fits).2
 have ec:TapeW.placeL T.O.recs 0=0:=by
  unfold TapeW.placeL idI;rw [List.countP_eq_zero];intro i hi;obtain ⟨y,hy,rfl⟩:=List.mem_map.1 hi;simp
 have ee:Zq (∀ w,Below W.heap.size W w->Calls Tryz.prog 89 #[.pointer (some ⟨T.O.blk,0,none⟩),.int .i64 0] w λe w'=>∃ v,e=.returned v/\w'.ownsRow w.heap.size 3 1 v T.O.recs.length (abw T.O.recs)/\Below w.heap.size w w'):=λw hb=>aqt 0 w (h.own.below hb) eb (by omega) ec
 have f2:=aa hB 10 _ rfl;have HB:=zq hB;have HH:=zq h;have HP:=zq hP;have a6:=zq haw;have ga:=zq hT;have gb:=zq hbase;have HQ:=zq hq;have HL:=zq hl;have gd:=zq hk2;have HM:=zq hM;have cr:=zq hall;have ge:=zq hMb;have gf:=zq hBb;have dp:=zq hstab;have eh:=(Array.getElem?_eq_some_iff.1 hB).1;clear hMb hBb hB h hP haw hT hbase hq hn hl hk2 hM hall hstab eb ec;go_enter Tryz.func39,Tryz.ntmps39;go_wp2_with fail;refine ea.o.mono ?_;rintro e w2 ⟨rfl,hb⟩;have co:Zq (Below W.heap.size W (w2.alloc (.cells #[.int .i64 0,.slice none 0 0] 169))):=hb.alloc hb.size _;clear hb ea f2;go_wp2_with fail;generalize w2.alloc (.cells #[.int .i64 0,.slice none 0 0] 169)=w3 at *
 obtain ⟨wo,ei⟩:∃ wo:World,wo=w3:=⟨_,rfl⟩;go_loopw [30] (λi wr=>wr=wo/\i=.int .i64 0) (λ_ _=>0)
 case atStart=>exact ⟨ei.symm,rfl⟩
 case round =>
  obtain ⟨rfl,rfl⟩:=hrel;subst ei;obtain ⟨wA,rfl⟩:∃ wA:World,wA=wr:=⟨_,rfl⟩;have c0:wA.cell? ⟨B,0,none⟩=some (.pointer (some ⟨T.O.blk,0,none⟩)):=aa ((co.o.block B eh).trans HB.o) 0 _ rfl;have HI:=zq (ee.o wA co.o);clear ee;go_wp2_with fail;refine HI.o.mono ?_;rintro e w4 ⟨idv,rfl,br,ej⟩;obtain ⟨ia,ic,dq⟩:=lq br;have ek:=zq br;have em:Zq (Below W.heap.size W w4):=co.o.trans (ej.mono co.o.size);have gh:=zq dq;rw [dq];clear br ej HI c0 dq;go_wp2_with fail;generalize w2.heap.size=g2 at *
  go_loopw [55] (λi wl=>∃ k:Nat,k<=T.O.recs.length/\i=.int .i64 (k:Int)/\Zq (PendAt base wl { P with all:=uz (T.O.recs.take k) P.all }/\Mod P.foot w4 wl)) (λi _=>T.O.recs.length - (intOf i).toNat)
  case atStart=>exact ⟨0,Nat.zero_le _,rfl,HP.o.below em.o,Mod.refl _ _⟩
  case round =>
   obtain ⟨k,hk,rfl,HS⟩:=hrel;have hl:=HL.o;have cp:Mod P.foot W wr:=(Mod.of_below (M:=P.foot) em.o).trans HS.o.2;have gi:=zq cp;have gj:TapeAt base wr T:=HH.o.mod cp (λj hj=>(a6.o.1 j hj).2);have en:=zq gj;have dr:wr.heap[B]?=_:=(cp.block B eh (λF=>a6.o.2 B F rfl)).trans HB.o;have ds:=zq dr;have c0:wr.cell? ⟨B,0,none⟩=some (.pointer (some ⟨T.O.blk,0,none⟩)):=aa dr 0 _ rfl;clear dr cp
   by_cases hlt:k < T.O.recs.length
   . exact absurd hlt (by rw [d7.o]; exact Nat.not_lt_zero _)
   ·
    have gk:k=T.O.recs.length:=by omega
    subst gk;rw [List.take_length] at HS;have eo:Zq (Mod (λk=>k=B\/P.foot k) W wr):=gi.o.mono λk _ e=>.inr e
    have gl:Zq (PendAt base wr { P with all:=uz T.O.recs P.all }):=HS.o.1;clear HS ek gh c0;have a7:B < wr.heap.size:=(Array.getElem?_eq_some_iff.1 ds.o).1
    have am:Zq (∀ w,OnceG B wr.heap.size (λb=>.cells #[.pointer (some ⟨T.O.blk,0,none⟩),.pointer (some ⟨cb,0,none⟩),.pointer (some ⟨kb,0,none⟩),v3,v4,.pointer (some ⟨tb,0,none⟩),.pointer (some ⟨P.blk,0,none⟩),.pointer (some ⟨b,0,none⟩),.pointer none,.pointer none,.pointer (some ⟨T.D.blk,0,none⟩),now] 48 (0,0)) (.cells #[.pointer (some ⟨T.O.blk,0,none⟩),.pointer (some ⟨cb,0,none⟩),.pointer (some ⟨kb,0,none⟩),.int .i64 (T.R.b:Int)] 129 (0,0)) wr.drew w->w.cell? ⟨B,0,none⟩=some (.pointer (some ⟨T.O.blk,0,none⟩))/\w.cell? ⟨B,1,none⟩=some (.pointer (some ⟨cb,0,none⟩))/\w.cell? ⟨B,2,none⟩=some (.pointer (some ⟨kb,0,none⟩))):=λw E=>by
     rcases E.2 with e | ⟨b,e,_⟩
     . have hb:=e.trans (show wr.drew.heap[B]?=_ from ds.o)
       exact ⟨aa hb 0 _ rfl,aa hb 1 _ rfl,aa hb 2 _ rfl⟩
     . exact ⟨aa e 0 _ rfl,aa e 1 _ rfl,aa e 2 _ rfl⟩
    have al:Zq (∀ w,OnceG B wr.heap.size (λb=>.cells #[.pointer (some ⟨T.O.blk,0,none⟩),.pointer (some ⟨cb,0,none⟩),.pointer (some ⟨kb,0,none⟩),v3,v4,.pointer (some ⟨tb,0,none⟩),.pointer (some ⟨P.blk,0,none⟩),.pointer (some ⟨b,0,none⟩),.pointer none,.pointer none,.pointer (some ⟨T.D.blk,0,none⟩),now] 48 (0,0)) (.cells #[.pointer (some ⟨T.O.blk,0,none⟩),.pointer (some ⟨cb,0,none⟩),.pointer (some ⟨kb,0,none⟩),.int .i64 (T.R.b:Int)] 129 (0,0)) wr.drew w->Calls Tryz.prog 90 #[.pointer (some ⟨T.O.blk,0,none⟩),.pointer (some ⟨cb,0,none⟩),.pointer (some ⟨kb,0,none⟩)] w λe w'=>∃ b,e=.returned (.tuple #[.pointer (some ⟨b,0,none⟩),.int .i64 0])/\w'.heap[b]?=some (.cells #[.pointer (some ⟨T.O.blk,0,none⟩),.pointer (some ⟨cb,0,none⟩),.pointer (some ⟨kb,0,none⟩),.int .i64 (T.R.b:Int)] 129 (0,0))/\wr.heap.size<=b/\OnceG B wr.heap.size (λb=>.cells #[.pointer (some ⟨T.O.blk,0,none⟩),.pointer (some ⟨cb,0,none⟩),.pointer (some ⟨kb,0,none⟩),v3,v4,.pointer (some ⟨tb,0,none⟩),.pointer (some ⟨P.blk,0,none⟩),.pointer (some ⟨b,0,none⟩),.pointer none,.pointer none,.pointer (some ⟨T.D.blk,0,none⟩),now] 48 (0,0)) (.cells #[.pointer (some ⟨T.O.blk,0,none⟩),.pointer (some ⟨cb,0,none⟩),.pointer (some ⟨kb,0,none⟩),.int .i64 (T.R.b:Int)] 129 (0,0)) w w'):=λw E =>
     (ahd cb kb w ((en.o.below ((Below.refl _ wr).drew)).mod E.1 (λj hj=>(a6.o.1 j hj).1))).mono λe w' ⟨b,h1,F⟩=>⟨b,h1,F.cells,Nat.le_trans E.1.size F.new,OnceG.below F.below (Nat.lt_of_lt_of_le a7 E.1.size)⟩
    go_upto_region 19 with fail
    refine GrowN.aj 20 [none,none,none,none,none,none,none,none,none,none,none,none,none,some (.inr (λ_=>YT wr.heap.size (.cells #[.pointer (some ⟨T.O.blk,0,none⟩),.pointer (some ⟨cb,0,none⟩),.pointer (some ⟨kb,0,none⟩),.int .i64 (T.R.b:Int)] 129 (0,0)))),some (.inr (λ_=>YT wr.heap.size (.cells #[.pointer (some ⟨T.O.blk,0,none⟩),.pointer (some ⟨cb,0,none⟩),.pointer (some ⟨kb,0,none⟩),.int .i64 (T.R.b:Int)] 129 (0,0)))),some (.inr (λ_=>YP wr.heap.size (.cells #[.pointer (some ⟨T.O.blk,0,none⟩),.pointer (some ⟨cb,0,none⟩),.pointer (some ⟨kb,0,none⟩),.int .i64 (T.R.b:Int)] 129 (0,0)))),some (.inl (.int .i64 0)),none,none,some (.inr (λ_ _=>YS B wr.heap.size (λb=>.cells #[.pointer (some ⟨T.O.blk,0,none⟩),.pointer (some ⟨cb,0,none⟩),.pointer (some ⟨kb,0,none⟩),v3,v4,.pointer (some ⟨tb,0,none⟩),.pointer (some ⟨P.blk,0,none⟩),.pointer (some ⟨b,0,none⟩),.pointer none,.pointer none,.pointer (some ⟨T.D.blk,0,none⟩),now] 48 (0,0)) (.cells #[.pointer (some ⟨T.O.blk,0,none⟩),.pointer (some ⟨cb,0,none⟩),.pointer (some ⟨kb,0,none⟩),.int .i64 (T.R.b:Int)] 129 (0,0))))] (OnceG B wr.heap.size (λb=>.cells #[.pointer (some ⟨T.O.blk,0,none⟩),.pointer (some ⟨cb,0,none⟩),.pointer (some ⟨kb,0,none⟩),v3,v4,.pointer (some ⟨tb,0,none⟩),.pointer (some ⟨P.blk,0,none⟩),.pointer (some ⟨b,0,none⟩),.pointer none,.pointer none,.pointer (some ⟨T.D.blk,0,none⟩),now] 48 (0,0)) (.cells #[.pointer (some ⟨T.O.blk,0,none⟩),.pointer (some ⟨cb,0,none⟩),.pointer (some ⟨kb,0,none⟩),.int .i64 (T.R.b:Int)] 129 (0,0))) (by kernel_rfl) (by kernel_rfl) (by kernel_rfl) (OnceG.refl _ _ _ _) (λ_ _ _=>OnceG.trans a7) ?_ ?_
    . intro K hK Y hY l v w w' hR
      simp only [List.mem_cons,List.not_mem_nil,or_false] at hK
      rcases hK with rfl | rfl | rfl | rfl | rfl | rfl | rfl | rfl | rfl | rfl | rfl | rfl | rfl | rfl | rfl | rfl | rfl | rfl | rfl | rfl <;> simp only [reduceCtorEq,Option.some.injEq,Sum.inr.injEq] at hY
      iterate 3
       . subst hY; exact λ⟨b,h1,F,I⟩=>⟨b,h1,OnceG.keep a7 hR I F,I⟩
      . subst hY; exact λ⟨b,h1,F,I⟩=>hR.2.elim (λe=>⟨b,e.trans h1,OnceG.keep a7 hR I F,I⟩) λh=>h
    simp only [List.take_succ_cons,List.take_zero,List.drop_succ_cons,List.drop_zero]
    iterate 4
     refine GrowN.g_det rfl ?_;apply Exists.intro;refine ⟨λw E A=>?_,?_⟩
     . clear A
       go_simp;exact ⟨rfl,OnceG.refl _ _ _ _ _⟩
     go_frame
    iterate 2
     refine GrowN.g_det rfl ?_;apply Exists.intro;refine ⟨λw E A=>?_,?_⟩
     . clear A
       have hc:=(am.o w E);obtain ⟨e0,e1,e2⟩:=hc;go_simp;exact ⟨rfl,OnceG.refl _ _ _ _ _⟩
     go_frame;refine GrowN.g_det rfl ?_;apply Exists.intro;refine ⟨λw E A=>?_,?_⟩
     . clear A
       go_simp;exact ⟨rfl,OnceG.refl _ _ _ _ _⟩
     go_frame;refine GrowN.g_det rfl ?_;apply Exists.intro;refine ⟨λw E A=>?_,?_⟩
     . clear A
       go_simp;exact ⟨rfl,OnceG.refl _ _ _ _ _⟩
     go_frame;refine GrowN.g_det rfl ?_;apply Exists.intro;refine ⟨λw E A=>?_,?_⟩
     . clear A
       go_simp;exact ⟨rfl,OnceG.refl _ _ _ _ _⟩
     go_frame
    refine GrowN.g_det rfl ?_;apply Exists.intro;refine ⟨λw E A=>?_,?_⟩
    . clear A
      have hc:=(am.o w E);obtain ⟨e0,e1,e2⟩:=hc;go_simp;exact ⟨rfl,OnceG.refl _ _ _ _ _⟩
    go_frame;refine GrowN.g_new rfl (λw E A=>?_) (λv13=>?_)
    . clear A
      go_simp;exact (al.o w E).mono λe w' ⟨b,h1,F,I,h4⟩=>⟨_,h1,⟨b,rfl,F,I⟩,h4⟩
    go_frame;refine GrowN.g_new rfl (λw E A=>?_) (λv14=>?_)
    . skip
      obtain ⟨b,rfl,F,I⟩:=A _ (.head _) (by kernel_rfl);clear A;go_simp;exact ⟨⟨b,rfl,F,I⟩,OnceG.refl _ _ _ _ _⟩
    go_frame;refine GrowN.g_new rfl (λw E A=>?_) (λv15=>?_)
    . skip
      obtain ⟨b,rfl,F,I⟩:=A _ (.head _) (by kernel_rfl);clear A;go_simp;exact ⟨⟨b,rfl,F,I⟩,OnceG.refl _ _ _ _ _⟩
    go_frame;refine GrowN.g_con rfl (λw E A=>?_) ?_
    . obtain ⟨b,rfl,F,I⟩:=A _ (.tail _ (.head _)) (by kernel_rfl)
      clear A;go_simp;exact OnceG.refl _ _ _ _ _
    iterate 2
     go_frame;refine GrowN.g_det rfl ?_;apply Exists.intro;refine ⟨λw E A=>?_,?_⟩
     . clear A
       go_simp;exact ⟨rfl,OnceG.refl _ _ _ _ _⟩
    go_frame;refine GrowN.g_new rfl (λw E A=>?_) (λvS=>?_)
    ·
     obtain ⟨b,rfl,F,I⟩:=A _ (.head _) (by kernel_rfl);clear A
     rcases E.2 with e | ⟨b',e,_⟩
     . have J:=e.trans (show wr.drew.heap[B]?=_ from ds.o)
       have fz:=ae J 7;have dz:=aa J 7 _ rfl;go_simp;have hs:=heap_setCell_same w B 7 _ _ (.pointer (some ⟨b,0,none⟩)) J;have hm:Mod (λk=>k=B) w (w.setCell ⟨B,7,none⟩ (.pointer (some ⟨b,0,none⟩))):=(Mod.refl (λk=>k=B) w).setCell (.inl rfl) _;exact ⟨⟨b,hs,di hm F (by omega),I⟩,hm,.inr ⟨b,hs,di hm F (by omega),I⟩⟩
     . have J:=e
       have fz:=ae J 7;have dz:=aa J 7 _ rfl;go_simp;have hs:=heap_setCell_same w B 7 _ _ (.pointer (some ⟨b,0,none⟩)) J;have hm:Mod (λk=>k=B) w (w.setCell ⟨B,7,none⟩ (.pointer (some ⟨b,0,none⟩))):=(Mod.refl (λk=>k=B) w).setCell (.inl rfl) _;exact ⟨⟨b,hs,di hm F (by omega),I⟩,hm,.inr ⟨b,hs,di hm F (by omega),I⟩⟩
    go_frame;refine GrowN.g_nil λU bd A=>?_
    obtain ⟨Z,bz,cv,b0⟩:=A _ (.head _);clear A;have ao:Mod (λk=>k=B) wr U:=(Mod.of_below (M:=λk=>k=B) ((Below.refl wr.heap.size wr).drew)).trans bd.1;have fy:=zq ao;have bl:=zq cv;have gn:=zq b0;have cw:Zq (Mod (λk=>k=B\/P.foot k) W U):=eo.o.trans (ao.mono λk _ e=>.inl e);have b1:Zq (U.heap[B]?=_):=bz;have cx:Zq (TapeAt base U T):=en.o.mod ao (λj hj=>(a6.o.1 j hj).1);have ey:Zq (PendAt base U { P with all:=uz T.O.recs P.all }):=gl.o.mod ao (λj hj=>a6.o.2 j hj);have bh:Zq (W.heap.size<=Z):=Nat.le_trans eo.o.size b0;clear bd bz ao cv b0 am al vS;have a8:B < U.heap.size:=(Array.getElem?_eq_some_iff.1 b1.o).1
    have am:Zq (∀ w,OnceG B U.heap.size (λb=>.cells #[.pointer (some ⟨T.O.blk,0,none⟩),.pointer (some ⟨cb,0,none⟩),.pointer (some ⟨kb,0,none⟩),v3,v4,.pointer (some ⟨tb,0,none⟩),.pointer (some ⟨P.blk,0,none⟩),.pointer (some ⟨Z,0,none⟩),.pointer (some ⟨b,0,none⟩),.pointer none,.pointer (some ⟨T.D.blk,0,none⟩),now] 48 (0,0)) (.cells #[.pointer (some ⟨T.O.blk,0,none⟩),.pointer (some ⟨P.blk,0,none⟩),.pointer (some ⟨tb,0,none⟩),.int .i64 (T.R.b:Int),.slice none 0 0] 250 (0,0)) U.drew w->w.cell? ⟨B,0,none⟩=some (.pointer (some ⟨T.O.blk,0,none⟩))/\w.cell? ⟨B,6,none⟩=some (.pointer (some ⟨P.blk,0,none⟩))/\w.cell? ⟨B,5,none⟩=some (.pointer (some ⟨tb,0,none⟩))):=λw E=>by
     rcases E.2 with e | ⟨b,e,_⟩
     . have hb:=e.trans (show U.drew.heap[B]?=_ from b1.o)
       exact ⟨aa hb 0 _ rfl,aa hb 6 _ rfl,aa hb 5 _ rfl⟩
     . exact ⟨aa e 0 _ rfl,aa e 6 _ rfl,aa e 5 _ rfl⟩
    have al:Zq (∀ w,OnceG B U.heap.size (λb=>.cells #[.pointer (some ⟨T.O.blk,0,none⟩),.pointer (some ⟨cb,0,none⟩),.pointer (some ⟨kb,0,none⟩),v3,v4,.pointer (some ⟨tb,0,none⟩),.pointer (some ⟨P.blk,0,none⟩),.pointer (some ⟨Z,0,none⟩),.pointer (some ⟨b,0,none⟩),.pointer none,.pointer (some ⟨T.D.blk,0,none⟩),now] 48 (0,0)) (.cells #[.pointer (some ⟨T.O.blk,0,none⟩),.pointer (some ⟨P.blk,0,none⟩),.pointer (some ⟨tb,0,none⟩),.int .i64 (T.R.b:Int),.slice none 0 0] 250 (0,0)) U.drew w->Calls Tryz.prog 91 #[.pointer (some ⟨T.O.blk,0,none⟩),.pointer (some ⟨P.blk,0,none⟩),.pointer (some ⟨tb,0,none⟩)] w λe w'=>∃ b,e=.returned (.tuple #[.pointer (some ⟨b,0,none⟩),.int .i64 0])/\w'.heap[b]?=some (.cells #[.pointer (some ⟨T.O.blk,0,none⟩),.pointer (some ⟨P.blk,0,none⟩),.pointer (some ⟨tb,0,none⟩),.int .i64 (T.R.b:Int),.slice none 0 0] 250 (0,0))/\U.heap.size<=b/\OnceG B U.heap.size (λb=>.cells #[.pointer (some ⟨T.O.blk,0,none⟩),.pointer (some ⟨cb,0,none⟩),.pointer (some ⟨kb,0,none⟩),v3,v4,.pointer (some ⟨tb,0,none⟩),.pointer (some ⟨P.blk,0,none⟩),.pointer (some ⟨Z,0,none⟩),.pointer (some ⟨b,0,none⟩),.pointer none,.pointer (some ⟨T.D.blk,0,none⟩),now] 48 (0,0)) (.cells #[.pointer (some ⟨T.O.blk,0,none⟩),.pointer (some ⟨P.blk,0,none⟩),.pointer (some ⟨tb,0,none⟩),.int .i64 (T.R.b:Int),.slice none 0 0] 250 (0,0)) w w'):=λw E =>
     (aji P.blk tb w ((cx.o.below ((Below.refl _ U).drew)).mod E.1 (λj hj=>(a6.o.1 j hj).1))).mono λe w' ⟨b,h1,F⟩=>⟨b,h1,F.cells,Nat.le_trans E.1.size F.new,OnceG.below F.below (Nat.lt_of_lt_of_le a8 E.1.size)⟩
    go_upto_region 20 with fail
    refine GrowN.aj 20 [none,none,none,none,none,none,none,none,none,none,none,none,none,some (.inr (λ_=>YT U.heap.size (.cells #[.pointer (some ⟨T.O.blk,0,none⟩),.pointer (some ⟨P.blk,0,none⟩),.pointer (some ⟨tb,0,none⟩),.int .i64 (T.R.b:Int),.slice none 0 0] 250 (0,0)))),some (.inr (λ_=>YT U.heap.size (.cells #[.pointer (some ⟨T.O.blk,0,none⟩),.pointer (some ⟨P.blk,0,none⟩),.pointer (some ⟨tb,0,none⟩),.int .i64 (T.R.b:Int),.slice none 0 0] 250 (0,0)))),some (.inr (λ_=>YP U.heap.size (.cells #[.pointer (some ⟨T.O.blk,0,none⟩),.pointer (some ⟨P.blk,0,none⟩),.pointer (some ⟨tb,0,none⟩),.int .i64 (T.R.b:Int),.slice none 0 0] 250 (0,0)))),some (.inl (.int .i64 0)),none,none,some (.inr (λ_ _=>YS B U.heap.size (λb=>.cells #[.pointer (some ⟨T.O.blk,0,none⟩),.pointer (some ⟨cb,0,none⟩),.pointer (some ⟨kb,0,none⟩),v3,v4,.pointer (some ⟨tb,0,none⟩),.pointer (some ⟨P.blk,0,none⟩),.pointer (some ⟨Z,0,none⟩),.pointer (some ⟨b,0,none⟩),.pointer none,.pointer (some ⟨T.D.blk,0,none⟩),now] 48 (0,0)) (.cells #[.pointer (some ⟨T.O.blk,0,none⟩),.pointer (some ⟨P.blk,0,none⟩),.pointer (some ⟨tb,0,none⟩),.int .i64 (T.R.b:Int),.slice none 0 0] 250 (0,0))))] (OnceG B U.heap.size (λb=>.cells #[.pointer (some ⟨T.O.blk,0,none⟩),.pointer (some ⟨cb,0,none⟩),.pointer (some ⟨kb,0,none⟩),v3,v4,.pointer (some ⟨tb,0,none⟩),.pointer (some ⟨P.blk,0,none⟩),.pointer (some ⟨Z,0,none⟩),.pointer (some ⟨b,0,none⟩),.pointer none,.pointer (some ⟨T.D.blk,0,none⟩),now] 48 (0,0)) (.cells #[.pointer (some ⟨T.O.blk,0,none⟩),.pointer (some ⟨P.blk,0,none⟩),.pointer (some ⟨tb,0,none⟩),.int .i64 (T.R.b:Int),.slice none 0 0] 250 (0,0))) (by kernel_rfl) (by kernel_rfl) (by kernel_rfl) (OnceG.refl _ _ _ _) (λ_ _ _=>OnceG.trans a8) ?_ ?_
    . intro K hK Y hY l v w w' hR
      simp only [List.mem_cons,List.not_mem_nil,or_false] at hK
      rcases hK with rfl | rfl | rfl | rfl | rfl | rfl | rfl | rfl | rfl | rfl | rfl | rfl | rfl | rfl | rfl | rfl | rfl | rfl | rfl | rfl <;> simp only [reduceCtorEq,Option.some.injEq,Sum.inr.injEq] at hY
      iterate 3
       . subst hY; exact λ⟨b,h1,F,I⟩=>⟨b,h1,OnceG.keep a8 hR I F,I⟩
      . subst hY; exact λ⟨b,h1,F,I⟩=>hR.2.elim (λe=>⟨b,e.trans h1,OnceG.keep a8 hR I F,I⟩) λh=>h
    simp only [List.take_succ_cons,List.take_zero,List.drop_succ_cons,List.drop_zero]
    iterate 4
     refine GrowN.g_det rfl ?_;apply Exists.intro;refine ⟨λw E A=>?_,?_⟩
     . clear A
       go_simp;exact ⟨rfl,OnceG.refl _ _ _ _ _⟩
     go_frame
    iterate 2
     refine GrowN.g_det rfl ?_;apply Exists.intro;refine ⟨λw E A=>?_,?_⟩
     . clear A
       have hc:=(am.o w E);obtain ⟨e0,e6,e5⟩:=hc;go_simp;exact ⟨rfl,OnceG.refl _ _ _ _ _⟩
     go_frame;refine GrowN.g_det rfl ?_;apply Exists.intro;refine ⟨λw E A=>?_,?_⟩
     . clear A
       go_simp;exact ⟨rfl,OnceG.refl _ _ _ _ _⟩
     go_frame;refine GrowN.g_det rfl ?_;apply Exists.intro;refine ⟨λw E A=>?_,?_⟩
     . clear A
       go_simp;exact ⟨rfl,OnceG.refl _ _ _ _ _⟩
     go_frame;refine GrowN.g_det rfl ?_;apply Exists.intro;refine ⟨λw E A=>?_,?_⟩
     . clear A
       go_simp;exact ⟨rfl,OnceG.refl _ _ _ _ _⟩
     go_frame
    refine GrowN.g_det rfl ?_;apply Exists.intro;refine ⟨λw E A=>?_,?_⟩
    . clear A
      have hc:=(am.o w E);obtain ⟨e0,e6,e5⟩:=hc;go_simp;exact ⟨rfl,OnceG.refl _ _ _ _ _⟩
    go_frame;refine GrowN.g_new rfl (λw E A=>?_) (λv13=>?_)
    . clear A
      go_simp;exact (al.o w E).mono λe w' ⟨b,h1,F,I,h4⟩=>⟨_,h1,⟨b,rfl,F,I⟩,h4⟩
    go_frame;refine GrowN.g_new rfl (λw E A=>?_) (λv14=>?_)
    . skip
      obtain ⟨b,rfl,F,I⟩:=A _ (.head _) (by kernel_rfl);clear A;go_simp;exact ⟨⟨b,rfl,F,I⟩,OnceG.refl _ _ _ _ _⟩
    go_frame;refine GrowN.g_new rfl (λw E A=>?_) (λv15=>?_)
    . skip
      obtain ⟨b,rfl,F,I⟩:=A _ (.head _) (by kernel_rfl);clear A;go_simp;exact ⟨⟨b,rfl,F,I⟩,OnceG.refl _ _ _ _ _⟩
    go_frame;refine GrowN.g_con rfl (λw E A=>?_) ?_
    . obtain ⟨b,rfl,F,I⟩:=A _ (.tail _ (.head _)) (by kernel_rfl)
      clear A;go_simp;exact OnceG.refl _ _ _ _ _
    iterate 2
     go_frame;refine GrowN.g_det rfl ?_;apply Exists.intro;refine ⟨λw E A=>?_,?_⟩
     . clear A
       go_simp;exact ⟨rfl,OnceG.refl _ _ _ _ _⟩
    go_frame;refine GrowN.g_new rfl (λw E A=>?_) (λvS=>?_)
    ·
     obtain ⟨b,rfl,F,I⟩:=A _ (.head _) (by kernel_rfl);clear A
     rcases E.2 with e | ⟨b',e,_⟩
     . have J:=e.trans (show U.drew.heap[B]?=_ from b1.o)
       have fz:=ae J 8;have dz:=aa J 8 _ rfl;go_simp;have hs:=heap_setCell_same w B 8 _ _ (.pointer (some ⟨b,0,none⟩)) J;have hm:Mod (λk=>k=B) w (w.setCell ⟨B,8,none⟩ (.pointer (some ⟨b,0,none⟩))):=(Mod.refl (λk=>k=B) w).setCell (.inl rfl) _;exact ⟨⟨b,hs,di hm F (by omega),I⟩,hm,.inr ⟨b,hs,di hm F (by omega),I⟩⟩
     . have J:=e
       have fz:=ae J 8;have dz:=aa J 8 _ rfl;go_simp;have hs:=heap_setCell_same w B 8 _ _ (.pointer (some ⟨b,0,none⟩)) J;have hm:Mod (λk=>k=B) w (w.setCell ⟨B,8,none⟩ (.pointer (some ⟨b,0,none⟩))):=(Mod.refl (λk=>k=B) w).setCell (.inl rfl) _;exact ⟨⟨b,hs,di hm F (by omega),I⟩,hm,.inr ⟨b,hs,di hm F (by omega),I⟩⟩
    go_frame;refine GrowN.g_nil λX bd A=>?_
    obtain ⟨b8,b2,cy,b3⟩:=A _ (.head _);clear A;have ap:Mod (λk=>k=B) U X:=(Mod.of_below (M:=λk=>k=B) ((Below.refl U.heap.size U).drew)).trans bd.1;have bm:=zq ap;have b4:=zq cy;have dt:=zq b3;have c6:Zq (Mod (λk=>k=B\/P.foot k) W X):=cw.o.trans (ap.mono λk _ e=>.inl e);have b5:Zq (X.heap[B]?=_):=b2;have ez:Zq (TapeAt base X T):=cx.o.mod ap (λj hj=>(a6.o.1 j hj).1);have e3:Zq (PendAt base X { P with all:=uz T.O.recs P.all }):=ey.o.mod ap (λj hj=>a6.o.2 j hj);have cq:Zq (W.heap.size<=b8):=Nat.le_trans cw.o.size b3;clear bd b2 ap cy b3 am al vS;have ba:B < X.heap.size:=(Array.getElem?_eq_some_iff.1 b5.o).1
    have am:Zq (∀ w,OnceG B X.heap.size (λb=>.cells #[.pointer (some ⟨T.O.blk,0,none⟩),.pointer (some ⟨cb,0,none⟩),.pointer (some ⟨kb,0,none⟩),v3,v4,.pointer (some ⟨tb,0,none⟩),.pointer (some ⟨P.blk,0,none⟩),.pointer (some ⟨Z,0,none⟩),.pointer (some ⟨b8,0,none⟩),.pointer (some ⟨b,0,none⟩),.pointer (some ⟨T.D.blk,0,none⟩),now] 48 (0,0)) (.cells #[.pointer (some ⟨T.O.blk,0,none⟩),.pointer (some ⟨P.blk,0,none⟩),.pointer (some ⟨tb,0,none⟩),.slice none 0 0] 252 (0,0)) X.drew w->w.cell? ⟨B,0,none⟩=some (.pointer (some ⟨T.O.blk,0,none⟩))/\w.cell? ⟨B,6,none⟩=some (.pointer (some ⟨P.blk,0,none⟩))/\w.cell? ⟨B,5,none⟩=some (.pointer (some ⟨tb,0,none⟩))):=λw E=>by
     rcases E.2 with e | ⟨b,e,_⟩
     . have hb:=e.trans (show X.drew.heap[B]?=_ from b5.o)
       exact ⟨aa hb 0 _ rfl,aa hb 6 _ rfl,aa hb 5 _ rfl⟩
     . exact ⟨aa e 0 _ rfl,aa e 6 _ rfl,aa e 5 _ rfl⟩
    have al:Zq (∀ w,OnceG B X.heap.size (λb=>.cells #[.pointer (some ⟨T.O.blk,0,none⟩),.pointer (some ⟨cb,0,none⟩),.pointer (some ⟨kb,0,none⟩),v3,v4,.pointer (some ⟨tb,0,none⟩),.pointer (some ⟨P.blk,0,none⟩),.pointer (some ⟨Z,0,none⟩),.pointer (some ⟨b8,0,none⟩),.pointer (some ⟨b,0,none⟩),.pointer (some ⟨T.D.blk,0,none⟩),now] 48 (0,0)) (.cells #[.pointer (some ⟨T.O.blk,0,none⟩),.pointer (some ⟨P.blk,0,none⟩),.pointer (some ⟨tb,0,none⟩),.slice none 0 0] 252 (0,0)) X.drew w->Calls Tryz.prog 92 #[.pointer (some ⟨T.O.blk,0,none⟩),.pointer (some ⟨P.blk,0,none⟩),.pointer (some ⟨tb,0,none⟩)] w λe w'=>∃ b,e=.returned (.tuple #[.pointer (some ⟨b,0,none⟩),.int .i64 0])/\w'.heap[b]?=some (.cells #[.pointer (some ⟨T.O.blk,0,none⟩),.pointer (some ⟨P.blk,0,none⟩),.pointer (some ⟨tb,0,none⟩),.slice none 0 0] 252 (0,0))/\X.heap.size<=b/\OnceG B X.heap.size (λb=>.cells #[.pointer (some ⟨T.O.blk,0,none⟩),.pointer (some ⟨cb,0,none⟩),.pointer (some ⟨kb,0,none⟩),v3,v4,.pointer (some ⟨tb,0,none⟩),.pointer (some ⟨P.blk,0,none⟩),.pointer (some ⟨Z,0,none⟩),.pointer (some ⟨b8,0,none⟩),.pointer (some ⟨b,0,none⟩),.pointer (some ⟨T.D.blk,0,none⟩),now] 48 (0,0)) (.cells #[.pointer (some ⟨T.O.blk,0,none⟩),.pointer (some ⟨P.blk,0,none⟩),.pointer (some ⟨tb,0,none⟩),.slice none 0 0] 252 (0,0)) w w'):=λw E =>
     (ajj T.O.blk P.blk tb w).mono λe w' ⟨b,h1,F⟩=>⟨b,h1,F.cells,Nat.le_trans E.1.size F.new,OnceG.below F.below (Nat.lt_of_lt_of_le ba E.1.size)⟩
    go_upto_region 21 with fail
    refine GrowN.aj 20 [none,none,none,none,none,none,none,none,none,none,none,none,none,some (.inr (λ_=>YT X.heap.size (.cells #[.pointer (some ⟨T.O.blk,0,none⟩),.pointer (some ⟨P.blk,0,none⟩),.pointer (some ⟨tb,0,none⟩),.slice none 0 0] 252 (0,0)))),some (.inr (λ_=>YT X.heap.size (.cells #[.pointer (some ⟨T.O.blk,0,none⟩),.pointer (some ⟨P.blk,0,none⟩),.pointer (some ⟨tb,0,none⟩),.slice none 0 0] 252 (0,0)))),some (.inr (λ_=>YP X.heap.size (.cells #[.pointer (some ⟨T.O.blk,0,none⟩),.pointer (some ⟨P.blk,0,none⟩),.pointer (some ⟨tb,0,none⟩),.slice none 0 0] 252 (0,0)))),some (.inl (.int .i64 0)),none,none,some (.inr (λ_ _=>YS B X.heap.size (λb=>.cells #[.pointer (some ⟨T.O.blk,0,none⟩),.pointer (some ⟨cb,0,none⟩),.pointer (some ⟨kb,0,none⟩),v3,v4,.pointer (some ⟨tb,0,none⟩),.pointer (some ⟨P.blk,0,none⟩),.pointer (some ⟨Z,0,none⟩),.pointer (some ⟨b8,0,none⟩),.pointer (some ⟨b,0,none⟩),.pointer (some ⟨T.D.blk,0,none⟩),now] 48 (0,0)) (.cells #[.pointer (some ⟨T.O.blk,0,none⟩),.pointer (some ⟨P.blk,0,none⟩),.pointer (some ⟨tb,0,none⟩),.slice none 0 0] 252 (0,0))))] (OnceG B X.heap.size (λb=>.cells #[.pointer (some ⟨T.O.blk,0,none⟩),.pointer (some ⟨cb,0,none⟩),.pointer (some ⟨kb,0,none⟩),v3,v4,.pointer (some ⟨tb,0,none⟩),.pointer (some ⟨P.blk,0,none⟩),.pointer (some ⟨Z,0,none⟩),.pointer (some ⟨b8,0,none⟩),.pointer (some ⟨b,0,none⟩),.pointer (some ⟨T.D.blk,0,none⟩),now] 48 (0,0)) (.cells #[.pointer (some ⟨T.O.blk,0,none⟩),.pointer (some ⟨P.blk,0,none⟩),.pointer (some ⟨tb,0,none⟩),.slice none 0 0] 252 (0,0))) (by kernel_rfl) (by kernel_rfl) (by kernel_rfl) (OnceG.refl _ _ _ _) (λ_ _ _=>OnceG.trans ba) ?_ ?_
    . intro K hK Y hY l v w w' hR
      simp only [List.mem_cons,List.not_mem_nil,or_false] at hK
      rcases hK with rfl | rfl | rfl | rfl | rfl | rfl | rfl | rfl | rfl | rfl | rfl | rfl | rfl | rfl | rfl | rfl | rfl | rfl | rfl | rfl <;> simp only [reduceCtorEq,Option.some.injEq,Sum.inr.injEq] at hY
      iterate 3
       . subst hY; exact λ⟨b,h1,F,I⟩=>⟨b,h1,OnceG.keep ba hR I F,I⟩
      . subst hY; exact λ⟨b,h1,F,I⟩=>hR.2.elim (λe=>⟨b,e.trans h1,OnceG.keep ba hR I F,I⟩) λh=>h
    simp only [List.take_succ_cons,List.take_zero,List.drop_succ_cons,List.drop_zero]
    iterate 4
     refine GrowN.g_det rfl ?_;apply Exists.intro;refine ⟨λw E A=>?_,?_⟩
     . clear A
       go_simp;exact ⟨rfl,OnceG.refl _ _ _ _ _⟩
     go_frame
    iterate 2
     refine GrowN.g_det rfl ?_;apply Exists.intro;refine ⟨λw E A=>?_,?_⟩
     . clear A
       have hc:=(am.o w E);obtain ⟨e0,e6,e5⟩:=hc;go_simp;exact ⟨rfl,OnceG.refl _ _ _ _ _⟩
     go_frame;refine GrowN.g_det rfl ?_;apply Exists.intro;refine ⟨λw E A=>?_,?_⟩
     . clear A
       go_simp;exact ⟨rfl,OnceG.refl _ _ _ _ _⟩
     go_frame;refine GrowN.g_det rfl ?_;apply Exists.intro;refine ⟨λw E A=>?_,?_⟩
     . clear A
       go_simp;exact ⟨rfl,OnceG.refl _ _ _ _ _⟩
     go_frame;refine GrowN.g_det rfl ?_;apply Exists.intro;refine ⟨λw E A=>?_,?_⟩
     . clear A
       go_simp;exact ⟨rfl,OnceG.refl _ _ _ _ _⟩
     go_frame
    refine GrowN.g_det rfl ?_;apply Exists.intro;refine ⟨λw E A=>?_,?_⟩
    . clear A
      have hc:=(am.o w E);obtain ⟨e0,e6,e5⟩:=hc;go_simp;exact ⟨rfl,OnceG.refl _ _ _ _ _⟩
    go_frame;refine GrowN.g_new rfl (λw E A=>?_) (λv13=>?_)
    . clear A
      go_simp;exact (al.o w E).mono λe w' ⟨b,h1,F,I,h4⟩=>⟨_,h1,⟨b,rfl,F,I⟩,h4⟩
    go_frame;refine GrowN.g_new rfl (λw E A=>?_) (λv14=>?_)
    . skip
      obtain ⟨b,rfl,F,I⟩:=A _ (.head _) (by kernel_rfl);clear A;go_simp;exact ⟨⟨b,rfl,F,I⟩,OnceG.refl _ _ _ _ _⟩
    go_frame;refine GrowN.g_new rfl (λw E A=>?_) (λv15=>?_)
    . skip
      obtain ⟨b,rfl,F,I⟩:=A _ (.head _) (by kernel_rfl);clear A;go_simp;exact ⟨⟨b,rfl,F,I⟩,OnceG.refl _ _ _ _ _⟩
    go_frame;refine GrowN.g_con rfl (λw E A=>?_) ?_
    . obtain ⟨b,rfl,F,I⟩:=A _ (.tail _ (.head _)) (by kernel_rfl)
      clear A;go_simp;exact OnceG.refl _ _ _ _ _
    iterate 2
     go_frame;refine GrowN.g_det rfl ?_;apply Exists.intro;refine ⟨λw E A=>?_,?_⟩
     . clear A
       go_simp;exact ⟨rfl,OnceG.refl _ _ _ _ _⟩
    go_frame;refine GrowN.g_new rfl (λw E A=>?_) (λvS=>?_)
    ·
     obtain ⟨b,rfl,F,I⟩:=A _ (.head _) (by kernel_rfl);clear A
     rcases E.2 with e | ⟨b',e,_⟩
     . have J:=e.trans (show X.drew.heap[B]?=_ from b5.o)
       have fz:=ae J 9;have dz:=aa J 9 _ rfl;go_simp;have hs:=heap_setCell_same w B 9 _ _ (.pointer (some ⟨b,0,none⟩)) J;have hm:Mod (λk=>k=B) w (w.setCell ⟨B,9,none⟩ (.pointer (some ⟨b,0,none⟩))):=(Mod.refl (λk=>k=B) w).setCell (.inl rfl) _;exact ⟨⟨b,hs,di hm F (by omega),I⟩,hm,.inr ⟨b,hs,di hm F (by omega),I⟩⟩
     . have J:=e
       have fz:=ae J 9;have dz:=aa J 9 _ rfl;go_simp;have hs:=heap_setCell_same w B 9 _ _ (.pointer (some ⟨b,0,none⟩)) J;have hm:Mod (λk=>k=B) w (w.setCell ⟨B,9,none⟩ (.pointer (some ⟨b,0,none⟩))):=(Mod.refl (λk=>k=B) w).setCell (.inl rfl) _;exact ⟨⟨b,hs,di hm F (by omega),I⟩,hm,.inr ⟨b,hs,di hm F (by omega),I⟩⟩
    go_frame;refine GrowN.g_nil λak bd A=>?_
    obtain ⟨b9,b6,da,ca⟩:=A _ (.head _);clear A;have ar:Mod (λk=>k=B) X ak:=(Mod.of_below (M:=λk=>k=B) ((Below.refl X.heap.size X).drew)).trans bd.1;have bo:=zq ar;have du:=zq da;have cc:=zq ca;have db:Zq (Mod (λk=>k=B\/P.foot k) W ak):=c6.o.trans (ar.mono λk _ e=>.inl e);have dc:Zq (ak.heap[B]?=_):=b6;have e4:Zq (TapeAt base ak T):=ez.o.mod ar (λj hj=>(a6.o.1 j hj).1);have e7:Zq (PendAt base ak { P with all:=uz T.O.recs P.all }):=e3.o.mod ar (λj hj=>a6.o.2 j hj);have e8:Zq (W.heap.size<=b9):=Nat.le_trans c6.o.size ca;clear bd b6 ar da ca am al vS;have cd:∀ b,W.heap.size<=b->b≠B:=λb hb=>by omega
    have dd:Zq (ak.heap[Z]?=_):=di bo.o (di bm.o bl.o (cd _ bh.o)) (cd _ bh.o);have de:Zq (ak.heap[b8]?=_):=di bo.o b4.o (cd _ cq.o);have dj:Zq (ak.heap[b9]?=_):=du.o;have gv:Zq (b8 < ak.heap.size):=(Array.getElem?_eq_some_iff.1 de.o).1;have gw:Zq (b9 < ak.heap.size):=(Array.getElem?_eq_some_iff.1 dj.o).1;have e9:Z≠b8:=by have:=dt.o; have:=(Array.getElem?_eq_some_iff.1 bl.o).1; omega
    have fa:Z≠b9:=by have:=cc.o; have:=(Array.getElem?_eq_some_iff.1 bl.o).1; have:=bm.o.size; omega
    have fb:b8≠b9:=by have:=cc.o; have:=(Array.getElem?_eq_some_iff.1 b4.o).1; omega
    have ce:=zq (show Z≠b8/\Z≠b9/\b8≠b9 from ⟨e9,fa,fb⟩);have bp:=zq cd;have c7:=aa dc.o 7 _ rfl;have HA:=zq (cr.o ak Z db.o bh.o dd.o);clear cd e9 fa fb;go_wp2_with fail;refine HA.o.mono ?_;rintro e av ⟨n,rfl,cf,a1⟩;have fc:¬ (M B\/B=Z):=λh=>h.elim (λh=>(HM.o B h).2.1 rfl) λe=>bp.o Z bh.o e.symm
    have ff:¬ (M b8\/b8=Z):=λh=>h.elim (λh=>by have:=(HM.o b8 h).1; have:=cq.o; omega) λe=>ce.o.1 e.symm
    have fg:¬ (M b9\/b9=Z):=λh=>h.elim (λh=>by have:=(HM.o b9 h).1; have:=e8.o; omega) λe=>ce.o.2.1 e.symm
    have cg:Zq (av.heap[B]?=_):=di a1 dc.o fc;have ci:Zq (av.heap[b8]?=_):=di a1 de.o ff;have dv:Zq (av.heap[b9]?=_):=di a1 dj.o fg;have cj:Zq (TapeAt base av T):=e4.o.mod a1 (λj hj h=>h.elim (λh=>(HM.o j h).2.2.1 hj) λe=>by have:=HH.o.lt hj; have:=bh.o; omega);have fh:Zq (PendAt base av { P with all:=uz T.O.recs P.all }):=e7.o.mod a1 (λj hj h=>h.elim (λh=>(HM.o j h).2.2.2 hj) λe=>by have:=HP.o.lt (show P.foot j from hj); have:=bh.o; omega);have ck:Zq (Mod (λk=>k=B\/P.foot k\/M k) W av):=((db.o.mono (N:=λk=>(k=B\/P.foot k\/M k)\/W.heap.size<=k) (λk _ e=>.inl (e.imp (λh=>h) λh=>.inl h))).trans (a1.mono (λk _ e=>e.elim (λh=>.inl (.inr (.inr h))) λe=>.inr (by have:=bh.o; omega)))).mono (λk hk e=>e.elim (λh=>h) λh=>by omega);have fi:=zq cf;have dk:W.heap.size<=av.heap.size:=ck.o.size;have dx:Zq (TabB base av):=ga.o.mod (M:=λk=>(k=B\/P.foot k\/M k)/\base<=k) (ck.o.mono (λk hk e=>⟨e,e.elim (λh=>h ▸ gf.o) λh=>h.elim (λh=>h.elim (λe=>e ▸ HP.o.low.1) λe=>e ▸ HP.o.low.2) λh=>ge.o k h⟩)) (λk h=>h.2)
    have gx:0<=(T.R.b:Int)/\(T.R.b:Int)<=200000000:=by
     have h1:=cj.o.whole.seg.e_le;have F:T.R.b<=T.R.e:=by unfold SegD.e; omega
     omega
    have fj:=zq (amb (B:=b8) _ _ _ _ av d7.o cj.o dx.o (Nat.le_trans gb.o dk) HQ.o.up ci.o (by have:=HL.o; omega) gd.o gx);have c8:=aa cg.o 8 _ rfl;clear cf a1 fc ff fg dk c7 HA cr;go_wp2_with fail;refine fj.o.mono ?_;rintro e bb ⟨rfl,bj⟩;have cm:Zq (bb.heap[B]?=_):=ag bj cg.o;have dy:Zq (bb.heap[b8]?=_):=ag bj ci.o;have d0:Zq (bb.heap[b9]?=_):=ag bj dv.o;have d5:=zq bj;have d8:=aa cm.o 8 _ rfl;have d9:=aa cm.o 9 _ rfl;clear bj fj c8;go_upto_region 26 with fail
    have fl:bb.drew.heap[b8]?=_:=dy.o
    have fo:Zq (∀ w,Once b8 (.cells #[.pointer (some ⟨T.O.blk,0,none⟩),.pointer (some ⟨P.blk,0,none⟩),.pointer (some ⟨tb,0,none⟩),.int .i64 (T.R.b:Int),.slice none 0 0] 250 (0,0)) bb.drew w->Calls Tryz.prog 95 #[.pointer (some ⟨b8,0,none⟩)] w λe w'=>e=.returned (.slice none 0 0)/\Once b8 (.cells #[.pointer (some ⟨T.O.blk,0,none⟩),.pointer (some ⟨P.blk,0,none⟩),.pointer (some ⟨tb,0,none⟩),.int .i64 (T.R.b:Int),.slice none 0 0] 250 (0,0)) w w'):=λw E =>
     (aok w (E.stays fl)).mono λe w' h=>⟨h.1,h.2.2,.inr h.2.1⟩
    have d6:Zq (∀ w,Once b8 (.cells #[.pointer (some ⟨T.O.blk,0,none⟩),.pointer (some ⟨P.blk,0,none⟩),.pointer (some ⟨tb,0,none⟩),.int .i64 (T.R.b:Int),.slice none 0 0] 250 (0,0)) bb.drew w->w.cell? ⟨B,8,none⟩=some (.pointer (some ⟨b8,0,none⟩))/\w.cell? ⟨B,9,none⟩=some (.pointer (some ⟨b9,0,none⟩))):=λw E=>by
     have J:=di E.1 (show bb.drew.heap[B]?=_ from cm.o) (λe=>bp.o b8 cq.o e.symm);exact ⟨aa J 8 _ rfl,aa J 9 _ rfl⟩
    clear fl d8 d9;refine GrowM.jl (by kernel_rfl) ?_;refine GrowM.jr 9 [none,none,none,none,none,none,none,none,some (.inl (.slice none 0 0))] (Once b8 (.cells #[.pointer (some ⟨T.O.blk,0,none⟩),.pointer (some ⟨P.blk,0,none⟩),.pointer (some ⟨tb,0,none⟩),.int .i64 (T.R.b:Int),.slice none 0 0] 250 (0,0))) (by kernel_rfl) (by kernel_rfl) (Once.refl _ _) (λ_ _ _=>Once.trans) ?_ ?_
    . exact GrowN.jg rfl
    simp only [List.take_succ_cons,List.take_zero,List.drop_succ_cons,List.drop_zero,Nat.reduceSub]
    iterate 3
     refine GrowN.g_det rfl ?_;apply Exists.intro;refine ⟨λw E A=>?_,?_⟩
     . clear A
       go_simp;exact ⟨rfl,Once.refl _ _ _⟩
     go_frame
    refine GrowN.g_det rfl ?_;apply Exists.intro;refine ⟨λw E A=>?_,?_⟩
    . clear A
      have c9:=(d6.o w E).2;go_simp;exact ⟨rfl,Once.refl _ _ _⟩
    iterate 3
     go_frame;refine GrowN.g_det rfl ?_;apply Exists.intro;refine ⟨λw E A=>?_,?_⟩
     . clear A
       go_simp;exact ⟨rfl,Once.refl _ _ _⟩
    go_frame;refine GrowN.g_det rfl ?_;apply Exists.intro;refine ⟨λw E A=>?_,?_⟩
    . clear A
      have c8:=(d6.o w E).1;go_simp;exact ⟨rfl,Once.refl _ _ _⟩
    go_frame;refine GrowN.g_con rfl (λw E A=>?_) ?_
    . clear A
      go_simp;exact (fo.o w E).mono λe w' h=>⟨_,h.1,rfl,h.2⟩
    go_frame;refine GrowN.g_nil λfp cn A=>?_
    clear A;have fs:=zq (aol fp (di cn.1 (show bb.drew.heap[b9]?=_ from d0.o) (λe=>ce.o.2.2 e.symm)));refine GrowM.pu (λv w'=>w'.heap[b9]?=some (.cells #[.pointer (some ⟨T.O.blk,0,none⟩),.pointer (some ⟨P.blk,0,none⟩),.pointer (some ⟨tb,0,none⟩),.slice none 0 0] 252 (0,0))/\Mod (λk=>k=b9) fp w') (by kernel_rfl) rfl rfl ?_ ?_
    . go_simp
      refine fs.o.mono ?_;rintro e w' ⟨v,rfl,hb⟩
      first | exact ⟨⟨_,rfl⟩,hb⟩ | exact ⟨_,hb⟩
    rintro v ft dl;go_frame;refine GrowM.uh rfl ?_;have dn:Mod (λk=>k=b8\/k=b9) av ft:=(((Mod.of_below (M:=λk=>k=b8\/k=b9) d5.o).trans (Mod.of_below (M:=λk=>k=b8\/k=b9) ((Below.refl _ bb).drew))).trans (cn.1.mono λk _ e=>.inl e)).trans (dl.2.mono λk _ e=>.inr e);have bk:=zq dn;clear dn dl cn fs fo d6;go_wp2_with fail;go_ret;have h8:=cq.o;have h9:=e8.o;refine ⟨rfl,Z,b8,b9,ak,di bk.o cg.o (λe=>e.elim (λe=>bp.o b8 h8 e.symm) λe=>bp.o b9 h9 e.symm),cj.o.mod bk.o (λj hj e=>?_),fh.o.mod bk.o (λj hj e=>?_),dp.o Z ak av ft b8 b9 fi.o h8 gv.o h9 gw.o (λe=>ce.o.1 e.symm) (λe=>ce.o.2.1 e.symm) bk.o,bh.o,(Array.getElem?_eq_some_iff.1 dd.o).1,?_⟩
    . have:=HH.o.lt hj
      rcases e with e | e <;> omega
    . have:=HP.o.lt (show P.foot j from hj)
      rcases e with e | e <;> omega
    . exact ((ck.o.mono (N:=λk=>(k=B\/P.foot k\/M k)\/W.heap.size<=k) (λk _ e=>.inl e)).trans (bk.o.mono (λk _ e=>.inr (by rcases e with e | e <;> omega)))).mono (λk hk e=>e.elim (λh=>h) λh=>by omega)
theorem of_any {base:Nat} {C:CqD} {x:QueD} (q:Nat) (w:World) (h:CqAt base w C) (hx:x∈C.qs) (hq:x.q=(q:Int)) (hk:∀ y∈C.qs,∃ n:Nat,y.q=(n:Int)) :
 Calls Tryz.prog 59 #[.pointer (some ⟨C.blk,0,none⟩),.string (S x.topic),.int .i64 (q:Int)] w λe w'=>e=.returned (.pointer (some ⟨x.blk,0,none⟩))/\w'=w:=by
 have A:(Instr.lookup 139 (.map (some C.mB)) (.agg #[.string (S x.topic),.int .i64 (q:Int)]) false).run Tryz.prog w=.ok (.pointer (some ⟨x.blk,0,none⟩)) w:=by
  refine yz Tryz.underlying139 aec h.map (λp hp=>?_) ⟨x.topic,q,rfl⟩ (List.mem_map.2 ⟨x,hx,?_⟩) false
  . obtain ⟨y,B,rfl⟩:=List.mem_map.1 hp
    obtain ⟨n,E⟩:=hk y B;exact ⟨y.topic,n,by show QueD.key y=_; unfold QueD.key; rw [E]⟩
  . unfold QueD.key; rw [hq]
 have c1:w.cell? ⟨C.blk,1,none⟩=some (.map (some C.mB)):=aa h.cells 1 _ rfl;have F:=zq A;clear h hx hq hk;generalize S x.topic=tt at *
 generalize x.blk=xb at *
 go_enter Tryz.func59,Tryz.ntmps59;go_wp2_with fail;go_ret;exact ⟨rfl,rfl⟩
theorem amn {base:Nat} {C:CqD} {x:QueD} (q:Nat) (w:World) (h:CqAt base w C) (hx:x∈C.qs) (hq:x.q=(q:Int)) (hk:∀ y∈C.qs,∃ n:Nat,y.q=(n:Int)) (hb:x.b0<=1099511627776) :
 Calls Tryz.prog 24 #[.pointer (some ⟨C.blk,0,none⟩),.string (S x.topic),.int .i64 (q:Int)] w λe w'=>e=.returned (.int .i64 ((x.b0+x.R.e / 20:Nat):Int))/\Drawn w w':=by
 have A:=zq (of_any q w h hx hq hk);have B:=zq (CqW.next_any w (h.que x hx).1 (h.que x hx).2.1 hb);clear h hx hq hk;generalize S x.topic=tt at *
 generalize ((x.b0+x.R.e / 20:Nat):Int)=z at *
 generalize x.blk=xb at *
 go_enter Tryz.func24,Tryz.ntmps24;go_wp2_with fail;refine A.o.mono ?_;rintro e w2 ⟨rfl,E⟩;obtain rfl:=E.symm;clear A;go_wp2_with fail;refine B.o.mono ?_;rintro e w2 ⟨rfl,hd⟩;go_wp2_with fail;go_ret;exact ⟨rfl,hd⟩
end StoW
end Go.Proofs.YtckjigopecocaaaGreatDoor
