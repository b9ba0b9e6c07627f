/- offs: Set of an offset that is there; Get and Set of none and of one. And what follows. -/
import Derived.Test.YtckjigopecocaaaGreatDoorR11
import Derived.Shelf.SlIterI.Collect
set_option linter.unusedVariables false
set_option linter.unusedSimpArgs false
set_option maxHeartbeats 25600000
set_option maxRecDepth 100000
namespace Go.Proofs.YtckjigopecocaaaGreatDoor
namespace RetW
open Go.RowKit Go.MapKept Go.Sort OctMath RecMath RecW DskW SegW TapeW TapeMath PendW CacheW StoW TopW NameMath SndW
theorem at5 {cs:Array Value} {x0 x1 x2 x3 y:Value} (h:cs[3]?=some y):((((cs.setIfInBounds 0 x0).setIfInBounds 1 x1).setIfInBounds 2 x2).setIfInBounds 3 x3)[0]?=some x0/\((((cs.setIfInBounds 0 x0).setIfInBounds 1 x1).setIfInBounds 2 x2).setIfInBounds 3 x3)[1]?=some x1/\((((cs.setIfInBounds 0 x0).setIfInBounds 1 x1).setIfInBounds 2 x2).setIfInBounds 3 x3)[2]?=some x2/\((((cs.setIfInBounds 0 x0).setIfInBounds 1 x1).setIfInBounds 2 x2).setIfInBounds 3 x3)[3]?=some x3:=by
 have A:3 < cs.size:=(Array.getElem?_eq_some_iff.1 h).1;refine ⟨?_,?_,?_,?_⟩ <;> first | (simp [Array.getElem?_setIfInBounds]; done) | (simp [Array.getElem?_setIfInBounds]; omega) | (simp [Array.getElem?_setIfInBounds]; rintro rfl; exact absurd A (by simp))
theorem arn (g t:List UInt8) (q p p1:Int) (hg:iq g=true) (ht:jq t=true) (hgl:g.length<=100) (htl:t.length<=100) (hq:0<=q/\q < 3) (hp:0<=p/\p<=1000000) (ob R cap:Nat) (d:Value) (W:World) (ho:W.heap[ob]?=some (.cells #[d,.slice (some ⟨R,0,none⟩) 1 cap] 88 (0,0))) (hR:OffR W R (S g) (S t) q p1) :
 Calls Tryz.prog 28 #[.pointer (some ⟨ob,0,none⟩),.agg #[.string (S g),.string (S t),.int .i64 q,.int .i64 p]] W λe w'=>e=.returned (.int .i64 0)/\OffR w' R (S g) (S t) q p/\Mod (λk=>k=R) W w':=by
 have F:Below W.heap.size W (W.alloc (.cells #[.string (S g),.string (S t),.int .i64 q,.int .i64 p] 83)):=(Below.refl _ W).alloc (Nat.le_refl _) _;have HA:Zq ((W.alloc (.cells #[.string (S g),.string (S t),.int .i64 q,.int .i64 p] 83)).heap[W.heap.size]?=some (.cells #[.string (S g),.string (S t),.int .i64 q,.int .i64 p] 83 (0,0))):=heap_alloc_new W _;have HO:Zq ((W.alloc (.cells #[.string (S g),.string (S t),.int .i64 q,.int .i64 p] 83)).heap[ob]?=some (.cells #[d,.slice (some ⟨R,0,none⟩) 1 cap] 88 (0,0))):=ag F ho;have I:Zq (OffR (W.alloc (.cells #[.string (S g),.string (S t),.int .i64 q,.int .i64 p] 83)) R (S g) (S t) q p1):=hR.below F;have O:=zq F;have HR:=zq (λw=>aft g t q p hg ht hgl htl hq hp w);clear F hg ht hgl htl hq hp ho hR;generalize S g=g at *
 generalize S t=t at *
 go_enter Tryz.func28,Tryz.ntmps28;go_upto_region 1 with fail
 generalize W.alloc (.cells #[.string g,.string t,.int .i64 q,.int .i64 p] 83)=w1 at *
 obtain ⟨A,hA⟩:∃ A,W.heap.size=A:=⟨_,rfl⟩;rw [hA] at HA ⊢
 have HK:Zq (∀ w,Below w1.heap.size w1 w->w.cell? ⟨ob,1,none⟩=some (.slice (some ⟨R,0,none⟩) 1 cap)/\(w.cell? ⟨R,0,none⟩=some (.string g)/\w.cell? ⟨R,1,none⟩=some (.string t)/\w.cell? ⟨R,2,none⟩=some (.int .i64 q)/\w.cell? ⟨R,3,none⟩=some (.int .i64 p1))/\w.cell? ⟨A,0,none⟩=some (.string g)/\w.cell? ⟨A,1,none⟩=some (.string t)/\w.cell? ⟨A,2,none⟩=some (.int .i64 q)/\w.cell? ⟨A,3,none⟩=some (.int .i64 p)/\True):=λw hb=>by
  have h1:=ag hb HO.o;have h2:=ag hb HA.o;exact ⟨aa h1 1 _ rfl,(I.o.below hb).cells,aa h2 0 _ rfl,aa h2 1 _ rfl,aa h2 2 _ rfl,aa h2 3 _ rfl,trivial⟩
 have U:Zq (∀ w,Below w1.heap.size w1 w->Calls Tryz.prog 29 #[.slice (some ⟨R,0,none⟩) 1 cap,.agg #[.string g,.string t,.int .i64 q,.int .i64 p],.func (.func 30) #[] #[]] w λe w'=>e=.returned (.tuple #[.int .i64 0,.bool true])/\Below w.heap.size w w'):=λw hb=>by
  obtain ⟨c0,c1,c2,c3⟩:=(I.o.below hb).cells;exact apd g t q p1 p R cap w c0 c1 c2 c3
 obtain ⟨_,_,k0,k1,k2,k3,_⟩:=HK.o w1 (Below.refl _ _);go_wp2_with fail;refine (HR.o w1).mono ?_;rintro e w2 ⟨rfl,hb⟩;have X:=zq hb;clear hb k0 k1 k2 k3 HR;go_upto_region 6 with fail
 have J:Zq (∀ w,RecW.ExtR w2.drew w->Below w1.heap.size w1 w):=λw E=>X.o.trans ((((Below.refl w2.heap.size w2).drew).trans E).mono X.o.size)
 refine GrowN.aj 11 [none,none,none,none,none,some (.inl (.tuple #[.int .i64 0,.bool true])),none,none,none,none,none] (RecW.ExtR) (by kernel_rfl) (by kernel_rfl) (by kernel_rfl) (RecW.ExtR.refl) (λ_ _ _=>RecW.ExtR.trans) ?_ ?_
 . exact GrowN.jg rfl
 simp only [List.take_succ_cons,List.take_zero,List.drop_succ_cons,List.drop_zero]
 iterate 5
  refine GrowN.g_det rfl ?_;apply Exists.intro;refine ⟨λw E B=>?_,?_⟩
  . clear B
    obtain ⟨a1,⟨c0,c1,c2,c3⟩,b0,b1,b2,b3,_⟩:=HK.o w (J.o w E);go_simp;exact ⟨rfl,RecW.ExtR.refl _⟩
  go_frame
 refine GrowN.g_con rfl (λw E B=>?_) ?_
 ·
  clear B;have an:=zq (U.o w (J.o w E));go_simp;exact an.o.mono λe w3 h=>⟨_,h.1,rfl,h.2⟩
 iterate 5
  go_frame;refine GrowN.g_det rfl ?_;apply Exists.intro;refine ⟨λw E B=>?_,?_⟩
  . clear B
    go_simp;exact ⟨rfl,RecW.ExtR.refl _⟩
 go_frame;refine GrowN.g_nil λw4 Y B=>?_
 clear B;have Z:=zq (J.o w4 Y);clear Y J U;go_upto_region 9 with fail
 obtain ⟨w5,rfl⟩:∃ w5:World,w5=w4:=⟨_,rfl⟩;have M:Zq (∀ w,RecW.ExtR w5.drew w->Below w1.heap.size w1 w):=λw E=>Z.o.trans ((((Below.refl w5.heap.size w5).drew).trans E).mono Z.o.size)
 refine GrowN.aj 7 [none,none,none,none,none,none,none] (RecW.ExtR) (by kernel_rfl) (by kernel_rfl) (by kernel_rfl) (RecW.ExtR.refl) (λ_ _ _=>RecW.ExtR.trans) ?_ ?_
 . exact GrowN.jg rfl
 simp only [List.take_succ_cons,List.take_zero,List.drop_succ_cons,List.drop_zero]
 iterate 6
  refine GrowN.g_det rfl ?_;apply Exists.intro;refine ⟨λw E B=>?_,?_⟩
  . clear B
    obtain ⟨a1,⟨c0,c1,c2,c3⟩,b0,b1,b2,b3,_⟩:=HK.o w (M.o w E);go_simp;exact ⟨rfl,RecW.ExtR.refl _⟩
  go_frame
 refine GrowN.g_det rfl ?_;apply Exists.intro;refine ⟨λw E B=>?_,?_⟩
 . clear B
   go_simp;exact ⟨rfl,RecW.ExtR.refl _⟩
 go_frame;refine GrowN.g_nil λN ac B=>?_
 clear B;have ad:=zq (M.o N ac);obtain ⟨cs,hc,a0,a1,a2,a3⟩:=I.o.below ad.o;have z0:=aa hc 0 _ a0;have z1:=aa hc 1 _ a1;have z2:=aa hc 2 _ a2;have z3:=aa hc 3 _ a3;have f0:=ae hc 0;have f1:=ae hc 1;have f2:=ae hc 2;have f3:=ae hc 3
 have HM:Zq (Mod (λk=>k=R) N ((((N.setCell ⟨R,0,none⟩ (.string g)).setCell ⟨R,1,none⟩ (.string t)).setCell ⟨R,2,none⟩ (.int .i64 q)).setCell ⟨R,3,none⟩ (.int .i64 p))) :=
  ((((Mod.refl (λk=>k=R) N).setCell (a:=⟨R,0,none⟩) (.inl rfl) _).setCell (a:=⟨R,1,none⟩) (.inl rfl) _).setCell (a:=⟨R,2,none⟩) (.inl rfl) _).setCell (a:=⟨R,3,none⟩) (.inl rfl) _
 have HS:Zq (OffR ((((N.setCell ⟨R,0,none⟩ (.string g)).setCell ⟨R,1,none⟩ (.string t)).setCell ⟨R,2,none⟩ (.int .i64 q)).setCell ⟨R,3,none⟩ (.int .i64 p)) R g t q p) :=
  ⟨_,heap_setCell_same _ R 3 _ _ _ (heap_setCell_same _ R 2 _ _ _ (heap_setCell_same _ R 1 _ _ _ (heap_setCell_same N R 0 _ _ _ hc))),at5 a3⟩
 clear ac hc a0 a1 a2 a3 M HK I;go_wp2_with fail;go_ret;exact ⟨rfl,HS.o,(Mod.of_below (hA ▸ O.o.trans (ad.o.mono O.o.size))).trans HM.o⟩
def OffV (w:World) (v:Value) (g t:ByteArray) (q at0:Int):Prop:=(v=.slice none 0 0/\at0=0)\/∃ R cap,v=.slice (some ⟨R,0,none⟩) 1 cap/\OffR w R g t q at0
theorem OffV.mod {M:Nat->Prop} {w w':World} {v:Value} {g t:ByteArray} {q p:Int} (h:OffV w v g t q p) (hm:Mod M w w') (hv:∀ k,v.ownBlock=some k->¬ M k):OffV w' v g t q p:=by
 rcases h with h | ⟨R,cap,rfl,h⟩
 . exact .inl h
 . exact .inr ⟨R,cap,rfl,h.mod hm (hv R rfl)⟩
theorem OffV.below {w w':World} {v:Value} {g t:ByteArray} {q p:Int} (h:OffV w v g t q p) (hb:Below w.heap.size w w'):OffV w' v g t q p:=h.mod (M:=λ_=>False) (Mod.of_below hb) λ_ _=>id
theorem arz (g t:ByteArray) (q p:Int) (ob:Nat) (d v:Value) (W:World) (ho:W.heap[ob]?=some (.cells #[d,v] 88 (0,0))) (hv:OffV W v g t q p) :
 Calls Tryz.prog 10 #[.pointer (some ⟨ob,0,none⟩),.string g,.string t,.int .i64 q] W λe w'=>e=.returned (.int .i64 p)/\Below W.heap.size W w':=by
 rcases hv with ⟨rfl,rfl⟩ | ⟨R,cap,rfl,h⟩
 . exact arc g t q ob d W ho
 . exact get_one g t q p R cap ob d W ho h
theorem ato (g t:List UInt8) (q p p1:Int) (hg:iq g=true) (ht:jq t=true) (hgl:g.length<=100) (htl:t.length<=100) (hq:0<=q/\q < 3) (hp:0<=p/\p<=1000000) (ob:Nat) (d v:Value) (W:World) (ho:W.heap[ob]?=some (.cells #[d,v] 88 (0,0))) (hv:OffV W v (S g) (S t) q p1) (hne:v.ownBlock≠some ob) :
 Calls Tryz.prog 28 #[.pointer (some ⟨ob,0,none⟩),.agg #[.string (S g),.string (S t),.int .i64 q,.int .i64 p]] W λe w'=>e=.returned (.int .i64 0)/\∃ v',w'.heap[ob]?=some (.cells #[d,v'] 88 (0,0))/\OffV w' v' (S g) (S t) q p/\Mod (λk=>k=ob\/v.ownBlock=some k) W w'/\∀ k,v'.ownBlock=some k->v.ownBlock=some k\/W.heap.size<=k:=by
 rcases hv with ⟨rfl,rfl⟩ | ⟨R,cap,rfl,h⟩
 . refine (arb g t q p hg ht hgl htl hq hp ob d W ho).mono ?_
   rintro e w' ⟨rfl,R,cap,h1,A,B,E⟩;exact ⟨rfl,_,h1,.inr ⟨R,cap,rfl,A⟩,B.mono λk _ hk=>.inl hk,λk hk=>by cases hk; exact .inr E⟩
 . refine (arn g t q p p1 hg ht hgl htl hq hp ob R cap d W ho h).mono ?_
   rintro e w' ⟨rfl,h1,A⟩;exact ⟨rfl,_,di A ho (λe=>hne (by rw [e]; rfl)),.inr ⟨R,cap,rfl,h1⟩,A.mono λk _ hk=>.inr (by rw [hk]; rfl),λk hk=>.inl hk⟩
open MapG EntW NameW CqW KxW
theorem apo {g:List UInt8} (hg:iq g=true):ofL (lw++g)=g:=by
 unfold ofL;have h1:(lw++g).drop 7=g:=rfl;have A:Lib.hasPrefix (lw++g) lw=true:=by simp [Lib.hasPrefix,lw]
 rw [h1,A,hg];rfl
theorem ac3 {x:lu} {b:Int} (h:bq (jm x 1 0 b)=true):bu (jm x 1 0 b)=true:=by
 unfold bq at h
 split at h
 . cases h
 . first
   | exact (Bool.and_eq_true_iff.1 (Bool.and_eq_true_iff.1 h).1).1
   | (rw [if_pos rfl] at h; exact (Bool.and_eq_true_iff.1 (Bool.and_eq_true_iff.1 h).1).1)
theorem ac4 {x:lu} {b now:Int} {idn:Nat} {g:List UInt8} (hg:iq g=true) (hr:bq (jm x 1 0 b)=true) (hid:idn<=99999999) (hn:0<=now/\now<=1000000):bq (lc x idn now g)=true:=by
 have hc:=ac3 hr
 have A:bu (lc x idn now g)=true:=by
  unfold bu at hc ⊢;simp only [Bool.and_eq_true,decide_eq_true_eq] at hc ⊢;obtain ⟨⟨⟨⟨⟨⟨⟨⟨⟨N,a2⟩,a3⟩,a4⟩,a5⟩,B⟩,E⟩,F⟩,a9⟩,I⟩:=hc;refine ⟨⟨⟨⟨⟨⟨⟨⟨⟨?_,?_⟩,?_⟩,?_⟩,?_⟩,B⟩,E⟩,F⟩,a9⟩,I⟩
  . show jq (lw++g)=true
    unfold jq;rw [apo hg,ado g hg];simp
  . show (0:Int)<=0; decide
  . show (0:Int) < 3; decide
  . show (0:Int)<=1; decide
  . show (1:Int)<=4; decide
 have h1:gm (lc x idn now g).due=false:=by show gm (now+2)=false; unfold gm; simp; omega
 have J:gm (lc x idn now g).ref=false:=by show gm (idn:Int)=false; unfold gm; simp; omega
 have M:gm (lc x idn now g).born=false:=by show gm now=false; unfold gm; simp; omega
 unfold bq;rw [h1,J,M,A];rfl
theorem apq {x:lu} (hx:zg x) {now:Int} {idn:Nat} {g:List UInt8} (hgl:g.length<=100) (hid:idn<=99999999) (hn:0<=now/\now<=1000000):uq (lc x idn now g) :=
 ⟨by show inI 2; unfold inI; decide,ace,by show inI (now+2); unfold inI; omega,by show inI 1; unfold inI; decide,by show inI (idn:Int); unfold inI; omega,by show inI now; unfold inI; omega,by show (lw++g).length<=1073741824; rw [List.length_append]; show 7+g.length<=_; omega,hx.tag,hx.body,hx.keys,hx.key⟩
theorem aro {x:lu} {b:Int} (hr:bq (jm x 1 0 b)=true):∀ t∈x.keys,t≠[]:=by
 have hc:=ac3 hr;unfold bu at hc;simp only [Bool.and_eq_true,decide_eq_true_eq,List.all_eq_true] at hc;obtain ⟨⟨⟨⟨⟨⟨⟨⟨⟨E,a2⟩,a3⟩,a4⟩,a5⟩,F⟩,I⟩,A⟩,a9⟩,J⟩:=hc;intro t B e;have:=A t B;rw [e] at this;exact absurd this (by decide)
theorem arp {base:Nat} {S0:StoD} {X:TabD} {C:CqD} {D:DiskD} {Y:KxD} {l:List (Nat×Msg)} {mk:Nat} (g t:List UInt8) (q i:Nat) (hi:i < l.length) (x:lu) (b:Int) (sy:Bool) (hm:l[i].2=jm x 1 0 b) (hx:zg x) (hb:inI b) (hr:bq (jm x 1 0 b)=true) (hgl:g.length<=100) (htl:t.length<=100) (hg:iq g=true) (W:World)
 (h:StoTab base W S0 X) (hl:X.l.length<=1000) (hd:DisI base W C D Y l mk) (hcq:S0.cq=.pointer (some ⟨C.blk,0,none⟩)) (hmem:l[i]∈S0.T.O.recs) (hT:TabB base W) (hbase:base<=W.heap.size) (hq:Quiet S0.T.D) (hbar:aep X.l g t (q:Int)=0) (hisq:isQ t (q:Int) l[i]=true) (hll:l.length<=100000) (hid:l[i].1<=99999999) (hn:0<=S0.now/\S0.now<=1000000)
 (hroom:(((bv S0.T.R.e (lc x l[i].1 S0.now g)).length+(bi (lc x l[i].1 S0.now g)).length:Nat):Int)<=S0.T.D.room) (hwl:S0.T.D.waits.length<=1000000) (hfar:S0.T.R.e<=80000000) (hrl:S0.T.O.recs.length<=1000000) :
 Calls Tryz.prog 12 #[.pointer (some ⟨S0.blk,0,none⟩),.string (S g),.string (S t),.int .i64 (q:Int),.int .i64 ((j3 t (q:Int) (l.take i):Nat):Int),.bool sy] W λe w'=>e=.returned (.tuple #[.int .i64 ((S0.T.R.e+(bv S0.T.R.e (lc x l[i].1 S0.now g)).length:Nat):Int),.int .i64 0]) /\
  ∃ S1,StoTab base w' S1 X/\Put W.heap.size S0 S1 (lc x l[i].1 S0.now g) sy/\Mod S0.foot W w':=by
 have E:(l[i].1,jm x 1 0 b)∈S0.T.O.recs:=by rw [<- hm]; exact hmem
 have I:=aro hr
 refine (am2 S0.blk C.blk S0.T.O.blk (S g) (S t) (q:Int) ((j3 t (q:Int) (l.take i):Nat):Int) S0.now (l[i].1:Int) (((bi l[i].2).length:Nat):Int) ((mi [l[i].2.tag]:Nat):Int) ((l[i].2.born.toNat:Nat):Int) ((S0.T.R.e+(bv S0.T.R.e (lc x l[i].1 S0.now g)).length:Nat):Int) (jm x 1 0 b) (lc x l[i].1 S0.now g) sy I I W
  (λw w'=>∃ S1,StoAt base w' S1/\Put w.heap.size S0 S1 (lc x l[i].1 S0.now g) sy/\Mod S0.foot w w') (zq ?_) (zq λw A=>⟨?_,?_⟩) (zq λw A=>⟨?_,?_⟩) (zq λw A=>?_) (zq λw a c A M=>?_) (zq λw a c A M=>?_)).mono ?_
 . have:=bars_any g t (q:Int) (by omega) (by omega) W h hl
   rw [hbar] at this;exact this
 . have h1:w.cell? ⟨S0.blk,1,none⟩=some S0.cq:=(h.sto.below A).cell 1 _ rfl
   rw [hcq] at h1;exact h1
 . exact asz t q i w (hd.below A) (hT.below A) hi hll hisq
 . exact (h.sto.below A).cell 0 _ rfl
 . exact (aci l[i].1 (jm x 1 0 b) w (h.sto.below A).tape hq.up (hT.below A) (Nat.le_trans hbase A.size) E).mono λe w' ⟨a,c,h1,Z,h3,_⟩=>⟨a,c,h1,Z,h3⟩
 . exact ako w (h.sto.below A)
 . exact amw x hx b S0.now l[i].1 g hg hgl hr hid hn hb a c w M
 . exact put_ok (lc x l[i].1 S0.now g) sy (apq hx hgl hid hn) (ac4 hg hr hid hn) (by show (2:Int)≠0; decide) a c w (h.sto.below A) M hq (hT.below A) (Nat.le_trans hbase A.size) hroom hwl hfar hrl
 . rintro e w' ⟨rfl,w3,F,S1,N,B,J⟩
   have U:StoTab base w3 S0 X:=h.below F;exact ⟨rfl,S1,StoTab.put U N B J (Nat.le_refl _),Put.mono B F.size,(Mod.of_below F).trans J⟩
theorem am3 {base:Nat} {S0:StoD} {X:TabD} {C:CqD} {D:DiskD} {Y:KxD} {l:List (Nat×Msg)} {mk:Nat} (g t:List UInt8) (q:Int) (a:Option Addr) (cp:Nat) (xs:List Int) (hx:xs.length<=1000) (hgl:g.length<=100) (htl:t.length<=100) (W:World) (hxs:OctW.Ints W a xs)
 (h:StoTab base W S0 X) (hl:X.l.length<=1000) (hd:DisI base W C D Y l mk) (hcq:S0.cq=.pointer (some ⟨C.blk,0,none⟩)) (hbar:aep X.l g t q=0) (hbad:xs.any (lg ((j3 t q l:Nat):Int))=true) :
 Calls Tryz.prog 9 #[.pointer (some ⟨S0.blk,0,none⟩),.string (S g),.string (S t),.int .i64 q,.slice a xs.length cp] W λe w'=>e=.returned (.int .i64 2)/\Below W.heap.size W w':=by
 have HB:=zq (bars_any g t q (by omega) (by omega) W h hl);rw [hbar] at HB
 have M:Zq (∀ w,Below W.heap.size W w->w.cell? ⟨S0.blk,1,none⟩=some (.pointer (some ⟨C.blk,0,none⟩))/\Calls Tryz.prog 24 #[.pointer (some ⟨C.blk,0,none⟩),.string (S t),.int .i64 q] w λe w'=>e=.returned (.int .i64 ((j3 t q l:Nat):Int))/\Below w.heap.size w w'):=λw N=>⟨by
  have h1:w.cell? ⟨S0.blk,1,none⟩=some S0.cq:=(h.sto.below N).cell 1 _ rfl;rw [hcq] at h1;exact h1,aeo t q w (hd.below N)⟩
 have E:Zq (∀ (z:Nat) (w:World),Below W.heap.size W w->True/\Calls Tryz.prog 25 #[.slice a xs.length cp,.func (.func 26) #[] #[.pointer (some ⟨w.heap.size,0,none⟩)]] (w.alloc (.cells #[.int .i64 ((j3 t q l:Nat):Int)] 3)) λe w'=>e=.returned (.bool (xs.any (lg ((j3 t q l:Nat):Int))))/\Below (w.alloc (.cells #[.int .i64 ((j3 t q l:Nat):Int)] 3)).heap.size (w.alloc (.cells #[.int .i64 ((j3 t q l:Nat):Int)] 3)) w'):=λz w N =>
  ⟨trivial,abg a cp xs (by omega) w.heap.size _ _ (hxs.below (N.trans ((Below.refl _ w).alloc N.size _))) (by rw [World.cell?_alloc_new]; rfl)⟩
 rw [hbad] at E;clear h hl hd hcq hbar hgl htl hxs hbad;generalize S g=sg at *
 generalize S t=st at *
 generalize ((j3 t q l:Nat):Int)=nx at *
 go_enter Tryz.func9,Tryz.ntmps9;go_wp2_with fail;refine HB.o.mono ?_;rintro e w1 ⟨rfl,F⟩;have I:=zq F;obtain ⟨k1,O⟩:=M.o w1 F;have B:=zq O;clear F O HB M;go_wp2_with fail;refine B.o.mono ?_;rintro e w2 ⟨rfl,R⟩;have A:=I.o.trans (R.mono I.o.size);have J:=zq (A.alloc (o:=.cells #[.int .i64 nx] 3) A.size);have U:=zq (E.o W.heap.size w2 A);have Z:=zq (U.o.2);clear R A B k1 I E U;go_wp2_with fail;refine Z.o.mono ?_;rintro e w3 ⟨rfl,ab⟩;have ad:=zq (J.o.trans (ab.mono J.o.size));clear ab Z J;go_wp2_with fail;go_ret;exact ⟨rfl,ad.o⟩
theorem apr {base:Nat} {S0:StoD} {X:TabD} {C:CqD} {D:DiskD} {Y:KxD} {l:List (Nat×Msg)} {mk:Nat} (g t:List UInt8) (q:Int) (a:Option Addr) (cp:Nat) (xs:List Int) (hx:xs.length<=1000) (hgl:g.length<=100) (htl:t.length<=100) (W:World) (hxs:OctW.Ints W a xs)
 (h:StoTab base W S0 X) (hl:X.l.length<=1000) (hd:DisI base W C D Y l mk) (hcq:S0.cq=.pointer (some ⟨C.blk,0,none⟩)) (hbar:aep X.l g t q=0) (hbad:xs.any (lg ((j3 t q l:Nat):Int))=false) (h0:xs.length=0) :
 Calls Tryz.prog 9 #[.pointer (some ⟨S0.blk,0,none⟩),.string (S g),.string (S t),.int .i64 q,.slice a xs.length cp] W λe w'=>e=.returned (.int .i64 0)/\Below W.heap.size W w':=by
 have HB:=zq (bars_any g t q (by omega) (by omega) W h hl);rw [hbar] at HB
 have M:Zq (∀ w,Below W.heap.size W w->w.cell? ⟨S0.blk,1,none⟩=some (.pointer (some ⟨C.blk,0,none⟩))/\Calls Tryz.prog 24 #[.pointer (some ⟨C.blk,0,none⟩),.string (S t),.int .i64 q] w λe w'=>e=.returned (.int .i64 ((j3 t q l:Nat):Int))/\Below w.heap.size w w'):=λw N=>⟨by
  have h1:w.cell? ⟨S0.blk,1,none⟩=some S0.cq:=(h.sto.below N).cell 1 _ rfl;rw [hcq] at h1;exact h1,aeo t q w (hd.below N)⟩
 have B:Zq (∀ (z:Nat) (w:World),Below W.heap.size W w->True/\Calls Tryz.prog 25 #[.slice a xs.length cp,.func (.func 26) #[] #[.pointer (some ⟨w.heap.size,0,none⟩)]] (w.alloc (.cells #[.int .i64 ((j3 t q l:Nat):Int)] 3)) λe w'=>e=.returned (.bool (xs.any (lg ((j3 t q l:Nat):Int))))/\Below (w.alloc (.cells #[.int .i64 ((j3 t q l:Nat):Int)] 3)).heap.size (w.alloc (.cells #[.int .i64 ((j3 t q l:Nat):Int)] 3)) w'):=λz w N =>
  ⟨trivial,abg a cp xs (by omega) w.heap.size _ _ (hxs.below (N.trans ((Below.refl _ w).alloc N.size _))) (by rw [World.cell?_alloc_new]; rfl)⟩
 rw [hbad] at B;rw [h0] at B ⊢;clear h hl hd hcq hbar hgl htl hxs hbad h0;generalize S g=sg at *
 generalize S t=st at *
 generalize ((j3 t q l:Nat):Int)=nx at *
 go_enter Tryz.func9,Tryz.ntmps9;go_wp2_with fail;refine HB.o.mono ?_;rintro e w1 ⟨rfl,F⟩;have I:=zq F;obtain ⟨k1,O⟩:=M.o w1 F;have E:=zq O;clear F O HB M;go_wp2_with fail;refine E.o.mono ?_;rintro e w2 ⟨rfl,R⟩;have A:=I.o.trans (R.mono I.o.size);have J:=zq (A.alloc (o:=.cells #[.int .i64 nx] 3) A.size);have U:=zq (B.o W.heap.size w2 A);have Z:=zq (U.o.2);clear R A E k1 I B U;go_wp2_with fail;refine Z.o.mono ?_;rintro e w3 ⟨rfl,ab⟩;have ad:=zq (J.o.trans (ab.mono J.o.size));clear ab Z J;go_wp2_with fail;go_ret;exact ⟨rfl,ad.o⟩
theorem as0 {base:Nat} {S0:StoD} {X:TabD} {C:CqD} {D:DiskD} {Y:KxD} {l:List (Nat×Msg)} {mk:Nat} (g t:List UInt8) (q:Int) (a:Option Addr) (cp:Nat) (B:List Int) (hx:B.length<=1000) (hgl:g.length<=100) (htl:t.length<=100) (W:World) (hxs:OctW.Ints W a B)
 (h:StoTab base W S0 X) (hl:X.l.length<=1000) (hd:DisI base W C D Y l mk) (hcq:S0.cq=.pointer (some ⟨C.blk,0,none⟩)) (hbar:aep X.l g t q=0) (hbad:B.any (lg ((j3 t q l:Nat):Int))=false) (h0:0 < B.length) (hg:iq g=true) (ht:jq t=true) (hq:0<=q/\q < 3) (hmp:0<=jy B/\jy B<=100000) (ob:Nat) (d v:Value) (J:Int) (hof:S0.off=.pointer (some ⟨ob,0,none⟩)) (ho:W.heap[ob]?=some (.cells #[d,v] 88 (0,0))) (hv:OffV W v (S g) (S t) q J) (hne:v.ownBlock≠some ob) (hp1:0<=J/\J<=100000) :
 Calls Tryz.prog 9 #[.pointer (some ⟨S0.blk,0,none⟩),.string (S g),.string (S t),.int .i64 q,.slice a B.length cp] W λe w'=>e=.returned (.int .i64 0)/\∃ O,w'.heap[ob]?=some (.cells #[d,O] 88 (0,0))/\OffV w' O (S g) (S t) q (max (jy B+1) J)/\Mod (λk=>k=ob\/v.ownBlock=some k) W w'/\∀ k,O.ownBlock=some k->v.ownBlock=some k\/W.heap.size<=k:=by
 have HB:=zq (bars_any g t q (by omega) (by omega) W h hl);rw [hbar] at HB
 have ar:Zq (∀ w,Below W.heap.size W w->w.cell? ⟨S0.blk,1,none⟩=some (.pointer (some ⟨C.blk,0,none⟩))/\Calls Tryz.prog 24 #[.pointer (some ⟨C.blk,0,none⟩),.string (S t),.int .i64 q] w λe w'=>e=.returned (.int .i64 ((j3 t q l:Nat):Int))/\Below w.heap.size w w'):=λw A=>⟨by
  have h1:w.cell? ⟨S0.blk,1,none⟩=some S0.cq:=(h.sto.below A).cell 1 _ rfl;rw [hcq] at h1;exact h1,aeo t q w (hd.below A)⟩
 have ad:Zq (∀ (z:Nat) (w:World),Below W.heap.size W w->True/\Calls Tryz.prog 25 #[.slice a B.length cp,.func (.func 26) #[] #[.pointer (some ⟨w.heap.size,0,none⟩)]] (w.alloc (.cells #[.int .i64 ((j3 t q l:Nat):Int)] 3)) λe w'=>e=.returned (.bool (B.any (lg ((j3 t q l:Nat):Int))))/\Below (w.alloc (.cells #[.int .i64 ((j3 t q l:Nat):Int)] 3)).heap.size (w.alloc (.cells #[.int .i64 ((j3 t q l:Nat):Int)] 3)) w'):=λz w A =>
  ⟨trivial,abg a cp B (by omega) w.heap.size _ _ (hxs.below (A.trans ((Below.refl _ w).alloc A.size _))) (by rw [World.cell?_alloc_new]; rfl)⟩
 rw [hbad] at ad
 have Z:∀ x∈B,0<=x:=λx bj=>by
  have h1:=List.any_eq_false.1 hbad x bj;unfold lg at h1;have h2:¬ x < 0:=λh3=>by rw [decide_eq_true h3] at h1; exact h1 rfl
  omega
 have I:Zq (∀ w,Below W.heap.size W w->w.cell? ⟨S0.blk,4,none⟩=some (.pointer (some ⟨ob,0,none⟩))/\w.heap[ob]?=some (.cells #[d,v] 88 (0,0))/\OffV w v (S g) (S t) q J):=λw A=>⟨by
  have h1:w.cell? ⟨S0.blk,4,none⟩=some S0.off:=(h.sto.below A).cell 4 _ rfl;rw [hof] at h1;exact h1,ag A ho,hv.below A⟩
 have R:Zq (∀ w,Below W.heap.size W w->Calls Tryz.prog 27 #[.slice a B.length cp] w λe w'=>e=.returned (.int .i64 (jy B))/\w'=w):=λw A=>atn a cp B (by omega) h0 Z w (hxs.below A)
 have ak:Zq (∀ w,Below W.heap.size W w->Calls Tryz.prog 28 #[.pointer (some ⟨ob,0,none⟩),.agg #[.string (S g),.string (S t),.int .i64 q,.int .i64 (max (jy B+1) J)]] w λe w'=>e=.returned (.int .i64 0)/\∃ O,w'.heap[ob]?=some (.cells #[d,O] 88 (0,0))/\OffV w' O (S g) (S t) q (max (jy B+1) J)/\Mod (λk=>k=ob\/v.ownBlock=some k) w w'/\∀ k,O.ownBlock=some k->v.ownBlock=some k\/w.heap.size<=k):=λw A=>ato g t q (max (jy B+1) J) J hg ht hgl htl hq (by omega) ob d v w (I.o w A).2.1 (I.o w A).2.2 hne
 have bk:Zq (IntKind.i64.wrap (jy B+1)=jy B+1):=IntWalk.i64_in _ (by omega);obtain ⟨en,al⟩:∃ en:Int,max (jy B+1) J=en:=⟨_,rfl⟩;rw [al] at ak ⊢;have bl:Zq (max (jy B+1) J=en):=al;have ab:¬ ((B.length:Int)=0):=by omega
 have E:((B.length:Int) == 0)=false:=beq_eq_false_iff_ne.2 ab;have bm:=zq E;clear h hl hd hcq hbar hgl htl hxs hbad h0 hg ht hq hmp hof ho hv hne hp1 al Z ab E;generalize S g=sg at *
 generalize S t=st at *
 generalize ((j3 t q l:Nat):Int)=nx at *
 generalize jy B=mp at *
 go_enter Tryz.func9,Tryz.ntmps9;go_wp2_with fail;refine HB.o.mono ?_;rintro e w1 ⟨rfl,am⟩;have an:=zq am;obtain ⟨k1,av⟩:=ar.o w1 am;have ac:=zq av;clear am av HB ar;go_wp2_with fail;refine ac.o.mono ?_;rintro e w2 ⟨rfl,a1⟩;have M:=an.o.trans (a1.mono an.o.size);have ao:=zq (M.alloc (o:=.cells #[.int .i64 nx] 3) M.size);have a6:=zq (ad.o W.heap.size w2 M);have a7:=zq (a6.o.2);clear a1 M ac k1 an ad a6;go_wp2_with fail;refine a7.o.mono ?_;rintro e w3 ⟨rfl,a8⟩;have ap:=zq (ao.o.trans (a8.mono ao.o.size));clear a8 a7 ao;have E:=bm.o;go_upto_region 9 with fail
 clear E;have N:Zq (∀ w,RecW.ExtR w3.drew w->Below W.heap.size W w):=λw A=>ap.o.trans ((((Below.refl w3.heap.size w3).drew).trans A).mono ap.o.size)
 have HK:Zq (∀ w,RecW.ExtR w3.drew w->w.cell? ⟨S0.blk,4,none⟩=some (.pointer (some ⟨ob,0,none⟩))/\Calls Tryz.prog 27 #[.slice a B.length cp] w (λe w'=>e=.returned (.int .i64 mp)/\w'=w)/\Calls Tryz.prog 10 #[.pointer (some ⟨ob,0,none⟩),.string sg,.string st,.int .i64 q] w λe w'=>e=.returned (.int .i64 J)/\Below w.heap.size w w'):=λw A =>
  ⟨(I.o w (N.o w A)).1,R.o w (N.o w A),arz sg st q J ob d v w (I.o w (N.o w A)).2.1 (I.o w (N.o w A)).2.2⟩
 refine GrowN.aj 13 [none,some (.inl (.int .i64 (mp))),some (.inl (.int .i64 (mp+1))),none,none,none,none,none,none,none,some (.inl (.int .i64 (J))),some (.inl (.int .i64 (en))),none] (RecW.ExtR) (by kernel_rfl) (by kernel_rfl) (by kernel_rfl) (RecW.ExtR.refl) (λ_ _ _=>RecW.ExtR.trans) ?_ ?_
 . exact GrowN.jg rfl
 simp only [List.take_succ_cons,List.take_zero,List.drop_succ_cons,List.drop_zero];refine GrowN.g_det rfl ?_;apply Exists.intro;refine ⟨λw A F=>?_,?_⟩
 . clear F
   go_simp;exact ⟨rfl,RecW.ExtR.refl _⟩
 go_frame;refine GrowN.g_con rfl (λw A F=>?_) ?_
 ·
  clear F;have R:=zq (HK.o w A).2.1;go_simp;exact R.o.mono λe w3 h=>⟨_,h.1,rfl,h.2 ▸ RecW.ExtR.refl _⟩
 go_frame;refine GrowN.g_con rfl (λw A F=>?_) ?_
 ·
  clear F;have b4:=bk.o;go_simp
  all_goals exact RecW.ExtR.refl _
 iterate 3
  go_frame;refine GrowN.g_det rfl ?_;apply Exists.intro;refine ⟨λw A F=>?_,?_⟩
  . clear F
    go_simp;exact ⟨rfl,RecW.ExtR.refl _⟩
 go_frame;refine GrowN.g_det rfl ?_;apply Exists.intro;refine ⟨λw A F=>?_,?_⟩
 ·
  clear F;have c4:=(HK.o w A).1;go_simp;exact ⟨rfl,RecW.ExtR.refl _⟩
 iterate 3
  go_frame;refine GrowN.g_det rfl ?_;apply Exists.intro;refine ⟨λw A F=>?_,?_⟩
  . clear F
    go_simp;exact ⟨rfl,RecW.ExtR.refl _⟩
 go_frame;refine GrowN.g_con rfl (λw A F=>?_) ?_
 ·
  clear F;have bo:=zq (HK.o w A).2.2;go_simp;exact bo.o.mono λe w3 h=>⟨_,h.1,rfl,h.2⟩
 go_frame;refine GrowN.g_con rfl (λw A F=>?_) ?_
 ·
  clear F;have b5:=bl.o;go_simp
  all_goals exact RecW.ExtR.refl _
 go_frame;refine GrowN.g_det rfl ?_;apply Exists.intro;refine ⟨λw A F=>?_,?_⟩
 . clear F
   go_simp;exact ⟨rfl,RecW.ExtR.refl _⟩
 go_frame;refine GrowN.g_nil λw5 A F=>?_
 clear F;have U:=zq (N.o w5 A);have c4:=(I.o w5 U.o).1;have ba:=zq (ak.o w5 U.o);clear A N HK R ak I ap;go_wp2_with fail;refine ba.o.mono ?_;rintro e w6 ⟨rfl,O,hh,bb,hm,hR⟩;have br:=zq ((Mod.of_below U.o).trans hm);have bs:=zq hh;have bw:=zq bb;have bz:Zq (∀ k,O.ownBlock=some k->v.ownBlock=some k\/W.heap.size<=k):=λk hk=>(hR k hk).imp_right λh=>Nat.le_trans U.o.size h
 clear hh bb hm hR ba c4;go_wp2_with fail;go_ret;exact ⟨rfl,O,bs.o,bw.o,br.o,bz.o⟩
end RetW
namespace StoW
open Go.RowKit Go.MapKept OctMath RecMath RecW TapeMath DskW SegW MapG TapeW PendW CacheW CqW KxW
theorem as1 {p:Nat×Msg} (h:bq p.2=true) (hk:p.2.kind=1) (hid:p.1<=99999999):afq p:=by
 have h0:p.2.kind≠0:=by omega
 obtain ⟨J,M,F,N,O,R,U,X,Y,I,E⟩:=qy h h0
 have hc:bu p.2=true:=by
  unfold bq at h
  split at h
  . cases h
  . first
    | exact (Bool.and_eq_true_iff.1 (Bool.and_eq_true_iff.1 h).1).1
    | (rw [if_pos hk] at h; exact (Bool.and_eq_true_iff.1 (Bool.and_eq_true_iff.1 h).1).1)
 have A:NameMath.jq p.2.topic=true/\p.2.keys.all qc=true:=by
  unfold bu at hc;simp only [Bool.and_eq_true,decide_eq_true_eq] at hc;exact ⟨hc.1.1.1.1.1.1.1.1.1,hc.1.1.2⟩
 have Z:=(vv h h0).2;refine ⟨⟨hid,by omega,F,A.1,by omega,⟨p.2.queue.toNat,by omega,by omega⟩⟩,.inl hk,λk B=>⟨List.all_eq_true.1 A.2 k B,by have:=E k B; omega⟩,by omega,by omega⟩
theorem ah9:∀ (l:List (Nat×Msg)),(∀ p∈l,p.2.keys.length<=3)->nk l<=3 * l.length
 | [],_=>Nat.le_refl _
 | p :: l,h=>by
   have B:=ah9 l λx A=>h x (.tail _ A)
   have h1:=h p (.head _);rw [aeg,List.length_cons];omega
theorem aps {base B:Nat} {L:Nat->Prop} {S0:StoD} {C:CqD} {D:DiskD} {X:KxD} {r:Int} (w:World) (hS:StoAt base w S0) (h:DisB base B L w S0 C D X [] 0 0 r) (hT:TabB base w) (hbase:base<=w.heap.size) (hq:Quiet S0.T.D) (hl:S0.T.O.recs.length<=1000) (hk:∀ p∈S0.T.O.recs,p.2.kind=1) (hsy:S0.T.R.synced=S0.T.R.e) (he:S0.T.R.e<=99999999) (hr:100000<=r) :
 Calls Tryz.prog 8 #[.pointer (some ⟨B,0,none⟩)] w λe w'=>e=.returned (.tuple #[.int .i64 (S0.T.O.recs.length:Int),.int .i64 0])/\StoAt base w' S0/\(∃ C' D' X' E mk r',DisB base B (λk=>L k\/w.heap.size<=k) w' S0 C' D' X' S0.T.O.recs mk E r')/\Mod (λk=>kz C D X k\/k=B) w w':=by
 have hp:∀ p∈S0.T.O.recs,bq p.2=true/\p.1+(bi p.2).length<=S0.T.R.e:=λp hp=>by
  obtain ⟨g1,_,_,g4,_⟩:=aaj hS.tape (id:=p.1) (m:=p.2) hp;exact ⟨g1,g4⟩
 have F:nk S0.T.O.recs<=3 * S0.T.O.recs.length:=ah9 _ λp A=>(qy (hp p A).1 (by have:=hk p A; omega)).2.2.2.2.2.2.2.2.2.1
 refine (aq7 w hS h hT hbase hq (by omega) (λp A=>⟨as1 (hp p A).1 (hk p A) (by have:=(hp p A).2; omega),by have:=(hp p A).2; have:=abx p.2; omega⟩) (by omega) (by omega)).mono ?_;rintro e w' ⟨h1,I,⟨C',D',X',E,J⟩,M⟩;exact ⟨h1,I,⟨C',D',X',E,_,_,J⟩,M⟩
end StoW
namespace RetW
open Go.RowKit Go.MapKept Go.Sort OctMath RecMath RecW DskW SegW MapG TapeW TapeMath PendW CacheW EntW NameW CqW KxW StoW TopW NameMath SndW
theorem arq {base lo lo2:Nat} {w:World} {S:StoD} {X:TabD} {r:Int} (h:DisX base lo w S X r) (hl:lo2<=lo):DisX base lo2 w S X r:=by
 obtain ⟨C,D,Y,B,h1,A,E,d,g1,g2,g3,g4⟩:=h;exact ⟨C,D,Y,B,h1.mono λk hk=>Nat.le_trans hl hk,A,E,d,g1,g2,Nat.le_trans hl g3,g4⟩
structure RetS (W w:World) (sb db ob most k:Nat) (nw:Int) (ws:List lu) (S1:StoD) (X:TabD):Prop where
 si:SentI W.heap.size W w sb db ob most k nw ws S1 X
 dx:DisX W.heap.size W.heap.size w S1 X 4194184
 syn:S1.T.R.synced=S1.T.R.e
theorem RetS.next {W w w2:World} {sb db ob most k:Nat} {nw:Int} {ws:List lu} {S1 S2:StoD} {X:TabD} (h:RetS W w sb db ob most k nw ws S1 X) (hk:k < most) (hkl:k < ws.length) (hr:bq (jm ws[k] 1 0 S1.now)=true) (hs2:StoTab W.heap.size w2 S2 X) (hp2:Put w.heap.size S1 S2 (jm ws[k] 1 0 S1.now) true) (hm2:Mod S1.foot w w2):RetS W w2 sb db ob most (k+1) nw ws S2 X :=
 ⟨h.si.next hk hkl hr h.si.low.size hs2 hp2 hm2,h.dx.next (hm2.mono λk _ hk=>.inl hk) (by rw [hp2.same]) (by rw [hp2.same]) (by rw [hp2.same]) hp2.oblk (by rw [hp2.same]) hp2.foot λ_ h=>.inl h,hp2.waits.2⟩
theorem aia {W w3 w4:World} {D:DiskD} {nw used:Int} {S0:StoD} {X:TabD} (h:MadeI W.heap.size w3 w4 D nw used S0 X) (hb3:Below W.heap.size W w3) (hD:∀ k,D.foot k->W.heap.size<=k) (most:Nat) (hroom:((most * 1531:Nat):Int)<=D.room - used) (ws:List lu):RetS W w4 S0.blk D.blk S0.T.O.blk most 0 nw ws S0 X:=by
 obtain ⟨f1,E,F⟩:=h.fits;have A:Below W.heap.size W w4:=hb3.trans (h.mod.to_below _ hb3.size hD);have B:∀ k,S0.foot k->W.heap.size<=k:=λk hk=>(h.foot k hk).elim (hD k) λh=>by have:=hb3.size; omega
 exact ⟨⟨h.st,h.q,h.now,rfl,h.db,rfl,by have:=h.room; omega,by rw [F]; exact Nat.zero_le _,by rw [f1]; exact Nat.zero_le _,by rw [E]; rfl,B,A⟩,arq h.dis hb3.size,h.syn⟩
structure RetE (W w:World) (sb tb:Nat) (S1:StoD) (X:TabD) (C:CqD) (D:DiskD) (Y:KxD) (l:List (Nat×Msg)) (mk og:Nat) (dv v:Value):Prop where
 st:StoTab W.heap.size w S1 X
 d:DisI W.heap.size w C D Y l mk
 blk:S1.blk=sb
 tb:S1.T.O.blk=tb
 cq:S1.cq=.pointer (some ⟨C.blk,0,none⟩)
 ap:∀ k,S1.foot k->¬ kz C D Y k
 off:S1.off=.pointer (some ⟨og,0,none⟩)
 oc:w.heap[og]?=some (.cells #[dv,v] 88 (0,0))
 oa:¬ S1.foot og/\¬ X.foot og/\¬ kz C D Y og
 lo:W.heap.size<=og
 low:Below W.heap.size W w
 quiet:Quiet S1.T.D
 ft:∀ j,S1.foot j->W.heap.size<=j
theorem RetE.below {W w w':World} {sb tb:Nat} {S1:StoD} {X:TabD} {C:CqD} {D:DiskD} {Y:KxD} {l:List (Nat×Msg)} {mk og:Nat} {dv v:Value} (h:RetE W w sb tb S1 X C D Y l mk og dv v) (hb:Below w.heap.size w w'):RetE W w' sb tb S1 X C D Y l mk og dv v :=
 { h with st:=h.st.below hb,d:=h.d.below hb,oc:=ag hb h.oc,low:=h.low.trans (hb.mono h.low.size) }
theorem RetE.put {W w w':World} {sb tb:Nat} {S1 S2:StoD} {X:TabD} {C:CqD} {D:DiskD} {Y:KxD} {l:List (Nat×Msg)} {mk og:Nat} {dv v:Value} {m:Msg} {sy:Bool} (h:RetE W w sb tb S1 X C D Y l mk og dv v) (hs:StoTab W.heap.size w' S2 X) (hp:Put w.heap.size S1 S2 m sy) (hm:Mod S1.foot w w'):RetE W w' sb tb S2 X C D Y l mk og dv v where
 st:=hs
 d:=h.d.mod hm λk hk A=>h.ap k A hk
 blk:=by rw [hp.same]; exact h.blk
 tb:=hp.oblk.trans h.tb
 cq:=by rw [hp.same]; exact h.cq
 ap:=λk hk=>(hp.foot k hk).elim (h.ap k) λA B=>by have:=h.d.lt B; omega
 off:=by rw [hp.same]; exact h.off
 oc:=di hm h.oc h.oa.1
 oa:=⟨λA=>(hp.foot og A).elim h.oa.1 λB=>by have:=(Array.getElem?_eq_some_iff.1 h.oc).1; omega,h.oa.2⟩
 lo:=h.lo
 low:=h.low.trans (hm.to_below _ h.low.size h.ft)
 quiet:=hp.quiet
 ft:=λj E=>(hp.foot j E).elim (h.ft j) λA=>by have:=h.low.size; omega
theorem RetS.all {W w:World} {sb db ob most k:Nat} {nw:Int} {ws:List lu} {S1:StoD} {X:TabD} (h:RetS W w sb db ob most k nw ws S1 X) (hT:TabB W.heap.size w) (hk:k<=100) :
 ∃ B:Nat,S1.dp=.pointer (some ⟨B,0,none⟩)/\Calls Tryz.prog 8 #[.pointer (some ⟨B,0,none⟩)] w λe w'=>e=.returned (.tuple #[.int .i64 (S1.T.O.recs.length:Int),.int .i64 0]) /\
  ∃ C D Y mk E F,RetE W w' sb ob S1 X C D Y S1.T.O.recs mk E F (.slice none 0 0):=by
 obtain ⟨C,D,Y,B,h1,N,E,F,g1,g2,g3,g4,g5,g6⟩:=h.dx;refine ⟨B,h1.dp,?_⟩;have R:=h.si.rl
 have I:∀ p∈S1.T.O.recs,p.2.kind=1:=λp hp=>by
  have h1:p.2∈S1.T.O.recs.map (·.2):=List.mem_map.2 ⟨p,hp,rfl⟩;rw [h.si.recs] at h1;obtain ⟨x,_,U⟩:=List.mem_map.1 h1;rw [<- U]; rfl
 have J:DisB W.heap.size B (λk=>kz C D Y k\/k=B) w S1 C D Y [] 0 0 4194184:={ h1 with low:=λk hk=>hk };refine (aps w h.si.st.sto J hT h.si.low.size h.si.quiet (by omega) I h.syn (by have:=h.si.e; omega) (by decide)).mono ?_;rintro e w' ⟨rfl,hs,⟨C',D',Y',d',mk,r',hd⟩,M⟩;refine ⟨rfl,C',D',Y',mk,E,F,⟨h.si.st.mod M (λj A h=>h.elim (h1.apart j A).1 (h1.apart j A).2) (λj A h=>h.elim (N j A).1 (N j A).2),hd.inv,h.si.blk,h.si.oblk,hd.cq,λk hk=>(hd.apart k hk).1,g1,di M g2 g6,⟨g4,g5,λZ=>?_⟩,g3,h.si.low.trans (M.to_below _ h.si.low.size λj A=>h1.low j A),h.si.quiet,h.si.ft⟩⟩;exact (hd.low E (.inl Z)).elim g6 λh4=>by have:=(Array.getElem?_eq_some_iff.1 g2).1; omega
end RetW
namespace PendW
open Go.RowKit Go.MapKept Go.Shelf OctMath RecMath RecW MapG
theorem apt {base:Nat} {P:PendD} (id d:Int) (w:World) (h:PendAt base w P) (hg:aak P.all id=(1,d)) :
 Calls Tryz.prog 14 #[.pointer (some ⟨P.blk,0,none⟩),.int .i64 id] w λe w'=>e=.returned (.int .i64 d)/\w'=w:=by
 have A:=zq (acj id w h);have B:=agc h id;have c0:=h.cell;rw [hg] at A B;have E:(Instr.field 102 (.agg #[.int .i64 1,.int .i64 d]) 1).run Tryz.prog w=.ok (.int .i64 d) w:=rfl;unfold aay at B;clear h hg;go_enter Tryz.func14,Tryz.ntmps14;go_wp2_with fail;refine A.o.mono ?_;rintro e w' ⟨rfl,F⟩;obtain rfl:=F.symm;clear A;go_wp2_with fail;go_ret;exact ⟨rfl,rfl⟩
end PendW
namespace RetW
open Go.RowKit Go.MapKept Go.Sort OctMath RecMath RecW DskW SegW MapG TapeW TapeMath PendW CacheW EntW NameW CqW KxW StoW TopW NameMath SndW
theorem aj9 {x:lu} {idn id0:Nat} {g:List UInt8} {now b:Int} (all:List (Int×Int×Int)) (h:all=[]) :
 aak (su (su all (id0:Int) (jm x 1 0 b)) (idn:Int) (lc x id0 now g)) (idn:Int)=(1,now+2):=by
 subst h
 have h1:su [] (id0:Int) (jm x 1 0 b)=[]:=by
  unfold su;rw [if_neg (by omega),if_neg (show ¬ ((jm x 1 0 b).kind=3) from (by decide:¬ ((1:Int)=3))),if_neg (show ¬ ((jm x 1 0 b).kind=4) from (by decide:¬ ((1:Int)=4))),if_neg (λh=>absurd h.1 (show ¬ ((jm x 1 0 b).kind=2) from (by decide:¬ ((1:Int)=2))))]
 rw [h1]
 have A:su [] (idn:Int) (lc x id0 now g)=[((idn:Int),(1,now+2))]:=by
  unfold su;rw [if_neg (by omega),if_neg (show ¬ ((lc x id0 now g).kind=3) from (by decide:¬ ((2:Int)=3))),if_neg (show ¬ ((lc x id0 now g).kind=4) from (by decide:¬ ((2:Int)=4))),if_pos ⟨rfl,rfl⟩];rfl
 rw [A];unfold aak;simp
theorem aib (W:World) (hT:TabB W.heap.size W) :
 Calls Tryz.prog 4 #[] W λe w'=>e=.returned (.bool true)/\Below W.heap.size W w':=by
 have am:Zq (∀ w,Below W.heap.size W w->TabB W.heap.size w):=λw hb=>hT.below hb
 have U:=zq (DskW.new_any 10000 W.heap.size W (Nat.le_refl _));clear hT;go_enter Tryz.func4,Tryz.ntmps4;go_wp2_with fail;refine U.o.mono ?_;rintro e w3 ⟨D,rfl,hD,an,cb,cc,bc,bd,a1,bh,cd,bj⟩;have bk:D.room=10000:=ab3 a1 (by rw [bj]; rfl);have HM:=zq (ah7 5 w3 hD ⟨bc,bd⟩ a1 bh an.size (am.o w3 an) (by decide) (by omega));rw [show ((5:Nat):Int)=5 from rfl] at HM;have cf:=zq an;have bl:=zq bk;have bm:Zq (∀ k,D.foot k->W.heap.size<=k):=λk hk=>hD.base_le hk
 clear hD an cb cc bc bd a1 bh cd bj bk U;go_wp2_with fail;refine HM.o.mono ?_;rintro e w4 ⟨S0,X,rfl,a6,bo⟩;have M:=zq bo;have A:=zq (aia a6 cf.o bm.o 6 (by have:=bl.o; omega) [pg]);have cg:=zq a6.pend;clear a6 bo HM bl bm;have hc:xh X.l pg=0:=by rw [M.o]; exact akw
 have J:S0.now=5:=A.o.si.now;have hr:=aal (ki:=1) (due:=0) (now:=S0.now) (by rw [M.o]; exact zh) hc (.inl ⟨rfl,rfl⟩) rfl (by rw [J]; rfl);have br:=zq hr;have bs:=zq J;have ci:=A.o.si.rl;have cj:=A.o.si.wl;have F:=A.o.si.e
 have ao:=zq (aku pg true ael hc (by rw [M.o]; exact zh) none 0 w4 A.o.si.st (by rw [M.o]; decide) (λi hi=>absurd hi (Nat.not_lt_zero _)) A.o.si.quiet (am.o w4 A.o.si.low) A.o.si.low.size (by rw [J]; rfl)
  (A.o.si.fits (by decide) hr (by show (1:Int)≠0; decide)) (by omega) (by omega) (by omega))
 change Zq (Calls _ _ #[_,.agg #[.string ⟨#[97]⟩,.int .i64 0,.string ⟨#[]⟩,.slice none 0 0,.string ⟨#[]⟩],_] _ _) at ao;obtain ⟨I,Z⟩:∃ I:Nat,I=S0.T.R.e+(bv S0.T.R.e (jm pg 1 0 S0.now)).length:=⟨_,rfl⟩;rw [<- Z] at ao;have bw:=zq Z;clear hc J hr ci cj F Z;go_wp2_with fail;refine ao.o.mono ?_;rintro e w6 ⟨rfl,S1,hs,hp,hm⟩;have E:=zq (A.o.next (by decide) (show 0 < [pg].length by decide) br.o hs hp hm);have bz:=zq hp.pall;have b0:=zq (ah6 A.o.si.st.sto hs.sto hp);have U:Zq (S1.now=5):=E.o.si.now
 have cm:Zq (S1.T.O.recs=[(I,jm pg 1 0 5)]):=by
  have h0:S0.T.O.recs=[]:=List.length_eq_zero_iff.1 (by have:=A.o.si.rl; omega);show S1.T.O.recs=_;rw [b0.o,h0,<- bw.o,bs.o]; rfl
 obtain ⟨B,b1,av⟩:=E.o.all (am.o w6 E.o.si.low) (by decide);have b2:=zq av
 have c7:w6.cell? ⟨S0.blk,7,none⟩=some (.pointer (some ⟨B,0,none⟩)):=by
  have h1:w6.cell? ⟨S1.blk,7,none⟩=some S1.dp:=hs.sto.cell 7 _ rfl;rw [b1,E.o.si.blk] at h1;exact h1
 have cn:Zq (∀ m,bq m=true->m.kind≠0->(((bv S1.T.R.e m).length+(bi m).length:Nat):Int)<=S1.T.D.room):=λm hr h0=>E.o.si.fits (by decide) hr h0
 have b3:Zq (S1.T.R.e<=1531/\S1.T.D.waits.length<=2/\S1.T.O.recs.length<=1):=⟨E.o.si.e,E.o.si.wl,E.o.si.rl⟩;clear hs hp hm b1 av ao E A b0;go_wp2_with fail;refine b2.o.mono ?_;rintro e w7 ⟨rfl,C,D7,Y,mk,og,dv,hE⟩;have HE:=zq hE;clear hE b2 c7;have ar:=cm.o;have ab:0 < S1.T.O.recs.length:=by rw [ar]; exact Nat.one_pos
 have F:S1.T.O.recs[0]=(I,jm pg 1 0 5):=by simp only [ar]; rfl
 have b4:=aaj HE.o.st.sto.tape (id:=I) (m:=jm pg 1 0 5) (by rw [ar]; exact .head _);have ac:I<=99999999:=by have h1:=b4.2.2.2.1; have h2:=b3.o.1; omega
 have a7:bq (jm pg 1 0 5)=true:=by have:=br.o; rw [bs.o] at this; exact this
 have a8:0<=S1.now/\S1.now<=1000000:=by rw [U.o]; decide
 have hg:iq [103]=true:=by decide
 have cp:=b3.o
 have N:=zq (arp (base:=W.heap.size) (S0:=S1) (X:=X) (C:=C) (D:=D7) (Y:=Y) (l:=S1.T.O.recs) (mk:=mk) [103] [97] 0 0 ab pg 5 true (by rw [F]) ael (by unfold inI; decide) a7 (by decide) (by decide) hg w7 HE.o.st (by rw [M.o]; decide) HE.o.d HE.o.cq (List.getElem_mem ab) (am.o w7 HE.o.low) HE.o.low.size HE.o.quiet
  (by rw [M.o]; decide) (by rw [F]; rfl) (by omega) (by rw [F]; exact ac) a8
  (by rw [F]; exact cn.o _ (ac4 hg a7 ac a8) (by show (2:Int)≠0; decide)) (by omega) (by omega) (by omega))
 rw [F] at N;have hz:((j3 [97] ((0:Nat):Int) (S1.T.O.recs.take 0):Nat):Int)=0:=rfl;rw [hz,HE.o.blk,U.o,show ((0:Nat):Int)=0 from rfl] at N;change Zq (Calls _ _ #[_,.string ⟨#[103]⟩,.string ⟨#[97]⟩,.int .i64 0,.int .i64 0,.bool true] _ _) at N;obtain ⟨ad,ak⟩:∃ ad:Nat,ad=S1.T.R.e+(bv S1.T.R.e (lc pg I 5 [103])).length:=⟨_,rfl⟩;rw [<- ak] at N;have cr:=zq ak;clear ar ab F b4 ac a7 a8 hg cp hz ak;go_wp2_with fail;refine N.o.mono ?_;rintro e w8 ⟨rfl,S2,al,ba,b5⟩;have b6:=zq (HE.o.put al ba b5)
 have bb:aak S2.P.all (ad:Int)=(1,7):=by
  have h1:=ba.pall;rw [<- cr.o,bz.o,<- bw.o] at h1;rw [h1];exact aj9 _ cg.o
 have c6:w8.cell? ⟨S0.blk,6,none⟩=some (.pointer (some ⟨S2.P.blk,0,none⟩)):=by
  have h1:w8.cell? ⟨S2.blk,6,none⟩=some (.pointer (some ⟨S2.P.blk,0,none⟩)):=al.sto.cell 6 _ rfl;rw [b6.o.blk] at h1;exact h1
 have b7:=zq (acj (ad:Int) w8 al.sto.pend);rw [bb] at b7;have cs:=zq (apt (ad:Int) 7 w8 al.sto.pend bb);clear al ba b5 bb N;go_wp2_with fail;refine b7.o.mono ?_;rintro e w9 ⟨rfl,he⟩;obtain rfl:=he.symm;go_wp2_with fail;refine cs.o.mono ?_;rintro e dc ⟨rfl,he⟩;obtain rfl:=he.symm;go_wp2_with fail;go_ret;exact ⟨rfl,b6.o.low⟩
theorem akx (xs:List Int) (n:Int) (h:∀ x∈xs,x<=n) (hn : -1<=n):jy xs<=n/\-1<=jy xs:=by
 unfold jy
 have:∀ (l:List Int) (m:Int),(∀ x∈l,x<=n)->m<=n->-1<=m->l.foldl (λm x=>max m x) m<=n/\-1<=l.foldl (λm x=>max m x) m:=by
  intro l
  induction l with
  | nil=>intro m _ h1 A; exact ⟨h1,A⟩
  | cons x l ih =>
    intro m h1 A E;rw [List.foldl_cons];have F:=h1 x (.head _);exact ih (max m x) (λy B=>h1 y (.tail _ B)) (by omega) (by omega)
 exact this xs (-1) h hn (by omega)
theorem ars (xs:List Int) (h:0 < xs.length) (hp:∀ x∈xs,0<=x):0<=jy xs:=by
 have key:∀ k,1<=k->k<=xs.length->0<=jy (xs.take k):=by
  intro k
  induction k with
  | zero=>intro h1; omega
  | succ k ih =>
    intro _ A;rw [aax xs (by omega)];have:=hp _ (List.getElem_mem (show k < xs.length by omega));omega
 have:=key xs.length h (Nat.le_refl _);rw [List.take_length] at this;exact this
theorem aky {n:Int} {xs:List Int} (h:xs.any (lg n)=false):∀ x∈xs,0<=x/\x < n:=λx B=>by
 have h1:=List.any_eq_false.1 h x B;unfold lg at h1;have E:¬ x < 0:=λA=>by rw [decide_eq_true A] at h1; exact h1 rfl
 have A:¬ n<=x:=λA=>by rw [decide_eq_true A,Bool.or_true] at h1; exact h1 rfl
 omega
def AckI (V w:World) (sb tb:Nat) (S1:StoD) (X:TabD) (C:CqD) (D:DiskD) (Y:KxD) (l:List (Nat×Msg)) (mk og:Nat) (dv:Value) (g t:List UInt8) (q at0:Int):Prop :=
 ∃ v,RetE V w sb tb S1 X C D Y l mk og dv v/\OffV w v (S g) (S t) q at0/\∀ k,v.ownBlock=some k->V.heap.size<=k/\¬ S1.foot k/\¬ X.foot k/\¬ kz C D Y k/\k≠og
theorem RetE.ack {V w:World} {sb tb:Nat} {S1:StoD} {X:TabD} {C:CqD} {D:DiskD} {Y:KxD} {l:List (Nat×Msg)} {mk og:Nat} {dv:Value} {g t:List UInt8} {q:Int} (h:RetE V w sb tb S1 X C D Y l mk og dv (.slice none 0 0)):AckI V w sb tb S1 X C D Y l mk og dv g t q 0 :=
 ⟨_,h,.inl ⟨rfl,rfl⟩,λk hk=>by cases hk⟩
theorem AckI.below {V w w':World} {sb tb:Nat} {S1:StoD} {X:TabD} {C:CqD} {D:DiskD} {Y:KxD} {l:List (Nat×Msg)} {mk og:Nat} {dv:Value} {g t:List UInt8} {q at0:Int} (h:AckI V w sb tb S1 X C D Y l mk og dv g t q at0) (hb:Below w.heap.size w w'):AckI V w' sb tb S1 X C D Y l mk og dv g t q at0:=by
 obtain ⟨v,h1,A,B⟩:=h;exact ⟨v,h1.below hb,A.below hb,B⟩
theorem apu {V w:World} {sb tb:Nat} {S1:StoD} {X:TabD} {C:CqD} {D:DiskD} {Y:KxD} {l:List (Nat×Msg)} {mk og:Nat} {dv:Value} (g t:List UInt8) (q at0:Int) (a:Option Addr) (cp:Nat) (xs:List Int) (h:AckI V w sb tb S1 X C D Y l mk og dv g t q at0) (hX:X.l.length<=1000) (E:xs.length<=1000) (hgl:g.length<=100) (htl:t.length<=100) (hxs:OctW.Ints w a xs) (hcl:j3 t q l<=1000) (ha:0<=at0/\at0<=1000)
 (hb:aep X.l g t q=0) (hg:iq g=true) (ht:jq t=true) (hq:0<=q/\q < 3) :
 Calls Tryz.prog 9 #[.pointer (some ⟨sb,0,none⟩),.string (S g),.string (S t),.int .i64 q,.slice a xs.length cp] w λe w'=>e=.returned (.int .i64 (if xs.any (lg ((j3 t q l:Nat):Int))=true then 2 else 0)) /\
  AckI V w' sb tb S1 X C D Y l mk og dv g t q (if xs.any (lg ((j3 t q l:Nat):Int))=true then at0 else max (jy xs+1) at0):=by
 obtain ⟨v,A,hv,B⟩:=h;have hI:AckI V w sb tb S1 X C D Y l mk og dv g t q at0:=⟨v,A,hv,B⟩;have N:=A.blk;subst N
 cases hbad:xs.any (lg ((j3 t q l:Nat):Int)) with
 | true =>
   rw [if_pos rfl,if_pos rfl];refine (am3 g t q a cp xs E hgl htl w hxs A.st hX A.d A.cq hb hbad).mono ?_;rintro e w' ⟨rfl,F⟩;exact ⟨rfl,hI.below F⟩
 | false =>
   rw [if_neg (by decide),if_neg (by decide)]
   by_cases h0:xs.length=0
   ·
    refine (apr g t q a cp xs E hgl htl w hxs A.st hX A.d A.cq hb hbad h0).mono ?_;rintro e w' ⟨rfl,F⟩
    have J:max (jy xs+1) at0=at0:=by
     have h1:jy xs+1=0:=by rw [List.length_eq_zero_iff.1 h0]; rfl
     omega
    rw [J];exact ⟨rfl,hI.below F⟩
   ·
    have M:=aky hbad;have O:=ars xs (by omega) λx E=>(M x E).1
    have ad:=akx xs 1000 (λx E=>by have:=M x E; omega) (by decide);refine (as0 g t q a cp xs E hgl htl w hxs A.st hX A.d A.cq hb hbad (by omega) hg ht hq ⟨O,by omega⟩ og dv v at0 A.off A.oc hv (λe=>(B og e).2.2.2.2 rfl) (by omega)).mono ?_;rintro e w' ⟨rfl,v',hh,R,J,U⟩;refine ⟨rfl,v',⟨A.st.mod J (λk hk e=>e.elim (λe=>A.oa.1 (e ▸ hk)) λe=>(B k e).2.1 hk) (λk hk e=>e.elim (λe=>A.oa.2.1 (e ▸ hk)) λe=>(B k e).2.2.1 hk),A.d.mod J (λk hk e=>e.elim (λe=>A.oa.2.2 (e ▸ hk)) λe=>(B k e).2.2.2.1 hk),A.blk,A.tb,A.cq,A.ap,A.off,hh,A.oa,A.lo,A.low.trans (J.to_below _ A.low.size λk e=>e.elim (λe=>e ▸ A.lo) λe=>(B k e).1),A.quiet,A.ft⟩,R,λk hk=>(U k hk).elim (B k) λZ=>?_⟩;refine ⟨Nat.le_trans A.low.size Z,λI=>?_,λI=>?_,λI=>?_,λI=>?_⟩
    . have:=A.st.sto.lt I; omega
    . have:=A.st.tab.lt I; omega
    . have:=A.d.lt I; omega
    . have:=(Array.getElem?_eq_some_iff.1 A.oc).1; omega
theorem RetE.cells {V w:World} {sb tb:Nat} {S1:StoD} {X:TabD} {C:CqD} {D:DiskD} {Y:KxD} {l:List (Nat×Msg)} {mk og:Nat} {dv v:Value} (h:RetE V w sb tb S1 X C D Y l mk og dv v) :
 w.cell? ⟨sb,0,none⟩=some (.pointer (some ⟨tb,0,none⟩))/\w.cell? ⟨sb,1,none⟩=some (.pointer (some ⟨C.blk,0,none⟩))/\w.cell? ⟨sb,4,none⟩=some (.pointer (some ⟨og,0,none⟩)):=by
 have h0:w.cell? ⟨S1.blk,0,none⟩=some (.pointer (some ⟨S1.T.O.blk,0,none⟩)):=h.st.sto.cell 0 _ rfl;have h1:w.cell? ⟨S1.blk,1,none⟩=some S1.cq:=h.st.sto.cell 1 _ rfl;have A:w.cell? ⟨S1.blk,4,none⟩=some S1.off:=h.st.sto.cell 4 _ rfl;rw [h.blk,h.tb] at h0;rw [h.blk,h.cq] at h1;rw [h.blk,h.off] at A;exact ⟨h0,h1,A⟩
theorem AckI.get {V w:World} {sb tb:Nat} {S1:StoD} {X:TabD} {C:CqD} {D:DiskD} {Y:KxD} {l:List (Nat×Msg)} {mk og:Nat} {dv:Value} {g t:List UInt8} {q at0:Int} (h:AckI V w sb tb S1 X C D Y l mk og dv g t q at0) :
 w.cell? ⟨sb,1,none⟩=some (.pointer (some ⟨C.blk,0,none⟩))/\w.cell? ⟨sb,4,none⟩=some (.pointer (some ⟨og,0,none⟩))/\Calls Tryz.prog 10 #[.pointer (some ⟨og,0,none⟩),.string (S g),.string (S t),.int .i64 q] w (λe w'=>e=.returned (.int .i64 at0)/\Below w.heap.size w w')/\DisI V.heap.size w C D Y l mk/\Below V.heap.size V w:=by
 obtain ⟨v,A,B,E⟩:=h;exact ⟨A.cells.2.1,A.cells.2.2,arz (S g) (S t) q at0 og dv v w A.oc B,A.d,A.low⟩
theorem apv (a:Option Addr) (c n:Nat) (fv:Value) (hn:n<=1) (w:World) :
 Calls Tryz.prog 199 #[.slice a n c,.int .i64 0,.int .i64 (n:Int),fv] w λe w'=>(∃ v,e=.returned v)/\w'=w:=by
 have E:decide ((1:Int) < (n:Int))=false:=decide_eq_false (by omega);have A:¬ (1:Int) < (n:Int):=by omega
 have B:(n:Int)<=1:=by omega
 go_enter Tryz.func199,Tryz.ntmps199;go_wp2_with fail;go_loopw [8] (λi wr=>i=.int .i64 1/\wr=w) (λi _=>0)
 case atStart=>exact ⟨rfl,rfl⟩
 case round =>
  obtain ⟨rfl,rfl⟩:=hrel;go_wp2_with fail;go_end0;exact ⟨⟨_,rfl⟩,rfl⟩
theorem atp (a:Option Addr) (c n:Nat) (fv:Value) (l:Int) (hn:n<=1) (w:World) :
 Calls Tryz.prog 131 #[.slice a n c,.int .i64 0,.int .i64 (n:Int),.int .i64 l,fv] w λe w'=>(∃ v,e=.returned v)/\w'=w:=by
 have A:=zq (apv a c n fv hn w);have B:(n:Int)<=12:=by omega
 go_enter Tryz.func131,Tryz.ntmps131;go_wp2_with fail;go_loopw [1,2] (λx y wr=>x=.int .i64 0/\y=.int .i64 (n:Int)/\wr=w) (λx _ _=>0)
 case atStart=>exact ⟨rfl,rfl,rfl⟩
 case round =>
  obtain ⟨rfl,rfl,rfl⟩:=hrel;go_wp2_with fail;refine A.o.mono ?_;rintro e w' ⟨⟨v,rfl⟩,E⟩;obtain rfl:=E.symm;go_wp2_with fail;exact bodyPost_ret (results_none rfl _ _ _) rfl ⟨⟨_,rfl⟩,rfl⟩
theorem apw (a:Option Addr) (c n:Nat) (fv:Value) (hn:n<=1) (w:World) :
 Calls Tryz.prog 67 #[.slice a n c,fv] w λe w'=>(∃ v,e=.returned v)/\w'=w:=by
 have B:=zq (λl=>atp a c n fv l hn w);have E:=zq (Tryz.bits_Len (n:Int) w (by omega) (by omega));go_enter Tryz.func67,Tryz.ntmps67;go_wp2_with fail;refine E.o.mono ?_;rintro e w' ⟨rfl,A⟩;obtain rfl:=A.symm;go_wp2_with fail;refine (B.o _).mono ?_;rintro e w' ⟨⟨v,rfl⟩,A⟩;obtain rfl:=A.symm;go_wp2_with fail;go_end0;exact ⟨⟨_,rfl⟩,rfl⟩
theorem as2:∃ i,Tryz.prog.info? 93=some i/\i.zero=some (.agg #[.string ⟨#[]⟩,.int .i64 0,.int .i64 0,.int .i64 0])/\i.size=4/\i.bytes=40:=by
 have:=(show (Tryz.prog.info? 93).map (λi=>(i.zero,i.size,i.bytes))=some (some (.agg #[.string ⟨#[]⟩,.int .i64 0,.int .i64 0,.int .i64 0]),4,40) by kernel_rfl)
 cases hh:Tryz.prog.info? 93 with
 | none=>rw [hh] at this; cases this
 | some i=>rw [hh] at this; have A:=Option.some.inj this; exact ⟨i,rfl,congrArg (·.1) A,congrArg (·.2.1) A,congrArg (·.2.2) A⟩
def RowQ (w:World) (R:Nat) (g:ByteArray) (q z p:Int):Prop:=w.cell? ⟨R,0,none⟩=some (.string g)/\w.cell? ⟨R,1,none⟩=some (.int .i64 q)/\w.cell? ⟨R,2,none⟩=some (.int .i64 z)/\w.cell? ⟨R,3,none⟩=some (.int .i64 p)
theorem RowQ.below {w w':World} {R:Nat} {g:ByteArray} {q z p:Int} (h:RowQ w R g q z p) (hb:Below w.heap.size w w'):RowQ w' R g q z p :=
 ⟨by rw [hb.cell (ay h.1)]; exact h.1,by rw [hb.cell (ay h.2.1)]; exact h.2.1,by rw [hb.cell (ay h.2.2.1)]; exact h.2.2.1,by rw [hb.cell (ay h.2.2.2)]; exact h.2.2.2⟩
theorem apx (g:ByteArray) (q z p:Int) (G:Nat) (w:World) (hG:w.heap[G]?=some (.cells #[.string g,.int .i64 q,.int .i64 z,.int .i64 p] 93 (0,0))) :
 ∃ R cap E,(Builtin.append_ #[90,90] 90 #[.slice none 0 0,.slice (some ⟨G,0,none⟩) 1 1]).run Tryz.prog w=.ok (.slice (some ⟨R,0,none⟩) 1 cap) E /\
  RowQ E R g q z p/\Below w.heap.size w E:=by
 obtain ⟨i0,M,N,O,U⟩:=as2;have h0:w.ownsRow w.heap.size 93 4 (.slice none 0 0) 0 []:=⟨rfl,.inl ⟨rfl,rfl⟩⟩
 obtain ⟨v',E,hr,F,A,_,ac⟩:=run_append_own_at (P:=Tryz.prog) _ w.heap.size 90 90 93 i0 (.agg #[.string ⟨#[]⟩,.int .i64 0,.int .i64 0,.int .i64 0]) 4 40 Tryz.underlying90 M N O U rfl (by omega) _ _ _ h0
  ⟨G,0,none⟩ 1 1 (#[.string g,.int .i64 q,.int .i64 z,.int .i64 p]:Array Value).toList rfl (λj u hu=>by
   have I:(⟨G,0,none⟩:Addr).add j=⟨G,j,none⟩:=by unfold Addr.add; split <;> simp_all
   rw [I,Lib.cell_of_heap hG];rw [Array.getElem?_toList] at hu
   simpa using hu) (λu hu=>by
   have J:u∈[Value.string g,.int .i64 q,.int .i64 z,.int .i64 p]:=hu;simp only [List.mem_cons,List.not_mem_nil,or_false] at J
   rcases J with rfl | rfl | rfl | rfl <;> rfl) (by unfold maxLen; omega) (by omega) (Nat.le_refl _)
 have X:Below w.heap.size w E:=(show Mod (λ_=>False) w E from ⟨A.os,A.tape,A.output,A.size,λk hk ad=>A.block k hk (λe=>by cases e)⟩).to_below _ (Nat.le_refl _) λk h=>h.elim
 rcases F.2 with ⟨e,h1⟩ | ⟨R,cap,cur,e,hb,hg,hn,hm,hc,ht⟩
 . omega
 ·
  subst e
  have B:∀ j v,(#[.string g,.int .i64 q,.int .i64 z,.int .i64 p]:Array Value)[j]?=some v->E.cell? ⟨R,j,none⟩=some v:=λj v Y=>by
   have h5:j < 4:=(Array.getElem?_eq_some_iff.1 Y).1;rw [Lib.cell_of_heap hg];have Z:([]++(#[.string g,.int .i64 q,.int .i64 z,.int .i64 p]:Array Value).toList)[j]?=some v:=by rw [List.nil_append,Array.getElem?_toList]; exact Y
   rw [<- ht,List.getElem?_take,if_pos (by omega)] at Z
   simpa using Z
  exact ⟨R,cap,E,hr,⟨B 0 _ rfl,B 1 _ rfl,B 2 _ rfl,B 3 _ rfl⟩,X⟩
theorem apy (cb mB:Nat) (d:Value) (W:World) (hc:W.heap[cb]?=some (.cells #[d,.map (some mB)] 141 (0,0))) (hp:PairsAt W mB []) :
 Calls Tryz.prog 31 #[.pointer (some ⟨cb,0,none⟩)] W λe w'=>e=.returned (.slice none 0 0)/\Below W.heap.size W w':=by
 obtain ⟨es,A,F,I,B⟩:=hp;have J:es=#[]:=Array.toList_inj.1 (List.map_eq_nil_iff.1 B);subst J;have O:=run_range_map (P:=Tryz.prog) W 139 _ _ mB #[] A Tryz.underlying139 F;have E:Below W.heap.size W (W.alloc (.mapIter (some mB) A #[] A)):=(Below.refl _ W).alloc (Nat.le_refl _) _;have M:=zq E
 have R:∀ ty,(Instr.next (.pointer (some ⟨W.heap.size,0,none⟩)) false ty).run Tryz.prog (W.alloc (.mapIter (some mB) A #[] A))=.ok (.tuple #[.bool false]) (W.alloc (.mapIter (some mB) A #[] A)):=λty=>by
  rcases run_next_at (P:=Tryz.prog) (W.alloc (.mapIter (some mB) A #[] A)) ty W.heap.size mB A A #[] #[] A (heap_alloc_new W _) (by rw [Go.heap_alloc_old W _ _ (Array.getElem?_eq_some_iff.1 F).1]; exact F) (λx U=>by cases U) (Nat.le_refl _) with ⟨_,h⟩ | ⟨e,N,_⟩
  . exact h
  . exact absurd (mem_left N).1 (by simp)
 have X:=zq (λY=>apw none 0 0 Y (by omega) (W.alloc (.mapIter (some mB) A #[] A)));have c1:=aa hc 1 _ rfl;clear hc F I B E;go_enter Tryz.func31,Tryz.ntmps31;go_wp2_with fail;go_loopw [3] (λo wr=>o=.slice none 0 0/\wr=W.alloc (.mapIter (some mB) A #[] A)) (λ_ _=>0)
 case atStart=>exact ⟨rfl,rfl⟩
 case round =>
  obtain ⟨rfl,rfl⟩:=hrel;go_wp2_with fail;refine (X.o _).mono ?_;rintro e w' ⟨⟨v,rfl⟩,N⟩;obtain rfl:=N.symm;go_wp2_with fail;go_ret;exact ⟨rfl,M.o⟩
theorem art (cb mB xb:Nat) (d:Value) (t:ByteArray) (q n:Int) (W:World) (hc:W.heap[cb]?=some (.cells #[d,.map (some mB)] 141 (0,0))) (hp:PairsAt W mB [(.agg #[.string t,.int .i64 q],.pointer (some ⟨xb,0,none⟩))])
 (h2:W.cell? ⟨xb,2,none⟩=some (.int .i64 0)) (hn:∀ w,Below W.heap.size W w->Calls Tryz.prog 60 #[.pointer (some ⟨xb,0,none⟩)] w λe w'=>e=.returned (.int .i64 n)/\Drawn w w') :
 Calls Tryz.prog 31 #[.pointer (some ⟨cb,0,none⟩)] W λe w'=>∃ R cap,e=.returned (.slice (some ⟨R,0,none⟩) 1 cap)/\RowQ w' R t q 0 n/\Below W.heap.size W w':=by
 obtain ⟨es,A,hm,N,ad⟩:=hp;obtain ⟨B,a6⟩:=List.length_eq_one_iff.1 (show es.toList.length=1 by have:=congrArg List.length ad; rw [List.length_map] at this; exact this);obtain rfl:es=#[B]:=Array.toList_inj.1 a6;clear a6
 have bs:B.key=.agg #[.string t,.int .i64 q]/\B.val=.pointer (some ⟨xb,0,none⟩):=by
  have h1:[(B.key,B.val)]=[(Value.agg #[.string t,.int .i64 q],Value.pointer (some ⟨xb,0,none⟩))]:=ad;injection h1 with h1 _
  exact Prod.mk.inj h1
 obtain ⟨ak,al⟩:=bs;have X:mB < W.heap.size:=(Array.getElem?_eq_some_iff.1 hm).1;have bw:=run_range_map (P:=Tryz.prog) W 139 _ _ mB #[B] A Tryz.underlying139 hm;have am:Below W.heap.size W (W.alloc (.mapIter (some mB) A #[] A)):=(Below.refl _ W).alloc (Nat.le_refl _) _;have hit:=heap_alloc_new W (.mapIter (some mB) A #[] A);have an:(leftOf #[B] #[]).toList=[B]:=by simp [leftOf]
 have a7:∃ w2:World,Below W.heap.size W w2/\w2.heap[W.heap.size]?=some (.mapIter (some mB) A #[B.born] A)/\∀ ty,(Instr.next (.pointer (some ⟨W.heap.size,0,none⟩)) false ty).run Tryz.prog (W.alloc (.mapIter (some mB) A #[] A))=.ok (.tuple #[.bool true,.agg #[.string t,.int .i64 q],.pointer (some ⟨xb,0,none⟩)]) w2:=by
  rcases run_next_at (P:=Tryz.prog) (W.alloc (.mapIter (some mB) A #[] A)) 0 W.heap.size mB A A #[] #[B] A hit (by rw [Go.heap_alloc_old W _ _ X]; exact hm) N.1 (Nat.le_refl _) with ⟨h,_⟩ | ⟨e,he,w1,hw1,h⟩
  . exact absurd h (by simp [leftOf])
  ·
   have:e=B:=by simpa using (mem_left he).1
   subst this;rw [ak,al] at h
   have hb:Below W.heap.size W w1/\w1.heap[W.heap.size]?=some (.mapIter (some mB) A #[] A):=by
    rcases hw1 with rfl | rfl
    . exact ⟨am,hit⟩
    . exact ⟨am.drew,hit⟩
   have bz:Mod (λk=>k=W.heap.size) w1 (Go.ChangeMaps.setBlock w1 W.heap.size (.mapIter (some mB) A #[e.born] A)):=⟨rfl,rfl,rfl,by simp [Go.ChangeMaps.setBlock],λk hk b0=>by
    show (w1.heap.setIfInBounds W.heap.size _)[k]?=_;rw [Array.getElem?_setIfInBounds_ne (λe=>b0 e.symm)]⟩
   refine ⟨_,hb.1.trans (bz.to_below _ hb.1.size λk e=>Nat.le_of_eq e.symm),?_,λ_=>h⟩;show (w1.heap.setIfInBounds W.heap.size _)[W.heap.size]?=_;have:=(Array.getElem?_eq_some_iff.1 hb.2).1;rw [Array.getElem?_setIfInBounds_self,if_pos this]
 have Z:∀ w:World,w.heap[W.heap.size]?=some (.mapIter (some mB) A #[B.born] A)->w.heap[mB]?=some (.map #[B] A)->∀ ty,(Instr.next (.pointer (some ⟨W.heap.size,0,none⟩)) false ty).run Tryz.prog w=.ok (.tuple #[.bool false]) w:=λw h1 h2 ty=>by
  rcases run_next_at (P:=Tryz.prog) w ty W.heap.size mB A A #[B.born] #[B] A h1 h2 N.1 (Nat.le_refl _) with ⟨_,h⟩ | ⟨e,he,_⟩
  . exact h
  . have h3:=mem_left he
    have:e=B:=by simpa using h3.1
    subst this;exact absurd h3.2 (by simp)
 obtain ⟨w2,ao,I,bb⟩:=a7;have J:=run_entry_at (P:=Tryz.prog) w2 W.heap.size mB A #[] #[B] A B I (ag ao hm) (by simp) N.2.1;rw [ak,al] at J;have c1:=aa hc 1 _ rfl;have ab:=zq Z;have HM:=zq hm;have bc:=zq ao;have b1:=zq I;have HE:=zq J;have bd:=zq bb;have H2:=zq h2;have HN:=zq hn;have HS:=zq (λR cap fv w=>apw (some ⟨R,0,none⟩) cap 1 fv (Nat.le_refl _) w);clear hc hm N ad am ak al X hit an Z ao I J bb h2 hn;go_enter Tryz.func31,Tryz.ntmps31;go_wp2_with fail;clear c1 bw;go_loopw [3] (λo wr=>(o=.slice none 0 0/\wr=W.alloc (.mapIter (some mB) A #[] A))\/∃ R cap,o=.slice (some ⟨R,0,none⟩) 1 cap/\Zq (RowQ wr R t q 0 n)/\Zq (Below W.heap.size W wr)/\Zq (wr.heap[W.heap.size]?=some (.mapIter (some mB) A #[B.born] A))) (λo _=>match o with | .slice none _ _=>1 | _=>0)
 case atStart=>exact .inl ⟨rfl,rfl⟩
 case round =>
  rcases hrel with ⟨rfl,rfl⟩ | ⟨R,cap,rfl,M,HB,HI⟩
  ·
   have bh:=bd.o;have J:=HE.o;go_upto_region 7 with fail
   clear bh J;have ap:Below w2.heap.size w2 (w2.alloc (.cells #[.string t,.int .i64 q] 143)):=(Below.refl _ w2).alloc (Nat.le_refl _) _;have bj:=heap_alloc_new w2 (.cells #[.string t,.int .i64 q] 143);have ar:=zq bj;have O:=zq (bc.o.trans (ap.mono bc.o.size));have bk:=zq (ag ap b1.o);clear ap bj;generalize w2.alloc (.cells #[.string t,.int .i64 q] 143)=w3 at *
   obtain ⟨B3,bl⟩:∃ B3,w2.heap.size=B3:=⟨_,rfl⟩;rw [bl] at ar ⊢;clear bl
   have HK:Zq (∀ w,RecW.ExtR w3.drew w->w.cell? ⟨B3,0,none⟩=some (.string t)/\w.cell? ⟨B3,1,none⟩=some (.int .i64 q)/\w.cell? ⟨xb,2,none⟩=some (.int .i64 0)/\Calls Tryz.prog 60 #[.pointer (some ⟨xb,0,none⟩)] w (λe w'=>e=.returned (.int .i64 n)/\Drawn w w')/\Below w3.heap.size w3 w):=λw hw=>by
    have hb:Below w3.heap.size w3 w:=((Below.refl _ w3).drew).trans hw;have bm:=O.o.trans (hb.mono O.o.size);have h3:=ag hb ar.o;exact ⟨aa h3 0 _ rfl,aa h3 1 _ rfl,by rw [bm.cell (ay H2.o)]; exact H2.o,HN.o w bm,hb⟩
   refine GrowN.aj 14 [none,none,none,none,none,none,none,none,none,none,some (.inl (.int .i64 n)),none,some (.inr λ_ v w=>∃ G,v=.slice (some ⟨G,0,none⟩) 1 1/\w.heap[G]?=some (.cells #[.string t,.int .i64 q,.int .i64 0,.int .i64 n] 93 (0,0))),some (.inr λ_ v w=>∃ R cap,v=.slice (some ⟨R,0,none⟩) 1 cap/\RowQ w R t q 0 n)] (RecW.ExtR) (by kernel_rfl) (by kernel_rfl) (by kernel_rfl) (RecW.ExtR.refl) (λ_ _ _=>RecW.ExtR.trans) ?_ ?_
   . intro K hK Y hY l v w w' hR h
     simp only [List.mem_cons,List.not_mem_nil,or_false] at hK
     rcases hK with rfl | rfl | rfl | rfl | rfl | rfl | rfl | rfl | rfl | rfl | rfl | rfl | rfl | rfl <;> simp only [reduceCtorEq,Option.some.injEq,Sum.inr.injEq] at hY
     . subst hY; obtain ⟨G,e,hg⟩:=h; exact ⟨G,e,ag hR hg⟩
     . subst hY; obtain ⟨R,cap,e,h⟩:=h; exact ⟨R,cap,e,h.below hR⟩
   simp only [List.take_succ_cons,List.take_zero,List.drop_succ_cons,List.drop_zero]
   iterate 10
    refine GrowN.g_det rfl ?_;apply Exists.intro;refine ⟨λw hw F=>?_,?_⟩
    . clear F
      obtain ⟨k0,k1,k2,U,_⟩:=HK.o w hw;go_simp;exact ⟨rfl,RecW.ExtR.refl _⟩
    go_frame
   refine GrowN.g_con rfl (λw hw F=>?_) ?_
   . clear F
     obtain ⟨k0,k1,k2,U,_⟩:=HK.o w hw;have U:=zq U;go_simp;exact U.o.mono λe w3 h=>⟨_,h.1,rfl,h.2.below _⟩
   go_frame;refine GrowN.g_det rfl ?_;apply Exists.intro;refine ⟨λw hw F=>?_,?_⟩
   . clear F
     go_simp;exact ⟨rfl,RecW.ExtR.refl _⟩
   go_frame;refine GrowN.g_new rfl (λw hw F=>?_) (λv12=>?_)
   . clear F
     go_simp;exact ⟨⟨_,rfl,heap_alloc_new w _⟩,(Below.refl _ w).alloc (Nat.le_refl _) _⟩
   go_frame;refine GrowN.g_new rfl (λw hw F=>?_) (λv13=>?_)
   ·
    skip
    obtain ⟨G,rfl,hG⟩:=F _ (.head _) (by kernel_rfl);clear F;obtain ⟨R,cap,w8,hr,E,b3⟩:=apx t q 0 n G w hG;clear hG;unfold Grow.fw;simp [execOp,resolve,invoke,builtin,Act.eval,hr,Result.andThen,Grow.xm,GrowN.rv];exact ⟨E,b3⟩
   go_frame;refine GrowN.g_nil λw6 bo F=>?_
   obtain ⟨R,cap,hv,E⟩:=F _ (.head _);clear F
   first | subst hv | (dsimp only at hv; subst hv)
   have M:=zq E;have av:=(HK.o w6 bo).2.2.2.2;have b5:=zq (O.o.trans (av.mono O.o.size));have b6:=zq (ag av bk.o);clear E av bo HK bk ar;go_wp2_with fail;go_roundw
   case rel=>exact .inr ⟨R,cap,rfl,M,b5,b6⟩
   case measure=>show (0:Nat) < 1; omega
  ·
   have bh:=ab.o wr HI.o (ag HB.o HM.o);clear bd HE ab;go_wp2_with fail;refine (HS.o _ _ _ _).mono ?_;rintro e w' ⟨⟨v,rfl⟩,he⟩;obtain rfl:=he.symm;go_wp2_with fail;go_ret;exact ⟨R,cap,rfl,M.o,HB.o⟩
theorem apz (sb cb:Nat) (g:ByteArray) (W:World) (hc:W.cell? ⟨sb,1,none⟩=some (.pointer (some ⟨cb,0,none⟩))) (hall:Calls Tryz.prog 31 #[.pointer (some ⟨cb,0,none⟩)] W λe w'=>e=.returned (.slice none 0 0)/\Below W.heap.size W w') :
 Calls Tryz.prog 11 #[.pointer (some ⟨sb,0,none⟩),.string g] W λe w'=>e=.returned (.int .i64 0)/\Below W.heap.size W w':=by
 have A:=zq hall;clear hall;go_enter Tryz.func11,Tryz.ntmps11;go_wp2_with fail;refine A.o.mono ?_;rintro e w' ⟨rfl,hb⟩;have B:=zq hb;clear hb A hc;go_wp2_with fail;go_loopw [5,16] (λa i wr=>a=.int .i64 0/\i=.int .i64 0/\wr=w') (λ_ _ _=>0)
 case atStart=>exact ⟨rfl,rfl,rfl⟩
 case round =>
  obtain ⟨rfl,rfl,rfl⟩:=hrel;go_wp2_with fail;go_ret;exact ⟨rfl,B.o⟩
theorem aru (sb cb og:Nat) (g t:ByteArray) (q n at0:Int) (hn:0<=at0/\at0<=n/\n<=1000) (W:World) (hc:∀ w,Below W.heap.size W w->w.cell? ⟨sb,1,none⟩=some (.pointer (some ⟨cb,0,none⟩))/\w.cell? ⟨sb,4,none⟩=some (.pointer (some ⟨og,0,none⟩))/\Calls Tryz.prog 10 #[.pointer (some ⟨og,0,none⟩),.string g,.string t,.int .i64 q] w λe w'=>e=.returned (.int .i64 at0)/\Below w.heap.size w w')
 (hall:Calls Tryz.prog 31 #[.pointer (some ⟨cb,0,none⟩)] W λe w'=>∃ R cap,e=.returned (.slice (some ⟨R,0,none⟩) 1 cap)/\RowQ w' R t q 0 n/\Below W.heap.size W w') :
 Calls Tryz.prog 11 #[.pointer (some ⟨sb,0,none⟩),.string g] W λe w'=>e=.returned (.int .i64 (n - at0))/\Below W.heap.size W w':=by
 have I:=zq hall;have HC:=zq hc;have c1:=(hc W (Below.refl _ _)).1;have A:Zq (max (0:Int) at0=at0/\IntKind.i64.wrap (n - at0)=n - at0/\max (n - at0) 0=n - at0/\IntKind.i64.wrap (0+(n - at0))=n - at0):=⟨by omega,IntWalk.i64_in _ (by omega),by omega,(by rw [Int.zero_add]; exact IntWalk.i64_in _ (by omega))⟩;clear hall hc hn;go_enter Tryz.func11,Tryz.ntmps11;go_wp2_with fail;refine I.o.mono ?_;rintro e w1 ⟨R,cap,rfl,J,hb⟩;have HB:=zq hb;have N:=zq J;clear hb J I c1;go_wp2_with fail;go_loopw [5,16] (λa i wr=>(a=.int .i64 0/\i=.int .i64 0/\wr=w1)\/(a=.int .i64 (n - at0)/\i=.int .i64 1/\Zq (Below W.heap.size W wr))) (λ_ i _=>1 - (intOf i).toNat)
 case atStart=>exact .inl ⟨rfl,rfl,rfl⟩
 case round =>
  rcases hrel with ⟨rfl,rfl,rfl⟩ | ⟨rfl,rfl,HB2⟩
  ·
   obtain ⟨k0,k1,k2,k3⟩:=N.o;go_upto_region 6 with fail
   have O:Below wr.heap.size wr (wr.alloc (.cells #[.string t,.int .i64 q,.int .i64 0,.int .i64 n] 93)):=(Below.refl _ _).alloc (Nat.le_refl _) _;have M:=heap_alloc_new wr (.cells #[.string t,.int .i64 q,.int .i64 0,.int .i64 n] 93);have U:=zq (HB.o.trans (O.mono HB.o.size));clear k0 k1 k2 k3 O;generalize wr.alloc (.cells #[.string t,.int .i64 q,.int .i64 0,.int .i64 n] 93)=w5 at *
   obtain ⟨B5,X⟩:∃ B5,wr.heap.size=B5:=⟨_,rfl⟩;rw [X] at M ⊢;have H5:=zq M;clear M X
   have HK:Zq (∀ w,RecW.ExtR w5.drew w->w.cell? ⟨B5,0,none⟩=some (.string t)/\w.cell? ⟨B5,1,none⟩=some (.int .i64 q)/\w.cell? ⟨B5,2,none⟩=some (.int .i64 0)/\w.cell? ⟨B5,3,none⟩=some (.int .i64 n)/\Calls Tryz.prog 10 #[.pointer (some ⟨og,0,none⟩),.string g,.string t,.int .i64 q] w (λe w'=>e=.returned (.int .i64 at0)/\Below w.heap.size w w')/\w.cell? ⟨sb,4,none⟩=some (.pointer (some ⟨og,0,none⟩))/\Below W.heap.size W w):=λw E=>by
    have hb:Below w5.heap.size w5 w:=((Below.refl _ w5).drew).trans E;have M:=ag hb H5.o;have Y:=U.o.trans (hb.mono U.o.size);obtain ⟨_,c4,hg⟩:=HC.o w Y;exact ⟨aa M 0 _ rfl,aa M 1 _ rfl,aa M 2 _ rfl,aa M 3 _ rfl,hg,c4,Y⟩
   refine GrowN.aj 19 [none,none,none,none,none,none,none,none,none,none,none,none,none,none,some (.inl (.int .i64 (at0))),some (.inl (.int .i64 (at0))),some (.inl (.int .i64 (n - at0))),some (.inl (.int .i64 (n - at0))),some (.inl (.int .i64 (n - at0)))] (RecW.ExtR) (by kernel_rfl) (by kernel_rfl) (by kernel_rfl) (RecW.ExtR.refl) (λ_ _ _=>RecW.ExtR.trans) ?_ ?_
   . exact GrowN.jg rfl
   simp only [List.take_succ_cons,List.take_zero,List.drop_succ_cons,List.drop_zero]
   iterate 14
    refine GrowN.g_det rfl ?_;apply Exists.intro;refine ⟨λw E B=>?_,?_⟩
    . clear B
      obtain ⟨k0,k1,k2,k3,F,c4,_⟩:=HK.o w E;go_simp;exact ⟨rfl,RecW.ExtR.refl _⟩
    go_frame
   refine GrowN.g_con rfl (λw E B=>?_) ?_
   . clear B
     obtain ⟨k0,k1,k2,k3,F,c4,_⟩:=HK.o w E;have F:=zq F;go_simp;exact F.o.mono λe w3 h=>⟨_,h.1,rfl,h.2⟩
   go_frame;refine GrowN.g_con rfl (λw E B=>?_) ?_
   . clear B
     have hx:=A.o.1;go_simp
     all_goals first | exact RecW.ExtR.refl _ | exact ⟨A.o.2.1,RecW.ExtR.refl _⟩
   go_frame;refine GrowN.g_con rfl (λw E B=>?_) ?_
   . clear B
     have hx:=A.o.2.1;go_simp
     all_goals first | exact RecW.ExtR.refl _ | exact ⟨A.o.2.1,RecW.ExtR.refl _⟩
   go_frame;refine GrowN.g_con rfl (λw E B=>?_) ?_
   . clear B
     have hx:=A.o.2.2.1;go_simp
     all_goals first | exact RecW.ExtR.refl _ | exact ⟨A.o.2.1,RecW.ExtR.refl _⟩
   go_frame;refine GrowN.g_con rfl (λw E B=>?_) ?_
   . clear B
     have hx:=A.o.2.2.2;go_simp
     all_goals first | exact RecW.ExtR.refl _ | exact ⟨A.o.2.1,RecW.ExtR.refl _⟩
   go_frame;refine GrowN.g_nil λw7 Z B=>?_
   clear B;have am:=zq (HK.o w7 Z).2.2.2.2.2.2;clear Z HK H5;go_wp2_with fail;go_roundw
   case rel=>exact .inr ⟨rfl,by go_num,am⟩
   case measure=>simp [intOf]
  . go_wp2_with fail
    go_ret;exact ⟨rfl,HB2.o⟩
theorem akz {V w:World} {sb tb:Nat} {S1:StoD} {X:TabD} {C:CqD} {D:DiskD} {Y:KxD} {l:List (Nat×Msg)} {mk og:Nat} {dv:Value} {g t:List UInt8} {q at0:Int} (h:AckI V w sb tb S1 X C D Y l mk og dv g t q at0) (hl:∀ p∈l,p.2.topic=t/\p.2.queue=q) (hat:0<=at0/\at0<=(l.length:Int)) (hll:l.length<=1000) :
 Calls Tryz.prog 11 #[.pointer (some ⟨sb,0,none⟩),.string (S g)] w λe w'=>e=.returned (.int .i64 ((l.length:Int) - at0))/\Below w.heap.size w w':=by
 obtain ⟨c1,c4,_,hd,ak⟩:=h.get
 have A:∀ x∈C.qs,x.topic=t/\x.q=q:=λx B=>by
  obtain ⟨p,hp,e1,e2⟩:=hd.src x B;obtain ⟨e3,e4⟩:=hl p hp;exact ⟨e1.trans e3,e2.trans e4⟩
 have J:j3 t q l=l.length:=by
  unfold j3;rw [List.filter_eq_self.2 λp hp=>by unfold isQ; rw [(hl p hp).1,(hl p hp).2]; simp]
 match hq:C.qs with
 | [] =>
   have Z:l=[]:=by
    match l,hd with
    | [],_=>rfl
    | p :: l,hd=>obtain ⟨x,B,_⟩:=hd.has p (.head _); rw [hq] at B; cases B
   subst Z;have h0:at0=0:=by have E:at0<=((0:Nat):Int):=hat.2; omega
   subst h0;have F:=hd.cq.map;rw [hq] at F;exact apz sb C.blk (S g) w c1 (apy C.blk C.mB _ w hd.cq.cells F)
 | x :: y :: r =>
   have hu:=hd.uniq;rw [hq] at hu;have h1:=A x (by rw [hq]; exact .head _);have E:=A y (by rw [hq]; exact .tail _ (.head _));exact absurd ⟨h1.1.trans E.1.symm,h1.2.trans E.2.symm⟩ ((List.pairwise_cons.1 hu).1 y (.head _))
 | [x] =>
   have B:x∈C.qs:=by rw [hq]; exact .head _
   obtain ⟨M,N⟩:=A x B;have I:=hd.que x B;have ab:x.R.txt=ofQ t q l:=by rw [I.txt,M,N]
   have he:x.b0+x.R.e / 20=l.length:=by
    unfold SegD.e;rw [I.b0,I.b,ab,ab2 t q l hd.ents,<- J];show 0+(0+20 * j3 t q l) / 20=_;omega
   have F:=hd.cq.map;rw [hq] at F;have ac:x.key=.agg #[.string (S t),.int .i64 q]:=by unfold QueD.key; rw [M,N]
   rw [List.map_cons,List.map_nil,ac] at F;have ad:x.cells=#[.pointer (some ⟨x.R.blk,0,none⟩),.int .i64 0,.int .i64 0]:=by unfold QueD.cells; rw [I.b0,I.least]; rfl
   have O:=(hd.cq.que x B).1;rw [ad] at O;refine aru sb C.blk og (S g) (S t) q (l.length:Int) at0 ⟨hat.1,hat.2,by omega⟩ w (λw2 hb=>?_) (art C.blk C.mB x.blk _ (S t) q (l.length:Int) w hd.cq.cells F (aa O 2 _ rfl) λw2 hb=>?_)
   . obtain ⟨d1,d4,d5,_,_⟩:=(h.below hb).get
     exact ⟨d1,d4,d5⟩
   . have E:=(hd.below hb).cq.que x B
     have U:=CqW.next_any w2 E.1 E.2.1 (by rw [I.b0]; omega);rw [he] at U;exact U
end RetW
end Go.Proofs.YtckjigopecocaaaGreatDoor
