/- send: the record of what is sent; Send. And what follows. -/
import Derived.Test.YtcgonejkkpbepaaGreatDoorR09
set_option linter.unusedVariables false
set_option linter.unusedSimpArgs false
set_option maxHeartbeats 25600000
set_option maxRecDepth 100000
namespace Go.Proofs.YtcgonejkkpbepaaGreatDoor
namespace SndW
open Go.RowKit Go.MapKept Go.Sort OctMath RecMath RecW DskW SegW TapeW TapeMath PendW CacheW StoW TopW NameMath
def pu (x:lu) (ki due now:Int):Msg:=⟨ki,x.queue,due,0,0,now,x.topic,x.tag,x.body,x.keys⟩
theorem ap7 (ts:List (List UInt8)):ts.map encStr=(ts.map S).map Value.string:=by rw [List.map_map]; rfl
theorem ajl (x:lu) (hx:xu x) (ki due now:Int) (a:Option Addr) (c:Nat) (W:World) (hS:Strs W a (x.keys.map S)) :
 Calls Tryz.prog 29 #[.agg (gp x a c),.int .i64 ki,.int .i64 due,.int .i64 now] W λe w'=>∃ a' c',e=.returned (.agg (ae (pu x ki due now) a' c'))/\Strs w' a' (x.keys.map S)/\Below W.heap.size W w':=by
 have O:Below W.heap.size W ((W.alloc (.cells (gp x a c) 42)).alloc (.cells #[.int .i64 0,.int .i64 0,.int .i64 0,.int .i64 0,.int .i64 0,.int .i64 0,.string ⟨#[]⟩,.string ⟨#[]⟩,.string ⟨#[]⟩,.slice none 0 0] 69)):=((Below.refl _ W).alloc (Nat.le_refl _) _).alloc (by rw [World.size_alloc]; omega) _;have ac:((W.alloc (.cells (gp x a c) 42)).alloc (.cells #[.int .i64 0,.int .i64 0,.int .i64 0,.int .i64 0,.int .i64 0,.int .i64 0,.string ⟨#[]⟩,.string ⟨#[]⟩,.string ⟨#[]⟩,.slice none 0 0] 69)).heap[W.heap.size]?=some (.cells (gp x a c) 42 (0,0)):=jd ((Below.refl _ _).alloc (Nat.le_refl _) _) (heap_alloc_new W _)
 have B:((W.alloc (.cells (gp x a c) 42)).alloc (.cells #[.int .i64 0,.int .i64 0,.int .i64 0,.int .i64 0,.int .i64 0,.int .i64 0,.string ⟨#[]⟩,.string ⟨#[]⟩,.string ⟨#[]⟩,.slice none 0 0] 69)).heap[W.heap.size+1]?=some (.cells #[.int .i64 0,.int .i64 0,.int .i64 0,.int .i64 0,.int .i64 0,.int .i64 0,.string ⟨#[]⟩,.string ⟨#[]⟩,.string ⟨#[]⟩,.slice none 0 0] 69 (0,0)):=by
  have:=heap_alloc_new (W.alloc (.cells (gp x a c) 42)) (.cells #[.int .i64 0,.int .i64 0,.int .i64 0,.int .i64 0,.int .i64 0,.int .i64 0,.string ⟨#[]⟩,.string ⟨#[]⟩,.string ⟨#[]⟩,.slice none 0 0] 69);rw [World.size_alloc] at this;exact this
 have R:=zq O;have U:=zq ac;have J:=zq B;have ak:=zq (Strs.below hS O);have a1:(gp x a c).size=5:=rfl;have al:=zq (λw (hs:Strs w a (x.keys.map S))=>TagW.ak6 a c x.keys hx.keys w hs);clear O ac B hS hx;go_enter Tryz.func29,Tryz.ntmps29;go_upto_region 1 with fail
 generalize (W.alloc (.cells (gp x a c) 42)).alloc (.cells #[.int .i64 0,.int .i64 0,.int .i64 0,.int .i64 0,.int .i64 0,.int .i64 0,.string ⟨#[]⟩,.string ⟨#[]⟩,.string ⟨#[]⟩,.slice none 0 0] 69)=w1 at *
 clear a1;obtain ⟨A,hA⟩:∃ A,W.heap.size=A:=⟨_,rfl⟩;rw [hA] at U J ⊢;have a7:=zq hA;clear hA
 have HK:Zq (∀ w,RecW.ExtR w1.drew w->w.cell? ⟨A,0,none⟩=some (.string (S x.topic))/\w.cell? ⟨A,1,none⟩=some (.int .i64 x.queue)/\w.cell? ⟨A,2,none⟩=some (.string (S x.tag))/\w.cell? ⟨A,3,none⟩=some (.slice a x.keys.length c)/\w.cell? ⟨A,4,none⟩=some (.string (S x.body))/\Below w1.heap.size w1 w):=λw hw=>by
  have hb:Below w1.heap.size w1 w:=((Below.refl _ w1).drew).trans hw;have hc:=jd hb U.o;exact ⟨aa hc 0 _ rfl,aa hc 1 _ rfl,aa hc 2 _ rfl,aa hc 3 _ rfl,aa hc 4 _ rfl,hb⟩
 refine GrowN.au 14 [none,none,none,none,none,none,none,none,none,none,none,none,none,some (.inr (λ_ v w=>w.ownsRow w1.heap.size 9 1 v x.keys.length (x.keys.map encStr)))] RecW.ExtR (by kernel_rfl) (by kernel_rfl) (by kernel_rfl) RecW.ExtR.refl (λ_ _ _=>RecW.ExtR.trans) ?_ ?_
 ·
  intro K hK Y hY l v w w' hR h;simp only [List.mem_cons,List.not_mem_nil,or_false] at hK
  rcases hK with rfl | rfl | rfl | rfl | rfl | rfl | rfl | rfl | rfl | rfl | rfl | rfl | rfl | rfl <;> simp only [reduceCtorEq,Option.some.injEq,Sum.inr.injEq] at hY
  subst hY; exact OctW.ownsRow_mod h (Mod.of_below (M:=λ_=>False) hR) (λ_ x=>x.elim)
 simp only [List.take_succ_cons,List.take_zero,List.drop_succ_cons,List.drop_zero]
 iterate 13
  refine GrowN.g_det rfl ?_;apply Exists.intro;refine ⟨λw hw Z=>?_,?_⟩
  . clear Z
    obtain ⟨k0,k1,k2,k3,k4,_⟩:=HK.o w hw;go_simp;exact ⟨rfl,RecW.ExtR.refl _⟩
  go_frame
 refine GrowN.g_new rfl (λw hw Z=>?_) (λv13=>?_)
 ·
  clear Z;obtain ⟨_,_,_,_,_,hb⟩:=HK.o w hw;have a8:=zq (al.o w (Strs.below ak.o hb));have K5:Zq (w1.heap.size<=w.heap.size):=hb.size;clear hb;go_simp;exact a8.o.mono λe w3 ⟨v,h1,h2,h3⟩=>⟨_,h1,agq h2 K5.o,h3⟩
 go_frame;refine GrowN.g_nil λw2 an Z=>?_
 have N:=Z _ (.head _);clear Z;dsimp only at N;obtain ⟨a2,I,hv,F,_⟩:=Row1.of_own N;subst hv;rw [ap7] at F;obtain ⟨_,_,_,_,_,X⟩:=HK.o w2 an;have bp:=zq (Row1.to_strs F);have ao:Zq (Below W.heap.size W w2):=R.o.trans (X.mono R.o.size);have B:=jd X J.o;have HH:=zq (mi rfl B (.int .i64 ki) (.int .i64 x.queue) (.int .i64 due) (.int .i64 0) (.int .i64 0) (.int .i64 now) (.string (S x.topic)) (.string (S x.tag)) (.string (S x.body)) (.slice a2 x.keys.length I));have ap:=zq (oz w2 (A+1) (.int .i64 ki) (.int .i64 x.queue) (.int .i64 due) (.int .i64 0) (.int .i64 0) (.int .i64 now) (.string (S x.topic)) (.string (S x.tag)) (.string (S x.body)) (.slice a2 x.keys.length I));have ar:Zq ((∀ ad,a2=some ad->w1.heap.size<=ad.block)/\A+2<=w1.heap.size):=⟨λad e=>ay N ad.block (by subst e; rfl),(Array.getElem?_eq_some_iff.1 J.o).1⟩;have ba:=zq F;have y0:=aa B 0 _ rfl;have z0:=aj B 0;have y1:=aa B 1 _ rfl;have z1:=aj B 1;have y2:=aa B 2 _ rfl;have z2:=aj B 2;have y3:=aa B 3 _ rfl;have z3:=aj B 3;have y4:=aa B 4 _ rfl;have z4:=aj B 4;have y5:=aa B 5 _ rfl;have z5:=aj B 5;have y6:=aa B 6 _ rfl;have z6:=aj B 6;have y7:=aa B 7 _ rfl;have z7:=aj B 7;have y8:=aa B 8 _ rfl;have z8:=aj B 8;have y9:=aa B 9 _ rfl;have z9:=aj B 9;clear B N F X an HK al ak U J R;go_wp2_with fail;clear y0 y1 y2 y3 y4 y5 y6 y7 y8 y9 z0 z1 z2 z3 z4 z5 z6 z7 z8 z9;change bodyPost _ _ _ _ _ (yh w2 (A+1) (.int .i64 ki) (.int .i64 x.queue) (.int .i64 due) (.int .i64 0) (.int .i64 0) (.int .i64 now) (.string (S x.topic)) (.string (S x.tag)) (.string (S x.body)) (.slice a2 x.keys.length I));generalize yh w2 (A+1) (.int .i64 ki) (.int .i64 x.queue) (.int .i64 due) (.int .i64 0) (.int .i64 0) (.int .i64 now) (.string (S x.topic)) (.string (S x.tag)) (.string (S x.body)) (.slice a2 x.keys.length I)=w9 at *
 have E:=HH.o;have c0:=aa E 0 _ rfl;have c1:=aa E 1 _ rfl;have c2:=aa E 2 _ rfl;have c3:=aa E 3 _ rfl;have c4:=aa E 4 _ rfl;have c5:=aa E 5 _ rfl;have c6:=aa E 6 _ rfl;have c7:=aa E 7 _ rfl;have c8:=aa E 8 _ rfl;have c9:=aa E 9 _ rfl;have bb:Below W.heap.size W w9:=ao.o.trans (ap.o.to_below _ ao.o.size (λk e=>by have:=a7.o; omega));have bc:Strs w9 a2 (x.keys.map S):=Row1.to_strs (Row1.mod ba.o ap.o λad e h=>by have h1:=ar.o.1 ad e; have h2:=ar.o.2; omega);refine bodyPost_ret (v:=.agg (ae (pu x ki due now) a2 I)) ?_ rfl ⟨a2,I,rfl,bc,bb⟩;clear E;simp [results,Tryz.results29,go_sem,ae,pu,c0,c1,c2,c3,c4,c5,c6,c7,c8,c9]
theorem Put.mono {B B2:Nat} {S0 S1:StoD} {m:Msg} {sy:Bool} (h:Put B S0 S1 m sy) (hb:B2<=B):Put B2 S0 S1 m sy :=
 { h with foot:=λk hk=>(h.foot k hk).imp (λh=>h) λh=>by omega }
theorem StoTab.put {base B:Nat} {w w':World} {S0 S1:StoD} {X:TabD} {m:Msg} {sy:Bool} (h:StoTab base w S0 X) (h1:StoAt base w' S1) (hp:Put B S0 S1 m sy) (hm:Mod S0.foot w w') (hb:w.heap.size<=B):StoTab base w' S1 X :=
 ⟨h1,h.tab.mod hm (λk hk A=>h.away k A hk),by rw [hp.same]; exact h.top,by rw [h.dk,hp.dblk],λk hk A=>(hp.foot k hk).elim (λE=>h.away k E A) λE=>by have:=h.tab.lt A; omega⟩
theorem ahg {l:List (List UInt8×Nat)} {n:List UInt8} {q:Int} (hp:∀ y∈l,ig y.1=true/\y.2<=3) (h0:(ofL n).isEmpty=true) (h:pg l n q=0):ig n=true/\0<=q/\q < 3:=by
 unfold pg at h
 split at h
 . cases h
 ·
  rename_i h1
  split at h
  . cases h
  ·
   rename_i A
   unfold qa at h1 A;rw [if_pos h0] at h1 A
   cases hf:l.find? λx=>decide (x.1=n) with
   | none=>rw [hf] at h1; exact absurd rfl h1
   | some y =>
     have B:=hp y (List.mem_of_find?_eq_some hf);have E:y.1=n:=by simpa using List.find?_some hf
     rw [hf] at A;have F:¬ (q < 0\/(y.2:Int)<=q):=A;exact ⟨E ▸ B.1,by omega,by omega⟩
theorem zk {l:List (List UInt8×Nat)} {x:lu} (hp:∀ y∈l,ig y.1=true/\y.2<=3) (h:pq l x=0) {ki due now:Int} (hk:ki=1/\due=0\/ki=2) (hd:gq due=false) (hn:gq now=false):df (pu x ki due now)=true:=by
 unfold pq at h
 split at h
 . cases h
 ·
  rename_i h1
  have A:(ofL x.topic).isEmpty=true:=by simpa using h1
  split at h
  . rename_i B; exact absurd h B
  ·
   rename_i B
   split at h
   . cases h
   ·
    rename_i N
    split at h
    . cases h
    ·
     rename_i X
     split at h
     ·
      rename_i O
      obtain ⟨g1,g2,g3⟩:=ahg hp A (by simpa using B);have E:(apa x.tag && x.keys.all og)=true:=by simpa using N
      have F:cu (pu x ki due now)=true:=by
       unfold cu lc;obtain ⟨R,U⟩:=Bool.and_eq_true_iff.1 E;simp only [pu,g1,R,U,O,Bool.true_or,Bool.true_and,Bool.and_true,decide_true];simp only [Bool.and_eq_true,decide_eq_true_eq];exact ⟨⟨⟨⟨⟨decide_eq_true g2,decide_eq_true g3⟩,rfl⟩,rfl⟩,decide_eq_true (by omega)⟩,decide_eq_true (by omega)⟩
      unfold df;have I:gq (pu x ki due now).ref=false:=rfl;have J:gq (pu x ki due now).due=false:=hd;have M:gq (pu x ki due now).born=false:=hn;rw [I,J,M,F]
      rcases hk with ⟨rfl,rfl⟩ | rfl
      . rfl
      . rfl
     . cases h
theorem ap8 {x:lu} (hx:xu x) {ki due now:Int} (h1:inI ki) (h2:inI due) (h3:inI now):um (pu x ki due now) :=
 ⟨h1,hx.queue,h2,acl,acl,h3,hx.topic,hx.tag,hx.body,hx.keys,hx.key⟩
theorem aop {base:Nat} {S0:StoD} {X:TabD} (x:lu) (sy:Bool) (hx:xu x) (r:Int) (hc:pq X.l x=r) (h0:r≠0) (a:Option Addr) (c:Nat) (W:World) (h:StoTab base W S0 X) (hl:X.l.length<=1000) (hS:Strs W a (x.keys.map S)) :
 Calls Tryz.prog 12 #[.pointer (some ⟨S0.blk,0,none⟩),.agg (gp x a c),.bool sy] W λe w'=>e=.returned (.tuple #[.int .i64 0,.int .i64 r])/\Below W.heap.size W w':=by
 have E:Zq (Below W.heap.size W (W.alloc (.cells (gp x a c) 42))):=(Below.refl _ W).alloc (Nat.le_refl _) _;have B:Zq (RecW.Boxed (W.alloc (.cells (gp x a c) 42)) W.heap.size (gp x a c)):=RecW.Boxed.new W _ _;have F:=zq (adz x hx a c _ (h.below E.o) hl (Strs.below hS E.o));rw [hc] at F;have I:(gp x a c).size=5:=rfl;have N:(r != 0)=true:=bne_iff_ne.2 h0;clear h hS hx hc h0;go_enter Tryz.func12,Tryz.ntmps12;go_upto_region 1 with fail
 generalize W.alloc (.cells (gp x a c) 42)=w1 at *
 clear I;obtain ⟨A,M⟩:∃ A,W.heap.size=A:=⟨_,rfl⟩;rw [M] at B ⊢;have O:w1.cell? ⟨A,0,none⟩=some (.string (S x.topic)):=B.o 0 _ rfl;have k1:w1.cell? ⟨A,1,none⟩=some (.int .i64 x.queue):=B.o 1 _ rfl;have R:w1.cell? ⟨A,2,none⟩=some (.string (S x.tag)):=B.o 2 _ rfl;have U:w1.cell? ⟨A,3,none⟩=some (.slice a x.keys.length c):=B.o 3 _ rfl;have Y:w1.cell? ⟨A,4,none⟩=some (.string (S x.body)):=B.o 4 _ rfl;rw [show gp x a c=#[.string (S x.topic),.int .i64 x.queue,.string (S x.tag),.slice a x.keys.length c,.string (S x.body)] from rfl] at F;clear M;go_wp2_with fail;refine F.o.mono ?_;rintro e w2 ⟨rfl,hb⟩;have J:Zq (Below W.heap.size W w2):=E.o.trans (hb.mono E.o.size);clear hb F O k1 R U Y;go_wp2_with fail;go_ret2;exact ⟨rfl,J.o⟩
theorem aoq {base:Nat} {S0:StoD} {X:TabD} (x:lu) (sy:Bool) (hx:xu x) (hc:pq X.l x=0) (a:Option Addr) (c:Nat) (W:World) (h:StoTab base W S0 X) (hl:X.l.length<=1000) (hS:Strs W a (x.keys.map S)) (idn r:Int) (Q:World->World->Prop)
 (HPO:Zq (∀ (I:Option Addr) (M:Nat) (w:World),Below W.heap.size W w->Strs w I (x.keys.map S)->Calls Tryz.prog 28 #[.pointer (some ⟨S0.blk,0,none⟩),.agg (ae (pu x 1 0 S0.now) I M),.bool sy] w λe w'=>e=.returned (.tuple #[.int .i64 idn,.int .i64 r])/\Q w w')) :
 Calls Tryz.prog 12 #[.pointer (some ⟨S0.blk,0,none⟩),.agg (gp x a c),.bool sy] W λe w'=>e=.returned (.tuple #[.int .i64 idn,.int .i64 r])/\∃ w3,Below W.heap.size W w3/\Q w3 w':=by
 have J:Zq (Below W.heap.size W (W.alloc (.cells (gp x a c) 42))):=(Below.refl _ W).alloc (Nat.le_refl _) _;have B:Zq (RecW.Boxed (W.alloc (.cells (gp x a c) 42)) W.heap.size (gp x a c)):=RecW.Boxed.new W _ _;have HC:=zq (adz x hx a c _ (h.below J.o) hl (Strs.below hS J.o));rw [hc] at HC;have ao:(gp x a c).size=5:=rfl;have O:=zq (λ(w:World) (hb:Below W.heap.size W w)=>ajl x hx 1 0 S0.now a c w (Strs.below hS hb));have R:=zq (λ(w:World) (hb:Below W.heap.size W w)=>akb w (h.sto.below hb));clear h hS hx hc;go_enter Tryz.func12,Tryz.ntmps12;go_upto_region 1 with fail
 generalize W.alloc (.cells (gp x a c) 42)=w1 at *
 clear ao;obtain ⟨A,hA⟩:∃ A,W.heap.size=A:=⟨_,rfl⟩;have bh:=zq hA;rw [hA] at B ⊢;have k0:w1.cell? ⟨A,0,none⟩=some (.string (S x.topic)):=B.o 0 _ rfl;have k1:w1.cell? ⟨A,1,none⟩=some (.int .i64 x.queue):=B.o 1 _ rfl;have k2:w1.cell? ⟨A,2,none⟩=some (.string (S x.tag)):=B.o 2 _ rfl;have k3:w1.cell? ⟨A,3,none⟩=some (.slice a x.keys.length c):=B.o 3 _ rfl;have k4:w1.cell? ⟨A,4,none⟩=some (.string (S x.body)):=B.o 4 _ rfl;rw [show gp x a c=#[.string (S x.topic),.int .i64 x.queue,.string (S x.tag),.slice a x.keys.length c,.string (S x.body)] from rfl] at HC;clear hA;go_wp2_with fail;refine HC.o.mono ?_;rintro e w2 ⟨rfl,hb⟩;have F:Zq (Below W.heap.size W w2):=J.o.trans (hb.mono J.o.size);have U:=zq (B.o.below hb);clear hb HC k0 k1 k2 k3 k4 B J;go_upto_region 4 with fail
 rw [show gp x a c=#[.string (S x.topic),.int .i64 x.queue,.string (S x.tag),.slice a x.keys.length c,.string (S x.body)] from rfl] at O
 have Z:Zq (∀ w,RecW.ExtR w2.drew w->w.cell? ⟨A,0,none⟩=some (.string (S x.topic))/\w.cell? ⟨A,1,none⟩=some (.int .i64 x.queue)/\w.cell? ⟨A,2,none⟩=some (.string (S x.tag))/\w.cell? ⟨A,3,none⟩=some (.slice a x.keys.length c)/\w.cell? ⟨A,4,none⟩=some (.string (S x.body))/\Below w2.heap.size w2 w):=λw N=>by
  have hb:Below w2.heap.size w2 w:=((Below.refl _ w2).drew).trans N;have hc:=U.o.below hb;exact ⟨hc 0 _ rfl,hc 1 _ rfl,hc 2 _ rfl,hc 3 _ rfl,hc 4 _ rfl,hb⟩
 refine GrowM.jh (by kernel_rfl) ?_;refine GrowM.jl 6 [none,none,none,some (.inl (.int .i64 S0.now)),some (.inr (λ_ v w=>∃ I M,v=.agg (ae (pu x 1 0 S0.now) I M)/\Strs w I (x.keys.map S))),none] RecW.ExtR (by kernel_rfl) (by kernel_rfl) RecW.ExtR.refl (λ_ _ _=>RecW.ExtR.trans) ?_ ?_
 ·
  intro K hK Y hY l v w w' hR h;simp only [List.mem_cons,List.not_mem_nil,or_false] at hK
  rcases hK with rfl | rfl | rfl | rfl | rfl | rfl <;> simp only [reduceCtorEq,Option.some.injEq,Sum.inr.injEq] at hY
  subst hY; obtain ⟨I,M,e,hs⟩:=h; exact ⟨I,M,e,Strs.below hs hR⟩
 simp only [List.take_succ_cons,List.take_zero,List.drop_succ_cons,List.drop_zero,Nat.reduceSub]
 iterate 3
  refine GrowN.g_det rfl ?_;apply Exists.intro;refine ⟨λw N E=>?_,?_⟩
  . clear E
    obtain ⟨k0,k1,k2,k3,k4,_⟩:=Z.o w N;go_simp;exact ⟨rfl,RecW.ExtR.refl _⟩
  go_frame
 refine GrowN.g_con rfl (λw N E=>?_) ?_
 ·
  clear E;obtain ⟨_,_,_,_,_,hb⟩:=Z.o w N;have ar:=zq (R.o w (F.o.trans (hb.mono F.o.size)));clear hb;go_simp;exact ar.o.mono λe w3 ⟨h1,h2⟩=>⟨_,h1,rfl,h2 ▸ RecW.ExtR.refl _⟩
 go_frame;refine GrowN.g_new rfl (λw N E=>?_) (λv4=>?_)
 ·
  clear E;obtain ⟨_,_,_,_,_,hb⟩:=Z.o w N;have a1:=zq (O.o w (F.o.trans (hb.mono F.o.size)));clear hb;go_simp;exact a1.o.mono λe w3 ⟨I,M,h1,h2,h3⟩=>⟨_,h1,⟨I,⟨M,rfl⟩,h2⟩,h3⟩
 go_frame;refine GrowN.g_det rfl ?_;apply Exists.intro;refine ⟨λw N E=>?_,?_⟩
 . clear E
   go_simp;exact ⟨rfl,RecW.ExtR.refl _⟩
 go_frame;refine GrowN.g_nil λw3 ab E=>?_
 obtain ⟨I,M,rfl,ac⟩:=E _ (.head _);clear E;obtain ⟨_,_,_,_,_,ad⟩:=Z.o w3 ab;have ak:Zq (Below W.heap.size W w3):=F.o.trans (ad.mono F.o.size);have al:=zq (HPO.o I M w3 ak.o ac);clear ac ad ab HPO O R Z U;generalize ae (pu x 1 0 S0.now) I M=cm at *
 refine GrowM.nu (λv w'=>v=.tuple #[.int .i64 idn,.int .i64 r]/\Q w3 w') (by kernel_rfl) rfl rfl ?_ ?_
 ·
  go_simp;refine al.o.mono ?_;rintro e w' ⟨rfl,hb⟩;exact ⟨_,rfl,rfl,hb⟩
 rintro v w4 ⟨rfl,am⟩;go_frame;have HM:=zq am;clear am al;refine GrowM.jl 11 [none,none,none,none] (λu v=>v=u) (by kernel_rfl) (by kernel_rfl) (λ_=>rfl) (λ_ _ _ h k=>k.trans h) ?_ ?_
 . exact GrowN.jo rfl
 simp only [List.take_succ_cons,List.take_zero,List.drop_succ_cons,List.drop_zero,Nat.reduceSub]
 iterate 4
  refine GrowN.g_det rfl ?_;apply Exists.intro;refine ⟨λw N E=>?_,?_⟩
  . obtain rfl:=N.symm
    clear E;go_simp
    first | exact rfl | exact ⟨rfl,rfl⟩
  go_frame
 refine GrowN.g_nil λwz a6 E=>?_
 obtain rfl:=a6.symm;clear E;refine GrowM.qz rfl ?_;go_wp2_with fail;go_ret2;exact ⟨rfl,w3,ak.o,HM.o⟩
theorem akg {base:Nat} {S0:StoD} {X:TabD} (x:lu) (sy:Bool) (hx:xu x) (hc:pq X.l x=0) (hp:∀ y∈X.l,ig y.1=true/\y.2<=3) (a:Option Addr) (c:Nat) (W:World) (h:StoTab base W S0 X) (hl:X.l.length<=1000) (hS:Strs W a (x.keys.map S)) (hq:Quiet S0.T.D) (hT:TabB base W) (hbase:base<=W.heap.size)
 (hnow:gq S0.now=false) (hroom:(((bv S0.T.R.e (pu x 1 0 S0.now)).length+(bg (pu x 1 0 S0.now)).length:Nat):Int)<=S0.T.D.room) (hwl:S0.T.D.waits.length<=1000000) (hfar:S0.T.R.e<=80000000) (hrl:S0.T.O.recs.length<=1000000) :
 Calls Tryz.prog 12 #[.pointer (some ⟨S0.blk,0,none⟩),.agg (gp x a c),.bool sy] W λe w'=>e=.returned (.tuple #[.int .i64 ((S0.T.R.e+(bv S0.T.R.e (pu x 1 0 S0.now)).length:Nat):Int),.int .i64 0]) /\
  ∃ S1,StoTab base w' S1 X/\Put W.heap.size S0 S1 (pu x 1 0 S0.now) sy/\Mod S0.foot W w':=by
 have E:inI S0.now:=by
  unfold gq at hnow;simp only [Bool.or_eq_false_iff,decide_eq_false_iff_not] at hnow;exact ⟨by omega,by omega⟩
 refine (aoq x sy hx hc a c W h hl hS _ 0 _ (zq (λ(J:Option Addr) (N:Nat) (w:World) (hb:Below W.heap.size W w) (U:Strs w J (x.keys.map S))=>put_ok (pu x 1 0 S0.now) sy (ap8 hx (by unfold inI; decide) acl E) (zk hp hc (.inl ⟨rfl,rfl⟩) rfl hnow) (by show (1:Int)≠0; decide) J N w (h.sto.below hb) U hq (hT.below hb) (Nat.le_trans hbase hb.size) hroom hwl hfar hrl))).mono ?_;rintro e w' ⟨rfl,w3,B,S1,F,A,M⟩;have I:StoTab base w3 S0 X:=h.below B;exact ⟨rfl,S1,StoTab.put I F A M (Nat.le_refl _),Put.mono A B.size,(Mod.of_below B).trans M⟩
end SndW
namespace StoW
open Go.RowKit Go.MapKept OctMath RecMath RecW TapeMath DskW SegW MapG TapeW PendW CacheW CqW
theorem ahh {base:Nat} {w:World} {D:DiskD} (h:DiskAt base w D) (hf:D.files=[]) (hv:D.wv=.slice none 0 0) {n:Nat} (h1:n<=D.blk) (h2:n<=D.mB):∀ k,D.foot k->n<=k:=λk hk=>by
 rcases hk with e | e | ⟨p,hp,_⟩ | e
 . omega
 . omega
 . rw [hf] at hp; cases hp
 . rw [hv] at e; cases e
theorem abk {D:DiskD} {c:Int} (hf:D.files=[]) (hc:D.cap=c):D.room=c:=by
 unfold DiskD.room DiskD.size;rw [hf,hc];show c - ((0:Nat):Int)=c;omega
theorem aor {n:List UInt8} (h:∀ x l,n=116 :: 97 :: x :: l->False):∀ p,p<=99999999->n≠af ol p:=λp _ e=>h 112 _ e
theorem arc {base:Nat} {w:World} {T:TapeD} (h:TapeAt base w T) (hi:T.its=[]) (hb:T.R.b=0):T.R.e=0:=by
 have:=xh h;rw [hi,hb] at this;exact this
theorem ae7 {base:Nat} {w:World} {T:TapeD} (h:TapeAt base w T) (hi:T.its=[]):T.O.recs=[]:=by
 rw [h.recs,hi]; rfl
theorem ahi {base B:Nat} {w w2:World} {S0 S1:StoD} {m:Msg} {sy:Bool} (h:StoAt base w S0) (h1:StoAt base w2 S1) (hp:Put B S0 S1 m sy) :
 S1.T.O.recs=S0.T.O.recs++[(S0.T.R.e+(bv S0.T.R.e m).length,m)]:=by
 rw [h1.tape.recs,hp.its,hp.b,ac6,<- xh h.tape,abz,<- h.tape.recs]
theorem ahj {base B:Nat} {w w2:World} {S0 S1:StoD} {m:Msg} {sy:Bool} (h:StoAt base w S0) (h1:StoAt base w2 S1) (hp:Put B S0 S1 m sy) :
 (S0.T.R.e+(bv S0.T.R.e m).length,m)∈S1.T.O.recs/\S1.T.O.recs.length=S0.T.O.recs.length+1/\S1.T.R.e=S0.T.R.e+(bv S0.T.R.e m).length+(bg m).length:=by
 have E:=xh h.tape;have F:=xh h1.tape
 have A:S1.T.O.recs=S0.T.O.recs++[(S0.T.R.e+(bv S0.T.R.e m).length,m)]:=by
  rw [h1.tape.recs,hp.its,hp.b,ac6,<- E,abz,<- h.tape.recs]
 refine ⟨by rw [A]; simp,by rw [A]; simp,?_⟩;rw [F,hp.b,hp.its,ru,tq,List.length_append,List.length_append];omega
end StoW
namespace SndW
open Go.RowKit Go.MapKept Go.Sort OctMath RecMath RecW DskW SegW TapeW TapeMath PendW CacheW StoW TopW NameMath CqW
def ar7 (lo:Nat) (w:World) (S:StoD) (X:TabD) (N:Nat->Prop):Prop:=∃ ob d,S.off=.pointer (some ⟨ob,0,none⟩)/\w.heap[ob]?=some (.cells #[d,.slice none 0 0] 243 (0,0))/\lo<=ob/\¬ S.foot ob/\¬ X.foot ob/\¬ N ob
def DisX (base lo:Nat) (w:World) (S:StoD) (X:TabD) (r:Int):Prop:=∃ C D Y B,DisB base B (λk=>lo<=k) w S C D Y [] 0 0 r/\(∀ k,X.foot k->¬ ni C D Y k/\k≠B)/\ar7 lo w S X (λk=>ni C D Y k\/k=B)
theorem DisX.next {base lo:Nat} {w w':World} {S S':StoD} {X X':TabD} {r:Int} (h:DisX base lo w S X r) (hm:Mod (λk=>S.foot k\/X.foot k) w w') (e1:S'.cq=S.cq) (e2:S'.kx=S.kx) (e3:S'.dp=S.dp) (e4:S'.T.O.blk=S.T.O.blk) (e5:S'.off=S.off) (hf:∀ k,S'.foot k->S.foot k\/w.heap.size<=k) (hx:∀ k,X'.foot k->X.foot k\/w.heap.size<=k):DisX base lo w' S' X' r:=by
 obtain ⟨C,D,Y,B,h1,E,A,d,g1,g2,g3,g4,g5,g6⟩:=h;have F:=(Array.getElem?_eq_some_iff.1 g2).1;refine ⟨C,D,Y,B,h1.next hm (λk hk=>hk.elim (h1.apart k) (E k)) e1 e2 e3 e4 hf,λk hk=>(hx k hk).elim (E k) λJ=>⟨λI=>?_,λe=>?_⟩,A,d,e5.trans g1,(hm.block A F (λh=>h.elim g4 g5)).trans g2,g3,λh=>(hf A h).elim g4 λh=>by omega,λh=>(hx A h).elim g5 λh=>by omega,g6⟩
 . have:=h1.inv.lt I; omega
 . have:=(Array.getElem?_eq_some_iff.1 h1.cell).1; omega
theorem DisX.below {base lo:Nat} {w w':World} {S:StoD} {X:TabD} {r:Int} (h:DisX base lo w S X r) (hb:Below w.heap.size w w'):DisX base lo w' S X r :=
 h.next (Mod.of_below hb) rfl rfl rfl rfl rfl (λ_ h=>.inl h) (λ_ h=>.inl h)
structure MadeI (base:Nat) (W w:World) (D:DiskD) (now used:Int) (S:StoD) (X:TabD):Prop where
 st:StoTab base w S X
 now:S.now=now
 its:S.T.its=[]
 b:S.T.R.b=0
 syn:S.T.R.synced=S.T.R.e
 wt:S.T.D.waits=[]
 q:Quiet S.T.D
 db:S.T.D.blk=D.blk
 room:D.room - used<=S.T.D.room
 files:∀ p∈S.T.D.files,p.1=jg
 fl:S.T.D.files.length<=1
 pend:S.P.all=[]
 mod:Mod D.foot W w
 foot:∀ k,S.foot k->D.foot k\/W.heap.size<=k
 xfoot:∀ k,X.foot k->W.heap.size<=k
 low:base<=W.heap.size
 dis:DisX base W.heap.size w S X 4194184
 tb:X.l=[]\/∃ f,S.T.D.find jg=some f/\f.now=CrcMath.ag (ug X.l)
theorem MadeI.below {base:Nat} {W w w':World} {D:DiskD} {now used:Int} {S:StoD} {X:TabD} (h:MadeI base W w D now used S X) (hb:Below w.heap.size w w'):MadeI base W w' D now used S X :=
 { h with st:=h.st.below hb,mod:=h.mod.trans (Mod.of_below hb),dis:=h.dis.below hb }
theorem ad1 {base:Nat} {w:World} {S0:StoD} {X:TabD} (h:StoTab base w S0 X):w.cell? ⟨S0.blk,3,none⟩=some (.pointer (some ⟨X.blk,0,none⟩)) :=
 (h.sto.cell 3 _ rfl).trans (by show some S0.top=_; rw [h.top])
theorem ajm:∀ p,p<=99999999->jg≠af ol p:=aor λx l e=>by cases e
theorem MadeI.add {base:Nat} {W w:World} {D:DiskD} {now used:Int} {S0:StoD} {X:TabD} (h:MadeI base W w D now used S0 X) (n:List UInt8) (q:Nat) (u:Int) (hok:o9 X.l n q=0) (hn:n.length<=1000) (hl:∀ x∈X.l,x.1.length<=1000/\x.2<=255)
 (hu:used+((CrcMath.ag (ug (X.l++[(n,q)]))).length:Int)=u) (hr:u<=D.room) :
 Calls Tryz.prog 26 #[.pointer (some ⟨X.blk,0,none⟩),.string (S n),.int .i64 (q:Int)] w λe w'=>e=.returned (.int .i64 0)/\∃ S1 X1,MadeI base W w' D now u S1 X1/\X1.l=X.l++[(n,q)]/\X1.blk=X.blk/\S1.blk=S0.blk:=by
 have M:=h.st.tab;have E:=h.st.dk;have hz:=h.mod.size;obtain ⟨xb,dk,v,l⟩:=X;dsimp only at *
 subst E
 have hc:=arb (D:=S0.T.D) n q w M h.st.sto.tape.whole.dsk (λk hk e=>h.st.away k (.inr (.inl (.inr (.inl hk)))) (by subst e; exact .inl rfl)) h.q h.wt (λx O=>by
  obtain ⟨p,hp,rfl⟩:=List.mem_map.1 O;rw [h.files p hp]; decide) (by have:=h.fl; omega) (λp hp=>by rw [h.files p hp]; decide) hok hn hl (by have:=h.room; omega) (by have:=h.low; omega)
 refine hc.mono λe w' ⟨R,U,b,wv,m,h1,Y,F,Z,h5,h6,I⟩=>⟨R,S0.disk (DiskD.saved S0.T.D jg b (CrcMath.ag (ug (l++[(n,q)]))) wv),⟨xb,S0.T.D.blk,U,l++[(n,q)]⟩,?_,rfl,rfl,rfl⟩
 obtain ⟨hs,J⟩:=h.st.add ajm h.wt Y h1 F Z h5 h6 I
 have B:(DiskD.saved S0.T.D jg b (CrcMath.ag (ug (l++[(n,q)]))) wv).files=[(jg,⟨b,CrcMath.ag (ug (l++[(n,q)])),CrcMath.ag (ug (l++[(n,q)]))⟩)]:=by
  show without S0.T.D.files jg++_=_;have:without S0.T.D.files jg=[]:=List.filter_eq_nil_iff.2 λp hp=>by simp [h.files p hp]
  rw [this]; rfl
 have ak:=ajj (D:=S0.T.D) (n:=jg) (t:=CrcMath.ag (ug (l++[(n,q)]))) (b:=b) (wv:=wv);refine ⟨hs,h.now,h.its,h.b,h.syn,h.wt,⟨h.q.left,h.q.up⟩,h.db,by have:=h.room; show _<=(DiskD.saved S0.T.D jg b (CrcMath.ag (ug (l++[(n,q)]))) wv).room; omega,λp hp=>?_,?_,h.pend,?_,λk hk=>(J k hk).elim (h.foot k) λh=>.inr (by omega),λk hk=>?_,h.low,h.dis.next (F.mono λk _ hk=>hk.elim (λA=>.inl (.inr (.inl (.inr (.inl A))))) λe=>.inr (.inl e)) rfl rfl rfl rfl rfl J λk hk=>hk.elim (λe=>.inl (.inl e)) λA=>.inr (I k A).1,.inr ⟨⟨b,CrcMath.ag (ug (l++[(n,q)])),CrcMath.ag (ug (l++[(n,q)]))⟩,?_,rfl⟩⟩
 . have hp:p∈(DiskD.saved S0.T.D jg b (CrcMath.ag (ug (l++[(n,q)]))) wv).files:=hp
   rw [B,List.mem_singleton] at hp; rw [hp]
 . show (DiskD.saved S0.T.D jg b (CrcMath.ag (ug (l++[(n,q)]))) wv).files.length<=1
   rw [B]; exact Nat.le_refl _
 . exact ((h.mod.mono (N:=λk=>D.foot k\/W.heap.size<=k) λk _ A=>.inl A).trans (F.mono (N:=λk=>D.foot k\/W.heap.size<=k) λk _ hk=>hk.elim (λA=>h.foot k (.inr (.inl (.inr (.inl A))))) λe=>.inr (h.xfoot k (.inl e)))).mono λk hk A=>A.elim (λh=>h) λh=>by omega
 . rcases hk with hk | hk
   . exact h.xfoot k (.inl hk)
   . have:=(I k hk).1; omega
 ·
  show DiskD.find (DiskD.saved S0.T.D jg b (CrcMath.ag (ug (l++[(n,q)]))) wv) jg=_;unfold DiskD.find;rw [B];rfl
def ad2:List (List UInt8×Nat):=[([97],1),([98],3),([108,111,110,103,45,116,111,112,105,99,45,110,97,109,101,49],2)]
theorem amc:((CrcMath.ag (ug ([]++[([97],1)]))).length:Int)=9:=by rw [CrcMath.jf]; decide
theorem amd:((CrcMath.ag (ug ([([97],1)]++[([98],3)]))).length:Int)=13:=by rw [CrcMath.jf]; decide
theorem ame:((CrcMath.ag (ug ([([97],1),([98],3)]++[([108,111,110,103,45,116,111,112,105,99,45,110,97,109,101,49],2)]))).length:Int)=32:=by rw [CrcMath.jf]; decide
theorem ahk {base:Nat} {D:DiskD} (now:Nat) (W:World) (hD:DiskAt base W D) (hq:Quiet D) (hf:D.files=[]) (M:D.waits=[]) (hbase:base<=W.heap.size) (hT:TabB base W) (hnow:now<=1099511626776) (hr:200<=D.room) :
 Calls Tryz.prog 10 #[.pointer (some ⟨D.blk,0,none⟩),.int .i64 (now:Int)] W λe w'=>∃ S X,e=.returned (.tuple #[.pointer (some ⟨S.blk,0,none⟩),.bool true])/\MadeI base W w' D (now:Int) 54 S X/\X.l=ad2:=by
 have bz:=zq (DskW.new_any 4194304 base W hbase);have H1:Zq (DiskAt base W D/\Quiet D/\D.files=[]/\D.waits=[]/\200<=D.room):=⟨hD,hq,hf,M,hr⟩;have b0:=zq hT;have Z:=zq hbase;have b1:=zq hnow;clear hD hq hf M hT hbase hr hnow;go_enter Tryz.func10,Tryz.ntmps10;go_wp2_with fail;refine bz.o.mono ?_;rintro e w4 ⟨D2,rfl,ab,O,av,a1,b2,b5,F,b6,a7,a8⟩;clear bz;obtain ⟨hD,b7,b8,b9,cx⟩:=H1.o;have ba:=zq O
 have HO:=zq (ag7 (base:=base) now w4 (hD.below O) b7 b8 b9 (Nat.le_trans Z.o O.size) (b0.o.below O) ab ⟨b2,b5⟩ F (by have:=abk (c:=4194304) F (by rw [a8]; rfl); omega) b6
  (λk hk B=>by have h3:=hD.lt hk; have h4:=ahh ab F a7 av a1 k B; omega) b1.o)
 have ca:Zq (D2.room=4194304):=abk F (by rw [a8]; rfl);have bb:Zq (∀ k,D2.foot k->W.heap.size<=k):=λk hk=>ahh ab F a7 av a1 k hk
 clear ab O av a1 b2 b5 F b6 a7 a8 hD b7 b8 b9 cx b0 b1;go_wp2_with fail;refine HO.o.mono ?_;rintro e w5 ⟨S0,rfl,hS,cb,R,hb,cc,M,hq,bc,cd,bd,⟨I,b4,tv,cf,cg,da,A,ac,ci,CC,DD,YY,BB,U,E⟩,hm,cj⟩;clear HO;have db:=ba.o.size
 have ad:Zq (MadeI base W w5 D (now:Int) 0 S0 ⟨I,D.blk,tv,[]⟩):=by
  refine ⟨⟨hS,⟨A.t,agq A.r (by have:=Z.o; omega),by have:=A.lo; have:=Z.o; show base<=I; omega⟩,cf,bc.symm,λk hk B=>?_⟩,cb,R,hb,cc,M,hq,bc,by rw [cd]; omega,by rw [bd]; simp,by rw [bd]; simp,?_,?_,λk hk=>(cj k hk).imp (λh=>h) λh=>by omega,λk hk=>?_,Z.o,?_,.inl rfl⟩
  . rcases B with B | B
    . have B:k=I:=B
      subst B; exact ac _ (.inl rfl) hk
    . exact ac k (.inr (.inr B)) hk
  . rw [ci,ae7 hS.tape R]; rfl
  . exact ((Mod.of_below ba.o).trans (hm.mono (N:=λk=>D.foot k\/W.heap.size<=k) λk _ hk=>hk.imp (λh=>h) (bb.o k))).mono λk hk h=>h.elim (λh=>h) λh=>by omega
  . rcases hk with B | B
    . have B:k=I:=B
      have:=A.lo; omega
    . have:=(A.lo_all (.inr (.inr B))).1; omega
  ·
   refine ⟨CC,DD,YY,BB,{ U.mono (L':=λk=>W.heap.size<=k) (λk hk=>hk.elim (bb.o k) λh=>by omega) with room:=by have:=U.room; have:=ca.o; omega },λk hk=>?_,b4,_,cg,A.g,by have:=A.lo; omega,ac b4 (.inr (.inl rfl)),λh=>?_,λh=>?_⟩
   . rcases hk with B | B
     . have B:k=I:=B
       exact E k (.inl B)
     . exact E k (.inr (.inr B))
   . rcases h with h | h
     . exact A.lo.2.2 (show b4=I from h).symm
     . exact (A.own h).2 rfl
   . exact h.elim (E b4 (.inr (.inl rfl))).1 (E b4 (.inr (.inl rfl))).2
 have ck:=H1.o.2.2.2.2;clear hS cb R hb cc M hq bc cd bd cf cg da A ac ci U E hm cj db bb ca ba H1;have bh:=zq ck;clear ck;obtain ⟨sb,al⟩:∃ sb,S0.blk=sb:=⟨_,rfl⟩;have cm:=zq al;have c3:w5.cell? ⟨sb,3,none⟩=some (.pointer (some ⟨I,0,none⟩)):=by rw [<- al]; exact ad1 ad.o.st
 have cn:=zq (aol w5 ad.o.st.tab (by simp));rw [al];clear al;go_wp2_with fail;refine cn.o.mono ?_;rintro e w6 ⟨v',rfl,ho,bj⟩;obtain ⟨a6,dt,dc,_⟩:=RowT.own ho;subst dc;have co:=zq (ad.o.below bj);have dd:w6.cell? ⟨sb,3,none⟩=some (.pointer (some ⟨I,0,none⟩)):=by rw [bj.cell (bq c3)]; exact c3
 clear ho bj cn c3 ad;have am:=zq (co.o.add [97] 1 9 rfl (by decide) (by simp) (by rw [amc]; rfl) (by have:=bh.o; omega));rw [show ((1:Nat):Int)=1 from rfl,show S [97]=⟨#[97]⟩ from rfl] at am;change Zq (Calls _ _ #[.pointer (some ⟨I,0,none⟩),_,_] _ _) at am;go_wp2_with fail;refine am.o.mono ?_;rintro e w7 ⟨rfl,S1,X1,an,Y,bk,bl⟩;have de:=zq an;have cp:Zq (X1.l=[([97],1)]):=Y;have c7:w7.cell? ⟨sb,3,none⟩=some (.pointer (some ⟨I,0,none⟩)):=by rw [<- cm.o,<- bl]; exact (ad1 an.st).trans (by rw [bk])
 have ao:=zq (an.add [98] 3 22 (by rw [Y]; rfl) (by decide) (by rw [Y]; simp) (by rw [Y]; rw [show ([]++[([97],1)]++[([98],3)]:List (List UInt8×Nat))=[([97],1)]++[([98],3)] from rfl,amd]; rfl) (by have:=bh.o; omega));rw [show ((3:Nat):Int)=3 from rfl,show S [98]=⟨#[98]⟩ from rfl,bk] at ao;have bm:Zq (S1.blk=sb):=bl.trans cm.o;change Zq (Calls _ _ #[.pointer (some ⟨I,0,none⟩),_,_] _ _) at ao;clear an Y bk bl am co dd;go_wp2_with fail;refine ao.o.mono ?_;rintro e w8 ⟨rfl,S2,X2,ap,J,bo,bp⟩;rw [cp.o] at J;have dj:=zq ap;have c8:w8.cell? ⟨sb,3,none⟩=some (.pointer (some ⟨I,0,none⟩)):=by rw [<- bm.o,<- bp]; exact (ad1 ap.st).trans (by rw [bo])
 have ar:=zq (ap.add [108,111,110,103,45,116,111,112,105,99,45,110,97,109,101,49] 2 54 (by rw [J]; rfl) (by decide) (by rw [J]; simp) (by rw [J]; rw [show ([([97],1)]++[([98],3)]++[([108,111,110,103,45,116,111,112,105,99,45,110,97,109,101,49],2)]:List (List UInt8×Nat))=[([97],1),([98],3)]++[([108,111,110,103,45,116,111,112,105,99,45,110,97,109,101,49],2)] from rfl,ame]; rfl) (by have:=bh.o; omega));rw [show ((2:Nat):Int)=2 from rfl,show S [108,111,110,103,45,116,111,112,105,99,45,110,97,109,101,49]=⟨#[108,111,110,103,45,116,111,112,105,99,45,110,97,109,101,49]⟩ from rfl,bo] at ar;have cq:Zq (S2.blk=sb):=bp.trans bm.o;have cr:Zq (X2.l=[([97],1)]++[([98],3)]):=J;change Zq (Calls _ _ #[.pointer (some ⟨I,0,none⟩),_,_] _ _) at ar;clear ap J bo bp ao de c7 cp bm;go_wp2_with fail;refine ar.o.mono ?_;rintro e w9 ⟨rfl,S3,X3,cs,br,dk,cv⟩;rw [cr.o] at br;have dl:Zq (MadeI base W w9 D (now:Int) 54 S3 X3/\X3.l=ad2/\S3.blk=sb):=⟨cs,br,cv.trans cq.o⟩;clear cs br dk cv ar dj c8 cr cq;go_wp2_with fail;go_ret2;obtain ⟨g1,g2,g3⟩:=dl.o;exact ⟨S3,X3,by rw [g3]; rfl,g1,g2⟩
def ap9 (w:World) (a:Option Addr) (ms:List (lu×Option Addr×Nat)):Prop :=
 ∀ i (h:i < ms.length),∃ g off,a=some ⟨g,off,none⟩/\(∀ (j:Nat) (v:Value),(gp ms[i].1 ms[i].2.1 ms[i].2.2)[j]?=some v->w.cell? ⟨g,off+i * 5+j,none⟩=some v)/\Strs w ms[i].2.1 (ms[i].1.keys.map S)
def zl (x:lu):Bool:=decide (100 < x.topic.length) || (decide (100 < x.tag.length) || (decide (10 < x.keys.length) || decide (1000 < x.body.length)))
def gu (x:lu):Bool:=zl x || x.keys.any λt=>decide (100 < t.length)
theorem aqa {x:lu} (hq:inI x.queue) (h:gu x=false):xu x/\x.topic.length<=100/\x.body.length<=1000/\x.keys.length<=10:=by
 unfold gu zl at h;simp only [Bool.or_eq_false_iff,decide_eq_false_iff_not,List.any_eq_false,decide_eq_true_eq] at h;obtain ⟨⟨g1,g2,g3,g4⟩,g5⟩:=h;exact ⟨⟨hq,by omega,by omega,by omega,by omega,λt A=>by have:=g5 t A; omega⟩,by omega,by omega,by omega⟩
theorem amf (ms:List (lu×Option Addr×Nat)) (a0:Option Addr) (c0:Nat) (W:World) (h:ap9 W a0 ms) (hl:ms.length<=1073741824) :
 Calls Tryz.prog 15 #[.slice a0 ms.length c0] W λe w'=>e=.returned (.bool (ms.any λp=>gu p.1))/\Below W.heap.size W w':=by
 have HH:=zq h;have HL:=zq hl;clear h;go_enter Tryz.func15,Tryz.ntmps15;go_wp2_with fail;go_loopw [9] (λi wr=>∃ k:Nat,k<=ms.length/\i=.int .i64 (k:Int)/\Zq (((ms.take k).any λp=>gu p.1)=false/\Below W.heap.size W wr)) (λi _=>ms.length - (intOf i).toNat)
 case atStart=>exact ⟨0,Nat.zero_le _,rfl,rfl,Below.refl _ _⟩
 case round =>
  obtain ⟨k,hk,rfl,N⟩:=hrel;obtain ⟨F,rfl⟩:∃ F:World,F=wr:=⟨_,rfl⟩
  by_cases hlt:k < ms.length
  ·
   obtain ⟨g,off,rfl,B,E⟩:=HH.o k hlt;obtain ⟨p,hp⟩:∃ p,p=ms[k]:=⟨_,rfl⟩
   have R:Zq (((ms.take (k+1)).any λp=>gu p.1)=gu p.1):=by
    show _=_;rw [List.take_succ_eq_append_getElem hlt,List.any_append,N.o.1,<- hp]; simp
   have A:Zq (gu p.1=true->(ms.any λp=>gu p.1)=true):=λhg=>List.any_eq_true.2 ⟨p,by rw [hp]; exact List.getElem_mem hlt,hg⟩
   rw [<- hp] at B E;clear hp;obtain ⟨x,a,c⟩:=p;have HK:=zq (Strs.below E N.o.2)
   have I:∀ (j:Nat) (v:Value),(gp x a c)[j]?=some v->F.cell? ⟨g,off+k * 5+j,none⟩=some v:=λj v hv=>by
    have h1:=B j v hv;rw [N.o.2.cell (bq h1)]; exact h1
   have k0:F.cell? ⟨g,off+k * 5,none⟩=some (.string (S x.topic)):=I 0 _ rfl;have k1:F.cell? ⟨g,off+k * 5+1,none⟩=some (.int .i64 x.queue):=I 1 _ rfl;have k2:F.cell? ⟨g,off+k * 5+2,none⟩=some (.string (S x.tag)):=I 2 _ rfl;have k3:F.cell? ⟨g,off+k * 5+3,none⟩=some (.slice a x.keys.length c):=I 3 _ rfl;have k4:F.cell? ⟨g,off+k * 5+4,none⟩=some (.string (S x.body)):=I 4 _ rfl;clear B E I;have J:Zq (Below W.heap.size W (F.alloc (.cells #[.string (S x.topic),.int .i64 x.queue,.string (S x.tag),.slice a x.keys.length c,.string (S x.body)] 42))):=N.o.2.alloc N.o.2.size _
   by_cases h1:100 < x.topic.length
   ·
    have z1:(100:Int) < ((S x.topic).size:Int):=by rw [ah]; omega
    have M:Zq ((ms.any λp=>gu p.1)=true):=A.o (by unfold gu zl; simp [h1]);clear h1;go_wp2_with fail;go_ret;exact ⟨by rw [M.o]; rfl,J.o⟩
   have z1:((S x.topic).size:Int)<=(100:Int):=by rw [ah]; omega
   by_cases h2:100 < x.tag.length
   ·
    have z2:(100:Int) < ((S x.tag).size:Int):=by rw [ah]; omega
    have M:Zq ((ms.any λp=>gu p.1)=true):=A.o (by unfold gu zl; simp [h2]);clear h2;go_wp2_with fail;go_ret;exact ⟨by rw [M.o]; rfl,J.o⟩
   have z2:((S x.tag).size:Int)<=(100:Int):=by rw [ah]; omega
   by_cases h3:10 < x.keys.length
   ·
    have z3:(10:Int) < (x.keys.length:Int):=by omega
    have M:Zq ((ms.any λp=>gu p.1)=true):=A.o (by unfold gu zl; simp [h3]);clear h3;go_wp2_with fail;go_ret;exact ⟨by rw [M.o]; rfl,J.o⟩
   have z3:(x.keys.length:Int)<=(10:Int):=by omega
   by_cases h4:1000 < x.body.length
   ·
    have z4:(1000:Int) < ((S x.body).size:Int):=by rw [ah]; omega
    have M:Zq ((ms.any λp=>gu p.1)=true):=A.o (by unfold gu zl; simp [h4]);clear h4;go_wp2_with fail;go_ret;exact ⟨by rw [M.o]; rfl,J.o⟩
   have z4:((S x.body).size:Int)<=(1000:Int):=by rw [ah]; omega
   have Z:Zq (zl x=false):=by show _=_; unfold zl; simp; omega
   clear h1 h2 h3 h4;have ab:Zq (Strs (F.alloc (.cells #[.string (S x.topic),.int .i64 x.queue,.string (S x.tag),.slice a x.keys.length c,.string (S x.body)] 42)) a (x.keys.map S)):=Strs.below HK.o ((Below.refl _ _).alloc (Nat.le_refl _) _);have U:=heap_alloc_new F (.cells #[.string (S x.topic),.int .i64 x.queue,.string (S x.tag),.slice a x.keys.length c,.string (S x.body)] 42);go_upto_region 6 with fail
   clear k0 k1 k2 k3 k4 HK;generalize (F.alloc (.cells #[.string (S x.topic),.int .i64 x.queue,.string (S x.tag),.slice a x.keys.length c,.string (S x.body)] 42))=w5 at *
   generalize F.heap.size=g5 at *
   have k3:w5.cell? ⟨g5,3,none⟩=some (.slice a x.keys.length c):=aa U 3 _ rfl;clear U;go_wp2_with fail;obtain ⟨w6,X⟩:∃ w6:World,w6=w5:=⟨_,rfl⟩;go_loopw [38] (λi w2=>∃ j:Nat,j<=x.keys.length/\i=.int .i64 (j:Int)/\w2=w6/\Zq (∀ t∈x.keys.take j,t.length<=100)) (λi _=>x.keys.length - (intOf i).toNat)
   case atStart=>exact ⟨0,Nat.zero_le _,rfl,X.symm,λt O=>by cases O⟩
   case round =>
    obtain ⟨j,hj,rfl,rfl,Y⟩:=hrel;subst X
    by_cases hjl:j < x.keys.length
    ·
     obtain ⟨b,o2,rfl,ad⟩:=ab.o j (by rw [List.length_map]; exact hjl);rw [List.getElem_map] at ad
     have ak:Zq (∀ t∈x.keys.take (j+1),t∈x.keys.take j\/t=x.keys[j]):=λt O=>by
      rw [List.take_succ_eq_append_getElem hjl] at O
      rcases List.mem_append.1 O with h | h
      . exact .inl h
      . exact .inr (by simpa using h)
     have al:Zq (x.keys[j]∈x.keys):=List.getElem_mem hjl;generalize x.keys[j]=t at *
     by_cases h5:100 < t.length
     . have z5:(100:Int) < ((S t).size:Int):=by rw [ah]; omega
       have M:Zq ((ms.any λp=>gu p.1)=true):=A.o (by unfold gu; rw [Bool.or_eq_true]; exact .inr (List.any_eq_true.2 ⟨t,al.o,by simpa using h5⟩));clear h5;go_wp2_with fail;go_ret;exact ⟨by rw [M.o]; rfl,J.o⟩
     . have z5:((S t).size:Int)<=(100:Int):=by rw [ah]; omega
       have am:Zq (∀ t∈x.keys.take (j+1),t.length<=100):=λy hy=>(ak.o y hy).elim (Y.o y) λe=>by rw [e]; omega
       clear h5;go_wp2_with fail;go_roundw
       case rel=>exact ⟨j+1,by omega,by go_num,trivial,am.o⟩
       case measure=>simp [intOf]; omega
    ·
     have an:j=x.keys.length:=by omega
     subst an;rw [List.take_length] at Y
     have ao:Zq (gu x=false):=by
      show _=_;unfold gu;rw [Z.o,Bool.false_or,List.any_eq_false];intro t O;have:=Y.o t O;simp; omega
     clear Y hjl hj;go_wp2_with fail;go_roundw
     case rel=>exact ⟨k+1,by omega,by go_num,by rw [R.o]; exact ao.o,J.o⟩
     case measure=>simp [intOf]; omega
  ·
   have ap:k=ms.length:=by omega
   subst ap;have M:Zq ((ms.any λp=>gu p.1)=false):=by have h1:=N.o.1; rw [List.take_length] at h1; exact h1
   go_wp2_with fail;go_ret;exact ⟨by rw [M.o]; rfl,N.o.2⟩
end SndW
namespace RecW
open Go.RowKit OctMath NameMath RecMath
end RecW
namespace SndW
open Go.RowKit Go.MapKept Go.Sort OctMath RecMath RecW DskW SegW MapG TapeW TapeMath PendW CacheW StoW TopW NameMath
theorem xw:∀ y∈ad2,ig y.1=true/\y.2<=3:=by decide
def aal:lu:=⟨[97],0,[],[],[]⟩
theorem aos:xu aal:=⟨⟨by decide,by decide⟩,by decide,by decide,by decide,by decide,λt A=>by cases A⟩
theorem aqb:pq ad2 aal=0:=by decide
theorem MadeI.fits {base:Nat} {W w:World} {D:DiskD} {now used:Int} {S0:StoD} {X:TabD} (h:MadeI base W w D now used S0 X):S0.T.R.e=0/\S0.T.O.recs=[]/\S0.T.D.waits.length=0:=⟨arc h.st.sto.tape h.its h.b,ae7 h.st.sto.tape h.its,by rw [h.wt]; rfl⟩
structure SentI (base:Nat) (W w:World) (sb db ob most k:Nat) (nw:Int) (ws:List lu) (S0:StoD) (X:TabD):Prop where
 st:StoTab base w S0 X
 quiet:Quiet S0.T.D
 now:S0.now=nw
 blk:S0.blk=sb
 dblk:S0.T.D.blk=db
 oblk:S0.T.O.blk=ob
 room:(((most - k) * 1531:Nat):Int)<=S0.T.D.room
 wl:S0.T.D.waits.length<=2 * k
 e:S0.T.R.e<=1531 * k
 recs:S0.T.O.recs.map (·.2)=(ws.take k).map λx=>pu x 1 0 nw
 ft:∀ j,S0.foot j->base<=j
 low:Below base W w
theorem SentI.rl {base:Nat} {W w:World} {sb db ob most k:Nat} {now:Int} {ws:List lu} {S0:StoD} {X:TabD} (h:SentI base W w sb db ob most k now ws S0 X):S0.T.O.recs.length<=k:=by
 have:=congrArg List.length h.recs;rw [List.length_map,List.length_map,List.length_take] at this;omega
theorem ahl {e:Nat} {m:Msg} (hl:3<=ik e) (hr:df m=true) (h0:m.kind≠0):(bv e m).length<=1024/\(bg m).length<=507:=by
 obtain ⟨l1,l2⟩:=qo hr h0;have B:=adn e m hl;have A:=room_le e;refine ⟨?_,l2⟩
 rcases B with ⟨e,_⟩ | ⟨e,_⟩
 . rw [e]; exact Nat.zero_le _
 . omega
theorem ahm {base n:Nat} {w:World} {v:Value} {l:List (Nat×Msg)} (h:w.ownsRow base 3 1 v n (uu l)):∃ a c,v=.slice a n c/\OctW.Ints w a (l.map λp=>(p.1:Int)):=by
 obtain ⟨a,c,E,F,I⟩:=Row1.of_own h;refine ⟨a,c,E,λi B=>?_⟩;have A:i < l.length:=by rw [List.length_map] at B; exact B
 obtain ⟨b,off,e,hc⟩:=F i (by unfold uu; rw [List.length_map]; exact A);refine ⟨b,off,e,?_⟩;rw [hc];simp [uu]
end SndW
namespace KepW
open Go.RowKit Go.MapKept Go.Sort OctMath RecMath RecW DskW SegW MapG TapeW TapeMath PendW CacheW StoW TopW NameMath SndW
def abl (now n:Int):Int:=min (now+min (max n 0) 100000) 1099511626776
theorem amg (b:Nat) (o:Nat) (now n:Int) (w:World) (hc:w.cell? ⟨b,o,none⟩=some (.int .i64 now)) (hf:w.frozen? ⟨b,o,none⟩=false) (hn:0<=now/\now<=1099511626776) :
 Calls Tryz.prog 21 #[.pointer (some ⟨b,o,none⟩),.int .i64 n] w λe w'=>e=.returned (.int .i64 (abl now n))/\w'=w.setCell ⟨b,o,none⟩ (.int .i64 (abl now n)):=by
 have A:Zq (abl now n=min (now+min (max n 0) 100000) 1099511626776):=rfl;have hb:0<=min (max n 0) 100000/\min (max n 0) 100000<=100000:=by omega
 generalize hm:min (max n 0) 100000=mm at *
 have B:IntKind.i64.wrap (now+mm)=now+mm:=IntWalk.i64_in _ (by omega);go_enter Tryz.func21,Tryz.ntmps21;go_wp2_with fail;go_ret;rw [A.o];exact ⟨rfl,rfl⟩
theorem setNow {base:Nat} {w:World} {S:StoD} (h:StoAt base w S) (v:Int):StoAt base (w.setCell ⟨S.blk,11,none⟩ (.int .i64 v)) { S with now:=v } :=
 have A:Mod (λk=>k=S.blk) w (w.setCell ⟨S.blk,11,none⟩ (.int .i64 v)):=Mod.setCell (M:=λk=>k=S.blk) (Mod.refl _ w) (a:=⟨S.blk,11,none⟩) (.inl rfl) _
 ⟨heap_setCell_same w S.blk 11 _ _ (.int .i64 v) h.cells,h.tape.mod A (λk hk e=>(h.away.1 k hk).1 e),h.pend.mod A (λk hk e=>h.away.2 k hk e),h.low,h.away⟩
theorem ahn {base:Nat} {S:StoD} (n:Int) (w:World) (h:StoAt base w S) (hn:0<=S.now/\S.now<=1099511626776) :
 Calls Tryz.prog 8 #[.pointer (some ⟨S.blk,0,none⟩),.int .i64 n] w λe w'=>e=.returned (.int .i64 (abl S.now n))/\StoAt base w' { S with now:=abl S.now n }/\Mod (λk=>k=S.blk) w w':=by
 have A:=zq (amg S.blk 11 S.now n w (h.cell 11 _ rfl) (by
  have:=aj h.cells 11;exact this) hn)
 have B:=zq (setNow h (abl S.now n));clear h hn;generalize abl S.now n=v at *
 generalize hb:S.blk=b at *
 go_enter Tryz.func8,Tryz.ntmps8;go_wp2_with fail;refine A.o.mono ?_;rintro e w2 ⟨rfl,rfl⟩;go_wp2_with fail;go_ret;exact ⟨rfl,B.o,Mod.setCell (M:=λk=>k=b) (Mod.refl _ w) (a:=⟨b,11,none⟩) (.inl rfl) _⟩
theorem ad3 {base:Nat} {S:StoD} (w:World) (h:StoAt base w S) (hb:S.T.R.b=0) (he:S.T.R.e<=1000000) :
 Calls Tryz.prog 35 #[.pointer (some ⟨S.blk,0,none⟩)] w λe w'=>e=.returned (if 1024 < S.T.R.e then .tuple #[.int .i64 1024,.bool true] else .tuple #[.int .i64 0,.bool false])/\w'=w:=by
 have A:=zq (TapeW.begin_any w h.tape);rw [hb] at A;have F:=zq (TapeW.end_any w h.tape);have I:w.cell? ⟨S.blk,0,none⟩=some (.pointer (some ⟨S.T.O.blk,0,none⟩)):=h.cell 0 _ rfl;clear h hb;generalize S.T.R.e=en at *
 generalize S.blk=b at *
 generalize S.T.O.blk=ob at *
 by_cases h:1024 < en
 ·
  rw [if_pos h];have h1:¬ (en:Int)<=1024:=by omega
  go_enter Tryz.func35,Tryz.ntmps35;go_wp2_with fail;refine A.o.mono ?_;rintro e w2 ⟨rfl,B⟩;obtain rfl:=B.symm;go_wp2_with fail;refine F.o.mono ?_;rintro e w3 ⟨rfl,E⟩;obtain rfl:=E.symm;go_wp2_with fail;go_ret2;exact ⟨rfl,rfl⟩
 ·
  rw [if_neg h];have h1:(en:Int)<=1024:=by omega
  go_enter Tryz.func35,Tryz.ntmps35;go_wp2_with fail;refine A.o.mono ?_;rintro e w2 ⟨rfl,B⟩;obtain rfl:=B.symm;go_wp2_with fail;refine F.o.mono ?_;rintro e w3 ⟨rfl,E⟩;obtain rfl:=E.symm;go_wp2_with fail;go_ret2;exact ⟨rfl,rfl⟩
def lw (l:List (Nat×Msg)):List (Nat×Msg):=l.filter λp=>decide (p.1 < 1024)
theorem aho (l:List (Nat×Msg)) {k:Nat} (h:k < l.length):lw (l.take (k+1))=if l[k].1 < 1024 then lw (l.take k)++[l[k]] else lw (l.take k):=by
 rw [List.take_succ_eq_append_getElem h];unfold lw;rw [List.filter_append]
 by_cases h1:l[k].1 < 1024
 . rw [if_pos h1,List.filter_cons_of_pos (by simpa using h1)]; rfl
 . rw [if_neg h1,List.filter_cons_of_neg (by simpa using h1)]; simp
theorem ad4 (l:List (Nat×Msg)):(lw l).length<=l.length:=List.length_filter_le ..
theorem ajn (l:List (Nat×Msg)):TapeW.placeL l 0=0:=by
 unfold TapeW.placeL idI;rw [List.countP_eq_zero];intro i A;obtain ⟨y,B,rfl⟩:=List.mem_map.1 A;simp
theorem aot {base:Nat} {T:TapeD} (w:World) (h:TapeAt base w T) (hl:T.O.recs.length<=1000000) :
 Calls Tryz.prog 36 #[.pointer (some ⟨T.O.blk,0,none⟩),.int .i64 0] w λe w'=>∃ a c,e=.returned (.slice a T.O.recs.length c)/\OctW.Ints w' a (T.O.recs.map λp=>(p.1:Int))/\Below w.heap.size w w' :=
 (aj6 0 w h.own (by rw [h.recs]; exact (ku h.fits).2) (by omega) (ajn _)).mono λe w' ⟨v,A,B,hb⟩=>by
  obtain ⟨a,c,E,F⟩:=ahm B;exact ⟨a,c,by rw [A,E],F,hb⟩
theorem aou {base:Nat} {S:StoD} (w:World) (h:StoAt base w S) (hb:S.T.R.b=0) (he:S.T.R.e<=1024) :
 Calls Tryz.prog 17 #[.pointer (some ⟨S.blk,0,none⟩)] w λe w'=>e=.returned (.tuple #[.slice none 0 0,.bool false])/\w'=w:=by
 have B:=zq (ad3 w h hb (by omega));rw [if_neg (by omega)] at B;clear h hb he;go_enter Tryz.func17,Tryz.ntmps17;go_wp2_with fail;refine B.o.mono ?_;rintro e w2 ⟨rfl,A⟩;obtain rfl:=A.symm;go_wp2_with fail;go_ret2;exact ⟨rfl,rfl⟩
theorem amh {base:Nat} {S:StoD} (W:World) (h:StoAt base W S) (hb:S.T.R.b=0) (he:1024 < S.T.R.e/\S.T.R.e<=1000000) (hl:S.T.O.recs.length<=1000) :
 Calls Tryz.prog 17 #[.pointer (some ⟨S.blk,0,none⟩)] W λe w'=>∃ a c,e=.returned (.tuple #[.slice a (lw S.T.O.recs).length c,.bool true])/\OctW.Ints w' a ((lw S.T.O.recs).map λp=>(p.1:Int))/\Below W.heap.size W w':=by
 have HS:=zq (ad3 W h hb (by omega));rw [if_pos he.1] at HS;have M:=zq (aot W h.tape (by omega));have k0:W.cell? ⟨S.blk,0,none⟩=some (.pointer (some ⟨S.T.O.blk,0,none⟩)):=h.cell 0 _ rfl;clear h hb he;generalize S.blk=sb at *
 generalize S.T.O.blk=ob at *
 generalize S.T.O.recs=l at *
 go_enter Tryz.func17,Tryz.ntmps17;go_wp2_with fail;refine HS.o.mono ?_;rintro e w2 ⟨rfl,ak⟩;obtain rfl:=ak.symm;go_wp2_with fail;refine M.o.mono ?_;rintro e w1 ⟨a,c,rfl,hi,N⟩;have HI:=zq hi;have U:=zq N;clear hi N M HS k0;go_wp2_with fail;go_loopw [6,22] (λv i wr=>∃ k:Nat,k<=l.length/\i=.int .i64 (k:Int)/\Zq (wr.ownsRow w1.heap.size 3 1 v (lw (l.take k)).length (uu (lw (l.take k))))/\Zq (Below w1.heap.size w1 wr)) (λ_ i _=>l.length - (intOf i).toNat)
 case atStart=>exact ⟨0,Nat.zero_le _,rfl,World.ownsRow_nil ..,Below.refl _ _⟩
 case round =>
  obtain ⟨k,hk,rfl,X,J⟩:=hrel;obtain ⟨wA,rfl⟩:∃ wA:World,wA=wr:=⟨_,rfl⟩
  by_cases hlt:k < l.length
  ·
   obtain ⟨b,off,rfl,hc⟩:=(HI.o.below J.o) k (by rw [List.length_map]; exact hlt);rw [List.getElem_map] at hc;have A:=aho l hlt;have F:=ad4 (l.take k);rw [List.length_take] at F;generalize l[k]=p at *
   obtain ⟨id,m⟩:=p;dsimp only at hc A
   by_cases h1:id < 1024
   ·
    rw [if_pos h1] at A;have al:(id:Int) < 1024:=by omega
    obtain ⟨v',w8,B,E,Y,⟨a8,c8,rfl⟩,am⟩:=adm X.o (id:Int) (by omega) J.o.size;have Z:=zq B;have ab:=zq E;have an:Zq (Below w1.heap.size w1 w8):=J.o.trans (Y.to_below _ J.o.size λj hj=>ay X.o j hj);have I:=zq A;clear B E Y am A F;go_wp2_with (at_builtin; refine wpList_append_run _ rfl (.tmp 29) (.tmp 31) 65 65 rfl _ _ rfl rfl _ _ Z.o ?_);go_roundw
    case rel =>
     refine ⟨k+1,by omega,by go_num,?_,an⟩;rw [I.o,List.length_append,List.length_singleton];have e:uu (lw (l.take k)++[(id,m)])=uu (lw (l.take k))++[.int .i64 (id:Int)]:=by unfold uu; simp
     rw [e];exact ab
    case measure=>simp [intOf]; omega
   ·
    rw [if_neg h1] at A;have al:¬ (id:Int) < 1024:=by omega
    have I:=zq A;clear A F;go_wp2_with fail;go_roundw
    case rel=>exact ⟨k+1,by omega,by go_num,by rw [I.o]; exact X,J⟩
    case measure=>simp [intOf]; omega
  ·
   obtain rfl:k=l.length:=by omega
   rw [List.take_length] at X;obtain ⟨a6,c6,rfl,ac⟩:=ahm X.o;have ao:=zq ac;clear ac;go_wp2_with fail;go_ret2;exact ⟨a6,c6,rfl,ao.o,U.o.trans (J.o.mono U.o.size)⟩
theorem abm {base:Nat} {S:StoD} (W:World) (h:StoAt base W S) (hb:S.T.R.b=0) (he:S.T.R.e<=1000000) :
 Calls Tryz.prog 9 #[.pointer (some ⟨S.blk,0,none⟩)] W λe w'=>e=.returned (.int .i64 (((S.T.R.e+1023) / 1024:Nat):Int))/\Below W.heap.size W w':=by
 have J:Zq (∀ w,RecW.ExtR W.drew w->w.cell? ⟨S.blk,0,none⟩=some (.pointer (some ⟨S.T.O.blk,0,none⟩))/\Calls Tryz.prog 23 #[.pointer (some ⟨S.T.O.blk,0,none⟩)] w (λe w'=>e=.returned (.int .i64 0)/\w'=w)/\Calls Tryz.prog 22 #[.pointer (some ⟨S.T.O.blk,0,none⟩)] w (λe w'=>e=.returned (.int .i64 (S.T.R.e:Int))/\w'=w)):=λw B=>by
  have X:=h.below (((Below.refl _ W).drew).trans B);have M:=TapeW.begin_any w X.tape;rw [hb] at M;exact ⟨X.cell 0 _ rfl,M,TapeW.end_any w X.tape⟩
 have N:Zq (IntKind.i64.wrap (S.T.R.e:Int)=(S.T.R.e:Int)/\IntKind.i64.wrap ((S.T.R.e:Int)+1024)=(S.T.R.e:Int)+1024/\IntKind.i64.wrap ((S.T.R.e:Int)+1024 - 1)=(S.T.R.e:Int)+1023/\IntKind.i64.wrap (((S.T.R.e:Int)+1023).tdiv 1024)=(((S.T.R.e+1023) / 1024:Nat):Int)):=by
  refine ⟨?_,?_,?_,?_⟩
  . exact IntWalk.i64_in _ (by omega)
  . exact IntWalk.i64_in _ (by omega)
  . rw [show (S.T.R.e:Int)+1024 - 1=(S.T.R.e:Int)+1023 by omega]; exact IntWalk.i64_in _ (by omega)
  . have h1:((S.T.R.e:Int)+1023).tdiv 1024=(((S.T.R.e+1023) / 1024:Nat):Int):=by
     rw [show (S.T.R.e:Int)+1023=((S.T.R.e+1023:Nat):Int) by omega]; rfl
    rw [h1]; exact IntWalk.i64_in _ (by omega)
 clear h hb he;generalize S.T.R.e=en at *
 generalize S.blk=sb at *
 generalize S.T.O.blk=ob at *
 go_enter Tryz.func9,Tryz.ntmps9;go_upto_region 3 with fail
 refine GrowN.au 14 [none,none,none,none,some (.inl (.int .i64 ((en:Int)))),none,none,none,none,some (.inl (.int .i64 (0))),some (.inl (.int .i64 ((en:Int)))),some (.inl (.int .i64 ((en:Int)+1024))),some (.inl (.int .i64 ((en:Int)+1023))),some (.inl (.int .i64 ((((en+1023) / 1024:Nat):Int))))] (RecW.ExtR) (by kernel_rfl) (by kernel_rfl) (by kernel_rfl) (RecW.ExtR.refl) (λ_ _ _=>RecW.ExtR.trans) ?_ ?_
 . exact GrowN.jo rfl
 simp only [List.take_succ_cons,List.take_zero,List.drop_succ_cons,List.drop_zero]
 iterate 4
  refine GrowN.g_det rfl ?_;apply Exists.intro;refine ⟨λw B A=>?_,?_⟩
  . clear A
    obtain ⟨Y,E,F⟩:=J.o w B;go_simp;exact ⟨rfl,RecW.ExtR.refl _⟩
  go_frame
 refine GrowN.g_con rfl (λw B A=>?_) ?_
 ·
  clear A;obtain ⟨Y,E,F⟩:=J.o w B;have F:=zq F;go_simp;exact F.o.mono λe w3 h=>⟨_,h.1,rfl,h.2 ▸ RecW.ExtR.refl _⟩
 iterate 4
  go_frame;refine GrowN.g_det rfl ?_;apply Exists.intro;refine ⟨λw B A=>?_,?_⟩
  . clear A
    obtain ⟨Y,E,F⟩:=J.o w B;go_simp;exact ⟨rfl,RecW.ExtR.refl _⟩
 go_frame;refine GrowN.g_con rfl (λw B A=>?_) ?_
 ·
  clear A;obtain ⟨Y,E,F⟩:=J.o w B;have E:=zq E;go_simp;exact E.o.mono λe w3 h=>⟨_,h.1,rfl,h.2 ▸ RecW.ExtR.refl _⟩
 go_frame;refine GrowN.g_con rfl (λw B A=>?_) ?_
 ·
  clear A;have I:=N.o.1;go_simp
  all_goals first | exact RecW.ExtR.refl _ | exact ⟨I,RecW.ExtR.refl _⟩
 go_frame;refine GrowN.g_con rfl (λw B A=>?_) ?_
 ·
  clear A;have I:=N.o.2.1;go_simp
  all_goals first | exact RecW.ExtR.refl _ | exact ⟨I,RecW.ExtR.refl _⟩
 go_frame;refine GrowN.g_con rfl (λw B A=>?_) ?_
 ·
  clear A;have I:=N.o.2.2.1;go_simp
  all_goals first | exact RecW.ExtR.refl _ | exact ⟨I,RecW.ExtR.refl _⟩
 go_frame;refine GrowN.g_con rfl (λw B A=>?_) ?_
 ·
  clear A;have I:=N.o.2.2.2;go_simp
  all_goals first | exact RecW.ExtR.refl _ | exact ⟨I,RecW.ExtR.refl _⟩
 go_frame;refine GrowN.g_nil λw2 U A=>?_
 clear A;have Z:Zq (Below W.heap.size W w2):=((Below.refl _ W).drew).trans U;clear U J N;go_wp2_with fail;go_ret;exact ⟨rfl,Z.o⟩
def zm (l:List (Nat×Msg)):Nat:=(l.getLast?.map (·.1)).getD 0
def ab6 (n:Nat) (d now age:Int) (p:Nat×Msg):Bool:=decide ((p.1:Int) < d) && (decide (p.1≠n) || decide (p.2.born<=now - min age 1099511627776))
def ahp (l:List (Nat×Msg)) (d now age:Int):Bool:=l.all (ab6 (zm l) d now age)
theorem aov {l:List (Nat×Msg)} {n:Nat} (h:l.length=n+1):l[n].1=zm l:=by
 have A:l.getLast?=some l[n]:=by rw [List.getLast?_eq_getElem?,show l.length - 1=n by omega,List.getElem?_eq_getElem (by omega)]
 unfold zm;rw [A];rfl
theorem ard {l:List (Nat×Msg)} {f:Nat×Msg->Bool} {k:Nat} (h:k < l.length) (hf:f l[k]=false):l.all f=false:=by
 rw [List.all_eq_false];exact ⟨l[k],List.getElem_mem h,by rw [hf]; decide⟩
theorem ajo (B:Nat) (cs:Array Value) (d:Int) (w:World) (h:w.heap[B]?=some (.cells cs 91 (0,0))) (h3:cs[3]?=some (.int .i64 d)) :
 Calls Tryz.prog 19 #[.pointer (some ⟨B,0,none⟩)] w λe w'=>e=.returned (.int .i64 d)/\w'=w:=by
 have c3:=aa h 3 _ h3;clear h h3;go_enter Tryz.func19,Tryz.ntmps19;go_wp2_with fail;go_ret;exact ⟨rfl,rfl⟩
theorem ajp {base:Nat} {S:StoD} (age:Int) (w:World) (h:StoAt base w S) (hb:S.T.R.b=0) (he:S.T.R.e<=1024) (ha:0<=age) :
 Calls Tryz.prog 7 #[.pointer (some ⟨S.blk,0,none⟩),.int .i64 age] w λe w'=>e=.returned (.bool false)/\w'=w:=by
 have B:=zq (aou w h hb he);have E:¬ age < 0:=by omega
 clear h hb he;go_enter Tryz.func7,Tryz.ntmps7;go_wp2_with fail;refine B.o.mono ?_;rintro e w2 ⟨rfl,A⟩;obtain rfl:=A.symm;go_wp2_with fail;go_ret;exact ⟨rfl,rfl⟩
structure OldI (base:Nat) (w:World) (S:StoD) (B:Nat) (d:Int):Prop where
 st:StoAt base w S
 dp:S.dp=.pointer (some ⟨B,0,none⟩)
 cell:∃ cs,w.heap[B]?=some (.cells cs 91 (0,0))/\cs[3]?=some (.int .i64 d)
theorem OldI.below {base B:Nat} {d:Int} {w w':World} {S:StoD} (h:OldI base w S B d) (hb:Below w.heap.size w w'):OldI base w' S B d :=
 ⟨h.st.below hb,h.dp,h.cell.elim λA h1=>⟨A,jd hb h1.1,h1.2⟩⟩
theorem aqc {base B:Nat} {S0:StoD} (d age:Int) (W:World) (h:OldI base W S0 B d) (hb:S0.T.R.b=0) (he:1024 < S0.T.R.e/\S0.T.R.e<=1000000) (hl:S0.T.O.recs.length<=1000) (hup:S0.T.D.down=false) (hT:TabB base W) (hbase:base<=W.heap.size) (ha:0<=age/\age<=100000) (hn:0<=S0.now/\S0.now<=1099511627776) :
 Calls Tryz.prog 7 #[.pointer (some ⟨S0.blk,0,none⟩),.int .i64 age] W λe w'=>e=.returned (.bool (ahp (lw S0.T.O.recs) d S0.now age))/\Below W.heap.size W w':=by
 have HS:=zq (amh W h.st hb he hl);have cj:¬ age < 0:=by omega
 have ad:Zq (min age 1099511627776=age):=by show min age 1099511627776=age; omega
 have bb:Zq (IntKind.i64.wrap (S0.now - age)=S0.now - age):=IntWalk.i64_in _ (by omega);have b1:=ad4 S0.T.O.recs;have bc:Zq ((lw S0.T.O.recs).length<=1000):=by show _<=_; omega
 have al:Zq (∀ p∈lw S0.T.O.recs,p∈S0.T.O.recs):=λp hp=>(List.mem_filter.1 hp).1
 have b3:Zq (∀ (p:Nat×Msg) w,p∈S0.T.O.recs->Below W.heap.size W w->Calls Tryz.prog 18 #[.pointer (some ⟨S0.T.O.blk,0,none⟩),.int .i64 (p.1:Int)] w λe w'=>∃ a c,e=.returned (.tuple #[.agg (ae p.2 a c),.int .i64 0])/\Below w.heap.size w w'):=λp w hp E =>
  (aaa p.1 p.2 w (h.below E).st.tape hup (hT.below E) (Nat.le_trans hbase E.size) hp).mono λe w' ⟨a,c,h1,_,h3,_⟩=>⟨a,c,h1,h3⟩
 have HC:Zq (∀ w,Below W.heap.size W w->w.cell? ⟨S0.blk,0,none⟩=some (.pointer (some ⟨S0.T.O.blk,0,none⟩))/\w.cell? ⟨S0.blk,7,none⟩=some (.pointer (some ⟨B,0,none⟩))/\Calls Tryz.prog 19 #[.pointer (some ⟨B,0,none⟩)] w (λe w'=>e=.returned (.int .i64 d)/\w'=w)/\Calls Tryz.prog 20 #[.pointer (some ⟨S0.blk,0,none⟩)] w (λe w'=>e=.returned (.int .i64 S0.now)/\w'=w)):=λw E=>by
  have h2:=h.below E;obtain ⟨cs,h3,h4⟩:=h2.cell;have h7:w.cell? ⟨S0.blk,7,none⟩=some S0.dp:=h2.st.cell 7 _ rfl;rw [h2.dp] at h7;exact ⟨h2.st.cell 0 _ rfl,h7,ajo B cs d w h3 h4,akb w h2.st⟩
 clear h hb he hl hup hT hbase ha hn b1;generalize S0.blk=sb at *
 generalize S0.T.O.blk=ob at *
 generalize S0.now=now at *
 generalize S0.T.O.recs=rs at *
 obtain ⟨l,hl⟩:∃ l,lw rs=l:=⟨_,rfl⟩;rw [hl] at HS bc al ⊢;clear hl;go_enter Tryz.func7,Tryz.ntmps7;go_wp2_with fail;refine HS.o.mono ?_;rintro e w1 ⟨a6,c6,rfl,hi,bd⟩;have HI:=zq hi;have U:=zq bd;clear hi bd HS;go_wp2_with fail;go_loopw [26] (λi wr=>∃ k:Nat,k<=l.length/\i=.int .i64 (k:Int)/\Zq ((l.take k).all (ab6 (zm l) d now age)=true)/\Zq (Below w1.heap.size w1 wr)) (λi _=>l.length - (intOf i).toNat)
 case atStart=>exact ⟨0,Nat.zero_le _,rfl,rfl,Below.refl _ _⟩
 case round =>
  obtain ⟨k,hk,rfl,ab,HB⟩:=hrel;obtain ⟨wA,rfl⟩:∃ wA:World,wA=wr:=⟨_,rfl⟩
  by_cases hlt:k < l.length
  ·
   obtain ⟨b,off,rfl,hc⟩:=(HI.o.below HB.o) k (by rw [List.length_map]; exact hlt);rw [List.getElem_map] at hc;obtain ⟨n,hn⟩:∃ n,l.length=n+1:=⟨l.length - 1,by omega⟩;have bk:=zq (aov hn)
   have b4:Zq (∀ w,Below w1.heap.size w1 w->w.cell? ⟨b,off+n,none⟩=some (.int .i64 (zm l:Int))):=λw E=>by
    obtain ⟨b2,cg,e2,h2⟩:=(HI.o.below E) n (by rw [List.length_map,hn]; omega)
    cases e2
    rw [List.getElem_map] at h2;rw [h2,bk.o]
   have Y:Zq (ab6 (zm l) d now age l[k]=false->l.all (ab6 (zm l) d now age)=false):=λh=>ard hlt h
   have J:Zq (ab6 (zm l) d now age l[k]=true->(l.take (k+1)).all (ab6 (zm l) d now age)=true):=λh=>by
    rw [List.take_succ_eq_append_getElem hlt,List.all_append,ab.o];simp [h]
   have am:=al.o l[k] (List.getElem_mem hlt);have bl:Zq (Below W.heap.size W wA):=U.o.trans (HB.o.mono U.o.size);have HR:=zq (b3.o l[k] wA am bl.o);have co:=bc.o;obtain ⟨k0,_,_,_⟩:=HC.o wA bl.o;generalize l[k]=p at *
   obtain ⟨id,m⟩:=p;dsimp only at hc HR Y J;have bm:Zq (ahp l d now age=l.all (ab6 (zm l) d now age)):=rfl;generalize zm l=li at *
   have ao:Zq (IntKind.i64.wrap ((l.length:Int) - 1)=(n:Int)):=by rw [show (l.length:Int) - 1=(n:Int) by omega]; exact IntWalk.i64_in _ (by omega)
   have ap:Zq ((n:Int) < (l.length:Int)):=by show (n:Int) < _; omega
   clear am bk ab hn;go_wp2_with fail;refine HR.o.mono ?_;rintro e w2 ⟨a,c,rfl,bo⟩;rw [show ae m a c=#[.int .i64 m.kind,.int .i64 m.queue,.int .i64 m.due,.int .i64 m.retry,.int .i64 m.ref,.int .i64 m.born,.string (S m.topic),.string (S m.tag),.string (S m.body),.slice a m.keys.length c] from rfl];have bp:=zq (HB.o.trans (bo.mono HB.o.size));have br:Below w2.heap.size w2 (w2.alloc (.cells #[.int .i64 m.kind,.int .i64 m.queue,.int .i64 m.due,.int .i64 m.retry,.int .i64 m.ref,.int .i64 m.born,.string (S m.topic),.string (S m.tag),.string (S m.body),.slice a m.keys.length c] 69)):=(Below.refl _ w2).alloc (Nat.le_refl _) _;have bs:=heap_alloc_new w2 (.cells #[.int .i64 m.kind,.int .i64 m.queue,.int .i64 m.due,.int .i64 m.retry,.int .i64 m.ref,.int .i64 m.born,.string (S m.topic),.string (S m.tag),.string (S m.body),.slice a m.keys.length c] 69);have bw:=zq (bp.o.trans (br.mono bp.o.size));have bz:=zq bs;clear bo br bs hc k0 HR;go_upto_region 10 with fail
   generalize w2.alloc (.cells #[.int .i64 m.kind,.int .i64 m.queue,.int .i64 m.due,.int .i64 m.retry,.int .i64 m.ref,.int .i64 m.born,.string (S m.topic),.string (S m.tag),.string (S m.body),.slice a m.keys.length c] 69)=w5 at *
   obtain ⟨G,hG⟩:∃ G,w2.heap.size=G:=⟨_,rfl⟩;rw [hG] at bz ⊢;clear hG
   have M:Zq (∀ w,RecW.ExtR w5.drew w->w.cell? ⟨sb,7,none⟩=some (.pointer (some ⟨B,0,none⟩))/\w.cell? ⟨b,off+n,none⟩=some (.int .i64 (li:Int))/\w.cell? ⟨G,5,none⟩=some (.int .i64 m.born)/\Calls Tryz.prog 19 #[.pointer (some ⟨B,0,none⟩)] w (λe w'=>e=.returned (.int .i64 d)/\w'=w)/\Calls Tryz.prog 20 #[.pointer (some ⟨sb,0,none⟩)] w (λe w'=>e=.returned (.int .i64 now)/\w'=w)/\Below w1.heap.size w1 w):=λw E=>by
    have hb:Below w5.heap.size w5 w:=((Below.refl _ w5).drew).trans E;have ar:=bw.o.trans (hb.mono bw.o.size);obtain ⟨_,X,b7,b8⟩:=HC.o w (U.o.trans (ar.mono U.o.size));exact ⟨X,b4.o w ar,aa (jd hb bz.o) 5 _ rfl,b7,b8,ar⟩
   by_cases h1:(id:Int) < d
   ·
    have b9:¬ d<=(id:Int):=by omega
    by_cases h2:id=li
    ·
     subst h2;have e2:((id:Int) == (id:Int))=true:=by simp
     by_cases h3:m.born<=now - age
     ·
      have HO:=zq (J.o (by unfold ab6; rw [ad.o,decide_eq_true h1,decide_eq_true h3]; simp));have ca:¬ now - age < m.born:=by omega
      clear Y J;refine GrowN.au 31 [none,none,none,none,none,none,none,none,some (.inl (.int .i64 d)),none,none,none,none,none,none,none,some (.inl (.int .i64 (n:Int))),none,none,none,none,none,none,none,some (.inl (.int .i64 now)),none,some (.inl (.int .i64 age)),some (.inl (.int .i64 (now - age))),none,none,none] (RecW.ExtR) (by kernel_rfl) (by kernel_rfl) (by kernel_rfl) (RecW.ExtR.refl) (λ_ _ _=>RecW.ExtR.trans) ?_ ?_
      . exact GrowN.jo rfl
      simp only [List.take_succ_cons,List.take_zero,List.drop_succ_cons,List.drop_zero]
      iterate 7
       refine GrowN.g_det rfl ?_;apply Exists.intro;refine ⟨λw E A=>?_,?_⟩
       . clear A
         go_simp;exact ⟨rfl,RecW.ExtR.refl _⟩
       go_frame
      refine GrowN.g_det rfl ?_;apply Exists.intro;refine ⟨λw E A=>?_,?_⟩
      . clear A
        obtain ⟨X,cl,cb,F,I,_⟩:=M.o w E;go_simp;exact ⟨rfl,RecW.ExtR.refl _⟩
      go_frame;refine GrowN.g_con rfl (λw E A=>?_) ?_
      . clear A
        obtain ⟨X,cl,cb,F,I,_⟩:=M.o w E;have F:=zq F;go_simp;exact F.o.mono λe w3 h=>⟨_,h.1,rfl,h.2 ▸ RecW.ExtR.refl _⟩
      iterate 7
       go_frame;refine GrowN.g_det rfl ?_;apply Exists.intro;refine ⟨λw E A=>?_,?_⟩
       . clear A
         go_simp;exact ⟨rfl,RecW.ExtR.refl _⟩
      go_frame;refine GrowN.g_con rfl (λw E A=>?_) ?_
      . clear A
        have hx:=ao.o;go_simp
        all_goals first | exact RecW.ExtR.refl _ | exact ⟨hx,RecW.ExtR.refl _⟩
      go_frame;refine GrowN.g_det rfl ?_;apply Exists.intro;refine ⟨λw E A=>?_,?_⟩
      . clear A
        have an:=ap.o;go_simp;exact ⟨rfl,RecW.ExtR.refl _⟩
      go_frame;refine GrowN.g_det rfl ?_;apply Exists.intro;refine ⟨λw E A=>?_,?_⟩
      . clear A
        obtain ⟨X,cl,cb,F,I,_⟩:=M.o w E;go_simp;exact ⟨rfl,RecW.ExtR.refl _⟩
      iterate 3
       go_frame;refine GrowN.g_det rfl ?_;apply Exists.intro;refine ⟨λw E A=>?_,?_⟩
       . clear A
         go_simp;exact ⟨rfl,RecW.ExtR.refl _⟩
      go_frame;refine GrowN.g_det rfl ?_;apply Exists.intro;refine ⟨λw E A=>?_,?_⟩
      . clear A
        obtain ⟨X,cl,cb,F,I,_⟩:=M.o w E;go_simp;exact ⟨rfl,RecW.ExtR.refl _⟩
      go_frame;refine GrowN.g_det rfl ?_;apply Exists.intro;refine ⟨λw E A=>?_,?_⟩
      . clear A
        go_simp;exact ⟨rfl,RecW.ExtR.refl _⟩
      go_frame;refine GrowN.g_con rfl (λw E A=>?_) ?_
      . clear A
        obtain ⟨X,cl,cb,F,I,_⟩:=M.o w E;have I:=zq I;go_simp;exact I.o.mono λe w3 h=>⟨_,h.1,rfl,h.2 ▸ RecW.ExtR.refl _⟩
      go_frame;refine GrowN.g_det rfl ?_;apply Exists.intro;refine ⟨λw E A=>?_,?_⟩
      . clear A
        go_simp;exact ⟨rfl,RecW.ExtR.refl _⟩
      go_frame;refine GrowN.g_con rfl (λw E A=>?_) ?_
      . clear A
        have hx:=ad.o;go_simp
        all_goals exact RecW.ExtR.refl _
      go_frame;refine GrowN.g_con rfl (λw E A=>?_) ?_
      . clear A
        have hx:=bb.o;go_simp
        all_goals exact RecW.ExtR.refl _
      iterate 3
       go_frame;refine GrowN.g_det rfl ?_;apply Exists.intro;refine ⟨λw E A=>?_,?_⟩
       . clear A
         go_simp;exact ⟨rfl,RecW.ExtR.refl _⟩
      go_frame;refine GrowN.g_nil λw6 N A=>?_
      clear A;have Z:=zq (M.o w6 N).2.2.2.2.2;clear N M;go_wp2_with fail;go_roundw
      case rel=>exact ⟨k+1,by omega,by go_num,HO,Z⟩
      case measure=>simp [intOf]; omega
     ·
      have HO:=zq (Y.o (by unfold ab6; rw [ad.o,decide_eq_true h1,decide_eq_false h3]; simp));have ca:now - age < m.born:=by omega
      clear Y J;refine GrowN.au 31 [none,none,none,none,none,none,none,none,some (.inl (.int .i64 d)),none,none,none,none,none,none,none,some (.inl (.int .i64 (n:Int))),none,none,none,none,none,none,none,some (.inl (.int .i64 now)),none,some (.inl (.int .i64 age)),some (.inl (.int .i64 (now - age))),none,none,none] (RecW.ExtR) (by kernel_rfl) (by kernel_rfl) (by kernel_rfl) (RecW.ExtR.refl) (λ_ _ _=>RecW.ExtR.trans) ?_ ?_
      . exact GrowN.jo rfl
      simp only [List.take_succ_cons,List.take_zero,List.drop_succ_cons,List.drop_zero]
      iterate 7
       refine GrowN.g_det rfl ?_;apply Exists.intro;refine ⟨λw E A=>?_,?_⟩
       . clear A
         go_simp;exact ⟨rfl,RecW.ExtR.refl _⟩
       go_frame
      refine GrowN.g_det rfl ?_;apply Exists.intro;refine ⟨λw E A=>?_,?_⟩
      . clear A
        obtain ⟨X,cl,cb,F,I,_⟩:=M.o w E;go_simp;exact ⟨rfl,RecW.ExtR.refl _⟩
      go_frame;refine GrowN.g_con rfl (λw E A=>?_) ?_
      . clear A
        obtain ⟨X,cl,cb,F,I,_⟩:=M.o w E;have F:=zq F;go_simp;exact F.o.mono λe w3 h=>⟨_,h.1,rfl,h.2 ▸ RecW.ExtR.refl _⟩
      iterate 7
       go_frame;refine GrowN.g_det rfl ?_;apply Exists.intro;refine ⟨λw E A=>?_,?_⟩
       . clear A
         go_simp;exact ⟨rfl,RecW.ExtR.refl _⟩
      go_frame;refine GrowN.g_con rfl (λw E A=>?_) ?_
      . clear A
        have hx:=ao.o;go_simp
        all_goals first | exact RecW.ExtR.refl _ | exact ⟨hx,RecW.ExtR.refl _⟩
      go_frame;refine GrowN.g_det rfl ?_;apply Exists.intro;refine ⟨λw E A=>?_,?_⟩
      . clear A
        have an:=ap.o;go_simp;exact ⟨rfl,RecW.ExtR.refl _⟩
      go_frame;refine GrowN.g_det rfl ?_;apply Exists.intro;refine ⟨λw E A=>?_,?_⟩
      . clear A
        obtain ⟨X,cl,cb,F,I,_⟩:=M.o w E;go_simp;exact ⟨rfl,RecW.ExtR.refl _⟩
      iterate 3
       go_frame;refine GrowN.g_det rfl ?_;apply Exists.intro;refine ⟨λw E A=>?_,?_⟩
       . clear A
         go_simp;exact ⟨rfl,RecW.ExtR.refl _⟩
      go_frame;refine GrowN.g_det rfl ?_;apply Exists.intro;refine ⟨λw E A=>?_,?_⟩
      . clear A
        obtain ⟨X,cl,cb,F,I,_⟩:=M.o w E;go_simp;exact ⟨rfl,RecW.ExtR.refl _⟩
      go_frame;refine GrowN.g_det rfl ?_;apply Exists.intro;refine ⟨λw E A=>?_,?_⟩
      . clear A
        go_simp;exact ⟨rfl,RecW.ExtR.refl _⟩
      go_frame;refine GrowN.g_con rfl (λw E A=>?_) ?_
      . clear A
        obtain ⟨X,cl,cb,F,I,_⟩:=M.o w E;have I:=zq I;go_simp;exact I.o.mono λe w3 h=>⟨_,h.1,rfl,h.2 ▸ RecW.ExtR.refl _⟩
      go_frame;refine GrowN.g_det rfl ?_;apply Exists.intro;refine ⟨λw E A=>?_,?_⟩
      . clear A
        go_simp;exact ⟨rfl,RecW.ExtR.refl _⟩
      go_frame;refine GrowN.g_con rfl (λw E A=>?_) ?_
      . clear A
        have hx:=ad.o;go_simp
        all_goals exact RecW.ExtR.refl _
      go_frame;refine GrowN.g_con rfl (λw E A=>?_) ?_
      . clear A
        have hx:=bb.o;go_simp
        all_goals exact RecW.ExtR.refl _
      iterate 3
       go_frame;refine GrowN.g_det rfl ?_;apply Exists.intro;refine ⟨λw E A=>?_,?_⟩
       . clear A
         go_simp;exact ⟨rfl,RecW.ExtR.refl _⟩
      go_frame;refine GrowN.g_nil λw6 N A=>?_
      clear A;have Z:=zq (M.o w6 N).2.2.2.2.2;clear N M;go_wp2_with fail;go_ret;exact ⟨(congrArg (λb=>Ending.returned (.bool b)) (bm.o.trans HO.o)).symm,U.o.trans (Z.o.mono U.o.size)⟩
    ·
     have e2:((id:Int) == (li:Int))=false:=beq_eq_false_iff_ne.2 (by omega);have HO:=zq (J.o (by unfold ab6; rw [decide_eq_true h1,decide_eq_true h2]; simp));clear Y J;refine GrowN.au 31 [none,none,none,none,none,none,none,none,some (.inl (.int .i64 d)),none,none,none,none,none,none,none,some (.inl (.int .i64 (n:Int))),none,none,none,none,none,none,none,none,none,none,none,none,none,none] (RecW.ExtR) (by kernel_rfl) (by kernel_rfl) (by kernel_rfl) (RecW.ExtR.refl) (λ_ _ _=>RecW.ExtR.trans) ?_ ?_
     . exact GrowN.jo rfl
     simp only [List.take_succ_cons,List.take_zero,List.drop_succ_cons,List.drop_zero]
     iterate 7
      refine GrowN.g_det rfl ?_;apply Exists.intro;refine ⟨λw E A=>?_,?_⟩
      . clear A
        go_simp;exact ⟨rfl,RecW.ExtR.refl _⟩
      go_frame
     refine GrowN.g_det rfl ?_;apply Exists.intro;refine ⟨λw E A=>?_,?_⟩
     . clear A
       obtain ⟨X,cl,cb,F,I,_⟩:=M.o w E;go_simp;exact ⟨rfl,RecW.ExtR.refl _⟩
     go_frame;refine GrowN.g_con rfl (λw E A=>?_) ?_
     . clear A
       obtain ⟨X,cl,cb,F,I,_⟩:=M.o w E;have F:=zq F;go_simp;exact F.o.mono λe w3 h=>⟨_,h.1,rfl,h.2 ▸ RecW.ExtR.refl _⟩
     iterate 7
      go_frame;refine GrowN.g_det rfl ?_;apply Exists.intro;refine ⟨λw E A=>?_,?_⟩
      . clear A
        go_simp;exact ⟨rfl,RecW.ExtR.refl _⟩
     go_frame;refine GrowN.g_con rfl (λw E A=>?_) ?_
     . clear A
       have hx:=ao.o;go_simp
       all_goals first | exact RecW.ExtR.refl _ | exact ⟨hx,RecW.ExtR.refl _⟩
     go_frame;refine GrowN.g_det rfl ?_;apply Exists.intro;refine ⟨λw E A=>?_,?_⟩
     . clear A
       have an:=ap.o;go_simp;exact ⟨rfl,RecW.ExtR.refl _⟩
     go_frame;refine GrowN.g_det rfl ?_;apply Exists.intro;refine ⟨λw E A=>?_,?_⟩
     . clear A
       obtain ⟨X,cl,cb,F,I,_⟩:=M.o w E;go_simp;exact ⟨rfl,RecW.ExtR.refl _⟩
     go_frame
     iterate 12
      first
      | refine GrowN.g_skip rfl ?_
      | refine GrowN.g_det rfl ?_
        apply Exists.intro;refine ⟨λw E A=>?_,?_⟩
        . clear A
          go_simp;exact ⟨rfl,RecW.ExtR.refl _⟩
      go_frame
     refine GrowN.g_nil λw6 N A=>?_
     clear A;have Z:=zq (M.o w6 N).2.2.2.2.2;clear N M;go_wp2_with fail;go_roundw
     case rel=>exact ⟨k+1,by omega,by go_num,HO,Z⟩
     case measure=>simp [intOf]; omega
   ·
    have b9:d<=(id:Int):=by omega
    have HO:=zq (Y.o (by unfold ab6; rw [decide_eq_false h1]; rfl));clear Y J;refine GrowN.au 31 [none,none,none,none,none,none,none,none,some (.inl (.int .i64 d)),none,none,none,none,none,none,none,none,none,none,none,none,none,none,none,none,none,none,none,none,none,none] (RecW.ExtR) (by kernel_rfl) (by kernel_rfl) (by kernel_rfl) (RecW.ExtR.refl) (λ_ _ _=>RecW.ExtR.trans) ?_ ?_
    . exact GrowN.jo rfl
    simp only [List.take_succ_cons,List.take_zero,List.drop_succ_cons,List.drop_zero]
    iterate 7
     refine GrowN.g_det rfl ?_;apply Exists.intro;refine ⟨λw E A=>?_,?_⟩
     . clear A
       go_simp;exact ⟨rfl,RecW.ExtR.refl _⟩
     go_frame
    refine GrowN.g_det rfl ?_;apply Exists.intro;refine ⟨λw E A=>?_,?_⟩
    . clear A
      obtain ⟨X,cl,cb,F,I,_⟩:=M.o w E;go_simp;exact ⟨rfl,RecW.ExtR.refl _⟩
    go_frame;refine GrowN.g_con rfl (λw E A=>?_) ?_
    . clear A
      obtain ⟨X,cl,cb,F,I,_⟩:=M.o w E;have F:=zq F;go_simp;exact F.o.mono λe w3 h=>⟨_,h.1,rfl,h.2 ▸ RecW.ExtR.refl _⟩
    go_frame
    iterate 22
     first
     | refine GrowN.g_skip rfl ?_
     | refine GrowN.g_det rfl ?_
       apply Exists.intro;refine ⟨λw E A=>?_,?_⟩
       . clear A
         go_simp;exact ⟨rfl,RecW.ExtR.refl _⟩
     go_frame
    refine GrowN.g_nil λw6 N A=>?_
    clear A;have Z:=zq (M.o w6 N).2.2.2.2.2;clear N M;go_wp2_with fail;go_ret;exact ⟨(congrArg (λb=>Ending.returned (.bool b)) (bm.o.trans HO.o)).symm,U.o.trans (Z.o.mono U.o.size)⟩
  ·
   obtain rfl:k=l.length:=by omega
   rw [List.take_length] at ab;go_wp2_with fail;go_ret;exact ⟨(congrArg (λb=>Ending.returned (.bool b)) (show ahp l d now age=true from ab.o)).symm,U.o.trans (HB.o.mono U.o.size)⟩
end KepW
namespace StoW
open Go.RowKit Go.MapKept OctMath RecMath RecW TapeMath DskW SegW MapG TapeW PendW CacheW CqW KxW
theorem arf {p:Nat×Msg} (h:df p.2=true) (hk:p.2.kind=1) (hid:p.1<=99999999):aoe p:=by
 have h0:p.2.kind≠0:=by omega
 obtain ⟨J,M,F,N,O,R,U,X,Y,I,E⟩:=qd h h0
 have hc:cu p.2=true:=by
  unfold df at h
  split at h
  . cases h
  . first
    | exact (Bool.and_eq_true_iff.1 (Bool.and_eq_true_iff.1 h).1).1
    | (rw [if_pos hk] at h; exact (Bool.and_eq_true_iff.1 (Bool.and_eq_true_iff.1 h).1).1)
 have A:NameMath.lc p.2.topic=true/\p.2.keys.all og=true:=by
  unfold cu at hc;simp only [Bool.and_eq_true,decide_eq_true_eq] at hc;exact ⟨hc.1.1.1.1.1.1.1.1.1,hc.1.1.2⟩
 have Z:=(qo h h0).2;refine ⟨⟨hid,by omega,F,A.1,by omega,⟨p.2.queue.toNat,by omega,by omega⟩⟩,.inl hk,λk B=>⟨List.all_eq_true.1 A.2 k B,by have:=E k B; omega⟩,by omega,by omega⟩
theorem ahq:∀ (l:List (Nat×Msg)),(∀ p∈l,p.2.keys.length<=3)->abj l<=3 * l.length
 | [],_=>Nat.le_refl _
 | p :: l,h=>by
   have B:=ahq l λx A=>h x (.tail _ A)
   have h1:=h p (.head _);rw [adv,List.length_cons];omega
end StoW
namespace KepW
open Go.RowKit Go.MapKept Go.Sort OctMath RecMath RecW DskW SegW MapG TapeW TapeMath PendW CacheW EntW NameW CqW KxW StoW TopW NameMath SndW
theorem akh {now n:Int} (h:0<=now/\now<=1000000) (hn:0<=n/\n<=100000):abl now n=now+n:=by unfold abl; omega
structure KepI (V w:World) (sb ob most k:Nat) (t:Int) (S1:StoD) (X:TabD):Prop where
 st:StoTab V.heap.size w S1 X
 quiet:Quiet S1.T.D
 now:0<=S1.now/\S1.now<=t
 blk:S1.blk=sb
 oblk:S1.T.O.blk=ob
 room:(((most - k) * 1531:Nat):Int)<=S1.T.D.room
 wl:S1.T.D.waits.length<=2 * k
 e:S1.T.R.e<=1531 * k
 b:S1.T.R.b=0
 rl:S1.T.O.recs.length<=k
 recs:∀ p∈S1.T.O.recs,p.2.kind=1/\p.2.born<=S1.now
 ft:∀ j,S1.foot j->V.heap.size<=j
 low:Below V.heap.size V w
 dx:DisX V.heap.size V.heap.size w S1 X 4194184
 syn:S1.T.R.synced=S1.T.R.e
theorem KepI.below {V w:World} {sb ob most k:Nat} {t:Int} {S1:StoD} {X:TabD} {w':World} (h:KepI V w sb ob most k t S1 X) (hb:Below w.heap.size w w'):KepI V w' sb ob most k t S1 X :=
 { h with st:=h.st.below hb,low:=h.low.trans (hb.mono h.low.size),dx:=h.dx.below hb }
theorem KepI.more {V w:World} {sb ob most k:Nat} {t:Int} {S1:StoD} {X:TabD} (h:KepI V w sb ob most k t S1 X):KepI V w sb ob most (k+1) t S1 X :=
 { h with room:=by have:=h.room; omega,wl:=by have:=h.wl; omega,e:=by have:=h.e; omega,rl:=by have:=h.rl; omega }
theorem KepI.fits {V w:World} {sb ob most k:Nat} {t:Int} {S1:StoD} {X:TabD} (h:KepI V w sb ob most k t S1 X) (hk:k < most) {m:Msg} (hr:df m=true) (h0:m.kind≠0):(((bv S1.T.R.e m).length+(bg m).length:Nat):Int)<=S1.T.D.room:=by
 obtain ⟨l1,l2⟩:=ahl (afq h.st.sto.tape) hr h0;have:=h.room;omega
theorem KepI.pass {V w:World} {sb ob most k:Nat} {t:Int} {S1:StoD} {X:TabD} (n:Int) (h:KepI V w sb ob most k t S1 X) (ht:t<=1000000) (hn:0<=n/\n<=100000) :
 Calls Tryz.prog 8 #[.pointer (some ⟨sb,0,none⟩),.int .i64 n] w λe w'=>(∃ v,e=.returned v)/\KepI V w' sb ob most k (t+n) { S1 with now:=S1.now+n } X/\Mod (λj=>j=sb) w w':=by
 have F:=h.now;have E:=h.blk;subst E;have:=ahn n w h.st.sto ⟨by omega,by omega⟩;rw [akh (now:=S1.now) ⟨by omega,by omega⟩ hn] at this;refine this.mono ?_;rintro e w' ⟨rfl,I,B⟩;have A:∀ j,j=S1.blk->S1.foot j:=λj e=>.inl e
 refine ⟨⟨_,rfl⟩,?_,B⟩;exact ⟨⟨I,h.st.tab.mod B (λj J e=>h.st.away j (A j e) J),h.st.top,h.st.dk,h.st.away⟩,h.quiet,⟨by show 0<=S1.now+n; omega,by show S1.now+n<=t+n; omega⟩,h.blk,h.oblk,h.room,h.wl,h.e,h.b,h.rl,λp hp=>⟨(h.recs p hp).1,by have:=(h.recs p hp).2; show p.2.born<=S1.now+n; omega⟩,h.ft,h.low.trans (B.to_below _ h.low.size λj e=>h.ft j (A j e)),h.dx.next (B.mono λj _ e=>.inl (A j e)) rfl rfl rfl rfl rfl (λ_ h=>.inl h) (λ_ h=>.inl h),h.syn⟩
theorem KepI.next {V w:World} {sb ob most k:Nat} {t:Int} {S1:StoD} {X:TabD} {w2:World} {S2:StoD} {m:Msg} (h:KepI V w sb ob most k t S1 X) (hk:k < most) (hr:df m=true) (hki:m.kind=1) (hbn:m.born=S1.now) (h1:StoTab V.heap.size w2 S2 X) (hp:Put w.heap.size S1 S2 m true) (hm:Mod S1.foot w w2):KepI V w2 sb ob most (k+1) t S2 X:=by
 have h0:m.kind≠0:=by omega
 obtain ⟨l1,l2⟩:=ahl (afq h.st.sto.tape) hr h0;obtain ⟨_,J,M⟩:=ahj h.st.sto h1.sto hp;have B:=ahi h.st.sto h1.sto hp;have E:(fu (lv S1.T.R.e m)).length=(bv S1.T.R.e m).length+(bg m).length:=by rw [tq,List.length_append]
 have F:S2.now=S1.now:=by rw [hp.same]
 refine ⟨h1,hp.quiet,by rw [F]; exact h.now,by rw [hp.same]; exact h.blk,hp.oblk.trans h.oblk,?_,?_,?_,hp.b.trans h.b,?_,?_,λj I=>(hp.foot j I).elim (h.ft j) λN=>by have:=h.low.size; omega,h.low.trans (hm.to_below _ h.low.size h.ft),h.dx.next (hm.mono λj _ I=>.inl I) (by rw [hp.same]) (by rw [hp.same]) (by rw [hp.same]) hp.oblk (by rw [hp.same]) hp.foot λ_ h=>.inl h,hp.waits.2⟩
 . rw [hp.room,E]; have:=h.room; omega
 . have:=hp.wl; have:=h.wl; omega
 . have:=h.e; omega
 . rw [B,List.length_append,List.length_singleton]; have:=h.rl; omega
 ·
  intro p A;rw [B] at A;rw [F]
  rcases List.mem_append.1 A with A | A
  . exact h.recs p A
  . rw [List.mem_singleton] at A; subst A; exact ⟨hki,by show m.born<=_; omega⟩
theorem ahr {V w3 w4:World} {D:DiskD} {nw used:Int} {S0:StoD} {X:TabD} (h:MadeI V.heap.size w3 w4 D nw used S0 X) (hb3:Below V.heap.size V w3) (hD:∀ k,D.foot k->V.heap.size<=k) (most:Nat) (hroom:((most * 1531:Nat):Int)<=D.room - used) (hn:0<=nw):KepI V w4 S0.blk S0.T.O.blk most 0 nw S0 X:=by
 obtain ⟨f1,I,J⟩:=h.fits;have E:Below V.heap.size V w4:=hb3.trans (h.mod.to_below _ hb3.size hD);have F:∀ k,S0.foot k->V.heap.size<=k:=λk hk=>(h.foot k hk).elim (hD k) λh=>by have:=hb3.size; omega
 have A:S0.T.O.recs=[]:=I;refine ⟨h.st,h.q,by rw [h.now]; omega,rfl,rfl,by have:=h.room; omega,by rw [J]; exact Nat.zero_le _,by rw [f1]; exact Nat.zero_le _,h.b,by rw [A]; exact Nat.zero_le _,λp hp=>(by rw [A] at hp; cases hp),F,E,?_,h.syn⟩;obtain ⟨C,D2,Y,B,h1,M,N,d,g1,g2,g3,g4⟩:=h.dis;exact ⟨C,D2,Y,B,h1.mono λk hk=>Nat.le_trans hb3.size hk,M,N,d,g1,g2,Nat.le_trans hb3.size g3,g4⟩
structure StpI (V w:World) (S:StoD) (B k:Nat):Prop where
 low:Below V.heap.size V w
 st:StoAt V.heap.size w S
 dp:S.dp=.pointer (some ⟨B,0,none⟩)
 ex:∃ C D X mk d r,DisB V.heap.size B (λk=>V.heap.size<=k) w S C D X (S.T.O.recs.take k) mk d r/\(∀ p∈S.T.O.recs.take k,(p.1:Int) < d)/\(∀ p∈S.T.O.recs.drop k,d<=(p.1:Int))/\((20 * ((S.T.O.recs.drop k).length+abj (S.T.O.recs.drop k)):Nat):Int)<=r/\mk+abj (S.T.O.recs.drop k)<=90000
theorem arx {base:Nat} {w:World} {S:StoD} (h:StoAt base w S) (hk:∀ p∈S.T.O.recs,p.2.kind=1):abj S.T.O.recs<=3 * S.T.O.recs.length :=
 ahq _ λp A=>(qd (zh h.tape (id:=p.1) (m:=p.2) A).1 (by have:=hk p A; omega)).2.2.2.2.2.2.2.2.2.1
theorem KepI.step0 {V w:World} {sb ob most k:Nat} {t:Int} {S1:StoD} {X:TabD} (h:KepI V w sb ob most k t S1 X) (hk:k<=1000):∃ B,StpI V w S1 B 0:=by
 obtain ⟨C,D,Y,B,h1,F,I⟩:=h.dx;have A:=arx h.st.sto λp hp=>(h.recs p hp).1
 have E:=h.rl;exact ⟨B,h.low,h.st.sto,h1.dp,C,D,Y,0,0,4194184,h1,λp hp=>(by cases hp),λp _=>by omega,by rw [List.drop_zero]; omega,by rw [List.drop_zero]; omega⟩
theorem aow {l:List (Nat×Msg)} {k:Nat} (h:k < l.length):l.drop k=l[k] :: l.drop (k+1):=List.drop_eq_getElem_cons h
theorem StpI.next {V w:World} {S:StoD} {B k:Nat} (h:StpI V w S B k) (hT:TabB V.heap.size w) (hq:Quiet S.T.D) (hl:S.T.O.recs.length<=1000) (hk:∀ p∈S.T.O.recs,p.2.kind=1) (hsy:S.T.R.synced=S.T.R.e) (he:S.T.R.e<=1000000) :
 Calls Tryz.prog 16 #[.pointer (some ⟨B,0,none⟩)] w λe w'=>(∃ b,e=.returned (.tuple #[.bool b,.int .i64 0]))/\StpI V w' S B (k+1):=by
 obtain ⟨C,D,X,mk,d,r,g,h1,h2,h3,h4⟩:=h.ex;have hs:(S.T.O.recs.map (·.1)).Pairwise (· < ·):=by rw [h.st.tape.recs]; exact (ku h.st.tape.fits).2
 have ap:∀ k,S.T.foot k->S.foot k:=λk hk=>.inr (.inl hk)
 have E:S.T.O.recs=S.T.O.recs.take k++S.T.O.recs.drop k:=(List.take_append_drop ..).symm
 by_cases hlt:k < S.T.O.recs.length
 ·
  have I:=aow hlt;obtain ⟨p,hp⟩:∃ p,S.T.O.recs[k]=p:=⟨_,rfl⟩;have Z:S.T.O.recs.take (k+1)=S.T.O.recs.take k++[p]:=by rw [List.take_succ_eq_append_getElem hlt,hp]
  have F:p∈S.T.O.recs:=by rw [<- hp]; exact List.getElem_mem hlt
  rw [hp] at I;obtain ⟨id,m⟩:=p;have ab:((S.T.O.recs.take k++(id,m) :: S.T.O.recs.drop (k+1)).map (·.1)).Pairwise (· < ·):=by rw [<- I,<- E]; exact hs
  rw [List.map_append] at ab;have U:=(List.pairwise_append.1 ab);have ar:=List.pairwise_cons.1 (show (id :: (S.T.O.recs.drop (k+1)).map (·.1)).Pairwise (· < ·) from U.2.1)
  have hn:jr S.T.O.recs d=((id:Int),true):=by
   have:jr S.T.O.recs d=jr ((id,m) :: S.T.O.recs.drop (k+1)) d:=by
    conv=>lhs; rw [E,I]
    exact ab4 d _ _ h1
   rw [this];exact adr (id,m) _ d (h2 _ (by rw [I]; exact .head _)) U.2.1
  obtain ⟨g1,_,_,g4,_⟩:=zh h.st.tape (id:=id) (m:=m) F;have bc:=abe m;have ac:abj (S.T.O.recs.drop k)=m.keys.length+abj (S.T.O.recs.drop (k+1)):=by rw [I]; exact adv _ _
  have ad:(S.T.O.recs.drop k).length=(S.T.O.recs.drop (k+1)).length+1:=by rw [I]; rfl
  rw [ac,ad] at h3;rw [ac] at h4;have av:(S.T.O.recs.take k).length<=9999:=by rw [List.length_take]; omega
  have bh:=g.room;refine (aoh id m d w h.st.tape hT h.low.size hq.up g.cell (by omega) hn (by omega) F g.inv (arf g1 (hk _ F) (by show id<=_; omega)) g.nB (λj J N=>(g.apart j (ap j N)).1 J) (by omega) av (by omega)).mono ?_;rintro e w' ⟨rfl,⟨C',D',X',t⟩,a1⟩;have bj:=(Array.getElem?_eq_some_iff.1 g.cell).1
  have a6:∀ p∈S.T.O.recs.drop (k+1),id+(bg m).length<=p.1:=λp A=>by
   have ak:p∈S.T.O.recs:=List.mem_of_mem_drop A;have al:id < p.1:=ar.1 p.1 (List.mem_map.2 ⟨p,A,rfl⟩);rw [h.st.tape.recs] at F ak;exact ajf h.st.tape.fits id p.1 m p.2 F ak al
  refine ⟨⟨_,rfl⟩,h.low.trans (t.mod.to_below _ h.low.size λj J=>g.low j J),h.st.mod t.mod λj J N=>N.elim (g.apart j J).1 (g.apart j J).2,h.dp,C',D',X',mk+m.keys.length,(id:Int)+((bg m).length:Int),r - ((20 * (1+m.keys.length):Nat):Int),?_,?_,?_,by omega,by omega⟩
  ·
   rw [Z];refine ⟨t.inv,by rw [t.cb]; exact g.cq,by rw [t.xb]; exact g.kx,g.dp,by rw [t.cb,t.xb]; exact a1,λj J=>?_,λN=>?_,λj J=>?_,g.lowB,by rw [t.room]; omega⟩
   . exact ⟨λN=>(t.foot j N).elim (g.apart j J).1 λh6=>by have:=h.st.lt J; omega,(g.apart j J).2⟩
   . exact (t.foot B N).elim g.nB λh6=>by omega
   . exact J.elim (λN=>(t.foot j N).elim (λh6=>g.low j (.inl h6)) λh6=>Nat.le_trans h.low.size h6) λN=>g.low j (.inr N)
  ·
   intro p A;rw [Z] at A
   rcases List.mem_append.1 A with A | A
   . have:=U.2.2 p.1 (List.mem_map.2 ⟨p,A,rfl⟩) id (.head _); omega
   . rw [List.mem_singleton] at A; subst A; show (id:Int) < _; omega
  . intro p A; have:=a6 p A; omega
 ·
  have an:S.T.O.recs.drop k=[]:=List.drop_eq_nil_of_le (by omega);have ao:S.T.O.recs.take (k+1)=S.T.O.recs.take k:=by rw [List.take_of_length_le (by omega),List.take_of_length_le (by omega)]
  have Y:S.T.O.recs.drop (k+1)=S.T.O.recs.drop k:=by rw [an,List.drop_eq_nil_of_le (by omega)]
  refine (adq w h.st.tape.own g.cell hs (by omega) (by
   have:jr S.T.O.recs d=jr [] d:=by
    conv=>lhs; rw [E,an]
    exact ab4 d _ [] h1
   rw [this]; rfl)).mono ?_
  rintro e w' ⟨rfl,hd⟩;have hb:Below w.heap.size w w':=hd.below _;exact ⟨⟨_,rfl⟩,h.low.trans (hb.mono h.low.size),h.st.below hb,h.dp,C,D,X,mk,d,r,by rw [ao]; exact g.next (M:=λ_=>False) (Mod.of_below hb) (λk h=>h.elim) rfl rfl rfl rfl (λ_ h=>.inl h),by rw [ao]; exact h1,by rw [Y]; exact h2,by rw [Y]; exact h3,by rw [Y]; exact h4⟩
structure OpD where
 x:lu
 a:Option Addr
 c:Nat
 n:Int
def ajq (p:OpD):Array Value:=#[.string (S p.x.topic),.int .i64 p.x.queue,.string (S p.x.tag),.slice p.a p.x.keys.length p.c,.string (S p.x.body),.int .u8 p.n]
def OpRow (w:World) (a:Option Addr) (ms:List OpD):Prop :=
 ∀ i (h:i < ms.length),∃ g off,a=some ⟨g,off,none⟩/\(∀ (j:Nat) (v:Value),(ajq ms[i])[j]?=some v->w.cell? ⟨g,off+i * 6+j,none⟩=some v)/\Strs w ms[i].a (ms[i].x.keys.map S)
theorem OpRow.below {w w':World} {a:Option Addr} {ms:List OpD} (h:OpRow w a ms) (hb:Below w.heap.size w w'):OpRow w' a ms:=λi B=>by
 obtain ⟨g,off,h1,E,F⟩:=h i B;exact ⟨g,off,h1,λj v I=>by have A:=E j v I; rw [hb.cell (bq A)]; exact A,Strs.below F hb⟩
theorem ahs (ms:List OpD) (a0:Option Addr) (c0:Nat) (W:World) (h:OpRow W a0 ms) (hl:ms.length<=9223372036854775807) :
 Calls Tryz.prog 5 #[.slice a0 ms.length c0] W λe w'=>e=.returned (.bool (decide (60 < ms.length) || ms.any λp=>gu p.x))/\Below W.heap.size W w':=by
 have HH:=zq h;clear h;go_enter Tryz.func5,Tryz.ntmps5
 by_cases h60:60 < ms.length
 ·
  have Y:(60:Int) < (ms.length:Int):=by omega
  rw [decide_eq_true h60,Bool.true_or];go_wp2_with fail;go_ret;exact ⟨rfl,Below.refl _ _⟩
 have Y:(ms.length:Int)<=(60:Int):=by omega
 rw [decide_eq_false h60,Bool.false_or];go_wp2_with fail;go_loopw [10] (λi wr=>∃ k:Nat,k<=ms.length/\i=.int .i64 (k:Int)/\Zq (((ms.take k).any λp=>gu p.x)=false/\Below W.heap.size W wr)) (λi _=>ms.length - (intOf i).toNat)
 case atStart=>exact ⟨0,Nat.zero_le _,rfl,rfl,Below.refl _ _⟩
 case round =>
  obtain ⟨k,hk,rfl,M⟩:=hrel;obtain ⟨E,rfl⟩:∃ E:World,E=wr:=⟨_,rfl⟩
  by_cases hlt:k < ms.length
  ·
   obtain ⟨g,off,rfl,A,B⟩:=(HH.o.below M.o.2) k hlt;obtain ⟨p,hp⟩:∃ p,ms[k]=p:=⟨_,rfl⟩
   have I:Zq (((ms.take (k+1)).any λp=>gu p.x)=gu p.x):=by
    show _=_;rw [List.take_succ_eq_append_getElem hlt,List.any_append,M.o.1,hp]; simp
   have J:Zq (gu p.x=true->(ms.any λp=>gu p.x)=true):=λhg=>List.any_eq_true.2 ⟨p,by rw [<- hp]; exact List.getElem_mem hlt,hg⟩
   rw [hp] at A B;clear hp;obtain ⟨x,a,c,n⟩:=p;dsimp only at A B I J;have k0:E.cell? ⟨g,off+k * 6,none⟩=some (.string (S x.topic)):=A 0 _ rfl;have k1:E.cell? ⟨g,off+k * 6+1,none⟩=some (.int .i64 x.queue):=A 1 _ rfl;have k2:E.cell? ⟨g,off+k * 6+2,none⟩=some (.string (S x.tag)):=A 2 _ rfl;have k3:E.cell? ⟨g,off+k * 6+3,none⟩=some (.slice a x.keys.length c):=A 3 _ rfl;have k4:E.cell? ⟨g,off+k * 6+4,none⟩=some (.string (S x.body)):=A 4 _ rfl;have k5:E.cell? ⟨g,off+k * 6+5,none⟩=some (.int .u8 n):=A 5 _ rfl;have N:Below E.heap.size E (E.alloc (.cells #[.string (S x.topic),.int .i64 x.queue,.string (S x.tag),.slice a x.keys.length c,.string (S x.body),.int .u8 n] 48)):=(Below.refl _ E).alloc (Nat.le_refl _) _;have F:=heap_alloc_new E (.cells #[.string (S x.topic),.int .i64 x.queue,.string (S x.tag),.slice a x.keys.length c,.string (S x.body),.int .u8 n] 48);have Z:=zq (Strs.below B N);have O:=zq (M.o.2.trans (N.mono M.o.2.size));clear A B N M;go_upto_region 6 with fail
   clear k0 k1 k2 k3 k4 k5;generalize E.alloc (.cells #[.string (S x.topic),.int .i64 x.queue,.string (S x.tag),.slice a x.keys.length c,.string (S x.body),.int .u8 n] 48)=w5 at *
   obtain ⟨G,hG⟩:∃ G,E.heap.size=G:=⟨_,rfl⟩;rw [hG] at F ⊢;have k0:=aa F 0 _ rfl;have k1:=aa F 1 _ rfl;have k2:=aa F 2 _ rfl;have k3:=aa F 3 _ rfl;have k4:=aa F 4 _ rfl;have R:Below w5.heap.size w5 (w5.alloc (.cells #[.string (S x.topic),.int .i64 x.queue,.string (S x.tag),.slice a x.keys.length c,.string (S x.body)] 42)):=(Below.refl _ w5).alloc (Nat.le_refl _) _;have ab:=heap_alloc_new w5 (.cells #[.string (S x.topic),.int .i64 x.queue,.string (S x.tag),.slice a x.keys.length c,.string (S x.body)] 42)
   have U:=zq (amf [(x,a,c)] (some ⟨w5.heap.size,0,none⟩) 1 (w5.alloc (.cells #[.string (S x.topic),.int .i64 x.queue,.string (S x.tag),.slice a x.keys.length c,.string (S x.body)] 42)) (λi hi=>by
    have ar:i=0:=by simpa using hi
    subst ar;refine ⟨_,_,rfl,λj v hv=>?_,Strs.below Z.o R⟩;have:0+0 * 5+j=j:=by omega
    rw [this];exact aa ab j v hv) (by simp))
   have X:=zq (O.o.trans (R.mono O.o.size));rw [show ([(x,a,c)]:List (lu×Option Addr×Nat)).length=1 from rfl,show ([(x,a,c)]:List (lu×Option Addr×Nat)).any (λp=>gu p.1)=gu x by simp] at U;clear F R ab Z O hG;go_wp2_with fail;refine U.o.mono ?_;rintro e w7 ⟨rfl,ac⟩;have ad:=zq (X.o.trans (ac.mono X.o.size));clear ac U X k0 k1 k2 k3 k4
   cases hg:gu x with
   | true =>
     have HG:=zq (J.o hg);go_wp2_with fail;go_ret;exact ⟨by rw [HG.o]; rfl,ad.o⟩
   | false =>
     rw [hg] at I;go_wp2_with fail;go_roundw
     case rel=>exact ⟨k+1,by omega,by go_num,I.o,ad.o⟩
     case measure=>simp [intOf]; omega
  ·
   obtain rfl:k=ms.length:=by omega
   have HG:=M.o.1;rw [List.take_length] at HG;go_wp2_with fail;go_ret;exact ⟨by rw [HG]; rfl,M.o.2⟩
structure KepE (V w:World) (S:StoD) (B:Nat) (d:Int):Prop where
 low:Below V.heap.size V w
 st:StoAt V.heap.size w S
 dp:S.dp=.pointer (some ⟨B,0,none⟩)
 nB:B≠S.blk
 cell:∃ cs,w.heap[B]?=some (.cells cs 91 (0,0))/\cs[3]?=some (.int .i64 d)/\∀ p∈S.T.O.recs,(p.1:Int) < d
 quiet:Quiet S.T.D
 b:S.T.R.b=0
 e:S.T.R.e<=1000000
 rl:S.T.O.recs.length<=1000
 now:0<=S.now/\S.now<=1000000
 born:∀ p∈S.T.O.recs,p.2.born<=S.now
 ft:V.heap.size<=S.blk
theorem ajr (ms:List OpD) (a0:Option Addr) (c0:Nat) (W:World) (hT:TabB W.heap.size W) (hR:OpRow W a0 ms) (hl:ms.length<=60) (hok:∀ p∈ms,xu p.x/\(0<=p.n/\p.n<=255)) :
 Calls Tryz.prog 6 #[.slice a0 ms.length c0,.int .i64 (ms.length:Int)] W λe w'=>∃ S1 B d,e=.returned (.tuple #[.pointer (some ⟨S1.blk,0,none⟩),.bool true])/\KepE W w' S1 B d/\S1.now<=100000:=by
 have a1:Zq (∀ w,Below W.heap.size W w->TabB W.heap.size w):=λw hb=>hT.below hb
 have HH:=zq hR;have cm:=zq hok;have HL:=zq hl;have bd:=zq (DskW.new_any 1048576 W.heap.size W (Nat.le_refl _));clear hT hR hok hl;go_enter Tryz.func6,Tryz.ntmps6;go_wp2_with fail;refine bd.o.mono ?_;rintro e w3 ⟨D,rfl,hD,ab,co,cp,bh,bj,a6,bk,cq,bl⟩;have bm:D.room=1048576:=abk a6 (by rw [bl]; rfl);have HM:=zq (ahk 0 w3 hD ⟨bh,bj⟩ a6 bk ab.size (a1.o w3 ab) (by decide) (by omega));rw [show ((0:Nat):Int)=0 from rfl] at HM;have bo:=zq ab;have bp:=zq bm;have br:Zq (∀ k,D.foot k->W.heap.size<=k):=λk hk=>hD.base_le hk
 clear hD ab co cp bh bj a6 bk cq bl bm bd;go_wp2_with fail;refine HM.o.mono ?_;rintro e w4 ⟨S0,X,rfl,bs,ar⟩;have Z:=zq ar;have bw:=zq (ahr bs bo.o br.o 61 (by have:=bp.o; omega) (Int.le_refl 0));clear bs ar HM bp br bo;generalize S0.blk=sb at *
 generalize S0.T.O.blk=ob at *
 go_wp2_with fail;go_loopw [22] (λi wr=>∃ k:Nat,k<=ms.length/\i=.int .i64 (k:Int)/\∃ t S1,t<=30 * (k:Int)/\Zq (KepI W wr sb ob 61 k t S1 X)) (λi _=>ms.length - (intOf i).toNat)
 case atStart=>exact ⟨0,Nat.zero_le _,rfl,0,S0,by omega,bw⟩
 case round =>
  obtain ⟨k,hk,rfl,t,S1,ht,F⟩:=hrel;obtain ⟨M,rfl⟩:∃ M:World,M=wr:=⟨_,rfl⟩;have dk:=HL.o
  by_cases hlt:k < ms.length
  ·
   obtain ⟨g,off,rfl,A,N⟩:=(HH.o.below F.o.low) k hlt;have I:=cm.o ms[k] (List.getElem_mem hlt);have ac:Strs W ms[k].a (ms[k].x.keys.map S):=(HH.o k hlt).elim λ_ h=>h.elim λ_ h=>h.2.2
   obtain ⟨p,hp⟩:∃ p,ms[k]=p:=⟨_,rfl⟩;rw [hp] at A N I ac;clear hp;obtain ⟨x,a,c,n⟩:=p;dsimp only at A N I ac;obtain ⟨I,cs⟩:=I;have k0:M.cell? ⟨g,off+k * 6,none⟩=some (.string (S x.topic)):=A 0 _ rfl;have k1:M.cell? ⟨g,off+k * 6+1,none⟩=some (.int .i64 x.queue):=A 1 _ rfl;have k2:M.cell? ⟨g,off+k * 6+2,none⟩=some (.string (S x.tag)):=A 2 _ rfl;have k3:M.cell? ⟨g,off+k * 6+3,none⟩=some (.slice a x.keys.length c):=A 3 _ rfl;have k4:M.cell? ⟨g,off+k * 6+4,none⟩=some (.string (S x.body)):=A 4 _ rfl;have k5:M.cell? ⟨g,off+k * 6+5,none⟩=some (.int .u8 n):=A 5 _ rfl;have bz:Below M.heap.size M (M.alloc (.cells #[.string (S x.topic),.int .i64 x.queue,.string (S x.tag),.slice a x.keys.length c,.string (S x.body),.int .u8 n] 48)):=(Below.refl _ M).alloc (Nat.le_refl _) _;have ad:=heap_alloc_new M (.cells #[.string (S x.topic),.int .i64 x.queue,.string (S x.tag),.slice a x.keys.length c,.string (S x.body),.int .u8 n] 48);have b0:Zq (Strs W a (x.keys.map S)):=ac;have b1:Zq (sb < M.heap.size):=by have:=F.o.st.sto.lt (.inl rfl); rw [F.o.blk] at this; exact this
   have b2:=zq (F.o.below bz);clear A N bz F ac;go_upto_region 7 with fail
   clear k0 k1 k2 k3 k4 k5;generalize M.alloc (.cells #[.string (S x.topic),.int .i64 x.queue,.string (S x.tag),.slice a x.keys.length c,.string (S x.body),.int .u8 n] 48)=w5 at *
   obtain ⟨G,hG⟩:∃ G,M.heap.size=G:=⟨_,rfl⟩;rw [hG] at ad b1 ⊢;clear hG;have k5:=aa ad 5 _ rfl;obtain ⟨q,hq⟩:∃ q:Int,n.tmod 30=q:=⟨_,rfl⟩;have ds:0<=q/\q < 30:=by rw [<- hq]; exact ⟨Int.tmod_nonneg 30 cs.1,Int.tmod_lt_of_pos n (by decide)⟩
   have cw:IntKind.i64.wrap n=n:=IntWalk.i64_in _ (by omega);have cx:IntKind.i64.wrap q=q:=IntWalk.i64_in _ (by omega);have b3:=zq (b2.o.pass q (by omega) (by omega));have b4:=zq ad;clear ad;go_wp2_with fail;refine b3.o.mono ?_;rintro e w6 ⟨⟨v,rfl⟩,ak,b6⟩
   have cy:G≠sb:=λe=>by
    have:=b1.o;omega
   have U:=eu b6 b4.o cy;clear b6 b3 b4 k5 cw cx;have av:Strs w6 a (x.keys.map S):=Strs.below b0.o ak.low;obtain ⟨S2,b7⟩:∃ S2,S2={ S1 with now:=S1.now+q }:=⟨_,rfl⟩;rw [<- b7] at ak;clear b7;have E:=zq ak;have al:=zq av;clear ak av b2 b0;have k0:=aa U 0 _ rfl;have k1:=aa U 1 _ rfl;have k2:=aa U 2 _ rfl;have k3:=aa U 3 _ rfl;have k4:=aa U 4 _ rfl;clear U;have b8:=E.o.now;have am:gq S2.now=false:=by unfold gq; simp; omega
   by_cases hck:pq ad2 x=0
   ·
    have hr:=zk (ki:=1) (due:=0) (now:=S2.now) xw hck (.inl ⟨rfl,rfl⟩) rfl am;have c6:=E.o.rl;have c8:=E.o.wl;have da:=E.o.e
    have J:=zq (akg x true I (by rw [Z.o]; exact hck) (by rw [Z.o]; exact xw) a c w6 E.o.st (by rw [Z.o]; decide) al.o E.o.quiet (a1.o _ E.o.low) E.o.low.size am
     (E.o.fits (by omega) hr (by show (1:Int)≠0; decide)) (by omega) (by omega) (by omega))
    rw [show gp x a c=#[.string (S x.topic),.int .i64 x.queue,.string (S x.tag),.slice a x.keys.length c,.string (S x.body)] from rfl,E.o.blk] at J;have b9:Zq (∀ S3 w7,StoTab W.heap.size w7 S3 X->Put w6.heap.size S2 S3 (pu x 1 0 S2.now) true->Mod S2.foot w6 w7->KepI W w7 sb ob 61 (k+1) (t+q) S3 X):=λS3 w7 an ao ap=>E.o.next (by omega) hr rfl rfl an ao ap
    clear hr I hck c6 c8 da am b8;generalize ((S2.T.R.e+(bv S2.T.R.e (pu x 1 0 S2.now)).length:Nat):Int)=idn at *
    go_wp2_with fail;refine J.o.mono ?_;rintro e w7 ⟨rfl,S3,an,ao,ap⟩;have a8:=zq (b9.o S3 w7 an ao ap);clear an ao ap J b9 E al k0 k1 k2 k3 k4;go_wp2_with fail;go_roundw
    case rel=>exact ⟨k+1,by omega,by go_num,t+q,S3,by omega,a8⟩
    case measure=>simp [intOf]; omega
   ·
    have J:=zq (aop x true I (pq ad2 x) (by rw [Z.o]) hck a c w6 E.o.st (by rw [Z.o]; decide) al.o);rw [show gp x a c=#[.string (S x.topic),.int .i64 x.queue,.string (S x.tag),.slice a x.keys.length c,.string (S x.body)] from rfl,E.o.blk] at J;obtain ⟨r,hr⟩:∃ r,pq ad2 x=r:=⟨_,rfl⟩;rw [hr] at J;clear I hck hr am b8;go_wp2_with fail;refine J.o.mono ?_;rintro e w7 ⟨rfl,ca⟩;have a8:=zq (E.o.below ca).more;clear ca J E al k0 k1 k2 k3 k4;go_wp2_with fail;go_roundw
    case rel=>exact ⟨k+1,by omega,by go_num,t+q,S2,by omega,a8⟩
    case measure=>simp [intOf]; omega
  ·
   obtain rfl:k=ms.length:=by omega
   obtain ⟨B,cb⟩:=F.o.step0 (by omega);have db:=zq cb;have cc:Zq (S1.blk=sb):=F.o.blk;have dc:Zq (S1.now<=100000):=by have:=F.o.now; show _<=_; omega
   have dd:Zq (∀ w,StpI W w S1 B ms.length->∃ d,KepE W w S1 B d):=λw h=>by
    obtain ⟨C,D2,Y,mk,d,r,g,h1,_⟩:=h.ex;have dn:=F.o.now;exact ⟨d,h.low,h.st,h.dp,λe=>(g.apart S1.blk (.inl rfl)).2 e.symm,⟨_,g.cell,rfl,λp hp=>h1 p (by rw [List.take_of_length_le F.o.rl]; exact hp)⟩,F.o.quiet,F.o.b,by have:=F.o.e; omega,by have:=F.o.rl; omega,by omega,λp hp=>(F.o.recs p hp).2,F.o.ft _ (.inl rfl)⟩
   clear cb bw;go_wp2_with fail;go_loopw [10] (λi wr=>∃ j:Nat,j<=ms.length/\i=.int .i64 (j:Int)/\Zq (StpI W wr S1 B j)) (λi _=>ms.length - (intOf i).toNat)
   case atStart=>exact ⟨0,Nat.zero_le _,rfl,db⟩
   case round =>
    obtain ⟨j,hj,rfl,HJ⟩:=hrel;obtain ⟨wB,rfl⟩:∃ wB:World,wB=wr:=⟨_,rfl⟩
    by_cases hlt2:j < ms.length
    ·
     have c7:wB.cell? ⟨sb,7,none⟩=some (.pointer (some ⟨B,0,none⟩)):=by
      have h1:wB.cell? ⟨S1.blk,7,none⟩=some S1.dp:=HJ.o.st.cell 7 _ rfl;rw [HJ.o.dp,cc.o] at h1;exact h1
     have ce:=zq (HJ.o.next (a1.o wB HJ.o.low) F.o.quiet (by have:=F.o.rl; omega) (λp hp=>(F.o.recs p hp).1) F.o.syn (by have:=F.o.e; omega));go_wp2_with fail;refine ce.o.mono ?_;rintro e w8 ⟨⟨bb,rfl⟩,cf⟩;have de:=zq cf;clear cf ce HJ c7;go_wp2_with fail;go_roundw
     case rel=>exact ⟨j+1,by omega,by go_num,de⟩
     case measure=>simp [intOf]; omega
    . obtain rfl:j=ms.length:=by omega
      go_wp2_with fail;go_ret2;obtain ⟨d,hd⟩:=dd.o _ HJ.o;exact ⟨S1,B,d,by rw [cc.o]; rfl,hd,dc.o⟩
theorem aht {b c:Nat} {w:World} (h:TabB b w) (hc:b<=c):TabB c w:=by
 obtain ⟨W,h1,A,B⟩:=h;exact ⟨W,h1,Nat.le_trans A hc,B⟩
def ad5 (S:StoD) (d age:Int):Bool:=decide (1024 < S.T.R.e) && ahp (lw S.T.O.recs) d S.now age
theorem KepE.old {V w:World} {S:StoD} {B:Nat} {d:Int} (h:KepE V w S B d) (hT:TabB V.heap.size w) (age:Int) (ha:0<=age/\age<=100000) :
 Calls Tryz.prog 7 #[.pointer (some ⟨S.blk,0,none⟩),.int .i64 age] w λe w'=>e=.returned (.bool (ad5 S d age))/\Below w.heap.size w w':=by
 by_cases he:1024 < S.T.R.e
 ·
  unfold ad5;rw [decide_eq_true he,Bool.true_and];obtain ⟨E,h1,A,_⟩:=h.cell;exact aqc d age w ⟨h.st,h.dp,E,h1,A⟩ h.b ⟨he,h.e⟩ h.rl h.quiet.up hT h.low.size ha (by have:=h.now; omega)
 . unfold ad5
   rw [decide_eq_false he,Bool.false_and];exact (ajp age w h.st h.b (by omega) ha.1).mono λe w' ⟨h1,A⟩=>⟨h1,A ▸ Below.refl _ _⟩
theorem KepE.below {V w w':World} {S:StoD} {B:Nat} {d:Int} (h:KepE V w S B d) (hb:Below w.heap.size w w'):KepE V w' S B d :=
 { h with low:=h.low.trans (hb.mono h.low.size),st:=h.st.below hb,cell:=h.cell.elim λA ⟨h1,E⟩=>⟨A,jd hb h1,E⟩ }
theorem KepE.pass {V w:World} {S:StoD} {B:Nat} {d:Int} (h:KepE V w S B d) (n:Int) (hn:0<=n/\n<=100000) (hw:S.now<=100000) :
 Calls Tryz.prog 8 #[.pointer (some ⟨S.blk,0,none⟩),.int .i64 n] w λe w'=>(∃ v,e=.returned v)/\KepE V w' { S with now:=S.now+n } B d:=by
 have A:=h.now;have:=ahn n w h.st ⟨by omega,by omega⟩;rw [akh (now:=S.now) ⟨by omega,by omega⟩ hn] at this;refine this.mono ?_;rintro e w' ⟨rfl,F,E⟩;obtain ⟨I,h1,J⟩:=h.cell;exact ⟨⟨_,rfl⟩,h.low.trans (E.to_below _ h.low.size λj e=>e ▸ h.ft),F,h.dp,h.nB,⟨I,eu E h1 h.nB,J⟩,h.quiet,h.b,h.e,h.rl,⟨by show 0<=S.now+n; omega,by show S.now+n<=1000000; omega⟩,λp hp=>by have:=h.born p hp; show p.2.born<=S.now+n; omega,h.ft⟩
theorem aox {l:List (Nat×Msg)} {d n1 n2 a b:Int} (ha:0<=a/\a<=b) (hb:b<=100000) (hn:n1<=n2) (h:ahp l d n1 b=true):ahp l d n2 a=true:=by
 unfold ahp at h ⊢;rw [List.all_eq_true] at h ⊢;intro p hp;have h1:=h p hp;unfold ab6 at h1 ⊢;simp only [Bool.and_eq_true,Bool.or_eq_true,decide_eq_true_eq] at h1 ⊢;refine ⟨h1.1,h1.2.imp_right λA=>?_⟩;omega
theorem ae8 {S S2:StoD} {d a b:Int} (hT:S2.T=S.T) (ha:0<=a/\a<=b) (hb:b<=100000) (hn:S.now<=S2.now) (h:ad5 S d b=true):ad5 S2 d a=true:=by
 unfold ad5 at h ⊢;rw [hT];rw [Bool.and_eq_true] at h ⊢;exact ⟨h.1,aox ha hb hn h.2⟩
theorem KepE.none {V w:World} {S:StoD} {B:Nat} {d:Int} (h:KepE V w S B d) (he:1024 < S.T.R.e):ad5 S d 0=true:=by
 unfold ad5;rw [decide_eq_true he,Bool.true_and];unfold ahp;rw [List.all_eq_true];intro p hp;obtain ⟨I,_,_,E⟩:=h.cell;have A:=(List.mem_filter.1 hp).1;have F:=E p A;have J:=h.born p A;unfold ab6;simp only [Bool.and_eq_true,Bool.or_eq_true,decide_eq_true_eq];exact ⟨F,.inr (by omega)⟩
theorem ajs {base:Nat} {S0:StoD} {id:Nat} {m:Msg} {rest:List (Nat×Msg)} (W:World) (h:StoAt base W S0) (hr:S0.T.O.recs=(id,m) :: rest) (hl:S0.T.O.recs.length<=1000) (hup:S0.T.D.down=false) (hT:TabB base W) (hbase:base<=W.heap.size) :
 Calls Tryz.prog 13 #[.pointer (some ⟨S0.blk,0,none⟩)] W λe w'=>e=.returned (.tuple #[.int .i64 m.born,.bool true])/\Below W.heap.size W w':=by
 have X:(S0.T.O.recs.map (·.1)).Pairwise (· < ·):=by rw [h.tape.recs]; exact (ku h.tape.fits).2
 have I:jr S0.T.O.recs 0=((id:Int),true):=by
  rw [hr];rw [hr] at X;exact adr (id,m) rest 0 (by show (0:Int)<=(id:Int); omega) X
 have A:=zq (TapeW.next_any 0 W h.tape.own X (by omega));rw [I] at A
 have B:Zq (∀ w,Below W.heap.size W w->w.cell? ⟨S0.blk,0,none⟩=some (.pointer (some ⟨S0.T.O.blk,0,none⟩))/\Calls Tryz.prog 18 #[.pointer (some ⟨S0.T.O.blk,0,none⟩),.int .i64 (id:Int)] w λe w'=>∃ a c,e=.returned (.tuple #[.agg (ae m a c),.int .i64 0])/\Below w.heap.size w w'):=λw Y =>
  ⟨(h.below Y).cell 0 _ rfl,(aaa id m w (h.below Y).tape hup (hT.below Y) (Nat.le_trans hbase Y.size) (by rw [hr]; exact .head _)).mono λe w' ⟨a,c,h1,_,h3,_⟩=>⟨a,c,h1,h3⟩⟩
 obtain ⟨k0,_⟩:=B.o W (Below.refl _ _);clear h hr hl hup hT hbase X I;generalize S0.blk=sb at *
 generalize S0.T.O.blk=ob at *
 go_enter Tryz.func13,Tryz.ntmps13;go_wp2_with fail;refine A.o.mono ?_;rintro e w2 ⟨rfl,hd⟩;have E:Zq (Below W.heap.size W w2):=hd.below _;obtain ⟨k1,J⟩:=B.o w2 E.o;have M:=zq J;clear hd J A B k0;go_wp2_with fail;refine M.o.mono ?_;rintro e w3 ⟨a,c,rfl,N⟩;rw [show ae m a c=#[.int .i64 m.kind,.int .i64 m.queue,.int .i64 m.due,.int .i64 m.retry,.int .i64 m.ref,.int .i64 m.born,.string (S m.topic),.string (S m.tag),.string (S m.body),.slice a m.keys.length c] from rfl];have R:=zq (E.o.trans (N.mono E.o.size));have U:Below w3.heap.size w3 (w3.alloc (.cells #[.int .i64 m.kind,.int .i64 m.queue,.int .i64 m.due,.int .i64 m.retry,.int .i64 m.ref,.int .i64 m.born,.string (S m.topic),.string (S m.tag),.string (S m.body),.slice a m.keys.length c] 69)):=(Below.refl _ w3).alloc (Nat.le_refl _) _;have F:=heap_alloc_new w3 (.cells #[.int .i64 m.kind,.int .i64 m.queue,.int .i64 m.due,.int .i64 m.retry,.int .i64 m.ref,.int .i64 m.born,.string (S m.topic),.string (S m.tag),.string (S m.body),.slice a m.keys.length c] 69);have Z:=zq (R.o.trans (U.mono R.o.size));clear N U M k1;go_upto_region 7 with fail
 generalize w3.alloc (.cells #[.int .i64 m.kind,.int .i64 m.queue,.int .i64 m.due,.int .i64 m.retry,.int .i64 m.ref,.int .i64 m.born,.string (S m.topic),.string (S m.tag),.string (S m.body),.slice a m.keys.length c] 69)=w4 at *
 obtain ⟨G,hG⟩:∃ G,w3.heap.size=G:=⟨_,rfl⟩;rw [hG] at F ⊢;have c5:=aa F 5 _ rfl;clear F hG;go_wp2_with fail;go_ret2;exact ⟨rfl,Z.o⟩
theorem ami {base:Nat} {S:StoD} (w:World) (h:StoAt base w S) (hb:S.T.R.b=0) (he:S.T.R.e<=1024) :
 Calls Tryz.prog 14 #[.pointer (some ⟨S.blk,0,none⟩),.int .i64 0] w λe w'=>e=.returned (.tuple #[.bool false,.int .i64 0])/\w'=w:=by
 have B:=zq (ajp 0 w h hb he (Int.le_refl 0));clear h hb he;go_enter Tryz.func14,Tryz.ntmps14;go_wp2_with fail;refine B.o.mono ?_;rintro e w2 ⟨rfl,A⟩;obtain rfl:=A.symm;go_wp2_with fail;go_ret2;exact ⟨rfl,rfl⟩
theorem ahu (W:World) (hT:TabB W.heap.size W) :
 Calls Tryz.prog 4 #[] W λe w'=>e=.returned (.bool true)/\Below W.heap.size W w':=by
 have U:Zq (∀ w,Below W.heap.size W w->TabB W.heap.size w):=λw hb=>hT.below hb
 have al:=zq (DskW.new_any 10000 W.heap.size W (Nat.le_refl _));clear hT;go_enter Tryz.func4,Tryz.ntmps4;go_wp2_with fail;refine al.o.mono ?_;rintro e w3 ⟨D,rfl,hD,I,bk,bl,am,an,Y,ao,bm,ap⟩;have ar:D.room=10000:=abk Y (by rw [ap]; rfl);have HM:=zq (ahk 5 w3 hD ⟨am,an⟩ Y ao I.size (U.o w3 I) (by decide) (by omega));rw [show ((5:Nat):Int)=5 from rfl] at HM;have bp:=zq I;have av:=zq ar;have a1:Zq (∀ k,D.foot k->W.heap.size<=k):=λk hk=>hD.base_le hk
 clear hD I bk bl am an Y ao bm ap ar al;go_wp2_with fail;refine HM.o.mono ?_;rintro e w4 ⟨S0,X,rfl,F,a6⟩;have J:=zq a6;have A:=zq (ahr F bp.o a1.o 6 (by have:=av.o; omega) (by decide));have Z:Zq (S0.now=5):=F.now;have HZ:Zq (S0.T.R.e=0/\S0.T.O.recs=[]):=⟨F.fits.1,F.fits.2.1⟩;clear F a6 HM av a1;have hc:pq X.l aal=0:=by rw [J.o]; exact aqb
 have hr:=zk (ki:=1) (due:=0) (now:=S0.now) (by rw [J.o]; exact xw) hc (.inl ⟨rfl,rfl⟩) rfl (by rw [Z.o]; rfl);have a7:=zq hr;have bs:=A.o.rl;have bw:=A.o.wl;have bz:=A.o.e
 have ab:=zq (akg aal true aos hc (by rw [J.o]; exact xw) none 0 w4 A.o.st (by rw [J.o]; decide) (λi hi=>absurd hi (Nat.not_lt_zero _)) A.o.quiet (U.o w4 A.o.low) A.o.low.size (by rw [Z.o]; rfl)
  (A.o.fits (by decide) hr (by show (1:Int)≠0; decide)) (by omega) (by omega) (by omega))
 change Zq (Calls _ _ #[_,.agg #[.string ⟨#[97]⟩,.int .i64 0,.string ⟨#[]⟩,.slice none 0 0,.string ⟨#[]⟩],_] _ _) at ab;generalize ((S0.T.R.e+(bv S0.T.R.e (pu aal 1 0 S0.now)).length:Nat):Int)=idn at *
 clear hc hr bs bw bz;go_wp2_with fail;refine ab.o.mono ?_;rintro e w6 ⟨rfl,S1,hs,hp,hm⟩;have E:=zq (A.o.next (by decide) a7.o rfl rfl hs hp hm);have a8:=ahi A.o.st.sto hs.sto hp;obtain ⟨r1,r2,r3⟩:=ahj A.o.st.sto hs.sto hp
 have M:Zq (0 < S1.T.R.e/\S1.T.R.e<=1024):=by
  have h0:(pu aal 1 0 S0.now).kind≠0:=by show (1:Int)≠0; decide
  obtain ⟨_,l2⟩:=qo a7.o h0;have b8:=abe (pu aal 1 0 S0.now);have hf:bv 0 (pu aal 1 0 S0.now)=[]:=by unfold bv; rw [if_pos (.inr (by unfold ik; omega))]
  rw [HZ.o.1,hf,List.length_nil] at r3;show _/\_;omega
 have b0:Zq (∃ id,S1.T.O.recs=[(id,pu aal 1 0 S0.now)]):=⟨_,by rw [a8,HZ.o.2]; rfl⟩;clear hs hp hm ab A a8 r1 r2 r3;obtain ⟨cd,ac⟩:=b0.o;have ad:=zq (ajs w6 E.o.st.sto ac (by rw [ac,List.length_singleton]; omega) E.o.quiet.up (U.o w6 E.o.low) E.o.low.size);have ba:Zq (S1.blk=S0.blk):=E.o.blk;rw [ba.o,show (pu aal 1 0 S0.now).born=S0.now from rfl,Z.o] at ad;clear ac;go_wp2_with fail;refine ad.o.mono ?_;rintro e w7 ⟨rfl,bb⟩;have B:=zq (E.o.below bb);have bc:=zq (ami w7 B.o.st.sto B.o.b M.o.2);have bd:=zq (ajp 0 w7 B.o.st.sto B.o.b M.o.2 (Int.le_refl 0));have ak:=zq (abm w7 B.o.st.sto B.o.b (by have:=M.o; omega));rw [show (S1.T.R.e+1023) / 1024=1 by have:=M.o; omega] at ak;rw [ba.o] at bc bd ak;clear bb ad;go_wp2_with fail;refine bc.o.mono ?_;rintro e w8 ⟨rfl,he⟩;obtain rfl:=he.symm;go_wp2_with fail;refine bd.o.mono ?_;rintro e w9 ⟨rfl,he⟩;obtain rfl:=he.symm;go_wp2_with fail;refine ak.o.mono ?_;rintro e ce ⟨rfl,N⟩;have b3:=zq (B.o.low.trans (N.mono B.o.low.size));clear N;go_wp2_with fail;go_ret;exact ⟨rfl,b3.o⟩
theorem aoy (ms:List OpD) (a0:Option Addr) (c0:Nat) (x y z:Int) (hx:0<=x/\x<=65535) (hy:0<=y/\y<=65535) (hz:0<=z/\z<=65535) (W:World) (hT:Tab W) (hR:OpRow W a0 ms) (hI:∀ p∈ms,inI p.x.queue/\(0<=p.n/\p.n<=255)) (hl:ms.length<=9223372036854775807) :
 Calls Tryz.prog 3 #[.slice a0 ms.length c0,.agg #[.int .u16 x,.int .u16 y],.int .u16 z] W λe w'=>e=.returned (.bool true)/\Below W.heap.size W w':=by
 have am:Below W.heap.size W (W.alloc (.cells #[.int .u16 x,.int .u16 y] 24)):=(Below.refl _ W).alloc (Nat.le_refl _) _;have b0:=zq am;have b1:(W.alloc (.cells #[.int .u16 x,.int .u16 y] 24)).heap[W.heap.size]?=some (.cells #[.int .u16 x,.int .u16 y] 24 (0,0)):=heap_alloc_new W _;have bd:Zq (∀ w,Below (W.alloc (.cells #[.int .u16 x,.int .u16 y] 24)).heap.size (W.alloc (.cells #[.int .u16 x,.int .u16 y] 24)) w->TabB w.heap.size w):=λw hb=>aht ((aht (show TabB W.heap.size (W.alloc (.cells #[.int .u16 x,.int .u16 y] 24)) from ⟨W,hT,Nat.le_refl _,am⟩) am.size).below hb) hb.size
 have b2:Zq (∀ w,Below (W.alloc (.cells #[.int .u16 x,.int .u16 y] 24)).heap.size (W.alloc (.cells #[.int .u16 x,.int .u16 y] 24)) w->w.cell? ⟨W.heap.size,0,none⟩=some (.int .u16 x)/\w.cell? ⟨W.heap.size,1,none⟩=some (.int .u16 y)):=λw hb=>by
  have h:=jd hb b1;exact ⟨aa h 0 _ rfl,aa h 1 _ rfl⟩
 have HH:=zq (hR.below am);have HI:=zq hI;have cg:Zq ((0<=x/\x<=65535)/\(0<=y/\y<=65535)/\(0<=z/\z<=65535)):=⟨hx,hy,hz⟩;clear hT hR hI b1 am hx hy hz;go_enter Tryz.func3,Tryz.ntmps3;go_upto_region 1 with fail
 generalize W.alloc (.cells #[.int .u16 x,.int .u16 y] 24)=V at *
 obtain ⟨A,hA⟩:∃ A,W.heap.size=A:=⟨_,rfl⟩;rw [hA] at b2 ⊢;have b3:=zq (ahu V (bd.o V (Below.refl _ _)));have ba:Zq (∀ w,Below V.heap.size V w->Below W.heap.size W w):=λw hb=>b0.o.trans (hb.mono b0.o.size)
 go_wp2_with fail;refine b3.o.mono ?_;rintro e w1 ⟨rfl,bh⟩;have bj:=zq bh;have b4:=zq (ahs ms a0 c0 w1 (HH.o.below bh) hl);clear bh b3;go_wp2_with fail;refine b4.o.mono ?_;rintro e w2 ⟨rfl,b5⟩;have U:=zq (bj.o.trans (b5.mono bj.o.size));clear b5 b4 bj;obtain ⟨gr,a1⟩:∃ gr,gr=(decide (60 < ms.length) || ms.any λp=>gu p.x):=⟨_,rfl⟩;rw [<- a1]
 cases gr with
 | true =>
   clear a1;go_wp2_with fail;go_ret;exact ⟨rfl,hA ▸ ba.o _ U.o⟩
 | false =>
 obtain ⟨g1,g2⟩:=Bool.or_eq_false_iff.1 a1.symm;have bb:ms.length<=60:=by have:=of_decide_eq_false g1; omega
 have b6:=zq (ajr ms a0 c0 w2 (bd.o w2 U.o) (HH.o.below U.o) bb λp hp=>⟨(aqa (HI.o p hp).1 (by
  have:=List.any_eq_false.1 g2 p hp
  simpa using this)).1,(HI.o p hp).2⟩)
 clear g1 g2 bb a1;go_wp2_with fail;refine b6.o.mono ?_;rintro e w3 ⟨S1,B,d,rfl,bk,b7⟩;have ak:=zq bk;have ck:=zq b7;have Z:Zq (∀ w,Below w2.heap.size w2 w->TabB w2.heap.size w):=λw hb=>(bd.o w2 U.o).below hb
 obtain ⟨y0,y1⟩:=b2.o w3 (U.o.trans (bk.low.mono U.o.size));clear bk b7 b6;obtain ⟨⟨cs,cv⟩,⟨cw,cx⟩,⟨cy,c6⟩⟩:=cg.o;have c7:IntKind.i64.wrap (min x y)=min x y:=IntWalk.i64_in _ (by omega);have c8:IntKind.i64.wrap (max x y)=max x y:=IntWalk.i64_in _ (by omega);have da:IntKind.i64.wrap z=z:=IntWalk.i64_in _ (by omega);obtain ⟨o1,bl⟩:∃ o1,ad5 S1 d (min x y)=o1:=⟨_,rfl⟩;obtain ⟨o2,bm⟩:∃ o2,ad5 S1 d (max x y)=o2:=⟨_,rfl⟩;have cm:Zq (o2=true->o1=true):=λh=>by rw [<- bl]; exact ae8 rfl (by omega) (by omega) (Int.le_refl _) (bm.trans h)
 have an:=zq bl;clear bl;go_upto_region 8 with fail
 have E:Zq (∀ w,RecW.ExtR w3.drew w->w.cell? ⟨A,0,none⟩=some (.int .u16 x)/\w.cell? ⟨A,1,none⟩=some (.int .u16 y)/\Below w3.heap.size w3 w):=λw hw=>by
  have hb:Below w3.heap.size w3 w:=((Below.refl _ w3).drew).trans hw;exact ⟨by rw [hb.cell (bq y0)]; exact y0,by rw [hb.cell (bq y1)]; exact y1,hb⟩
 clear y0 y1;refine GrowN.au 14 [none,none,none,none,none,none,none,none,none,none,none,none,none,none] (RecW.ExtR) (by kernel_rfl) (by kernel_rfl) (by kernel_rfl) (RecW.ExtR.refl) (λ_ _ _=>RecW.ExtR.trans) ?_ ?_
 . exact GrowN.jo rfl
 simp only [List.take_succ_cons,List.take_zero,List.drop_succ_cons,List.drop_zero]
 iterate 14
  refine GrowN.g_det rfl ?_;apply Exists.intro;refine ⟨λw hw hF=>?_,?_⟩
  . clear hF
    obtain ⟨y0,y1,_⟩:=E.o w hw;go_simp;exact ⟨rfl,RecW.ExtR.refl _⟩
  go_frame
 refine GrowN.g_nil λw8 b9 hF=>?_
 clear hF;have a6:=(E.o w8 b9).2.2;have bo:=zq ((ak.o.below a6).old (Z.o w8 (ak.o.below a6).low) (min x y) (by omega));rw [an.o] at bo;replace ak:=zq (ak.o.below a6);clear a6 b9 E;go_wp2_with fail;refine bo.o.mono ?_;rintro e w4 ⟨rfl,ca⟩;have a7:=zq (ak.o.below ca);have bp:=zq (a7.o.old (Z.o w4 a7.o.low) (max x y) (by omega));rw [bm] at bp;clear ca bm bo ak;go_wp2_with fail;refine bp.o.mono ?_;rintro e w5 ⟨rfl,cb⟩;have a8:=zq (a7.o.below cb);have ab:=zq (a8.o.pass z (by omega) ck.o);obtain ⟨S2,br⟩:∃ S2,S2={ S1 with now:=S1.now+z }:=⟨_,rfl⟩;rw [<- br] at ab;have O:Zq (S2.T=S1.T/\S2.blk=S1.blk/\S1.now<=S2.now):=by rw [br]; exact ⟨rfl,rfl,by show S1.now<=S1.now+z; omega⟩
 have bc:Zq (o1=true->ad5 S2 d (min x y)=true):=λh=>ae8 O.o.1 (by omega) (by omega) O.o.2.2 (an.o.trans h)
 have al:Zq (∀ w,KepE w2 w S2 B d->Below W.heap.size W w):=λw h=>hA ▸ ba.o _ (U.o.trans (h.low.mono U.o.size))
 have cc:Zq (0<=min x y/\min x y<=100000):=⟨by omega,by omega⟩;clear cb br bp a7 an
 cases o1 with
 | true =>
   cases o2 with
   | true =>
     go_wp2_with fail;refine ab.o.mono ?_;rintro e w6 ⟨⟨v,rfl⟩,X⟩;have M:=zq X;clear X ab a8;have ac:=zq (M.o.old (Z.o w6 M.o.low) (min x y) cc.o);rw [bc.o (by first | rfl | trivial),O.o.2.1] at ac;go_wp2_with fail;refine ac.o.mono ?_;rintro e w7 ⟨rfl,ap⟩;have I:=zq (M.o.below ap);clear ap ac M;have F:=zq (abm w7 I.o.st I.o.b I.o.e);rw [O.o.2.1] at F;obtain ⟨sn,ar⟩:∃ sn:Nat,(S2.T.R.e+1023) / 1024=sn:=⟨_,rfl⟩;rw [ar] at F
     by_cases he:1024 < S2.T.R.e
     ·
      have h2:¬ (sn:Int) < 2:=by omega
      go_wp2_with fail;refine F.o.mono ?_;rintro e w8 ⟨rfl,J⟩;have E:=zq (I.o.below J);have N:=zq (E.o.old (Z.o w8 E.o.low) 0 (by decide));rw [E.o.none he,O.o.2.1] at N;clear J F;go_wp2_with fail;refine N.o.mono ?_;rintro e w9 ⟨rfl,Y⟩;have av:=zq (E.o.below Y);clear Y N;go_wp2_with fail;go_ret;exact ⟨rfl,al.o _ av.o⟩
     ·
      have h2:(sn:Int) < 2:=by omega
      go_wp2_with fail;refine F.o.mono ?_;rintro e w8 ⟨rfl,J⟩;have E:=zq (I.o.below J);clear J F;go_wp2_with fail;go_ret;exact ⟨rfl,al.o _ E.o⟩
   | false =>
     go_wp2_with fail;refine ab.o.mono ?_;rintro e w6 ⟨⟨v,rfl⟩,X⟩;have M:=zq X;clear X ab a8;have ac:=zq (M.o.old (Z.o w6 M.o.low) (min x y) cc.o);rw [bc.o (by first | rfl | trivial),O.o.2.1] at ac;go_wp2_with fail;refine ac.o.mono ?_;rintro e w7 ⟨rfl,ap⟩;have I:=zq (M.o.below ap);clear ap ac M;have F:=zq (abm w7 I.o.st I.o.b I.o.e);rw [O.o.2.1] at F;obtain ⟨sn,ar⟩:∃ sn:Nat,(S2.T.R.e+1023) / 1024=sn:=⟨_,rfl⟩;rw [ar] at F
     by_cases he:1024 < S2.T.R.e
     ·
      have h2:¬ (sn:Int) < 2:=by omega
      go_wp2_with fail;refine F.o.mono ?_;rintro e w8 ⟨rfl,J⟩;have E:=zq (I.o.below J);have N:=zq (E.o.old (Z.o w8 E.o.low) 0 (by decide));rw [E.o.none he,O.o.2.1] at N;clear J F;go_wp2_with fail;refine N.o.mono ?_;rintro e w9 ⟨rfl,Y⟩;have av:=zq (E.o.below Y);clear Y N;go_wp2_with fail;go_ret;exact ⟨rfl,al.o _ av.o⟩
     ·
      have h2:(sn:Int) < 2:=by omega
      go_wp2_with fail;refine F.o.mono ?_;rintro e w8 ⟨rfl,J⟩;have E:=zq (I.o.below J);clear J F;go_wp2_with fail;go_ret;exact ⟨rfl,al.o _ E.o⟩
 | false =>
   have h2:o2=false:=by
    cases o2 with
    | false=>rfl
    | true=>exact absurd (cm.o (by first | rfl | trivial)) (by decide)
   subst h2;go_wp2_with fail;refine ab.o.mono ?_;rintro e w6 ⟨⟨v,rfl⟩,X⟩;have M:=zq X;clear X ab a8;obtain ⟨w7,rfl⟩:∃ w7:World,w7=w6:=⟨_,rfl⟩;have I:=M;have F:=zq (abm w7 I.o.st I.o.b I.o.e);rw [O.o.2.1] at F;obtain ⟨sn,ar⟩:∃ sn:Nat,(S2.T.R.e+1023) / 1024=sn:=⟨_,rfl⟩;rw [ar] at F
   by_cases he:1024 < S2.T.R.e
   ·
    have h2:¬ (sn:Int) < 2:=by omega
    go_wp2_with fail;refine F.o.mono ?_;rintro e w8 ⟨rfl,J⟩;have E:=zq (I.o.below J);have N:=zq (E.o.old (Z.o w8 E.o.low) 0 (by decide));rw [E.o.none he,O.o.2.1] at N;clear J F;go_wp2_with fail;refine N.o.mono ?_;rintro e w9 ⟨rfl,Y⟩;have av:=zq (E.o.below Y);clear Y N;go_wp2_with fail;go_ret;exact ⟨rfl,al.o _ av.o⟩
   ·
    have h2:(sn:Int) < 2:=by omega
    go_wp2_with fail;refine F.o.mono ?_;rintro e w8 ⟨rfl,J⟩;have E:=zq (I.o.below J);clear J F;go_wp2_with fail;go_ret;exact ⟨rfl,al.o _ E.o⟩
end KepW
end Go.Proofs.YtcgonejkkpbepaaGreatDoor
