/- seg: fresh: a segment is created. And what follows. -/
import Derived.Test.YtckjigopecocaaaGreatDoorR03
import Derived.Maps.Own
import Derived.Sort.KeysCollected
import Derived.Shelf.SlIter.Keys
import Derived.Sort.OwnSorted
import Derived.RangeFuncBox
import Derived.RangeFuncLeaves
import Derived.RangeFuncGives
import Derived.Shelf.Abstract
import Derived.Shelf.AbstractIn
import Derived.OwnWalkIn
import Derived.TacticsInMore
import Derived.LoopNIn
import Derived.LoopIn
import Derived.Lib.OwnBridge
set_option linter.unusedVariables false
set_option linter.unusedSimpArgs false
set_option maxHeartbeats 25600000
set_option maxRecDepth 100000
namespace Go.Proofs.YtckjigopecocaaaGreatDoor
namespace SegW
open Go.RowKit OctMath DskW
theorem vz {D:DiskD} {n:List UInt8} {b k:Nat} (h:(D.create n b).foot k):D.foot k\/k=b:=by
 obtain ⟨L,Dn,hb⟩:=akd D;unfold DiskD.create at h
 split at h
 . exact .inl h
 ·
  split at h
  . rw [hb] at h; exact .inl h
  ·
   rw [hb] at h
   rcases h with h | h | ⟨p,hp,h⟩ | h
   . exact .inl (.inl h)
   . exact .inl (.inr (.inl h))
   . rcases List.mem_append.1 hp with hp | hp
     . exact .inl (.inr (.inr (.inl ⟨p,hp,h⟩)))
     . rw [List.mem_singleton] at hp; subst hp; exact .inr h
   . exact .inl (.inr (.inr (.inr h)))
def SegD.freshE (R:SegD) (D:DiskD):Int:=if 99999999 < R.e then 2 else D.createE (ah R.head R.e)
theorem afe {base:Nat} {D:DiskD} {R:SegD} (w:World) (ht:Tab w) (h:SegAt base w R) (hD:DiskAt base w D) (hdb:R.db=D.blk) (hap:∀ k,D.foot k->¬ R.foot k) (ho:¬ R.open_) (hbase:base<=w.heap.size) :
 Calls Tryz.prog 192 #[.pointer (some ⟨R.blk,0,none⟩)] w λe w'=>e=.returned (.int .i64 (R.freshE D)) /\
  (R.freshE D≠0->SegAt base w' R/\((99999999 < R.e/\DiskAt base w' D)\/(¬ 99999999 < R.e/\∃ bk,DiskAt base w' (D.create (ah R.head R.e) bk)))/\Mod D.foot w w') /\
  (R.freshE D=0->∃ bk pv,w.heap.size<=bk/\DiskAt base w' (D.create (ah R.head R.e) bk)/\SegAt base w' (R.more pv)/\Mod (λk=>D.foot k\/R.foot k) w w'/\(∀ k,pv.ownBlock=some k->R.foot k\/w.heap.size<=k)/\∀ k,(D.create (ah R.head R.e) bk).foot k->¬ (R.more pv).foot k):=by
 obtain ⟨a,cp,hv⟩:=h.pv_nil;have c1:w.cell? ⟨R.blk,1,none⟩=some (.string (S R.head)):=h.cell 1 _ rfl;have c2:w.cell? ⟨R.blk,2,none⟩=some (.int .i64 (R.size:Int)):=h.cell 2 _ rfl;have c3:w.cell? ⟨R.blk,3,none⟩=some (.slice a R.n cp):=h.cell 3 _ (by show some R.pv=_; rw [hv]);have c4:w.cell? ⟨R.blk,4,none⟩=some (.int .i64 (R.e:Int)):=h.cell 4 _ rfl;obtain ⟨da,dc⟩:=h.sz;have dd:=h.e_le;have b9:R.room=R.size:=by unfold SegD.room; exact if_neg ho
 have bs:=zq (λ(k:Nat)=>room_any (w.drewN k) (h.below (((Drawn.refl w).drewN k).below _)));rw [b9] at bs;have ca:Zq (∀ w2:World,Below w.heap.size w w2->w2.cell? ⟨R.blk,1,none⟩=some (.string (S R.head))):=λw2 hb=>by rw [hb.cell (ay c1)]; exact c1
 have cb:Zq (∀ w2:World,Below w.heap.size w w2->w2.cell? ⟨R.blk,4,none⟩=some (.int .i64 (R.e:Int))):=λw2 hb=>by rw [hb.cell (ay c4)]; exact c4
 obtain ⟨nm,ap⟩:∃ nm,Zq (nm=zl R.head (R.e:Int)):=⟨_,rfl⟩;obtain ⟨ok,ar⟩:∃ ok,Zq (ok=decide (0<=(R.e:Int)/\(R.e:Int)<=99999999)):=⟨_,rfl⟩
 have cc:Zq (∀ w2:World,Below w.heap.size w w2->Calls Tryz.prog 211 #[.string (S R.head),.int .i64 (R.e:Int)] w2 λe w'=>e=.returned (.tuple #[.string (S nm),.bool ok])/\Below w2.heap.size w2 w'):=λw2 hb=>by
  rw [ap.o,ar.o];exact agq R.head (R.e:Int) w2 (ht.below hb) (by omega) (by have:=h.hd; omega)
 have HH:=zq h;have br:=zq hD
 have E:R.n=0\/(0 < R.n/\R.txt.length=R.n * R.size):=by
  rcases Nat.eq_zero_or_pos R.n with h0 | h0
  . exact .inl h0
  ·
   right
   refine ⟨h0,?_⟩;have:=(h.long h0).2.1;have de:¬ (R.txt.length < R.n * R.size):=λhh=>ho ⟨h0,hh⟩
   omega
 have cd:=zq E
 have bw:R.n=0\/∃ g cap,R.pv=.slice (some ⟨g,0,Option.none⟩) R.n cap/\R.n<=cap/\w.cell? ⟨g,R.n - 1,Option.none⟩=some (.int .i64 ((R.b+(R.n - 1) * R.size:Nat):Int))/\0 < R.n:=by
  rcases E with h0 | ⟨h0,_⟩
  . exact .inl h0
  . obtain ⟨g,cap,r1,r2,r3⟩:=h.place (R.n - 1) (by omega)
    exact .inr ⟨g,cap,r1,r2,r3,h0⟩
 have cx:R.n<=1073741824:=by
  rcases E with h0 | ⟨h0,h1⟩
  . omega
  . have:=Nat.le_mul_of_pos_right R.n (by omega:0 < R.size)
    have:=h.e_le;unfold SegD.e at this;omega
 have bz:R.n=0\/¬ (R.e:Int)=((R.b+(R.n - 1) * R.size:Nat):Int):=by
  rcases E with h0 | ⟨h0,h1⟩
  . exact .inl h0
  . right
    have:=xz (s:=R.size) h0;unfold SegD.e;omega
 clear h hD c1 b9 E ht
 rcases bw with h0 | ⟨g,cap,hp,hnc,hc,hnpos⟩
 ·
  rw [h0] at c3;clear bz;go_enter Tryz.func192,Tryz.ntmps192;go_wp2_with fail;go_quiet (first | (go_at_call 189; exact qw (bs.o _)));go_wp2_with fail;refine Grow.jc 14 [none,none,none,some (.inl (.string (S R.head))),none,none,none,some (.inl (.int .i64 (R.e:Int))),some (.inl (.tuple #[.string (S nm),.bool ok])),none,none,none,none,none] Ext (by kernel_rfl) (by kernel_rfl) (by kernel_rfl) Ext.refl (λ_ _ _=>Ext.trans) ?_ ?_
  . intro K hK Y hY v w w' hR h
    simp only [List.mem_cons,List.not_mem_nil,or_false] at hK
    rcases hK with rfl | rfl | rfl | rfl | rfl | rfl | rfl | rfl | rfl | rfl | rfl | rfl | rfl | rfl <;> simp only [reduceCtorEq,Option.some.injEq,Sum.inr.injEq] at hY
  simp only [List.take_succ_cons,List.take_zero,List.drop_succ_cons,List.drop_zero]
  iterate 3
   refine Grow.g_det rfl ?_;apply Exists.intro;refine ⟨λw X B=>?_,?_⟩
   . clear B
     go_simp;exact ⟨rfl,Ext.refl _⟩
   go_frame
  refine Grow.g_con rfl (λF X B=>?_) ?_
  . clear B
    have c1:=ca.o F ((((Drawn.refl w).drewN nq).below w.heap.size).trans (((Below.refl _ _).drew.trans X).mono (Nat.le_refl _)));go_simp
    all_goals exact Ext.refl _
  iterate 3
   go_frame;refine Grow.g_det rfl ?_;apply Exists.intro;refine ⟨λw X B=>?_,?_⟩
   . clear B
     go_simp;exact ⟨rfl,Ext.refl _⟩
  go_frame;refine Grow.g_con rfl (λF X B=>?_) ?_
  . clear B
    have c4:=cb.o F ((((Drawn.refl w).drewN nq).below w.heap.size).trans (((Below.refl _ _).drew.trans X).mono (Nat.le_refl _)));go_simp
    all_goals exact Ext.refl _
  go_frame;refine Grow.g_con rfl (λF X B=>?_) ?_
  . clear B
    go_simp;exact (cc.o F ((((Drawn.refl w).drewN nq).below w.heap.size).trans (((Below.refl _ _).drew.trans X).mono (Nat.le_refl _)))).mono λe w3 h=>⟨_,h.1,rfl,h.2⟩
  iterate 5
   go_frame;refine Grow.g_det rfl ?_;apply Exists.intro;refine ⟨λw X B=>?_,?_⟩
   . clear B
     go_simp;exact ⟨rfl,Ext.refl _⟩
  go_frame;refine Grow.g_nil λw3 av B=>?_
  clear B;refine wpList_nil ?_;have J:=zq ((((Drawn.refl w).drewN nq).below w.heap.size).trans (((Below.refl _ _).drew.trans av).mono (Nat.le_refl _)));clear av
  by_cases h99:99999999 < R.e
  ·
   have Z:ok=false:=by rw [ar.o]; exact decide_eq_false (by omega)
   subst Z;have N:Zq (R.freshE D=2):=if_pos h99;go_wp2_with fail;go_ret;rw [N.o];exact ⟨rfl,λ_=>⟨HH.o.below J.o,.inl ⟨h99,br.o.below J.o⟩,Mod.of_below J.o⟩,λh=>absurd h (by decide)⟩
  ·
   have Z:ok=true:=by rw [ar.o]; exact decide_eq_true (by omega)
   subst Z;have b0:nm=ah R.head R.e:=by rw [ap.o]; unfold zl; rw [if_pos (by omega)]; rfl
   subst b0;have N:Zq (R.freshE D=D.createE (ah R.head R.e)):=if_neg h99;have ab:=br.o.below J.o;have ac:=HH.o.below J.o;have c0:w3.cell? ⟨R.blk,0,none⟩=some (.pointer (some ⟨D.blk,0,none⟩)):=ac.cell 0 _ (by rw [<- hdb]; rfl);have a1:=zq (yw (ah R.head R.e) w3 ab (Nat.le_trans hbase J.o.size));have b1:=zq ab;have a6:=zq ac;clear ab ac;go_wp2_with fail;refine a1.o.mono ?_;rintro e w4 ⟨bk,a7,rfl,a8,ad⟩;have ba:=zq a7;have ak:=zq a8;have bb:=zq (a6.o.mod ad (λk hk A=>hap k A hk));have O:=zq ((Mod.of_below (M:=D.foot) J.o).trans ad);clear a8 ad a1 b1 a6 c0 a7
   by_cases hce:D.createE (ah R.head R.e)=0
   ·
    have b2:Zq (R.freshE D=0):=N.o.trans hce;rw [hce];have I:SegAt base w4.drew R:=bb.o.below (Below.refl _ _).drew;have co:w4.drew.heap.size=w4.heap.size:=rfl;obtain ⟨a5,al,U⟩:=I.pv_nil
    try clear h0
    obtain ⟨v',w8,bc,bd,bh,⟨a9,bj,rfl⟩,b3,cq,ci,bl⟩:=abq I cd.o (by omega) (Nat.le_trans hbase O.o.size);have b4:=zq bd;have b5:=zq bh;have bm:=zq bl;have b6:Zq ((Builtin.append_ #[50,50] 50 #[.slice a5 R.n al,.slice (some ⟨w4.heap.size,0,none⟩) 1 1]).run Tryz.prog (w4.alloc (.cells #[.int .i64 (R.e:Int)] 3)).drew=.ok (.slice a9 (R.n+1) bj) w8):=by rw [<- U]; exact bc
    have bo:w4.drew.cell? ⟨R.blk,4,none⟩=some (.int .i64 (R.e:Int)):=I.cell 4 _ rfl;have bp:w4.drew.cell? ⟨R.blk,3,none⟩=some (.slice a5 R.n al):=I.cell 3 _ (by show some R.pv=_; rw [U]);have am:Below w4.drew.heap.size w4.drew (w4.drew.alloc (.cells #[.int .i64 (R.e:Int)] 3)):=(Below.refl _ _).alloc (Nat.le_refl _) _;have cr:(w4.alloc (.cells #[.int .i64 (R.e:Int)] 3)).drew.cell? ⟨R.blk,3,none⟩=some (.slice a5 R.n al):=(am.cell (ay bp)).trans bp;have cs:(w4.alloc (.cells #[.int .i64 (R.e:Int)] 3)).drew.cell? ⟨R.blk,4,none⟩=some (.int .i64 (R.e:Int)):=(am.cell (ay bo)).trans bo;rw [U] at b3;clear bc bd bh bl am hce c2 c3 c4 I U;go_wp2_with fail;go_region_law (refine zo _ (by rfl) _ _ _ _ (by rfl) _ _ (by rfl) (by rfl) (.slice a9 (R.n+1) bj) w8 b6.o ?_)
    all_goals (
     go_wp2_with fail;go_ret;rw [b2.o];have hm:=(Mod.of_below (Below.refl w4.heap.size w4).drew).trans b5.o
     have an:∀ k,(D.create (ah R.head R.e) bk).foot k->¬ R.foot k:=λk hk A=>by
      rcases vz hk with h | h
      . exact hap k h A
      . have h1:=HH.o.lt A
        have h2:=J.o.size;have h3:=ba.o;omega
     refine ⟨rfl,λh=>absurd rfl h,λ_=>⟨bk,_,Nat.le_trans J.o.size ba.o,ak.o.mod hm (λk hk A=>an k hk A),b4.o,(O.o.mono λ_ _ h=>.inl h).trans (hm.mono λ_ _ h=>.inr h),λk hk=>(bm.o k hk).imp_right λh=>Nat.le_trans O.o.size h,λk hk A=>?_⟩⟩
     rcases A with rfl | A
     . exact an _ hk (.inl rfl)
     . rcases bm.o k A with h | h
       . exact an k hk h
       . have h1:=ak.o.lt hk
         have h2:w4.heap.size<=k:=h;omega)
   ·
    have b7:Zq (D.createE (ah R.head R.e)≠0):=hce;have ck:¬ D.createE (ah R.head R.e)=0:=hce;clear hce;generalize D.createE (ah R.head R.e)=ce at *
    go_wp2_with fail;go_ret;rw [N.o];exact ⟨rfl,λ_=>⟨bb.o,.inr ⟨h99,bk,ak.o⟩,O.o⟩,λh=>absurd h b7.o⟩
 ·
  rw [hv] at hp;injection hp with e1 e2 e3
  subst e1;have cw:¬ R.n=0:=by omega
  have cy:=bz.resolve_left cw;have ds:((R.n - 1:Nat):Int)=(R.n:Int) - 1:=by omega
  have c6:(0:Int) < (R.n:Int):=by omega
  have c7:0 < R.n:=by omega
  clear bz e3 hv;generalize hpl:R.b+(R.n - 1) * R.size=pl at *
  go_enter Tryz.func192,Tryz.ntmps192;go_wp2_with fail;go_quiet (first | (go_at_call 189; exact qw (bs.o _)));go_wp2_with fail;refine Grow.jc 14 [none,none,none,some (.inl (.string (S R.head))),none,none,none,some (.inl (.int .i64 (R.e:Int))),some (.inl (.tuple #[.string (S nm),.bool ok])),none,none,none,none,none] Ext (by kernel_rfl) (by kernel_rfl) (by kernel_rfl) Ext.refl (λ_ _ _=>Ext.trans) ?_ ?_
  . intro K hK Y hY v w w' hR h
    simp only [List.mem_cons,List.not_mem_nil,or_false] at hK
    rcases hK with rfl | rfl | rfl | rfl | rfl | rfl | rfl | rfl | rfl | rfl | rfl | rfl | rfl | rfl <;> simp only [reduceCtorEq,Option.some.injEq,Sum.inr.injEq] at hY
  simp only [List.take_succ_cons,List.take_zero,List.drop_succ_cons,List.drop_zero]
  iterate 3
   refine Grow.g_det rfl ?_;apply Exists.intro;refine ⟨λw X B=>?_,?_⟩
   . clear B
     go_simp;exact ⟨rfl,Ext.refl _⟩
   go_frame
  refine Grow.g_con rfl (λF X B=>?_) ?_
  . clear B
    have c1:=ca.o F ((((Drawn.refl w).drewN nq).below w.heap.size).trans (((Below.refl _ _).drew.trans X).mono (Nat.le_refl _)));go_simp
    all_goals exact Ext.refl _
  iterate 3
   go_frame;refine Grow.g_det rfl ?_;apply Exists.intro;refine ⟨λw X B=>?_,?_⟩
   . clear B
     go_simp;exact ⟨rfl,Ext.refl _⟩
  go_frame;refine Grow.g_con rfl (λF X B=>?_) ?_
  . clear B
    have c4:=cb.o F ((((Drawn.refl w).drewN nq).below w.heap.size).trans (((Below.refl _ _).drew.trans X).mono (Nat.le_refl _)));go_simp
    all_goals exact Ext.refl _
  go_frame;refine Grow.g_con rfl (λF X B=>?_) ?_
  . clear B
    go_simp;exact (cc.o F ((((Drawn.refl w).drewN nq).below w.heap.size).trans (((Below.refl _ _).drew.trans X).mono (Nat.le_refl _)))).mono λe w3 h=>⟨_,h.1,rfl,h.2⟩
  iterate 5
   go_frame;refine Grow.g_det rfl ?_;apply Exists.intro;refine ⟨λw X B=>?_,?_⟩
   . clear B
     go_simp;exact ⟨rfl,Ext.refl _⟩
  go_frame;refine Grow.g_nil λw3 av B=>?_
  clear B;refine wpList_nil ?_;have J:=zq ((((Drawn.refl w).drewN nq).below w.heap.size).trans (((Below.refl _ _).drew.trans av).mono (Nat.le_refl _)));clear av
  by_cases h99:99999999 < R.e
  ·
   have Z:ok=false:=by rw [ar.o]; exact decide_eq_false (by omega)
   subst Z;have N:Zq (R.freshE D=2):=if_pos h99;go_wp2_with fail;go_ret;rw [N.o];exact ⟨rfl,λ_=>⟨HH.o.below J.o,.inl ⟨h99,br.o.below J.o⟩,Mod.of_below J.o⟩,λh=>absurd h (by decide)⟩
  ·
   have Z:ok=true:=by rw [ar.o]; exact decide_eq_true (by omega)
   subst Z;have b0:nm=ah R.head R.e:=by rw [ap.o]; unfold zl; rw [if_pos (by omega)]; rfl
   subst b0;have N:Zq (R.freshE D=D.createE (ah R.head R.e)):=if_neg h99;have ab:=br.o.below J.o;have ac:=HH.o.below J.o;have c0:w3.cell? ⟨R.blk,0,none⟩=some (.pointer (some ⟨D.blk,0,none⟩)):=ac.cell 0 _ (by rw [<- hdb]; rfl);have a1:=zq (yw (ah R.head R.e) w3 ab (Nat.le_trans hbase J.o.size));have b1:=zq ab;have a6:=zq ac;clear ab ac;go_wp2_with fail;refine a1.o.mono ?_;rintro e w4 ⟨bk,a7,rfl,a8,ad⟩;have ba:=zq a7;have ak:=zq a8;have bb:=zq (a6.o.mod ad (λk hk A=>hap k A hk));have O:=zq ((Mod.of_below (M:=D.foot) J.o).trans ad);clear a8 ad a1 b1 a6 c0 a7
   by_cases hce:D.createE (ah R.head R.e)=0
   ·
    have b2:Zq (R.freshE D=0):=N.o.trans hce;rw [hce];have I:SegAt base w4.drew R:=bb.o.below (Below.refl _ _).drew;have co:w4.drew.heap.size=w4.heap.size:=rfl;obtain ⟨a5,al,U⟩:=I.pv_nil
    try clear h0
    obtain ⟨v',w8,bc,bd,bh,⟨a9,bj,rfl⟩,b3,cq,ci,bl⟩:=abq I cd.o (by omega) (Nat.le_trans hbase O.o.size);have b4:=zq bd;have b5:=zq bh;have bm:=zq bl;have b6:Zq ((Builtin.append_ #[50,50] 50 #[.slice a5 R.n al,.slice (some ⟨w4.heap.size,0,none⟩) 1 1]).run Tryz.prog (w4.alloc (.cells #[.int .i64 (R.e:Int)] 3)).drew=.ok (.slice a9 (R.n+1) bj) w8):=by rw [<- U]; exact bc
    have bo:w4.drew.cell? ⟨R.blk,4,none⟩=some (.int .i64 (R.e:Int)):=I.cell 4 _ rfl;have bp:w4.drew.cell? ⟨R.blk,3,none⟩=some (.slice a5 R.n al):=I.cell 3 _ (by show some R.pv=_; rw [U]);have am:Below w4.drew.heap.size w4.drew (w4.drew.alloc (.cells #[.int .i64 (R.e:Int)] 3)):=(Below.refl _ _).alloc (Nat.le_refl _) _;have cr:(w4.alloc (.cells #[.int .i64 (R.e:Int)] 3)).drew.cell? ⟨R.blk,3,none⟩=some (.slice a5 R.n al):=(am.cell (ay bp)).trans bp;have cs:(w4.alloc (.cells #[.int .i64 (R.e:Int)] 3)).drew.cell? ⟨R.blk,4,none⟩=some (.int .i64 (R.e:Int)):=(am.cell (ay bo)).trans bo;rw [U] at b3;clear bc bd bh bl am hce c2 c3 c4 I U;go_wp2_with fail;go_region_law (refine zo _ (by rfl) _ _ _ _ (by rfl) _ _ (by rfl) (by rfl) (.slice a9 (R.n+1) bj) w8 b6.o ?_)
    all_goals (
     go_wp2_with fail;go_ret;rw [b2.o];have hm:=(Mod.of_below (Below.refl w4.heap.size w4).drew).trans b5.o
     have an:∀ k,(D.create (ah R.head R.e) bk).foot k->¬ R.foot k:=λk hk A=>by
      rcases vz hk with h | h
      . exact hap k h A
      . have h1:=HH.o.lt A
        have h2:=J.o.size;have h3:=ba.o;omega
     refine ⟨rfl,λh=>absurd rfl h,λ_=>⟨bk,_,Nat.le_trans J.o.size ba.o,ak.o.mod hm (λk hk A=>an k hk A),b4.o,(O.o.mono λ_ _ h=>.inl h).trans (hm.mono λ_ _ h=>.inr h),λk hk=>(bm.o k hk).imp_right λh=>Nat.le_trans O.o.size h,λk hk A=>?_⟩⟩
     rcases A with rfl | A
     . exact an _ hk (.inl rfl)
     . rcases bm.o k A with h | h
       . exact an k hk h
       . have h1:=ak.o.lt hk
         have h2:w4.heap.size<=k:=h;omega)
   ·
    have b7:Zq (D.createE (ah R.head R.e)≠0):=hce;have ck:¬ D.createE (ah R.head R.e)=0:=hce;clear hce;generalize D.createE (ah R.head R.e)=ce at *
    go_wp2_with fail;go_ret;rw [N.o];exact ⟨rfl,λ_=>⟨bb.o,.inr ⟨h99,bk,ak.o⟩,O.o⟩,λh=>absurd h b7.o⟩
def TabB (base:Nat) (w:World):Prop:=∃ W,Tab W/\W.heap.size<=base/\Below W.heap.size W w
theorem TabB.tab {base:Nat} {w:World} (h:TabB base w):Tab w:=by
 obtain ⟨W,h1,B,A⟩:=h;exact h1.below A
theorem TabB.mod {base:Nat} {w w':World} {M:Nat->Prop} (h:TabB base w) (hm:Mod M w w') (hM:∀ k,M k->base<=k):TabB base w':=by
 obtain ⟨W,h1,A,B⟩:=h;exact ⟨W,h1,A,B.trans (hm.to_below W.heap.size B.size (λk hk=>Nat.le_trans A (hM k hk)))⟩
theorem TabB.below {base:Nat} {w w':World} (h:TabB base w) (hb:Below w.heap.size w w'):TabB base w' :=
 h.mod (M:=λ_=>False) (Mod.of_below hb) (λ_ h=>h.elim)
structure Quiet (D:DiskD):Prop where
 left:D.left = -1
 up:D.down=false
theorem Quiet.burn {D:DiskD} (h:Quiet D):D.burn=D:=by
 unfold DiskD.burn;rw [h.left];simp
theorem Quiet.done {D:DiskD} (h:Quiet D):D.done=0:=by unfold DiskD.done; rw [h.left]; simp
theorem Quiet.createE {D:DiskD} (h:Quiet D) {n:List UInt8} (hf:D.find n=none):D.createE n=0:=by
 unfold DiskD.createE;rw [h.up,hf,h.done]; simp
theorem Quiet.create {D:DiskD} (h:Quiet D) {n:List UInt8} (hf:D.find n=none) (b:Nat):D.create n b={ D with files:=D.files++[(n,⟨b,[],[]⟩)] }:=by
 unfold DiskD.create;rw [h.up,hf,h.left,h.burn]; simp [h.left,h.up]
theorem aac {D:DiskD} (h:Quiet D) {n:List UInt8} (hf:D.find n=none) (b:Nat) (m:List UInt8):(D.create n b).find m=if m=n then some ⟨b,[],[]⟩ else D.find m:=by
 rw [h.create hf];unfold DiskD.find at *
 simp only;rw [List.find?_append]
 by_cases e:m=n
 ·
  subst e;rw [if_pos rfl]
  cases hh:D.files.find? (λp=>p.1 == m) with
  | none=>simp
  | some x=>rw [hh] at hf; cases hf
 . rw [if_neg e]
   have:([(n,(⟨b,[],[]⟩:FileD))].find? λp=>p.1 == m)=none:=by simp; exact λh=>e h.symm
   rw [this]; simp
theorem ru (l:List (List UInt8×FileD)) (n t m:List UInt8):(((fe l n t).find? λp=>p.1 == m).map (·.2))=if m=n then ((l.find? λp=>p.1 == m).map (·.2)).map (λf=>{ f with now:=t }) else (l.find? λp=>p.1 == m).map (·.2):=by
 induction l with
 | nil=>simp [fe]
 | cons p l ih =>
   unfold fe at *
   rw [List.map_cons,List.find?_cons,List.find?_cons];have A:(if p.1=n then (p.1,{ p.2 with now:=t }) else p).1=p.1:=by split <;> rfl
   rw [A]
   by_cases hp:p.1=m
   . rw [show (p.1 == m)=true by simp [hp]]
     simp only [Option.map_some]
     by_cases hm:m=n
     . rw [if_pos hm,if_pos (hp.trans hm)]
     . rw [if_neg hm,if_neg (by rw [hp]; exact hm)]
   . rw [show (p.1 == m)=false by simp [hp]]
     exact ih
theorem ant (s t:List UInt8):laidL s s.length t=s++t:=by
 unfold laidL
 by_cases h:t=[]
 . rw [if_pos h,h,List.append_nil]
 ·
  rw [if_neg h];unfold qd;rw [List.take_append_of_le_length (Nat.le_refl _),List.take_length];have:s.length+t.length - s.length=t.length:=by omega
  rw [this,List.drop_of_length_le (by simp),List.append_nil]
theorem Quiet.write {D:DiskD} (h:Quiet D) (hn:(D.files.map (·.1)).Nodup) {n:List UInt8} {f:FileD} (hf:D.find n=some f) {o:Int} (ho:o=(f.now.length:Int)) {t:List UInt8} (ht:t≠[]) (hr:(t.length:Int)<=D.room) (wv:Value) :
 D.writeE n o t=0/\D.write n o t wv={ D with files:=fe D.files n (f.now++t),wv:=wv,waits:=D.waits++[⟨f.blk,f.now.length,t⟩] }:=by
 have hb:D.bars [n]=0:=by rw [ul,h.up,hf]; rfl
 have A:D.fitB f o t=0:=by
  unfold DiskD.fitB;subst ho;rw [if_neg (by omega),if_neg (by omega)]
 subst ho;unfold DiskD.writeE DiskD.write;rw [if_pos hb,if_pos hb,hf];simp only;rw [if_pos A,if_pos A,if_neg (by rw [h.left]; simp [ht]),h.done,h.burn,Int.toNat_natCast,ant];exact ⟨rfl,rfl⟩
theorem yx (a b:List (List UInt8×FileD)):gp (a++b)=gp a+gp b:=by unfold gp; simp
def SegD.lastP (R:SegD):Nat:=R.b+(R.n - 1) * R.size
def SegD.add (R:SegD) (s:List UInt8):SegD:={ R with txt:=R.txt++s }
def wh (D:DiskD) (R:SegD):Prop:=∀ p,p<=99999999->(∀ i,i < R.n->p≠R.b+i * R.size)->D.find (ah R.head p)=none
structure Whole (base:Nat) (w:World) (D:DiskD) (R:SegD):Prop where
 seg:SegAt base w R
 dsk:DiskAt base w D
 db:R.db=D.blk
 ap:∀ k,D.foot k->¬ R.foot k
 ok:zn D R
 only:wh D R
theorem Whole.mod {base:Nat} {w w':World} {D:DiskD} {R:SegD} {M:Nat->Prop} (h:Whole base w D R) (hm:Mod M w w') (h1:∀ k,D.foot k->¬ M k) (h2:∀ k,R.foot k->¬ M k):Whole base w' D R :=
 { h with seg:=h.seg.mod hm h2,dsk:=h.dsk.mod hm h1 }
theorem Whole.below {base:Nat} {w w':World} {D:DiskD} {R:SegD} (h:Whole base w D R) (hb:Below w.heap.size w w'):Whole base w' D R :=
 { h with seg:=h.seg.below hb,dsk:=h.dsk.below hb }
structure AppOk (D D':DiskD) (R R':SegD) (s:List UInt8):Prop where
 quiet:Quiet D'
 blk:D'.blk=D.blk
 ok:zn D' R'
 only:wh D' R'
 other:∀ m,(∀ p,p<=99999999->m≠ah R.head p)->D'.find m=D.find m
 room:D'.room=D.room - (s.length:Int)
 waits:∃ f o,D'.find (ah R.head R'.lastP)=some f/\D'.waits=D.waits++[⟨f.blk,o,s⟩]
 blks:∀ m f,D.find m=some f->∃ f',D'.find m=some f'/\f'.blk=f.blk/\f'.img=f.img
 files:D'.files.length<=D.files.length+1
 names:∀ p∈D'.files,p.1.length<=R.head.length+8\/∃ q∈D.files,q.1=p.1
 cap:D'.cap=D.cap
theorem aa0 (l:List (List UInt8×FileD)) (n t:List UInt8):(fe l n t).length=l.length:=by unfold fe; simp
theorem anu {base:Nat} {w:World} {D:DiskD} {R:SegD} {s:List UInt8} (hR:SegAt base w R) (hD:DiskAt base w D) (hok:zn D R) (hon:wh D R) (I:Quiet D) (hn:0 < R.n) (hs:s≠[])
 (hle:R.txt.length+s.length<=R.n * R.size) (hrm:(s.length:Int)<=D.room) (wv:Value) :
 D.writeE (ah R.head R.lastP) ((R.e:Int) - (R.lastP:Int)) s=0/\AppOk D (D.write (ah R.head R.lastP) ((R.e:Int) - (R.lastP:Int)) s wv) R (R.add s) s /\
  (D.write (ah R.head R.lastP) ((R.e:Int) - (R.lastP:Int)) s wv).files.length=D.files.length/\∀ p∈(D.write (ah R.head R.lastP) ((R.e:Int) - (R.lastP:Int)) s wv).files,∃ q∈D.files,q.1=p.1:=by
 obtain ⟨l1,l2,l3⟩:=hR.long hn;have Y:=hR.sz;obtain ⟨hb,E⟩:=hok (R.n - 1) (by omega);have Z:=xz (s:=R.size) hn;obtain ⟨f,E⟩:=Option.isSome_iff_exists.1 E
 have F:f.now=R.txt.drop ((R.n - 1) * R.size):=by
  have:D.bytes (ah R.head (R.b+(R.n - 1) * R.size))=f.now:=by unfold DiskD.bytes; rw [E]; rfl
  rw [<- this,hb];exact List.take_of_length_le (by rw [List.length_drop]; omega)
 have M:(R.e:Int) - (R.lastP:Int)=(f.now.length:Int):=by
  rw [F,List.length_drop];unfold SegD.e SegD.lastP;omega
 obtain ⟨h1,h2⟩:=I.write hD.names (n:=ah R.head R.lastP) (f:=f) E M hs hrm wv;refine ⟨h1,?_⟩;rw [h2]
 have J:∀ p∈fe D.files (ah R.head R.lastP) (f.now++s),∃ q∈D.files,q.1=p.1:=λp hp=>by
  obtain ⟨q,I,_,e,_⟩:=ql hp;exact ⟨q,I,e.symm⟩
 have A:∀ m,DiskD.find { D with files:=fe D.files (ah R.head R.lastP) (f.now++s),wv:=wv,waits:=D.waits++[⟨f.blk,f.now.length,s⟩] } m=if m=ah R.head R.lastP then (D.find m).map (λf=>{ f with now:=f.now++s }) else D.find m:=by
  intro m;unfold DiskD.find;simp only;rw [ru]
  by_cases e:m=ah R.head R.lastP
  . rw [if_pos e,if_pos e]
    subst e;have:(D.files.find? λp=>p.1 == ah R.head R.lastP).map (·.2)=some f:=E;rw [this]; rfl
  . rw [if_neg e,if_neg e]
 refine ⟨⟨⟨I.left,I.up⟩,rfl,λi hi=>?_,λp hp B=>?_,λm N=>?_,?_,?_,λm g N=>?_,by simp [aa0],λp hp=>.inr (J p hp),rfl⟩,aa0 _ _ _,J⟩
 ·
  have O:i < R.n:=hi;obtain ⟨k1,k2⟩:=hok i O;show DiskD.bytes _ (ah R.head (R.b+i * R.size))=((R.txt++s).drop (i * R.size)).take R.size/\_
  by_cases e:i=R.n - 1
  ·
   subst e;refine ⟨?_,?_⟩
   . unfold DiskD.bytes
     rw [A,if_pos (show ah R.head (R.b+(R.n - 1) * R.size)=ah R.head R.lastP from rfl),show D.find (ah R.head (R.b+(R.n - 1) * R.size))=some f from E];show f.now++s=_;rw [List.drop_append_of_le_length l1,<- F,List.take_of_length_le];rw [List.length_append,F,List.length_drop]; omega
   . show (DiskD.find _ (ah R.head (R.b+(R.n - 1) * R.size))).isSome=true
     rw [A,if_pos (show ah R.head (R.b+(R.n - 1) * R.size)=ah R.head R.lastP from rfl),show D.find (ah R.head (R.b+(R.n - 1) * R.size))=some f from E]; rfl
  ·
   have U:i+1<=R.n - 1:=by omega
   have X:(i+1) * R.size<=(R.n - 1) * R.size:=Nat.mul_le_mul_right _ U;rw [Nat.add_mul,Nat.one_mul] at X
   have B:ah R.head (R.b+i * R.size)≠ah R.head R.lastP:=λh=>by
    have:=abn h;unfold SegD.lastP at this;omega
   refine ⟨?_,?_⟩
   . have:DiskD.bytes { D with files:=fe D.files (ah R.head R.lastP) (f.now++s),wv:=wv,waits:=D.waits++[⟨f.blk,f.now.length,s⟩] } (ah R.head (R.b+i * R.size))=D.bytes (ah R.head (R.b+i * R.size)):=by
      unfold DiskD.bytes; rw [A,if_neg B]
     rw [this,k1,List.drop_append_of_le_length (by omega),List.take_append_of_le_length (by rw [List.length_drop]; omega)]
   . show (DiskD.find _ (ah R.head (R.b+i * R.size))).isSome=true
     rw [A,if_neg B]; exact k2
 ·
  rw [A,if_neg ?_]
  . exact hon p hp B
  . intro h
    exact B (R.n - 1) (by show R.n - 1 < R.n; omega) (abn h)
 . rw [A,if_neg]
   . intro h; exact N R.lastP (by unfold SegD.lastP; omega) h
 ·
  unfold DiskD.room DiskD.size;simp only;have:=aap D.files (ah R.head R.lastP) (f.now++s) f hD.names (nz E);rw [List.length_append] at this;omega
 . refine ⟨{ f with now:=f.now++s },f.now.length,?_,rfl⟩
   show DiskD.find _ (ah R.head R.lastP)=_;rw [A,if_pos rfl,show D.find (ah R.head R.lastP)=some f from E]; rfl
 ·
  rw [A,N]
  by_cases e:m=ah R.head R.lastP
  . rw [if_pos e]; exact ⟨_,rfl,rfl,rfl⟩
  . rw [if_neg e]; exact ⟨_,rfl,rfl,rfl⟩
theorem asa {base:Nat} {w:World} {D:DiskD} {R:SegD} (hR:SegAt base w R) (hok:zn D R) (hon:wh D R) (hq:Quiet D) (hfull:R.n=0\/(0 < R.n/\R.txt.length=R.n * R.size)) (he:R.e<=99999999) (bk:Nat) (pv:Value) :
 D.createE (ah R.head R.e)=0/\Quiet (D.create (ah R.head R.e) bk)/\zn (D.create (ah R.head R.e) bk) (R.more pv)/\wh (D.create (ah R.head R.e) bk) (R.more pv) /\
  (∀ m,(∀ p,p<=99999999->m≠ah R.head p)->(D.create (ah R.head R.e) bk).find m=D.find m)/\(D.create (ah R.head R.e) bk).room=D.room/\(D.create (ah R.head R.e) bk).waits=D.waits /\
  (D.create (ah R.head R.e) bk).files=D.files++[(ah R.head R.e,⟨bk,[],[]⟩)]/\(D.create (ah R.head R.e) bk).blk=D.blk/\(D.create (ah R.head R.e) bk).cap=D.cap:=by
 have N:=hR.sz
 have E:R.e=R.b+R.n * R.size:=by
  unfold SegD.e
  rcases hfull with h0 | ⟨h0,h1⟩
  . obtain ⟨O,U⟩:=hR.empty h0
    rw [h0,O,U]; simp
  . rw [h1]
 have X:R.txt.length=R.n * R.size:=by unfold SegD.e at E; omega
 have F:∀ i,i < R.n->R.e≠R.b+i * R.size:=λi J h=>by
  have:(i+1) * R.size<=R.n * R.size:=Nat.mul_le_mul_right _ J;rw [Nat.add_mul,Nat.one_mul] at this;omega
 have M:D.find (ah R.head R.e)=none:=hon R.e he F;have B:=aac hq M bk;have A:=hq.create M bk;refine ⟨hq.createE M,?_,λi J=>?_,λp hp I=>?_,λm Y=>?_,?_,?_,?_,?_,?_⟩
 . rw [A]; exact ⟨hq.left,hq.up⟩
 ·
  show DiskD.bytes _ (ah R.head (R.b+i * R.size))=(R.txt.drop (i * R.size)).take R.size/\(DiskD.find _ (ah R.head (R.b+i * R.size))).isSome=true;have Z:i < R.n+1:=J
  by_cases e:i=R.n
  ·
   subst e;have h1:(D.create (ah R.head R.e) bk).find (ah R.head (R.b+R.n * R.size))=some ⟨bk,[],[]⟩:=by rw [B,if_pos (by rw [E])]
   refine ⟨?_,by rw [h1]; rfl⟩;unfold DiskD.bytes;rw [h1,List.drop_of_length_le (by omega),List.take_nil];rfl
  ·
   obtain ⟨k1,k2⟩:=hok i (by omega)
   have h1:(D.create (ah R.head R.e) bk).find (ah R.head (R.b+i * R.size))=D.find (ah R.head (R.b+i * R.size)):=by
    rw [B,if_neg];intro h;exact F i (by omega) (abn h).symm
   refine ⟨?_,by rw [h1]; exact k2⟩;rw [<- k1];unfold DiskD.bytes;rw [h1]
 ·
  show DiskD.find _ (ah R.head p)=none;rw [B,if_neg ?_]
  . exact hon p hp λi J=>I i (by show i < R.n+1; omega)
  . intro h
    have:=abn h;exact I R.n (by show R.n < R.n+1; omega) (this.trans E)
 . rw [B,if_neg (Y R.e he)]
 ·
  unfold DiskD.room DiskD.size;rw [A];simp only;rw [yx];show D.cap - ((gp D.files+0:Nat):Int)=_;rw [Nat.add_zero]
 . rw [A]
 . rw [A]
 . rw [A]
 . rw [A]
theorem aqh {base:Nat} {w:World} {R:SegD} (h:SegAt base w R):(0 < R.n/\R.txt.length < R.n * R.size)\/(R.n=0\/(0 < R.n/\R.txt.length=R.n * R.size)):=by
 rcases Nat.eq_zero_or_pos R.n with h0 | h0
 . exact .inr (.inl h0)
 ·
  have:=(h.long h0).2.1
  by_cases h1:R.txt.length < R.n * R.size
  . exact .inl ⟨h0,h1⟩
  . exact .inr (.inr ⟨h0,by omega⟩)
structure FrOk (D D1:DiskD) (R R1:SegD):Prop where
 quiet:Quiet D1
 blk:D1.blk=D.blk
 other:∀ m,(∀ p,p<=99999999->m≠ah R.head p)->D1.find m=D.find m
 room:D1.room=D.room
 waits:D1.waits=D.waits
 files:D1.files=D.files\/∃ n bk,n.length<=R.head.length+8/\D1.files=D.files++[(n,⟨bk,[],[]⟩)]
 same:R1={ R with n:=R1.n,pv:=R1.pv }
 pos:0 < R1.n
 fit:R.txt.length+R.room<=R1.n * R1.size
 cap:D1.cap=D.cap
theorem FrOk.refl {D:DiskD} {R:SegD} (hq:Quiet D) (ho:0 < R.n/\R.txt.length < R.n * R.size):FrOk D D R R :=
 ⟨hq,rfl,λ_ _=>rfl,rfl,rfl,.inl rfl,rfl,ho.1,by unfold SegD.room; rw [if_pos ho]; omega,rfl⟩
theorem AppOk.join {D D1 D':DiskD} {R R1 R':SegD} {s:List UInt8} (h:AppOk D1 D' R1 R' s) (hlen:D'.files.length=D1.files.length) (hnm:∀ p∈D'.files,∃ q∈D1.files,q.1=p.1) (hf:FrOk D D1 R R1):AppOk D D' R R' s:=by
 have E:R1.head=R.head:=by rw [hf.same]
 refine ⟨h.quiet,h.blk.trans hf.blk,h.ok,h.only,λm B=>?_,by rw [h.room,hf.room],?_,λm f B=>?_,?_,λp hp=>?_,h.cap.trans hf.cap⟩
 . rw [h.other m (by rw [E]; exact B),hf.other m B]
 . obtain ⟨f,o,h1,F⟩:=h.waits
   exact ⟨f,o,by rw [<- E]; exact h1,by rw [F,hf.waits]⟩
 ·
  have:D1.find m=some f:=by
   rcases hf.files with e | ⟨n,bk,_,e⟩
   . unfold DiskD.find at *
     rw [e]; exact B
   . unfold DiskD.find at *
     rw [e,List.find?_append]
     cases hx:D.files.find? (λp=>p.1 == m) with
     | none=>rw [hx] at B; cases B
     | some x=>rw [hx] at B; exact B
  exact h.blks m f this
 . rw [hlen]
   rcases hf.files with e | ⟨n,bk,_,e⟩ <;> rw [e] <;> simp
 ·
  obtain ⟨q,A,e⟩:=hnm p hp
  rcases hf.files with e2 | ⟨n,bk,hn,e2⟩
  . rw [e2] at A; exact .inr ⟨q,A,e⟩
  ·
   rw [e2,List.mem_append] at A
   rcases A with A | A
   . exact .inr ⟨q,A,e⟩
   . rw [List.mem_singleton] at A
     subst A
     left
     rw [<- e]; exact hn
theorem anv {base:Nat} {D:DiskD} {R:SegD} (w:World) (hT:TabB base w) (hW:Whole base w D R) (hq:Quiet D) (hbase:base<=w.heap.size) (he:(R.n=0\/(0 < R.n/\R.txt.length=R.n * R.size))->R.e<=99999999) :
 Calls Tryz.prog 192 #[.pointer (some ⟨R.blk,0,none⟩)] w λe w'=>e=.returned (.int .i64 0)/\∃ D1 R1,Whole base w' D1 R1/\FrOk D D1 R R1/\Mod (λk=>D.foot k\/R.foot k) w w' /\
  (∀ k,D1.foot k->D.foot k\/w.heap.size<=k)/\∀ k,R1.foot k->R.foot k\/w.heap.size<=k:=by
 rcases aqh hW.seg with ho | hfull
 . refine (anr w hW.seg ho).mono ?_
   rintro e w' ⟨rfl,hd⟩;exact ⟨rfl,D,R,hW.below (hd.below _),FrOk.refl hq ho,Mod.of_below (hd.below _),λk h=>.inl h,λk h=>.inl h⟩
 ·
  have A:¬ R.open_:=by rintro ⟨h1,I⟩; rcases hfull with h | h <;> omega
  have B:=he hfull;have J:=λ(E:Nat) (pv:Value)=>asa hW.seg hW.ok hW.only hq hfull B E pv
  have M:R.freshE D=0:=by unfold SegD.freshE; rw [if_neg (by omega)]; exact (J 0 (.bool true)).1
  refine (afe w hT.tab hW.seg hW.dsk hW.db hW.ap A hbase).mono ?_;rintro e w' ⟨rfl,-,h⟩;obtain ⟨E,pv,h1,I,O,U,X,Y⟩:=h M;obtain ⟨p1,p2,p3,p4,Z,p6,p7,p8,N,F⟩:=J E pv;rw [M];refine ⟨rfl,D.create (ah R.head R.e) E,R.more pv,⟨O,I,hW.db.trans N.symm,Y,p3,p4⟩,⟨p2,N,Z,p6,p7,.inr ⟨_,E,?_,p8⟩,rfl,?_,?_,F⟩,U,λk hk=>?_,λk hk=>?_⟩
  . unfold ah; rw [List.length_append,ada R.e B]; exact Nat.le_refl _
  . show 0 < R.n+1; omega
  ·
   show R.txt.length+R.room<=(R.n+1) * R.size;have:R.room=R.size:=by unfold SegD.room; exact if_neg A
   rw [this,Nat.add_mul,Nat.one_mul]
   rcases hfull with h0 | ⟨h0,h1'⟩
   . obtain ⟨-,e2⟩:=hW.seg.empty h0
     rw [h0,e2]; simp
   . omega
  . rcases vz hk with h | h
    . exact .inl h
    . right; omega
  . rcases hk with h | h
    . exact .inl (.inl h)
    . exact X k h
theorem asb {base:Nat} {D:DiskD} {R:SegD} (s:List UInt8) (w:World) (hW:Whole base w D R) (hs:s=[]\/R.room < s.length) :
 Calls Tryz.prog 116 #[.pointer (some ⟨R.blk,0,none⟩),.string (S s)] w λe w'=>e=.returned (.tuple #[.int .i64 0,.int .i64 1])/\Below w.heap.size w w':=by
 have B:=au;have E:=S_toList
 by_cases h0:s=[]
 ·
  subst h0;clear hs hW;go_enter Tryz.func116,Tryz.ntmps116;go_wp2_with fail;go_ret2;exact ⟨rfl,Below.refl _ _⟩
 ·
  have F:R.room < s.length:=by rcases hs with h | h; exact absurd h h0; exact h
  have A:=zq (room_any w hW.seg);have I:(R.room:Int) < (s.length:Int):=by omega
  clear hs hW F;generalize R.room=r at *
  go_enter Tryz.func116,Tryz.ntmps116;go_wp2_with fail;refine A.o.mono ?_;rintro e w' ⟨rfl,hd⟩;go_wp2_with fail;go_ret2;exact ⟨rfl,hd.below _⟩
theorem asc {base:Nat} {D:DiskD} {R:SegD} (s:List UInt8) (w:World) (hT:TabB base w) (hW:Whole base w D R) (hbase:base<=w.heap.size) (hq:Quiet D) (h0:s≠[]) (hr:s.length<=R.room) (hf:(s.length:Int)<=D.room)
 (hfull:R.n=0\/(0 < R.n/\R.txt.length=R.n * R.size)) (h99:99999999 < R.e) :
 Calls Tryz.prog 116 #[.pointer (some ⟨R.blk,0,none⟩),.string (S s)] w λe w'=>e=.returned (.tuple #[.int .i64 0,.int .i64 2])/\Whole base w' D R/\Mod D.foot w w':=by
 have ad:=au;have ak:=S_toList;have al:s.isEmpty=false:=by cases s with | nil=>exact absurd rfl h0 | cons _ _=>rfl
 have E:=zq (room_any w hW.seg);have F:=zq (λ(w2:World) (hb:Below w.heap.size w w2)=>DskW.room_any w2 (hW.dsk.below hb));have I:¬ R.open_:=by rintro ⟨h1,B⟩; rcases hfull with h | h <;> omega
 have hE:R.freshE D=2:=if_pos h99;have J:=zq (λ(w2:World) (hb:Below w.heap.size w w2)=>afe w2 (hT.below hb).tab (hW.seg.below hb) (hW.dsk.below hb) hW.db hW.ap I (Nat.le_trans hbase hb.size));rw [hE] at J;have O:=zq (λ(w2:World) (hb:Below w.heap.size w w2)=>(hW.seg.below hb).cell 0 (.pointer (some ⟨D.blk,0,none⟩)) (by rw [<- hW.db]; rfl));have HW:=zq hW;have U:=zq h99;have an:¬ R.room < s.length:=by omega
 have ao:¬ D.room < (s.length:Int):=by omega
 clear hW hr h0 hq hT hfull I hE h99 hf;generalize R.room=r at *
 generalize D.room=dr at *
 go_enter Tryz.func116,Tryz.ntmps116;go_wp2_with fail;refine E.o.mono ?_;rintro e w1 ⟨rfl,hd⟩;have A:=zq (hd.below w.heap.size);have c0:=O.o w1 A.o;clear hd E;go_wp2_with fail;refine (F.o w1 A.o).mono ?_;rintro e w2 ⟨rfl,hb⟩;have N:=zq (A.o.trans (hb.mono A.o.size));clear hb F;go_wp2_with fail;refine (J.o w2 N.o).mono ?_;rintro e w3 ⟨rfl,h,-⟩;obtain ⟨h1,B,h3⟩:=h (by decide)
 have X:Zq (DiskAt base w3 D):=by
  rcases B with B | ⟨B,-⟩
  . exact B.2
  . exact absurd U.o B
 have Y:=zq h1;have Z:=zq ((Mod.of_below (M:=D.foot) N.o).trans h3);clear h1 B h3 h;go_wp2_with fail;go_ret2;exact ⟨rfl,{ HW.o with seg:=Y.o,dsk:=X.o },Z.o⟩
theorem iw {M M':Nat->Prop} {u v w:World} (h:Mod M u v) (h':Mod M' v w) (hk:∀ k,M' k->M k\/u.heap.size<=k):Mod M u w :=
 ⟨h'.os.trans h.os,h'.tape.trans h.tape,h'.output.trans h.output,Nat.le_trans h.size h'.size,λk A B=>(h'.block k (Nat.lt_of_lt_of_le A h.size) (λE=>by
  rcases hk k E with h1 | h1
  . exact B h1
  . omega)).trans (h.block k A B)⟩
theorem aqi {base:Nat} {w:World} {R:SegD} {s:List UInt8} (h:SegAt base w R) (hn:0 < R.n) (hl:R.txt.length+s.length<=R.n * R.size):SegAt base (w.setCell ⟨R.blk,4,none⟩ (.int .i64 ((R.e:Int)+(s.length:Int)))) (R.add s):=by
 obtain ⟨l1,l2,B⟩:=h.long hn;have A:((R.add s).e:Int)=(R.e:Int)+(s.length:Int):=by unfold SegD.add SegD.e; simp only; rw [List.length_append]; omega
 refine ⟨heap_set1 h.cells _ ?_,ownsRow_mod (M:=λk=>k=R.blk) h.row (jv _ _ _ _) (λk hk e=>h.apart k hk e),h.apart,h.above,h.sz,λh0=>absurd (show R.n=0 from h0) (by omega),λ_=>?_,h.mult,?_,h.hd⟩
 . rw [<- A]; rfl
 . show (R.n - 1) * R.size<=(R.txt++s).length/\(R.txt++s).length<=R.n * R.size/\R.b+(R.n - 1) * R.size<=99999999
   rw [List.length_append]; omega
 . have:=h.syn
   show R.synced<=(R.add s).e;omega
theorem append_ok {base:Nat} {D:DiskD} {R:SegD} (s:List UInt8) (w:World) (hT:TabB base w) (hW:Whole base w D R) (hbase:base<=w.heap.size) (hq:Quiet D) (h0:s≠[]) (hr:s.length<=R.room) (hf:(s.length:Int)<=D.room) (hwl:D.waits.length<=1048576)
 (he:(R.n=0\/(0 < R.n/\R.txt.length=R.n * R.size))->R.e<=99999999) :
 Calls Tryz.prog 116 #[.pointer (some ⟨R.blk,0,none⟩),.string (S s)] w λe w'=>e=.returned (.tuple #[.int .i64 (R.e:Int),.int .i64 0])/\Mod (λk=>D.foot k\/R.foot k) w w' /\
  ∃ D' R',Whole base w' D' R'/\AppOk D D' R R' s/\R'={ R with n:=R'.n,pv:=R'.pv,txt:=R.txt++s }/\(∀ k,D'.foot k->D.foot k\/w.heap.size<=k)/\∀ k,R'.foot k->R.foot k\/w.heap.size<=k:=by
 have ck:=au;have cm:=S_toList;have cn:s.isEmpty=false:=by cases s with | nil=>exact absurd rfl h0 | cons _ _=>rfl
 have bc:=zq (room_any w hW.seg);have bd:=zq (λ(w2:World) (hb:Below w.heap.size w w2)=>DskW.room_any w2 (hW.dsk.below hb));have bh:=zq (λ(w2:World) (hb:Below w.heap.size w w2)=>anv w2 (hT.below hb) (hW.below hb) hq (Nat.le_trans hbase hb.size) he);have F:=zq (λ(w2:World) (hb:Below w.heap.size w w2)=>(hW.seg.below hb).cell 0 (.pointer (some ⟨D.blk,0,none⟩)) (by rw [<- hW.db]; rfl));have HW:=zq hW;have HT:=zq hT;have b2:=zq hf;have b3:=zq hr
 have cp:Zq (∀ k,R.foot k\/D.foot k->k < w.heap.size):=λk hk=>by
  rcases hk with h | h
  . exact hW.seg.lt h
  . exact hW.dsk.lt h
 have cq:¬ R.room < s.length:=by omega
 have cr:¬ D.room < (s.length:Int):=by omega
 have cs:s.length<=4096:=by
  have h1:=hW.seg.sz.2
  have h2:R.room<=R.size:=by
   unfold SegD.room
   split
   . rename_i h
     have h3:=(hW.seg.long h.1).1;have h4:=xz (s:=R.size) h.1;omega
   . exact Nat.le_refl _
  omega
 clear hW hr hq hT he hf;generalize hrr:R.room=r at *
 generalize hdr:D.room=dr at *
 go_enter Tryz.func116,Tryz.ntmps116;go_wp2_with fail;refine bc.o.mono ?_;rintro e w1 ⟨rfl,hd⟩;have Z:=zq (hd.below w.heap.size);have c0:=F.o w1 Z.o;clear hd bc;go_wp2_with fail;refine (bd.o w1 Z.o).mono ?_;rintro e w2 ⟨rfl,hb⟩;have I:=zq (Z.o.trans (hb.mono Z.o.size));clear hb bd F c0;go_wp2_with fail;refine (bh.o w2 I.o).mono ?_;rintro e w3 ⟨rfl,D1,R1,A,B,hM,bj,bk⟩
 have ao:TabB base w3:=(HT.o.below I.o).mod hM (λk hk=>by
  rcases hk with h | h
  . exact HW.o.dsk.base_le h
  . rcases h with h | h
    . rw [h]; exact HW.o.seg.above
    . exact az HW.o.seg.row k h)
 have ar:=zq ((Mod.of_below (M:=λk=>D.foot k\/R.foot k) I.o).trans hM);have bl:=zq (λk (hk:D1.foot k)=>(bj k hk).imp_right λh=>Nat.le_trans I.o.size h);have b5:=zq (λk (hk:R1.foot k)=>(bk k hk).imp_right λh=>Nat.le_trans I.o.size h);have J:=zq A;have HF:=zq B;have cw:=zq ao;have av:R1.e=R.e:=by rw [B.same]; rfl
 have a1:R1.blk=R.blk:=by rw [B.same]
 have bm:=zq av;have E:=zq a1;obtain ⟨l1,l2,l3⟩:=A.seg.long B.pos;obtain ⟨g,cap,hp,cy,hc⟩:=A.seg.place (R1.n - 1) (by have:=B.pos; omega);have c3:w3.cell? ⟨R1.blk,3,none⟩=some (.slice (some ⟨g,0,none⟩) R1.n cap):=A.seg.cell 3 _ (by show some R1.pv=_; rw [hp]);have c4:w3.cell? ⟨R1.blk,4,none⟩=some (.int .i64 (R1.e:Int)):=A.seg.cell 4 _ rfl;have F:=zq (λ(w2:World) (hb:Below w3.heap.size w3 w2)=>(A.seg.below hb).cell 0 (.pointer (some ⟨D1.blk,0,none⟩)) (by rw [<- A.db]; rfl));have ab:=zq (λ(w2:World) (hb:Below w3.heap.size w3 w2)=>ad3 w2 (A.seg.below hb) (ao.tab.below hb) R1.lastP (by unfold SegD.lastP; omega))
 have bo:R1.txt.length+s.length<=R1.n * R1.size:=by
  have e1:R1.txt=R.txt:=by rw [B.same]
  have h1:=B.fit;have h2:=b3.o;rw [e1]; omega
 have b7:=zq bo;have N:=anu A.seg A.dsk A.ok A.only B.quiet B.pos h0 bo (by rw [B.room,hdr]; exact b2.o);have ak:D1.waits.length<=1048576:=by rw [B.waits]; exact hwl
 have O:=zq (λ(w2:World) (hb:Below w3.heap.size w3 w2)=>DskW.aaq (ah R1.head R1.lastP) ((R1.e:Int) - (R1.lastP:Int)) (by have:=A.seg.e_le; unfold SegD.lastP; omega) s (by omega) ak w2 (A.dsk.below hb) (Nat.le_trans hbase (Nat.le_trans ar.o.size hb.size)));rw [(N D1.wv).1] at O;have al:=zq N;have c7:((R1.n - 1:Nat):Int)=(R1.n:Int) - 1:=by have:=B.pos; omega
 have c8:(0:Int) < (R1.n:Int):=by have:=B.pos; omega
 have da:R1.n<=1073741824:=by
  have:=A.seg.sz;have h3:=Nat.le_mul_of_pos_right (R1.n - 1) (by omega:0 < R1.size);omega
 have b8:w3.cell? ⟨g,R1.n - 1,none⟩=some (.int .i64 (R1.lastP:Int)):=hc;have bp:IntKind.i64.wrap ((R1.e:Int) - (R1.lastP:Int))=(R1.e:Int) - (R1.lastP:Int):=IntWalk.i64_in _ (by have:=A.seg.e_le; unfold SegD.lastP; omega);have b9:=A.seg.e_le;obtain ⟨nm,am⟩:∃ nm,Zq (nm=ah R1.head R1.lastP):=⟨_,rfl⟩;have br:ah R1.head R1.lastP=nm:=am.o.symm;rw [br] at ab O;have dc:R1.lastP<=99999999:=by unfold SegD.lastP; omega
 rw [a1] at c3 c4 F ab;rw [av] at c4 O bp b9 al;clear A B hM bj bk av a1 N bh hc hp ao l1 l2 l3 hwl ak br hrr hdr;generalize hlpg:R1.lastP=lp at *
 go_wp2_with fail;go_quiet (fail);go_wp2_with fail;refine Grow.jc 11 [none,none,none,some (.inl (.pointer (some ⟨D1.blk,0,none⟩))),none,none,some (.inl (.string (S nm))),none,none,none,none] Ext (by kernel_rfl) (by kernel_rfl) (by kernel_rfl) Ext.refl (λ_ _ _=>Ext.trans) ?_ ?_
 . intro K hK Y hY v w w' hR h
   simp only [List.mem_cons,List.not_mem_nil,or_false] at hK
   rcases hK with rfl | rfl | rfl | rfl | rfl | rfl | rfl | rfl | rfl | rfl | rfl <;> simp only [reduceCtorEq,Option.some.injEq,Sum.inr.injEq] at hY
 simp only [List.take_succ_cons,List.take_zero,List.drop_succ_cons,List.drop_zero]
 iterate 3
  refine Grow.g_det rfl ?_;apply Exists.intro;refine ⟨λw hw B=>?_,?_⟩
  . clear B
    go_simp;exact ⟨rfl,Ext.refl _⟩
  go_frame
 refine Grow.g_con rfl (λa6 hw B=>?_) ?_
 ·
  clear B;have c0:=F.o a6 ((((Drawn.refl w3).drewN nq).below w3.heap.size).trans (((Below.refl _ _).drew.trans hw).mono (Nat.le_refl _)));go_simp
  all_goals exact Ext.refl _
 iterate 2
  go_frame;refine Grow.g_det rfl ?_;apply Exists.intro;refine ⟨λw hw B=>?_,?_⟩
  . clear B
    go_simp;exact ⟨rfl,Ext.refl _⟩
 go_frame;refine Grow.g_con rfl (λa6 hw B=>?_) ?_
 . clear B
   go_simp;exact (ab.o a6 ((((Drawn.refl w3).drewN nq).below w3.heap.size).trans (((Below.refl _ _).drew.trans hw).mono (Nat.le_refl _)))).mono λe w3 h=>⟨_,h.1,rfl,h.2⟩
 iterate 4
  go_frame;refine Grow.g_det rfl ?_;apply Exists.intro;refine ⟨λw hw B=>?_,?_⟩
  . clear B
    go_simp;exact ⟨rfl,Ext.refl _⟩
 go_frame;refine Grow.g_nil λw4 bs B=>?_
 clear B;have U:=zq ((((Drawn.refl w3).drewN nq).below w3.heap.size).trans (((Below.refl _ _).drew.trans bs).mono (Nat.le_refl _)));clear bs F ab c3 c4 b8;go_wp2_with fail;refine (O.o w4 U.o).mono ?_;rintro e w5 ⟨wv,rfl,a7,X,a8⟩;rw [am.o] at a7 a8;have ac:SegAt base w5 R1:=(J.o.seg.below U.o).mod X (λk hk ad=>J.o.ap k ad hk);have ca:=zq ((Mod.of_below (M:=D1.foot) U.o).trans X)
 have ci:w5.frozen? ⟨R.blk,4,none⟩=false:=by
  unfold World.frozen?;rw [<- E.o,show w5.heap[(⟨R1.blk,4,none⟩:Addr).block]?=_ from ac.cells]; rfl
 have de:w5.cell? ⟨R.blk,4,none⟩=some (.int .i64 (R.e:Int)):=by rw [<- E.o,<- bm.o]; exact ac.cell 4 _ rfl
 have cb:=zq a7;have cc:=zq ac;have bz:=zq a8;have cj:IntKind.i64.wrap ((R.e:Int)+(s.length:Int))=(R.e:Int)+(s.length:Int):=IntWalk.i64_in _ (by omega);clear a7 X a8 ac O;go_wp2_with fail;go_ret2;have hA:=al.o wv;have cd:=HF.o.pos;have ce:=cc.o;have an:=aqi ce cd b7.o;rw [E.o,bm.o] at an
 have b0:∀ k,(D1.write (ah R1.head lp) ((R.e:Int) - (lp:Int)) s wv).foot k->¬ R1.foot k:=λk hk ad=>by
  rcases bz.o k hk with h | h
  . exact J.o.ap k h ad
  . have h1:=J.o.seg.lt ad
    have h2:=U.o.size;omega
 have X:Mod (λk=>D.foot k\/R.foot k) w w5:=iw ar.o ca.o (λk hk=>(bl.o k hk).imp_left .inl);have dj:=ar.o.size;have dk:=U.o.size;refine ⟨rfl,X.setCell (.inl (.inr (.inl rfl))) _,_,R1.add s,⟨an,cb.o.mod (jv _ _ _ _) (λk hk e=>b0 k hk (.inl (e.trans E.o.symm))),J.o.db.trans hA.2.1.blk.symm,b0,hA.2.1.ok,hA.2.1.only⟩,?_,?_,λk hk=>?_,λk hk=>b5.o k hk⟩
 . exact AppOk.join hA.2.1 hA.2.2.1 hA.2.2.2 HF.o
 ·
  unfold SegD.add;have:=HF.o.same;generalize hn:R1.n=n1 at *
  generalize hp:R1.pv=p1 at *
  rw [this]
 . rcases bz.o k hk with h | h
   . exact bl.o k h
   . right; omega
def SegD.syncK (R:SegD) (k:Nat):List (List UInt8):=if R.synced < R.e then ((List.range k).filter λi=>decide (R.synced < R.b+i * R.size+R.size)).map λi=>ah R.head (R.b+i * R.size) else []
def SegD.syncL (R:SegD):List (List UInt8):=R.syncK R.n
theorem aff {R:SegD} {k:Nat} (h1:R.synced < R.b+k * R.size+R.size) (h2:R.synced < R.e):R.syncK (k+1)=R.syncK k++[ah R.head (R.b+k * R.size)]:=by
 unfold SegD.syncK;rw [if_pos h2,if_pos h2,List.range_succ,List.filter_append,List.map_append];simp [h1]
theorem anw {R:SegD} {k:Nat} (h:¬ (R.synced < R.b+k * R.size+R.size/\R.synced < R.e)):R.syncK (k+1)=R.syncK k:=by
 unfold SegD.syncK
 by_cases h2:R.synced < R.e
 . rw [if_pos h2,if_pos h2,List.range_succ,List.filter_append]
   have:¬ R.synced < R.b+k * R.size+R.size:=λh1=>h ⟨h1,h2⟩
   simp [this]
 . rw [if_neg h2,if_neg h2]
theorem alj (R:SegD) (k:Nat):(R.syncK k).length<=k:=by
 unfold SegD.syncK
 split
 . rw [List.length_map]
   exact Nat.le_trans (List.length_filter_le _ _) (by simp)
 . exact Nat.zero_le _
theorem afg {base:Nat} {w:World} {R:SegD} (h:SegAt base w R):(R.syncL=[]->R.synced=R.e)/\(R.synced=R.e->R.syncL=[]):=by
 refine ⟨λA=>?_,λA=>by unfold SegD.syncL SegD.syncK; rw [if_neg (by omega)]⟩;have h1:=h.syn
 rcases Nat.lt_or_ge R.synced R.e with h2 | h2
 ·
  exfalso
  rcases Nat.eq_zero_or_pos R.n with h0 | h0
  . obtain ⟨F,I⟩:=h.empty h0
    have:R.e=0:=by unfold SegD.e; rw [F,I]; rfl
    omega
  ·
   obtain ⟨m,E⟩:∃ m,R.n=m+1:=⟨R.n - 1,by omega⟩;have J:=(h.long h0).2.1
   have B:R.synced < R.b+m * R.size+R.size:=by
    rw [E,Nat.add_mul] at J;unfold SegD.e at h2;omega
   unfold SegD.syncL at A;rw [E,aff B h2] at A;simp at A
 . omega
theorem ai3 (D:DiskD) (l:List (List UInt8)) (wv:Value) (m:List UInt8):(D.lasts l wv).find m=(D.find m).map λf=>if m∈l then { f with img:=f.now } else f:=by
 unfold DiskD.lasts DiskD.find;simp only
 induction D.files with
 | nil=>rfl
 | cons p t ih =>
   rw [List.map_cons,List.find?_cons,List.find?_cons];have A:(if p.1∈l then (p.1,({ p.2 with img:=p.2.now }:FileD)) else p).1=p.1:=by split <;> rfl
   rw [A]
   by_cases hp:p.1=m
   . rw [show (p.1 == m)=true by simp [hp]]
     simp only [Option.map_some];subst hp
     split <;> rfl
   . rw [show (p.1 == m)=false by simp [hp]]
     exact ih
def SegD.syncD (R:SegD) (D:DiskD) (wv:Value):DiskD:=if R.syncL=[] then D else D.lasts R.syncL wv
theorem qm (R:SegD) (D:DiskD) (wv:Value) (m:List UInt8):∃ g:FileD->FileD,(R.syncD D wv).find m=(D.find m).map g/\∀ f,(g f).blk=f.blk/\(g f).now=f.now:=by
 unfold SegD.syncD
 split
 . exact ⟨id,by simp,λf=>⟨rfl,rfl⟩⟩
 . exact ⟨_,ai3 _ _ _ _,λf=>by split <;> exact ⟨rfl,rfl⟩⟩
theorem aev {D D':DiskD} {m:List UInt8} {g:FileD->FileD} (h:D'.find m=(D.find m).map g) (hg:∀ f,(g f).blk=f.blk/\(g f).now=f.now):D'.bytes m=D.bytes m/\(D'.find m).isSome=(D.find m).isSome:=by
 unfold DiskD.bytes;rw [h]
 cases hf:D.find m with
 | none=>exact ⟨rfl,rfl⟩
 | some f=>exact ⟨(hg f).2,rfl⟩
theorem anx {D:DiskD} {l:List (List UInt8)} (hq:Quiet D) (h:∀ m∈l,(D.find m).isSome=true):D.bars l=0:=by
 unfold DiskD.bars;rw [hq.up,show (l.all λn=>(D.find n).isSome)=true from List.all_eq_true.2 h]; rfl
theorem anz {base:Nat} {w:World} {R:SegD} (h:SegAt base w R):SegAt base (w.setCell ⟨R.blk,5,none⟩ (.int .i64 (R.e:Int))) { R with synced:=R.e } :=
 ⟨heap_set1 h.cells _ rfl,ownsRow_mod (M:=λk=>k=R.blk) h.row (jv _ _ _ _) (λk hk e=>h.apart k hk e),h.apart,h.above,h.sz,h.empty,h.long,h.mult,Nat.le_refl _,h.hd⟩
theorem sync_any {base:Nat} {D:DiskD} {R:SegD} (w:World) (hT:TabB base w) (hW:Whole base w D R) (hq:Quiet D) (hbase:base<=w.heap.size) (hwl:D.waits.length<=1048576) (hn:R.n<=1048576) :
 Calls Tryz.prog 119 #[.pointer (some ⟨R.blk,0,none⟩)] w λe w'=>e=.returned (.int .i64 0)/\∃ wv,wv.ownBlock=D.wv.ownBlock/\Whole base w' (R.syncD D wv) { R with synced:=R.e }/\Mod (λk=>D.foot k\/R.foot k) w w':=by
 obtain ⟨i0,bs,bw,bz,b0⟩:=info_parts (show (Tryz.prog.info? 9).map (λi=>(i.zero,i.size,i.bytes))=some (some (.string ⟨#[]⟩),1,16) by kernel_rfl);obtain ⟨a,cp,hv⟩:=hW.seg.pv_nil;have c0:w.cell? ⟨R.blk,0,none⟩=some (.pointer (some ⟨D.blk,0,none⟩)):=hW.seg.cell 0 _ (by rw [<- hW.db]; rfl);have c3:w.cell? ⟨R.blk,3,none⟩=some (.slice a R.n cp):=hW.seg.cell 3 _ (by show some R.pv=_; rw [hv]);have CD:=zq (abo w hW.dsk);rw [hq.up] at CD;have HW:=zq hW;have HT:=zq hT;have HQ:=zq hq;have HV:=zq hv;have cm:=hW.seg.e_le;have cn:=hW.seg.syn;obtain ⟨co,N⟩:=hW.seg.sz;have a1:Zq (R.n<=1048576):=hn;clear hW hT hq hv hn;go_enter Tryz.func119,Tryz.ntmps119;go_wp2_with fail;refine CD.o.mono ?_;rintro e w1 ⟨rfl,rfl⟩;clear CD;go_wp2_with fail;clear c0 c3;go_loopw [3,21] (λv i wr=>∃ k:Nat,k<=R.n/\i=.int .i64 k/\Zq (wr.ownsRow w1.heap.size 9 1 v (R.syncK k).length ((R.syncK k).map λl=>.string (S l)))/\Zq (Below w1.heap.size w1 wr)) (λ_ i _=>R.n - (intOf i).toNat)
 case atStart=>exact ⟨0,Nat.zero_le _,rfl,(by
  have:R.syncK 0=[]:=by unfold SegD.syncK; split <;> rfl
  rw [this]; exact ⟨rfl,.inl ⟨rfl,rfl⟩⟩),Below.refl _ _⟩
 case round =>
  obtain ⟨k,hk,rfl,B,Y⟩:=hrel;have A:Whole base wr D R:=HW.o.below Y.o;have c2:wr.cell? ⟨R.blk,2,none⟩=some (.int .i64 (R.size:Int)):=A.seg.cell 2 _ rfl;have c4:wr.cell? ⟨R.blk,4,none⟩=some (.int .i64 (R.e:Int)):=A.seg.cell 4 _ rfl;have c5:wr.cell? ⟨R.blk,5,none⟩=some (.int .i64 (R.synced:Int)):=A.seg.cell 5 _ rfl;have a6:=alj R k
  by_cases hlt:k < R.n
  ·
   obtain ⟨g,cap,hp,a7,hc⟩:=A.seg.place k hlt;have b3:=HV.o.symm.trans hp;injection b3 with e1 e2 e3
   subst e1
   have b4:R.b+k * R.size<=99999999:=by
    have h1:=(A.seg.long (by omega)).2.2;have h2:k * R.size<=(R.n - 1) * R.size:=Nat.mul_le_mul_right _ (by omega);omega
   have cq:=a1.o;have cr:IntKind.i64.wrap (((R.b+k * R.size:Nat):Int)+(R.size:Int))=((R.b+k * R.size:Nat):Int)+(R.size:Int):=IntWalk.i64_in _ (by omega);have cs:R.b+k * R.size+R.size<=100004095:=by omega
   have a8:=zq (λ(w2:World) (hb:Below wr.heap.size wr w2)=>ad3 w2 (A.seg.below hb) (HT.o.below (Y.o.trans (hb.mono Y.o.size))).tab (R.b+k * R.size) b4)
   by_cases I:R.synced < R.b+k * R.size+R.size/\R.synced < R.e
   ·
    obtain ⟨I,ak⟩:=I;have HS:=zq (aff I ak);clear A hp e2 e3 a7 HV;generalize hpl:R.b+k * R.size=pl at *
    generalize ah R.head pl=nm at *
    generalize R.size=sz at *
    generalize R.e=ee at *
    generalize R.synced=sy at *
    have E:(sy:Int) < (pl:Int)+(sz:Int):=by omega
    have ab:decide ((sy:Int) < (pl:Int)+(sz:Int))=true:=decide_eq_true E;go_wp2_with fail;go_quiet (fail);go_wp2_with fail;refine (a8.o (wr.drewN nq) (((Drawn.refl wr).drewN nq).below _)).mono ?_;rintro e w3 ⟨rfl,al⟩;have Z:=zq (Y.o.trans ((((Drawn.refl wr).drewN nq).below wr.heap.size).trans al |>.mono Y.o.size));have O:Zq (w3.ownsRow w1.heap.size 9 1 u3 (R.syncK k).length ((R.syncK k).map λl=>.string (S l))):=ownsRow_mod (M:=λ_=>False) B.o (Mod.of_below ((((Drawn.refl wr).drewN nq).below wr.heap.size).trans al)) (λ_ _ h=>h);clear al B a8;go_wp2_with (at_builtin; refine wpList_append_own _ rfl (.tmp 47) (.tmp 51) 32 rfl w1.heap.size 9 i0 (.string ⟨#[]⟩) 1 16 Tryz.underlying32 bs bw bz b0 rfl (by decide) _ (R.syncK k).length ((R.syncK k).map λl=>.string (S l)) rfl (O.o.alloc _) ⟨w3.heap.size,0,none⟩ 1 1 [.string (S nm)] rfl rfl ?c1 ?c2 ?c3 ?c4 ?c5 ?_)
    case c1=>exact cell_one_new _ _ _
    case c2=>intro u hu; simp at hu; subst hu; rfl
    case c3=>unfold maxLen; omega
    case c4=>omega
    case c5=>have:=Z.o.size; simp; omega
    intro v' w4 U X _
    have b5:Zq (w4.ownsRow w1.heap.size 9 1 v' (R.syncK (k+1)).length ((R.syncK (k+1)).map λl=>.string (S l))):=by
     show w4.ownsRow _ _ _ _ (R.syncK (k+1)).length _;rw [HS.o,List.map_append,List.length_append]; exact U
    have F:∀ g,u3.ownBlock=some g->w1.heap.size<=g:=az O.o;have b6:Zq (Below w1.heap.size w1 w4):=(Z.o.alloc Z.o.size _).grown X (by have:=Z.o.size; simp; omega) F;clear U X O F;go_wp2_with fail;go_roundw
    case rel=>exact ⟨k+1,by omega,by go_num,b5.o,b6.o⟩
    case measure=>simp [intOf]; omega
   ·
    have HS:=zq (anw I);clear A hp e2 e3 a7 HV;generalize hpl:R.b+k * R.size=pl at *
    generalize R.size=sz at *
    generalize R.e=ee at *
    generalize R.synced=sy at *
    by_cases ak:sy < pl+sz
    ·
     have E:(sy:Int) < (pl:Int)+(sz:Int):=by omega
     have ab:decide ((sy:Int) < (pl:Int)+(sz:Int))=true:=decide_eq_true E;have cx:¬ sy < ee:=λh=>I ⟨ak,h⟩
     clear I;go_wp2_with fail;go_quiet (fail);go_wp2_with fail;go_roundw
     case rel=>exact ⟨k+1,by omega,by go_num,by rw [HS.o]; exact B.o,Y.o.trans ((((Drawn.refl wr).drewN nq).below _))⟩
     case measure=>simp [intOf]; omega
    ·
     have E:¬ (sy:Int) < (pl:Int)+(sz:Int):=by omega
     have ab:decide ((sy:Int) < (pl:Int)+(sz:Int))=false:=decide_eq_false E;clear I;go_wp2_with fail;go_quiet (fail);go_wp2_with fail;go_roundw
     case rel=>exact ⟨k+1,by omega,by go_num,by rw [HS.o]; exact B.o,Y.o.trans ((((Drawn.refl wr).drewN nq).below _))⟩
     case measure=>simp [intOf]; omega
  ·
   obtain rfl:k=R.n:=by omega
   have b7:R.syncK R.n=R.syncL:=rfl;rw [b7] at B a6;obtain ⟨av,cv,b8,F,ba⟩:=Row1.of_own B.o;subst b8;have c0:wr.cell? ⟨R.blk,0,none⟩=some (.pointer (some ⟨D.blk,0,none⟩)):=A.seg.cell 0 _ (by rw [<- A.db]; rfl)
   by_cases hnil:R.syncL=[]
   ·
    have b9:=(afg A.seg).1 hnil
    have bb:Zq (Whole base wr (R.syncD D D.wv) { R with synced:=R.e }):=by
     have h1:R.syncD D D.wv=D:=by unfold SegD.syncD; rw [if_pos hnil]
     show Whole base wr (R.syncD D D.wv) _;rw [h1,<- b9]; exact A
    rw [hnil] at a6 ⊢;clear A;go_wp2_with fail;go_ret;exact ⟨rfl,D.wv,rfl,bb.o,Mod.of_below Y.o⟩
   ·
    have c7:¬ (R.syncL).length=0:=by simpa using hnil
    have ca:=A.dsk
    have bc:∀ m∈R.syncL,(D.find m).isSome=true:=λm hm=>by
     unfold SegD.syncL SegD.syncK at hm
     split at hm
     . obtain ⟨i,hi,rfl⟩:=List.mem_map.1 hm
       rw [List.mem_filter,List.mem_range] at hi;exact (A.ok i hi.1).2
     . cases hm
    have J:=anx HQ.o bc;have hE:D.syncE R.syncL=0:=by unfold DiskD.syncE; rw [if_pos J,HQ.o.done]
    have hD:∀ wv,D.sync R.syncL wv=R.syncD D wv:=λwv=>by
     unfold DiskD.sync SegD.syncD;rw [if_pos J,if_neg (by rw [HQ.o.left]; decide),if_neg hnil,HQ.o.burn]
    have am:=zq (DskW.sync_any av cv R.syncL (by have:=a1.o; omega) wr A.dsk F (λad bd hf=>by
     have h1:=az B.o ad.block (by
      rcases B.o.2 with ⟨e,_⟩ | ⟨g,cap,cur,e,_⟩
      . rw [bd] at e; cases e
      . rw [bd] at e ⊢; injection e with e; injection e with e; rw [e]; rfl)
     have h2:=HW.o.dsk.lt hf;omega) hwl)
    rw [hE] at am;have cb:=zq hD;have bh:=zq A;clear A ca bc J hE hD B F ba c2 c4 c5;go_wp2_with fail;refine am.o.mono ?_;rintro e w2 ⟨wv,rfl,bj,an,ao⟩;rw [cb.o] at an;have N:SegAt base w2 R:=bh.o.seg.mod ao (λk hk ar=>bh.o.ap k ar hk);have dc:w2.cell? ⟨R.blk,4,none⟩=some (.int .i64 (R.e:Int)):=N.cell 4 _ rfl;have dd:w2.cell? ⟨R.blk,5,none⟩=some (.int .i64 (R.synced:Int)):=N.cell 5 _ rfl
    have de:w2.frozen? ⟨R.blk,5,none⟩=false:=by
     unfold World.frozen?; rw [show w2.heap[(⟨R.blk,5,none⟩:Addr).block]?=_ from N.cells]; rfl
    have cc:=zq an;have cd:=zq N;have ce:=zq ao;clear an N ao am;go_wp2_with fail;go_ret
    have bk:∀ k,(R.syncD D wv).foot k↔D.foot k:=λk=>by
     unfold SegD.syncD;rw [if_neg hnil];exact uo bj k
    have hblk:(R.syncD D wv).blk=D.blk:=by unfold SegD.syncD; split <;> rfl
    refine ⟨rfl,wv,bj,⟨anz cd.o,cc.o.mod (jv _ _ _ _) (λk hk e=>HW.o.ap k ((bk k).1 hk) (.inl e)),HW.o.db.trans hblk.symm,λk hk ar=>HW.o.ap k ((bk k).1 hk) ar,λi hi=>?_,λp hp cf=>?_⟩,?_⟩
    . obtain ⟨g,h1,h2⟩:=qm R D wv (ah R.head (R.b+i * R.size))
      obtain ⟨h3,h4⟩:=aev h1 h2;obtain ⟨h5,h6⟩:=HW.o.ok i hi;exact ⟨h3.trans h5,h4.trans h6⟩
    . obtain ⟨g,h1,h2⟩:=qm R D wv (ah R.head p)
      have:=HW.o.only p hp cf;show (R.syncD D wv).find (ah R.head p)=none;rw [h1,this]; rfl
    . exact (((Mod.of_below Y.o).trans (iw (Mod.refl _ wr) ce.o (λk hk=>.inl (.inl hk)))).setCell (.inl (.inr (.inl rfl))) _)
end SegW
namespace DskW
open Go.RowKit Go.MapKept Go.Shelf OctMath
def agx (v:Value):Option (DataW Unit×List MemPlace):=some (.lit (.bool true),[])
theorem ake {k:TypeId} (hk:Tryz.prog.underlying k=some .string) {x:MapEntry} {n:List UInt8} (h:x.key=.string (S n)) (hn:n.length<=maxLen):Go.WideElems.rd Tryz.prog k agx x=some (.string n,.lit (.bool true)):=by
 have B:(S n).size<=maxLen:=by rw [au]; exact hn
 have A:=WideMaps.keyOf_string_mk (P:=Tryz.prog) hk B;have hd:(S n).data.toList=n:=by simp [S]
 unfold Go.WideElems.rd agx;rw [h,A,hd]; rfl
theorem DiskAt.owns {base:Nat} {w:World} {D:DiskD} (h:DiskAt base w D) (hfl:D.files.length<=maxLen) (hnl:∀ p∈D.files,p.1.length<=maxLen) :
 ∃ D0:DataW Unit,w.ownsMap Tryz.prog 9 agx D.mB D.files.length D0/\(∀ F:List (List UInt8),F.Perm (strKeys D0)->F.Perm (D.files.map (·.1)))/\Maps.size D0=D.files.length:=by
 obtain ⟨es,c,hb,I,A⟩:=h.map;have B:es.size=D.files.length:=by have:=congrArg List.length A; simpa using this
 have hk:=Tryz.underlying9
 have J:es.toList.map (Go.WideElems.rg Tryz.prog 9 agx)=D.files.map (λp=>((Lit.string p.1,DataW.lit (.bool true)):Lit×DataW Unit)):=by
  have h1:es.toList.map (Go.WideElems.rg Tryz.prog 9 agx)=(es.toList.map (λe:MapEntry=>(e.key,e.val))).map (λq=>Go.WideElems.rg Tryz.prog 9 agx ⟨q.1,q.2,0⟩):=by
   rw [List.map_map]; rfl
  rw [h1,A,List.map_map];apply List.map_congr_left;intro p hp;exact Go.WideElems.rg_of (ake hk rfl (hnl p hp))
 refine ⟨_,⟨es,c,hb,⟨by omega,I,λx N=>?_⟩,by omega,rfl⟩,λF M=>?_,?_⟩
 . obtain ⟨p,hp,E,_⟩:=yu A N
   exact ⟨_,ake hk E (hnl p hp)⟩
 ·
  refine M.trans ?_;show (((es.toList.map (Go.WideElems.rg Tryz.prog 9 agx)).foldr DataW.insert []).map λp=>strOf p.1).Perm _;rw [J];refine ((Go.WideShapes.sorted_perm _).map _).trans ?_;rw [List.map_map];exact List.Perm.refl _
 . show ((es.toList.map (Go.WideElems.rg Tryz.prog 9 agx)).foldr DataW.insert []).length=_
   rw [(Go.WideShapes.sorted_perm _).length_eq,List.length_map,Array.length_toList]; exact B
theorem ase (m:Nat):AnyZ.SortsIn Tryz.prog Tryz.sortedZ_ren Fence.wide m :=
 ⟨λblk off cap B W hH hblk A=>callsIn_wide.2 (Tryz.slices_Sort_string blk off cap B W hH hblk A),
  λp cap W=>callsIn_wide.2 (Tryz.slices_Sort_string_none p cap W)⟩
def DiskD.names (D:DiskD):List (List UInt8):=(D.files.map (·.1)).mergeSort (λx y=>decide (x<=y))
theorem an0 (m:Option Nat) (w:World) :
 Calls Tryz.prog 170 #[.map m] w λe w'=>e=.returned (.func (.func 229) #[] #[.pointer (some ⟨w.heap.size,0,none⟩)])/\w'=w.alloc (.cells #[.map m] 64) :=
 (callsIn_wide (n:=6)).1 (AnyZ.keys_in Tryz.keysZ Fence.wide 6 trivial rfl m w)
theorem agy {base:Nat} {D:DiskD} (Bm:Nat) (w:World) (h:DiskAt base w D) (hfl:D.files.length<=1048576) (hnl:∀ p∈D.files,p.1.length<=maxLen) (hBl:Bm < w.heap.size) (hBm:w.cell? ⟨Bm,0,none⟩=some (.map (some D.mB))) :
 Calls Tryz.prog 110 #[.func (.func 229) #[] #[.pointer (some ⟨Bm,0,none⟩)]] w λe w'=>∃ v:Value,e=.returned v /\
  w'.ownsRow w.heap.size 9 1 v D.names.length (D.names.map λx=>.string (S x))/\Below w.heap.size w w':=by
 obtain ⟨D0,F,E,A⟩:=h.owns (by unfold maxLen; omega) hnl;refine (callsIn_wide (n:=6)).1 ?_
 have:=AnyZ.sorted_in Tryz.sortedZ Fence.wide 6 trivial trivial trivial trivial rfl (by omega) (ase _) (enters_of Tryz.func186 (by kernel_rfl) rfl) 229 #[.pointer (some ⟨Bm,0,none⟩)] trivial (enters_of Tryz.func229 (by kernel_rfl) rfl) (λI=>I.Perm (strKeys D0)) (Maps.size D0) (by rw [A]; unfold maxLen; omega) (by rw [A]; omega) w
  (AnyZ.keys_gives Tryz.keysZ1 Fence.wide 3 trivial rfl (by omega) Bm D.mB D.files.length D0 w hBl hBm F)
 refine this.mono ?_;rintro e w' ⟨v,I,rfl,N,B,_,hb⟩;refine ⟨v,rfl,?_,hb⟩;have J:I.mergeSort (λx y=>decide (x<=y))=D.names:=mergeSort_of_perm (E I N);have M:I.length=D.names.length:=by rw [<- J,List.length_mergeSort]
 rw [J,M] at B;exact B
open Go.Sort
def lacks (hd x:List UInt8):Bool:=!(Lib.hasPrefix x hd)
theorem afh (bx:Nat) (hd x:List UInt8) (w:World) (hb:w.cell? ⟨bx,0,none⟩=some (.string (S hd))) :
 FnGives Tryz.prog 172 #[.pointer (some ⟨bx,0,none⟩)] #[encStr x] (.bool (lacks hd x)) w:=by
 show Calls Tryz.prog 172 #[.string (S x),.pointer (some ⟨bx,0,none⟩)] w _;have c:=Tryz.strings_HasPrefix (S x) (S hd) w;rw [show Lib.hasPrefix (S x).data.toList (S hd).data.toList=Lib.hasPrefix x hd by simp [S]] at c;have e:Zq (lacks hd x=!(Lib.hasPrefix x hd)):=rfl;generalize Lib.hasPrefix x hd=q at *
 generalize lacks hd x=r at *
 go_enter Tryz.func172,Tryz.ntmps172;go_wp2_with (go_at_call 173; refine c.mono ?_; rintro e w' ⟨rfl,rfl⟩);go_ret;exact ⟨by rw [e.o]; rfl,0,rfl⟩
theorem ac6 {W:World} {base g cp q:Nat} {e:TypeId} {cur:Array Value} (ts zs:List (List UInt8)) (n:Nat) (hbase:base<=g) (hb:W.heap[g]?=some (.cells cur e (0,0))) (hn:ts.length+zs.length=n) (h1:n<=cp) (h2:cp<=maxLen) (h3:cur.size=cp * 1) :
 (putRow encStr (Sort.ahead W q) g 0 (ts++zs).toArray).ownsRow base e 1 (.slice (some ⟨g,0,none⟩) ts.length cp) ts.length (ts.map encStr):=by
 have h:=heap_sorted (n:=q) (os:=#[]) (ts++zs).toArray hb;rw [grow_empty] at h;refine ⟨by simp,.inr ⟨g,cp,_,rfl,hbase,h,by omega,h2,by simp [putCells,h3],?_⟩⟩;have B:=take_putCells cur (ts++zs) (by rw [List.length_append]; omega);have A:=congrArg (List.take ts.length) B;rw [List.take_take,Nat.min_eq_left (by rw [List.length_append]; omega)] at A;rw [Nat.mul_one,A,List.map_append,List.take_append_of_le_length (by simp),List.take_of_length_le (by simp)]
def DiskD.list (D:DiskD) (hd:List UInt8):List (List UInt8):=D.names.filter λx=>Lib.hasPrefix x hd
theorem af4 (l:List (List UInt8)) (hd:List UInt8):(l.filter λx=>!lacks hd x)=l.filter λx=>Lib.hasPrefix x hd:=by
 congr 1; funext x; unfold lacks; rw [Bool.not_not]
theorem index_none (bx:Nat) (w:World) :
 Calls Tryz.prog 230 #[.slice none 0 0,.func (.func 172) #[] #[.pointer (some ⟨bx,0,none⟩)]] w λe w'=>e=.returned (.int .i64 (-1))/\Below w.heap.size w w':=by
 go_enter Tryz.func230,Tryz.ntmps230;go_wp2_with fail;go_loopw [8] (λi wr=>i=.int .i64 0/\Zq (Below w.heap.size w wr)) (λi _=>0)
 case atStart=>exact ⟨rfl,Below.refl _ _⟩
 case round =>
  obtain ⟨rfl,A⟩:=hrel;go_wp2_with fail;go_ret;exact ⟨rfl,A.o⟩
theorem aew (bx base:Nat) (hd:List UInt8) (l:List (List UInt8)) (v:Value) (w:World) (hown:w.ownsRow base 9 1 v l.length (l.map encStr)) (hbx:bx < base) (hbl:base<=w.heap.size) (hb:w.cell? ⟨bx,0,none⟩=some (.string (S hd))) :
 Calls Tryz.prog 171 #[v,.func (.func 172) #[] #[.pointer (some ⟨bx,0,none⟩)]] w λe w'=>∃ v':Value,e=.returned v' /\
  w'.ownsRow base 9 1 v' (l.filter λx=>Lib.hasPrefix x hd).length ((l.filter λx=>Lib.hasPrefix x hd).map encStr)/\Below base w w':=by
 have M:∀ args w,(callFunc 172 args).run Tryz.prog w=.ok (.enter 172 args) w:=enters_of Tryz.func172 (by kernel_rfl) rfl;have B:bx < w.heap.size:=by omega
 rcases hown.2 with ⟨rfl,h0⟩ | ⟨g,cp,cur,rfl,hg,hgb,hnc,hcm,hcs,hct⟩
 ·
  obtain rfl:l=[]:=List.length_eq_zero_iff.1 h0;have c:=zq (index_none bx w);clear hown hb h0 M;go_enter Tryz.func171,Tryz.ntmps171;go_wp2_with fail;refine c.o.mono ?_;rintro e w2 ⟨rfl,F⟩;have N:=zq F;clear F c;go_wp2_with fail;go_ret;exact ⟨_,rfl,⟨rfl,.inl ⟨rfl,rfl⟩⟩,N.o.mono hbl⟩
 ·
  have O:g < w.heap.size:=(Array.getElem?_eq_some_iff.1 hgb).1;have I:bx≠g:=by omega
  rw [Nat.mul_one] at hct;have hH:=holds_of_block hgb hct
  have E:=AnyE.slices_DeleteFunc Tryz.delZ encStr (λ_=>rfl) (lacks hd) 172 #[.pointer (some ⟨bx,0,none⟩)] M [] Tryz.zeroValue9 g 0 cp l.toArray w
   (λW x J=>afh bx hd x W (by rw [J.cell B]; exact hb))
   (λn os dk x _=>afh bx hd x _ (by
    unfold sortWorld;rw [cell?_grow _ _ _ (by show bx < (putRow _ _ _ _ _).heap.size; rw [size_putRow]; exact B),cell?_putRow_other _ _ g 0 _ _ (Or.inl I)];exact hb)) hH (by simp; unfold maxLen at hcm; omega) (by simpa using hnc)
  change Calls Tryz.prog 171 _ _ _ at E;refine Calls.mono (by simpa using E) ?_;rintro e w' ⟨rfl,q,rfl⟩;rw [af4];have R:(l.filter λx=>Lib.hasPrefix x hd).length<=l.length:=List.length_filter_le _ _;have U:l.toArray.size=l.length:=by simp
  refine ⟨_,rfl,?_,?_⟩
  . exact ac6 _ _ l.length hg hgb (by rw [List.length_replicate]; omega) hnc hcm hcs
  . have A:=grownBy_sorted (w:=w) (g:=g) (n:=q) (os:=#[]) ((l.filter λx=>Lib.hasPrefix x hd)++List.replicate (l.length - (l.filter λx=>Lib.hasPrefix x hd).length) []).toArray
    rw [grow_empty] at A;exact ⟨A.os,A.tape,A.output,A.size,λk hk=>A.block k (by omega) (by intro e; cases e; omega)⟩
theorem list_any {base:Nat} {D:DiskD} (hd:List UInt8) (w:World) (h:DiskAt base w D) (hfl:D.files.length<=1048576) (hnl:∀ p∈D.files,p.1.length<=maxLen) :
 Calls Tryz.prog 100 #[.pointer (some ⟨D.blk,0,none⟩),.string (S hd)] w λe w'=>∃ v:Value,e=.returned v /\
  w'.ownsRow w.heap.size 9 1 v (D.list hd).length ((D.list hd).map encStr)/\Below w.heap.size w w':=by
 obtain ⟨w1,B⟩:∃ w1:World,w1=w.alloc (.cells #[.string (S hd)] 9):=⟨_,rfl⟩;have Y:Below w.heap.size w w1:=by rw [B]; exact (Below.refl _ _).alloc (Nat.le_refl _) _
 have s1:w1.heap.size=w.heap.size+1:=by rw [B]; simp
 have E:w1.cell? ⟨w.heap.size,0,none⟩=some (.string (S hd)):=by rw [B,World.cell?_alloc_new]; rfl
 have h1:DiskAt base w1 D:=h.below Y;have c2:w1.cell? ⟨D.blk,2,none⟩=some (.map (some D.mB)):=h1.cell 2 _ rfl;have k1:=zq (an0 (some D.mB) w1);obtain ⟨w2,F⟩:∃ w2:World,w2=w1.alloc (.cells #[.map (some D.mB)] 64):=⟨_,rfl⟩;have U:Below w1.heap.size w1 w2:=by rw [F]; exact (Below.refl _ _).alloc (Nat.le_refl _) _
 have s2:w2.heap.size=w1.heap.size+1:=by rw [F]; simp
 have I:w2.cell? ⟨w1.heap.size,0,none⟩=some (.map (some D.mB)):=by rw [F,World.cell?_alloc_new]; rfl
 have X:DiskAt base w2 D:=h1.below U;have J:w2.cell? ⟨w.heap.size,0,none⟩=some (.string (S hd)):=by rw [U.cell (by show w.heap.size < _; omega)]; exact E
 have k2:=zq (agy w1.heap.size w2 X hfl hnl (by omega) I);rw [<- F] at k1;have B2:Zq (Below w.heap.size w w2):=Y.trans (U.mono (by omega));have BX:=zq J;have B1:=zq B;have N:=zq s1;have O:=zq s2;clear h h1 X I U F J s1 s2 Y E B;go_enter Tryz.func100,Tryz.ntmps100;go_upto_region 1 with fail
 rw [<- B1.o];go_wp2_with fail;refine k1.o.mono ?_;rintro e wz ⟨rfl,rfl⟩;go_wp2_with fail;refine k2.o.mono ?_;rintro e w3 ⟨v,rfl,A,M⟩;have HR:=zq A;have HB:=zq M;have k3:=zq (aew w.heap.size wz.heap.size hd D.names v w3 A (by have:=N.o; have:=O.o; omega) M.size (by rw [M.cell (by have:=N.o; have:=O.o; show w.heap.size < _; omega)]; exact BX.o));clear A M;go_wp2_with fail;refine k3.o.mono ?_;rintro e w4 ⟨v',rfl,A,R⟩;have Z:=zq A;have ab:=zq R;clear A R;go_wp2_with fail;go_ret;have q1:=N.o;have q2:=O.o;exact ⟨_,rfl,by obtain ⟨h1,X⟩:=Z.o; exact ⟨h1,X.imp_right λ⟨g,cp,cur,a,b,c⟩=>⟨g,cp,cur,a,Nat.le_trans (by omega) b,c⟩⟩,B2.o.trans ((HB.o.trans ab.o).mono (by omega))⟩
end DskW
namespace SegW
open Go.RowKit OctMath DskW
theorem an1:∀ (a b:List UInt8) (x y:Nat),a.length=b.length->(∀ c∈a,dig c=true)->(∀ c∈b,dig c=true)->x < y->jo x a < jo y b:=by
 intro a
 induction a with
 | nil =>
   intro b x y A _ _ h
   cases b with
   | nil=>exact h
   | cons _ _=>cases A
 | cons c a ih =>
   intro b x y A B hb h
   cases b with
   | nil=>cases A
   | cons d b =>
     have h1:=B c (.head _);have E:=hb d (.head _);unfold dig at h1 E;simp only [Bool.and_eq_true,decide_eq_true_eq] at h1 E;show jo (x * 10+(c.toNat - 48)) a < jo (y * 10+(d.toNat - 48)) b;refine ih b _ _ (by simpa using A) (λc hc=>B c (.tail _ hc)) (λc hc=>hb c (.tail _ hc)) ?_;omega
theorem aqj:∀ (a b:List UInt8) (z:Nat),a.length=b.length->(∀ c∈a,dig c=true)->(∀ c∈b,dig c=true)->a < b->jo z a < jo z b:=by
 intro a
 induction a with
 | nil =>
   intro b z A _ _ h
   cases b with
   | nil=>exact absurd h (List.not_lt_nil _)
   | cons _ _=>cases A
 | cons c a ih =>
   intro b z A B hb h
   cases b with
   | nil=>cases A
   | cons d b =>
     have h1:=B c (.head _);have E:=hb d (.head _);unfold dig at h1 E;simp only [Bool.and_eq_true,decide_eq_true_eq] at h1 E;show jo (z * 10+(c.toNat - 48)) a < jo (z * 10+(d.toNat - 48)) b
     rcases List.cons_lt_cons_iff.1 h with h9 | ⟨rfl,h9⟩
     . have:=UInt8.lt_iff_toNat_lt.1 h9
       exact an1 a b _ _ (by simpa using A) (λc hc=>B c (.tail _ hc)) (λc hc=>hb c (.tail _ hc)) (by omega)
     . exact ih b _ (by simpa using A) (λc hc=>B c (.tail _ hc)) (λc hc=>hb c (.tail _ hc)) h9
theorem asf (h a b:List UInt8):h++a < h++b↔a < b:=by
 induction h with
 | nil=>exact Iff.rfl
 | cons c h ih =>
   rw [List.cons_append,List.cons_append,List.cons_lt_cons_iff,ih]
   constructor
   . rintro (h | ⟨_,h⟩)
     . exact absurd h (UInt8.lt_irrefl _)
     . exact h
   . exact λh=>.inr ⟨rfl,h⟩
theorem acw {head x:List UInt8} {p:Nat} (h:placeL head x=some p):∃ ds,x=head++ds/\ds.length=8/\(∀ c∈ds,dig c=true)/\aaa ds=p:=by
 unfold placeL at h
 split at h
 ·
  rename_i h1
  obtain ⟨A,B,E⟩:=h1;unfold Lib.hasPrefix at A;rw [List.isPrefixOf_iff_prefix] at A;obtain ⟨t,rfl⟩:=A;rw [List.drop_left] at B E h;exact ⟨t,rfl,B,E,Option.some.inj h⟩
 . cases h
theorem acd {head x y:List UInt8} {p q:Nat} (hx:placeL head x=some p) (hy:placeL head y=some q) (h:x < y):p < q:=by
 obtain ⟨a,rfl,A,a2,rfl⟩:=acw hx;obtain ⟨b,rfl,B,E,rfl⟩:=acw hy;exact aqj a b 0 (A.trans B.symm) a2 E ((asf head a b).1 h)
theorem an2 {head x:List UInt8} {p:Nat} (hx:placeL head x=some p):x=ah head p:=by
 have hp:=agn hx;have A:=adw head p hp
 rcases Std.lt_trichotomy x (ah head p) with h | h | h
 . exact absurd (acd hx A h) (Nat.lt_irrefl _)
 . exact h
 . exact absurd (acd A hx h) (Nat.lt_irrefl _)
theorem ai4:∀ (l m:List Nat),l.Pairwise (· < ·)->m.Pairwise (· < ·)->(∀ x,x∈l↔x∈m)->l=m:=by
 intro l
 induction l with
 | nil =>
   intro m _ _ h
   cases m with
   | nil=>rfl
   | cons y m=>exact absurd ((h y).2 (.head _)) (by simp)
 | cons x l ih =>
   intro m B E h
   cases m with
   | nil=>exact absurd ((h x).1 (.head _)) (by simp)
   | cons y m =>
     rw [List.pairwise_cons] at B E
     have e:x=y:=by
      rcases List.mem_cons.1 ((h x).1 (.head _)) with h1 | h1
      . exact h1
      . rcases List.mem_cons.1 ((h y).2 (.head _)) with h2 | h2
        . exact h2.symm
        . have:=E.1 x h1
          have:=B.1 y h2;omega
     subst e
     rw [ih m B.2 E.2 λz=>⟨λA=>by
      rcases List.mem_cons.1 ((h z).1 (.tail _ A)) with h1 | h1
      . have:=B.1 z A; omega
      . exact h1,λA=>by
      rcases List.mem_cons.1 ((h z).2 (.tail _ A)) with h1 | h1
      . have:=E.1 z A; omega
      . exact h1⟩]
structure LaidOn (D:DiskD) (R:SegD):Prop where
 sz:16<=R.size/\R.size<=4096
 empty:R.n=0->R.b=0/\R.txt=[]
 long:0 < R.n->(R.n - 1) * R.size<=R.txt.length/\R.txt.length<=R.n * R.size/\R.b+(R.n - 1) * R.size<=99999999
 mult:R.b % R.size=0
 hd:R.head.length<=1048576
 ok:zn D R
 only:wh D R
 db:R.db=D.blk
theorem LaidOn.place_le {D:DiskD} {R:SegD} (h:LaidOn D R) {i:Nat} (hi:i < R.n):R.b+i * R.size<=99999999:=by
 have h1:=(h.long (by omega)).2.2;have A:i * R.size<=(R.n - 1) * R.size:=Nat.mul_le_mul_right _ (by omega);omega
theorem LaidOn.places_sorted {D:DiskD} {R:SegD} (h:LaidOn D R):R.places.Pairwise (· < ·):=by
 unfold SegD.places;rw [List.pairwise_map];refine List.Pairwise.imp ?_ (List.pairwise_lt_range);intro a b A;have:(a+1) * R.size<=b * R.size:=Nat.mul_le_mul_right _ A;rw [Nat.add_mul,Nat.one_mul] at this;have:=h.sz;omega
theorem agz (D:DiskD) (hn:(D.files.map (·.1)).Nodup) (hd:List UInt8):(D.list hd).Pairwise (λx y=>x < y):=by
 have h1:D.names.Pairwise (λx y=>x<=y):=by
  have:=List.pairwise_mergeSort (le:=λx y:List UInt8=>decide (x<=y)) (λa b c h1 B=>decide_eq_true (List.le_trans (of_decide_eq_true h1) (of_decide_eq_true B))) (λa b=>by
   rcases List.le_total a b with h | h
   . simp [h]
   . simp [h]) (D.files.map (·.1))
  exact this.imp λh=>of_decide_eq_true h
 have B:D.names.Nodup:=(List.mergeSort_perm _ _).nodup_iff.2 hn
 have A:D.names.Pairwise (λx y=>x < y):=(h1.and B).imp λ{x y} ⟨h,E⟩=>by
  rcases Std.lt_trichotomy x y with A | A | A
  . exact A
  . exact absurd A E
  . exact absurd A (List.not_lt.2 h)
 unfold DiskD.list;exact A.filter _
theorem abr {D:DiskD} {hd x:List UInt8}:x∈D.list hd↔Lib.hasPrefix x hd=true/\x∈D.files.map (·.1):=by
 unfold DiskD.list;rw [List.mem_filter];unfold DiskD.names;rw [List.mem_mergeSort];exact And.comm
theorem aad {D:DiskD} {x:List UInt8}:(D.find x).isSome=true↔x∈D.files.map (·.1):=by
 unfold DiskD.find;rw [Option.isSome_map,List.find?_isSome];simp
theorem LaidOn.found {D:DiskD} {R:SegD} (h:LaidOn D R) (hn:(D.files.map (·.1)).Nodup):(D.list R.head).filterMap (placeL R.head)=R.places:=by
 refine ai4 _ _ ?_ h.places_sorted λx=>?_
 ·
  rw [List.pairwise_filterMap];refine (agz D hn R.head).imp ?_;intro a b B p hp q M;exact acd hp M B
 ·
  rw [List.mem_filterMap]
  constructor
  ·
   rintro ⟨y,N,hp⟩;obtain rfl:=an2 hp;have E:=agn hp;have I:=aad.2 (abr.1 N).2;unfold SegD.places;rw [List.mem_map];apply Classical.byContradiction;intro F;have:=h.only x E λi A e=>F ⟨i,List.mem_range.2 A,e.symm⟩
   rw [this] at I; cases I
  ·
   intro J;unfold SegD.places at J;obtain ⟨i,A,rfl⟩:=List.mem_map.1 J;have A:=List.mem_range.1 A;exact ⟨ah R.head (R.b+i * R.size),abr.2 ⟨prefix_append _ _,aad.1 (h.ok i A).2⟩,adw _ _ (h.place_le A)⟩
def SegD.upto (R:SegD) (m:Nat) (pv:Value):SegD:={ R with n:=m,b:=if m=0 then 0 else R.b,txt:=R.txt.take (m * R.size),synced:=0,pv:=pv }
theorem LaidOn.upto_all {D:DiskD} {R:SegD} (h:LaidOn D R) (pv:Value):R.upto R.n pv={ R with synced:=0,pv:=pv }:=by
 unfold SegD.upto
 rcases Nat.eq_zero_or_pos R.n with h0 | h0
 . obtain ⟨A,B⟩:=h.empty h0
   rw [if_pos h0,A,B]; simp
 . rw [if_neg (by omega),List.take_of_length_le (h.long h0).2.1]
theorem abt {w:World} {base n:Nat} {e:TypeId} {v:Value} {xs:List Value} (h:w.ownsRow base e 1 v n xs) (i:Nat) (hi:i < n) (x:Value) (hx:xs[i]?=some x):∃ g cap,v=.slice (some ⟨g,0,Option.none⟩) n cap/\n<=cap/\w.cell? ⟨g,i,Option.none⟩=some x:=by
 rcases h.2 with ⟨_,e⟩ | ⟨g,cap,cur,e,_,hg,hn,_,hsz,ht⟩
 . omega
 ·
  refine ⟨g,cap,e,hn,?_⟩;unfold World.cell?;rw [hg];have h1:(cur.toList.take (n * 1))[i]?=some x:=by rw [ht]; exact hx
  rw [List.getElem?_take_of_lt (by omega)] at h1
  simpa using h1
theorem own_base {w:World} {base B n sz:Nat} {e:TypeId} {v:Value} {xs:List Value} (h:w.ownsRow base e sz v n xs) (hB:∀ k,v.ownBlock=some k->B<=k):w.ownsRow B e sz v n xs:=by
 refine ⟨h.1,?_⟩
 rcases h.2 with h0 | ⟨g,cap,cur,e,hb,r⟩
 . exact .inl h0
 . exact .inr ⟨g,cap,cur,e,hB g (by rw [e]; rfl),r⟩
theorem alk {w:World} {base n sz:Nat} {e:TypeId} {v:Value} {xs:List Value} (h:w.ownsRow base e sz v n xs):∃ a cap,v=.slice a n cap:=by
 rcases h.2 with ⟨e,e0⟩ | ⟨g,cap,cur,e,_⟩
 . exact ⟨_,_,by rw [e,e0]⟩
 . exact ⟨_,_,e⟩
theorem ac7 {L:List (List UInt8)} {f:List UInt8->Option Nat} {P:List Nat} (h:L.filterMap f=P) {k:Nat} {x:List UInt8} (hx:L[k]?=some x) :
 (L.take (k+1)).filterMap f=(L.take k).filterMap f++(f x).toList/\((L.take k).filterMap f).length<=P.length/\(∀ p,f x=some p->P[((L.take k).filterMap f).length]?=some p):=by
 have h1:L.take (k+1)=L.take k++[x]:=by
  rw [List.take_add_one,hx]; rfl
 have B:P=(L.take (k+1)).filterMap f++(L.drop (k+1)).filterMap f:=by rw [<- List.filterMap_append,List.take_append_drop,h]
 have A:(L.take (k+1)).filterMap f=(L.take k).filterMap f++(f x).toList:=by
  rw [h1,List.filterMap_append]
  cases hf:f x <;> simp [hf]
 refine ⟨A,by rw [B,A]; simp <;> omega,λp hp=>?_⟩;rw [B,A,hp];simp
theorem alm {base:Nat} {D:DiskD} {R:SegD} (w:World) (h0n:R.n=0) (hL:LaidOn D R) (U:SegAt base w (R.upto 0 (.slice none 0 0))) (hD:DiskAt base w D) (hap:¬ D.foot R.blk) (hfl:D.files.length<=1048576) (hnl:∀ p∈D.files,p.1.length<=1073741824) (hbase:base<=w.heap.size) :
 Calls Tryz.prog 218 #[.pointer (some ⟨R.blk,0,none⟩)] w λe w'=>e=.returned (.slice none 0 0)/\∃ pv,SegAt base w' (R.upto R.n pv)/\Mod (λk=>k=R.blk) w w'/\∀ k,pv.ownBlock=some k->w.heap.size<=k:=by
 obtain ⟨i0,b1,b2,b3,b4⟩:=info_parts (show (Tryz.prog.info? 3).map (λi=>(i.zero,i.size,i.bytes))=some (some (.int .i64 0),1,8) by kernel_rfl);obtain ⟨L,J⟩:∃ L,Zq (L=D.list R.head):=⟨_,rfl⟩;have al:Zq (L.filterMap (placeL R.head)=R.places):=by rw [J.o]; exact hL.found hD.names
 have bd:Zq (∀ x∈L,x.length<=1073741824):=λx F=>by
  rw [J.o] at F;obtain ⟨p,hp,rfl⟩:=List.mem_map.1 (abr.1 F).2;exact hnl p hp
 have b5:L.length<=1048576:=by
  rw [J.o];refine Nat.le_trans (List.length_filter_le _ _) ?_;unfold DiskD.names;rw [List.length_mergeSort,List.length_map]; exact hfl
 have X:=zq (λ(w2:World) (hb:Below w.heap.size w w2)=>list_any R.head w2 (hD.below hb) hfl (λp hp=>by have:=hnl p hp; unfold maxLen; omega));rw [<- J.o] at X;have am:Zq (∀ w2:World,Below w.heap.size w w2->w2.cell? ⟨R.blk,0,none⟩=some (.pointer (some ⟨D.blk,0,none⟩))):=λw2 hb=>(U.below hb).cell 0 _ (by rw [<- hL.db]; rfl)
 have an:Zq (∀ w2:World,Below w.heap.size w w2->w2.cell? ⟨R.blk,1,none⟩=some (.string (S R.head))):=λw2 hb=>(U.below hb).cell 1 _ rfl
 have HL:=zq hL;have HR:=zq U;have HD:=zq hD;have b7:=zq hap;have Z:Zq (R.places.length=R.n):=by show R.places.length=R.n; unfold SegD.places; simp
 have b8:R.blk < w.heap.size:=U.lt (.inl rfl);clear hL U hD hap hfl hnl;go_enter Tryz.func218,Tryz.ntmps218;go_wp2_with fail;refine Grow.jc 11 [none,none,none,some (.inl (.pointer (some ⟨D.blk,0,none⟩))),none,none,none,some (.inl (.string (S R.head))),some (.inr λv w2=>∃ a cap,v=.slice a L.length cap/\w2.ownsRow w.heap.size 9 1 v L.length (L.map encStr)),some (.inl (.int .i64 (L.length:Int))),none] Ext (by kernel_rfl) (by kernel_rfl) (by kernel_rfl) Ext.refl (λ_ _ _=>Ext.trans) ?_ ?_
 ·
  intro K hK Y hY v w w' U h;simp only [List.mem_cons,List.not_mem_nil,or_false] at hK
  rcases hK with rfl | rfl | rfl | rfl | rfl | rfl | rfl | rfl | rfl | rfl | rfl <;> simp only [reduceCtorEq,Option.some.injEq,Sum.inr.injEq] at hY
  subst hY;obtain ⟨a,cap,e,ho⟩:=h;exact ⟨a,cap,e,ownsRow_mod (M:=λ_=>False) ho (Mod.of_below U) (λ_ _ h=>h)⟩
 simp only [List.take_succ_cons,List.take_zero,List.drop_succ_cons,List.drop_zero]
 iterate 3
  refine Grow.g_det rfl ?_;apply Exists.intro;refine ⟨λw I A=>?_,?_⟩
  . clear A
    go_simp;exact ⟨rfl,Ext.refl _⟩
  go_frame
 refine Grow.g_con rfl (λB I A=>?_) ?_
 ·
  clear A;have c0:=am.o B ((Below.refl w.heap.size w).drew.trans I);go_simp
  all_goals exact Ext.refl _
 iterate 3
  go_frame;refine Grow.g_det rfl ?_;apply Exists.intro;refine ⟨λw I A=>?_,?_⟩
  . clear A
    go_simp;exact ⟨rfl,Ext.refl _⟩
 go_frame;refine Grow.g_con rfl (λB I A=>?_) ?_
 ·
  clear A;have c1:=an.o B ((Below.refl w.heap.size w).drew.trans I);go_simp
  all_goals exact Ext.refl _
 go_frame;refine Grow.g_new rfl (λB I A=>?_) (λvL=>?_)
 ·
  clear A;have bh:w.heap.size<=B.heap.size:=((Below.refl w.heap.size w).drew.trans I).size;go_simp;refine (X.o B ((Below.refl w.heap.size w).drew.trans I)).mono ?_;rintro e w3 ⟨v,rfl,ho,hb⟩;obtain ⟨a,cap,rfl⟩:=alk ho;exact ⟨_,rfl,⟨⟨a,cap,rfl⟩,own_base ho (λk hk=>Nat.le_trans bh (az ho k hk))⟩,hb⟩
 simp only [Act.put,List.setIfInBounds_toArray,List.set_cons_zero,List.set_cons_succ,Grow.afu];refine Grow.g_con rfl (λB I A=>?_) ?_
 ·
  obtain ⟨a,cap,rfl,ho⟩:=A _ (List.Mem.head _) (by simp [Oper.looksAt,Op.operands,Call.operands]);clear A;go_simp
  all_goals exact Ext.refl _
 go_frame;refine Grow.g_det rfl ?_;apply Exists.intro;refine ⟨λw I A=>?_,?_⟩
 . clear A
   go_simp;exact ⟨rfl,Ext.refl _⟩
 go_frame;refine Grow.g_nil λw1 ao A=>?_
 obtain ⟨a,cap,rfl,E⟩:=A _ (List.Mem.head _);clear A;refine wpList_nil ?_;have HB:=zq ((Below.refl w.heap.size w).drew.trans (show Below w.heap.size w.drew w1 from ao));have bz:=zq E;clear ao X am an
 have bj:Zq (∀ (k:Nat) (x:List UInt8),L[k]?=some x->∃ g cp,(Value.slice a L.length cap)=.slice (some ⟨g,0,none⟩) L.length cp/\L.length<=cp/\w1.cell? ⟨g,k,none⟩=some (.string (S x))/\g < w1.heap.size/\w.heap.size<=g):=λk x F=>by
  have hk:k < L.length:=(List.getElem?_eq_some_iff.1 F).1;obtain ⟨g,cp,e,h1,h2⟩:=abt E k hk (encStr x) (by rw [List.getElem?_map,F]; rfl);exact ⟨g,cp,e,h1,h2,ay h2,az E g (by rw [e]; rfl)⟩
 clear E;go_wp2_with fail
 go_loopw [3,4,21] (λv3 v4 i wr=>∃ (k m:Nat) (pv:Value) (b:Bool),k<=L.length/\i=.int .i64 k/\v3=.slice none 0 0/\v4=.bool b/\Zq (m=((L.take k).filterMap (placeL R.head)).length)/\Zq (m < R.n->b=true) /\
  Zq (SegAt base wr (R.upto m pv))/\Zq (Mod (λk=>k=R.blk) w1 wr)/\Zq (∀ k,pv.ownBlock=some k->w1.heap.size<=k)) (λ_ _ i _=>L.length - (intOf i).toNat)
 case atStart=>exact ⟨0,0,.slice none 0 0,true,Nat.zero_le _,rfl,rfl,rfl,rfl,λ_=>rfl,HR.o.below HB.o,Mod.refl _ _,λk h=>by cases h⟩
 case round =>
  obtain ⟨k,m,pv,b,hk,rfl,rfl,rfl,HM,ar,HS,N,av⟩:=hrel;have b9:=HB.o.size
  by_cases hlt:k < L.length
  ·
   obtain ⟨x,F⟩:∃ x,L[k]?=some x:=⟨L[k],List.getElem?_eq_getElem hlt⟩;obtain ⟨s1,s2,s3⟩:=ac7 al.o F;rw [<- HM.o,Z.o] at s2;rw [<- HM.o] at s3
   have O:m < R.n\/placeL R.head x=none:=by
    cases hp:placeL R.head x with
    | none=>exact .inr rfl
    | some p=>exact .inl (by have:=(List.getElem?_eq_some_iff.1 (s3 p hp)).1; rw [Z.o] at this; exact this)
   obtain ⟨g,cp,bk,bl,a1,a6,bm⟩:=bj.o k x F;injection bk with e1 e2 e3
   subst e1;have a7:wr.cell? ⟨g,k,none⟩=some (.string (S x)):=by rw [N.o.cell (p:=⟨g,k,none⟩) a6 (by show ¬ g=R.blk; omega)]; exact a1
   have c1:wr.cell? ⟨R.blk,1,none⟩=some (.string (S R.head)):=HS.o.cell 1 _ rfl;have bo:x.length<=1073741824:=bd.o x (List.mem_of_getElem? F);have ab:=zq (ak8 R.head x wr bo);have HX:=zq F
   cases hp:placeL R.head x with
   | none =>
     rw [hp] at ab s1
     have bp:Zq (m=((L.take (k+1)).filterMap (placeL R.head)).length):=by
      show m=_;rw [s1,Option.toList_none,List.append_nil]; exact HM.o
     clear s1 s2 s3 O e2 e3 bl a1 a6 bm F hp HM;go_wp2_with fail;refine ab.o.mono ?_;rintro e w3 ⟨rfl,ac⟩;have br:=zq (HS.o.below ac);have a8:=zq (N.o.trans (Mod.of_below ac));clear ac ab HS N a7 c1;go_wp2_with fail;go_roundw
     case rel=>exact ⟨k+1,m,pv,b,by omega,by go_num,rfl,rfl,bp.o,ar.o,br.o,a8.o,av.o⟩
     case measure=>simp [intOf]; omega
   | some p =>
     have ba:m < R.n:=by
      rcases O with h | h
      . exact h
      . rw [h] at hp; cases hp
     exact absurd ba (by rw [h0n]; exact Nat.not_lt_zero _)
  ·
   obtain rfl:k=L.length:=by omega
   have O:m=R.n:=by rw [HM.o,List.take_length,al.o,Z.o]
   subst O;clear HM ar;go_wp2_with fail;go_ret;refine ⟨rfl,pv,HS.o,(Mod.of_below HB.o).trans (iw (Mod.refl _ w1) N.o (λk h=>.inl h)),λk h=>Nat.le_trans HB.o.size (av.o k h)⟩
def SegD.openR (R:SegD) (blk:Nat) (pv:Value):SegD:={ R with blk:=blk,pv:=pv,synced:=R.b }
theorem LaidOn.reblk {D:DiskD} {R:SegD} (h:LaidOn D R) (b s:Nat) (pv:Value):LaidOn D { R with blk:=b,pv:=pv,synced:=s } :=
 ⟨h.sz,h.empty,h.long,h.mult,h.hd,h.ok,h.only,h.db⟩
theorem aln {base:Nat} {w:World} {R:SegD} (h:SegAt base w R):SegAt base (w.setCell ⟨R.blk,5,none⟩ (.int .i64 (R.b:Int))) { R with synced:=R.b } :=
 ⟨heap_set1 h.cells _ rfl,ownsRow_mod (M:=λk=>k=R.blk) h.row (jv _ _ _ _) (λk hk e=>h.apart k hk e),h.apart,h.above,h.sz,h.empty,h.long,h.mult,(by show R.b<=R.b+R.txt.length; omega),h.hd⟩
theorem alo {base:Nat} {D:DiskD} {R:SegD} (w:World) (h0n:R.n=0) (E:R.blk=w.heap.size) (hL:LaidOn D R) (hD:DiskAt base w D) (hq:Quiet D) (hfl:D.files.length<=1048576) (hnl:∀ p∈D.files,p.1.length<=1073741824) (hbase:base<=w.heap.size) :
 Calls Tryz.prog 149 #[.pointer (some ⟨D.blk,0,none⟩),.string (S R.head),.int .i64 (R.size:Int)] w λe w'=>∃ pv,e=.returned (.tuple #[.pointer (some ⟨R.blk,0,none⟩),.int .i64 0])/\Whole base w' D { R with pv:=pv,synced:=R.b }/\Below w.heap.size w w'/\∀ k,pv.ownBlock=some k->w.heap.size<=k:=by
 have CD:=zq (abo w hD);rw [hq.up] at CD;obtain ⟨a6,B⟩:=hL.sz;obtain ⟨M,I⟩:∃ M:Array Value,M=#[.pointer (some ⟨D.blk,0,none⟩),.string (S R.head),.int .i64 (R.size:Int),.slice none 0 0,.int .i64 0,.int .i64 0]:=⟨_,rfl⟩;obtain ⟨w1,A⟩:∃ w1:World,w1=w.alloc (.cells M 206):=⟨_,rfl⟩;have J:Below w.heap.size w w1:=by rw [A]; exact (Below.refl _ _).alloc (Nat.le_refl _) _
 have F:w1.heap.size=w.heap.size+1:=by rw [A]; exact World.size_alloc _ _
 have hblk:w1.heap[R.blk]?=some (.cells M 206 (0,0)):=by
  rw [A,E];show (w.heap.push _)[w.heap.size]?=_;exact Array.getElem?_push_size
 have N:SegAt base w1 (R.upto 0 (.slice none 0 0)):=by
  refine ⟨?_,⟨rfl,.inl ⟨rfl,rfl⟩⟩,(λk h=>by cases h),(by show base<=R.blk; omega),hL.sz,λ_=>⟨rfl,?_⟩,λh=>absurd h (Nat.lt_irrefl 0),?_,Nat.zero_le _,hL.hd⟩
  ·
   have e:(R.upto 0 (.slice none 0 0)).cells=M:=by
    rw [I,<- hL.db];unfold SegD.cells SegD.upto SegD.e;simp
   rw [e]; exact hblk
  . show R.txt.take (0 * R.size)=[]
    simp
  . show 0 % R.size=0
    simp
 have HF:=zq (alm w1 h0n hL N (hD.below J) (λh=>by have:=hD.lt h; omega) hfl hnl (by omega));have HU:=zq (λpv=>hL.upto_all pv);have HL:=zq hL;have HD:=zq hD;have ab:=zq J;have ac:=zq E;have ad:=zq A;have ak:=zq F;have al:=zq I;clear hL N hD hq J hblk hfl hnl F A I;go_enter Tryz.func149,Tryz.ntmps149;go_wp2_with fail;refine CD.o.mono ?_;rintro e wz ⟨rfl,rfl⟩;go_upto_region 6 with fail
 rw [<- al.o,<- ad.o,<- E];clear E CD;go_wp2_with fail;refine HF.o.mono ?_;rintro e w2 ⟨rfl,pv,B,O,U⟩;rw [HU.o] at B;have HB:=zq (begin_any w2 B)
 have bb:w2.frozen? ⟨R.blk,5,none⟩=false:=by
  unfold World.frozen?; rw [show w2.heap[(⟨R.blk,5,none⟩:Addr).block]?=_ from B.cells]; rfl
 have c5:w2.cell? ⟨R.blk,5,none⟩=some (.int .i64 ((0:Nat):Int)):=B.cell 5 _ rfl;have an:=zq B;have ao:=zq O;have X:=zq U;clear B O U HF;go_wp2_with fail;refine HB.o.mono ?_;rintro e w3 ⟨rfl,rfl⟩;go_wp2_with fail;go_ret2;have Y:=ab.o;have hz:=Y.size;have bc:=ak.o;have E:=ac.o;have hl:=HL.o;have Z:=aln an.o;have hm:Mod (λk=>k=R.blk) wz w3:=(Mod.of_below Y).trans (iw (Mod.refl _ w1) ao.o (λk h=>.inl h));have hb:Below wz.heap.size wz (w3.setCell ⟨R.blk,5,none⟩ (.int .i64 (R.b:Int))):=(hm.setCell (.inl rfl) _).to_below _ (Nat.le_refl _) (λk e=>by rw [e,E]; exact Nat.le_refl _);refine ⟨pv,rfl,⟨Z,HD.o.below hb,hl.db,λk hk ar=>?_,hl.ok,hl.only⟩,hb,λk hk=>?_⟩
 ·
  have h1:=HD.o.lt hk
  rcases ar with e | e
  . rw [show k=R.blk from e] at h1; omega
  . have:=X.o k e; omega
 . have:=X.o k hk; omega
theorem ag0 {base:Nat} {D:DiskD} {R:SegD} (w:World) (h0n:R.n=0) (hL:LaidOn D R) (hD:DiskAt base w D) (hq:Quiet D) (hfl:D.files.length<=1048576) (hnl:∀ p∈D.files,p.1.length<=1073741824) (hbase:base<=w.heap.size) :
 Calls Tryz.prog 149 #[.pointer (some ⟨D.blk,0,none⟩),.string (S R.head),.int .i64 (R.size:Int)] w λe w'=>∃ blk pv,e=.returned (.tuple #[.pointer (some ⟨blk,0,none⟩),.int .i64 0])/\Whole base w' D (R.openR blk pv)/\Below w.heap.size w w'/\∀ k,(R.openR blk pv).foot k->w.heap.size<=k:=by
 refine (alo (R:={ R with blk:=w.heap.size }) w h0n rfl (hL.reblk w.heap.size R.synced R.pv) hD hq hfl hnl hbase).mono ?_;rintro e w' ⟨pv,rfl,h1,A,B⟩
 exact ⟨w.heap.size,pv,rfl,h1,A,λk hk=>by
  rcases hk with hk | hk
  . rw [hk]; exact Nat.le_refl _
  . exact B k hk⟩
end SegW
namespace NameW
open Go.RowKit OctMath NameMath
theorem S_toList (l:List UInt8):(S l).toList=l:=by rw [ByteArray.toList_eq,kg]
theorem an3 (n:Nat) (W:World):Calls Tryz.prog 167 #[.int .i32 (n:Int)] W λe w'=>e=.returned (.bool (sj n))/\w'=W:=by
 have h1:decide ((97:Int)<=(n:Int))=decide (97<=n):=decide_eq_decide.2 (by omega);have B:decide ((n:Int)<=122)=decide (n<=122):=decide_eq_decide.2 (by omega);have E:decide ((48:Int)<=(n:Int))=decide (48<=n):=decide_eq_decide.2 (by omega);have F:decide ((n:Int)<=57)=decide (n<=57):=decide_eq_decide.2 (by omega)
 have I:((n:Int) == 45)=(n == 45):=by
  by_cases h:n=45
  . subst h; rfl
  . rw [beq_eq_false_iff_ne.2 h,beq_eq_false_iff_ne.2 (by omega)]
 have A:Zq (sj n=((decide (97<=n) && decide (n<=122)) || (decide (48<=n) && decide (n<=57)) || n == 45)):=rfl;generalize decide (97<=n)=b1 at *
 generalize decide (n<=122)=b2 at *
 generalize decide (48<=n)=b3 at *
 generalize decide (n<=57)=b4 at *
 generalize (n == 45)=b5 at *
 cases b1 <;> cases b2 <;> cases b3 <;> cases b4 <;> cases b5 <;>
 (go_enter Tryz.func167,Tryz.ntmps167
  go_wp2_with fail;go_ret;rw [A.o];exact ⟨rfl,rfl⟩)
theorem ai5 (n:Nat) (W:World):Calls Tryz.prog 166 #[.int .i32 (n:Int)] W λe w'=>e=.returned (.bool (!sj n))/\∃ q,w'=W.drewN q:=by
 go_enter Tryz.func166,Tryz.ntmps166;go_wp2_with (go_at_call 167; refine (an3 n _).mono ?_; rintro e w2 ⟨rfl,rfl⟩);go_ret;exact ⟨rfl,0,rfl⟩
theorem aar (l:List UInt8) (hl:l.length<=1099511627776) (W:World):Calls Tryz.prog 97 #[.string (S l)] W λe w'=>e=.returned (.bool (ik l))/\Below W.heap.size W w':=by
 have hC:=λw=>Tryz.strings_IndexFunc 166 #[] (enters_of Tryz.func166 (by kernel_rfl) rfl) (λn=>!sj n) (S l) w (λW' x hb=>ai5 x W')
 have I:=au l;have A:=ang l;have J:=S_toList l
 by_cases h0:l=[]
 ·
  have hb:l.isEmpty=true:=by subst h0; rfl
  have B:Zq (ik l=false):=by show _=_; rw [A,decide_eq_false (by simpa using h0)]; rfl
  clear A h0;go_enter Tryz.func97,Tryz.ntmps97;go_wp2_with fail;go_ret;rw [B.o];exact ⟨rfl,Below.refl _ _⟩
 have hb:l.isEmpty=false:=by cases l with | nil=>exact absurd rfl h0 | cons _ _=>rfl
 rw [decide_eq_true h0,Bool.true_and] at A
 by_cases h1:l.length<=16
 ·
  have B:Zq (ik l=decide (Lib.idxFunc (λn=>!sj n) true (S l) < (0:Int))):=by show _=_; rw [A,decide_eq_true h1]; rfl
  have E:decide ((l.length:Int)<=16)=true:=decide_eq_true (by omega);clear A h0;go_enter Tryz.func97,Tryz.ntmps97;go_wp2_with (go_at_call 165; refine (hC _).mono ?_; rintro e w2 ⟨rfl,F⟩);go_ret;rw [B.o];exact ⟨rfl,F⟩
 ·
  have B:Zq (ik l=false):=by show _=_; rw [A,decide_eq_false h1]; rfl
  have E:decide ((l.length:Int)<=16)=false:=decide_eq_false (by omega);clear A h0;go_enter Tryz.func97,Tryz.ntmps97;go_wp2_with fail;go_ret;rw [B.o];exact ⟨rfl,Below.refl _ _⟩
theorem tq (l:List UInt8) (hl:l.length<=1099511627776) (W:World):Calls Tryz.prog 58 #[.string (S l)] W λe w'=>e=.returned (.bool (iq l))/\Below W.heap.size W w':=by
 have B:=au l;have E:Zq (iq l=(ik l && decide (l.length<=8))):=rfl;have F:decide ((l.length:Int)<=8)=decide (l.length<=8):=decide_eq_decide.2 (by omega);have hC:=λw=>aar l hl w
 generalize ik l=b at *
 generalize decide (l.length<=8)=b2 at *
 cases b <;>
 (go_enter Tryz.func58,Tryz.ntmps58
  go_wp2_with (go_at_call 97; refine (hC _).mono ?_; rintro e w2 ⟨rfl,A⟩);go_ret;rw [E.o];exact ⟨rfl,A⟩)
theorem an4 (l:List UInt8) (n:Nat) (i:Int) (hi:i=n) (h:n < l.length) (k:IntKind) (w:World):(Instr.index 9 (.string (S l)) (.int k i)).run Tryz.prog w=.ok (.int .u8 (l[n].toNat:Int)) w:=by
 subst hi;have A:=au l;rw [run_index_string (h:=Tryz.underlying9),dif_pos ⟨by omega,by omega⟩]; rfl
theorem akf (l:List UInt8) (hl:l.length<=1099511627776) (W:World):Calls Tryz.prog 46 #[.string (S l)] W λe w'=>e=.returned (.bool (l.isEmpty || ik l))/\Below W.heap.size W w':=by
 have B:=S_toList l;generalize he:l.isEmpty=e
 cases e <;>
 (go_enter Tryz.func46,Tryz.ntmps46
  go_wp2_with (go_at_call 97; refine (aar l hl _).mono ?_; rintro e w2 ⟨rfl,A⟩);go_ret
  first | exact ⟨rfl,A⟩ | exact ⟨rfl,Below.refl _ _⟩)
def ofK (l:List UInt8):Nat->List UInt8
 | 0=>ofL l
 | 1=>if (Lib.hasPrefix l acu && iq (l.drop 6))=true then l.drop 6 else []
 | _=>[]
theorem an5 (l p:List UInt8) (W:World):Calls Tryz.prog 108 #[.string (S l),.string (S p)] W λe w'=>e=.returned (.tuple #[.string (S (Lib.trimPrefix l p)),.bool (Lib.hasPrefix l p)])/\w'=W:=by
 have:=Tryz.strings_CutPrefix (S l) (S p) W;rw [kg,kg] at this;exact this
theorem of_any (l:List UInt8) (hl:l.length<=1099511627776) (W:World):Calls Tryz.prog 44 #[.string (S l)] W λe w'=>e=.returned (.tuple #[.string (S (ofL l)),.bool (!(ofL l).isEmpty)])/\Below W.heap.size W w':=by
 have Y:=au l;go_enter Tryz.func44,Tryz.ntmps44;go_wp2_with fail;go_loopw [10] (λi wr=>∃ k:Nat,k<=2/\i=.int .i64 (k:Int)/\Zq (ofL l=ofK l k)/\Zq (wr.cell? ⟨W.heap.size,0,none⟩=some (.string { data:=#[37,114,101,116,114,121,37] })/\wr.cell? ⟨W.heap.size,1,none⟩=some (.string { data:=#[37,100,101,97,100,37] }))/\Zq (Below W.heap.size W wr)) (λi _=>3 - (intOf i).toNat)
 case atStart=>exact ⟨0,by omega,rfl,rfl,⟨by rw [World.cell?_alloc_new]; rfl,by rw [World.cell?_alloc_new]; rfl⟩,(Below.refl _ _).alloc (Nat.le_refl _) _⟩
 case round =>
  obtain ⟨k,hk,rfl,N,J,O⟩:=hrel
  rcases (show k=0\/k=1\/k=2 by omega) with hk0 | hk1 | hk2
  ·
   -- round 0
   subst hk0;have B:=J.o.1;have hC:=λw=>an5 l lw w
   change ∀ w,Calls _ _ #[.string (S l),.string { data:=#[37,114,101,116,114,121,37] }] w _ at hC;have U:=zq (λw=>tq (l.drop 7) (by rw [List.length_drop]; omega) w);have F:Zq (ofL l=if (Lib.hasPrefix l lw && iq (l.drop 7))=true then l.drop 7 else ofK l 1):=N.o;have X:=zq (ado (l.drop 7))
   by_cases hp:Lib.hasPrefix l lw=true
   ·
    have A:Lib.trimPrefix l lw=l.drop 7:=by unfold Lib.trimPrefix; rw [if_pos hp]; rfl
    rw [hp] at F;rw [A,hp] at hC;clear hp A N;generalize iq (l.drop 7)=g at *
    go_wp2_with (go_at_call 108; refine (hC _).mono ?_; rintro e w2 ⟨rfl,rfl⟩);refine (U.o _).mono ?_;rintro e w3 ⟨rfl,hb⟩;have M:=zq (O.o.trans (hb.mono O.o.size));have R:Zq (w3.cell? ⟨W.heap.size,0,none⟩=some (.string { data:=#[37,114,101,116,114,121,37] })/\w3.cell? ⟨W.heap.size,1,none⟩=some (.string { data:=#[37,100,101,97,100,37] })):=⟨by rw [hb.cell (ay J.o.1)]; exact J.o.1,by rw [hb.cell (ay J.o.2)]; exact J.o.2⟩;clear hb U hC B
    cases g with
    | true =>
      have I:Zq (ofL l=l.drop 7):=F.o;go_wp2_with fail;go_ret2;rw [I.o,X.o (by first | rfl | trivial)];exact ⟨rfl,M.o⟩
    | false =>
      have I:Zq (ofL l=ofK l 1):=F.o;go_wp2_with fail;go_roundw
      case rel=>exact ⟨1,by omega,by go_num,I,R,M⟩
      case measure=>simp [intOf]
   ·
    have E:Lib.hasPrefix l lw=false:=by simpa using hp
    have A:Lib.trimPrefix l lw=l:=by unfold Lib.trimPrefix; rw [if_neg hp]
    rw [E] at F;rw [A,E] at hC;have I:Zq (ofL l=ofK l 1):=F.o;clear hp E A N F;go_wp2_with (go_at_call 108; refine (hC _).mono ?_; rintro e w2 ⟨rfl,rfl⟩);go_roundw
    case rel=>exact ⟨1,by omega,by go_num,I,J,O⟩
    case measure=>simp [intOf]
  ·
   -- round 1
   subst hk1;have B:=J.o.2;have hC:=λw=>an5 l acu w
   change ∀ w,Calls _ _ #[.string (S l),.string { data:=#[37,100,101,97,100,37] }] w _ at hC;have U:=zq (λw=>tq (l.drop 6) (by rw [List.length_drop]; omega) w);have F:Zq (ofL l=if (Lib.hasPrefix l acu && iq (l.drop 6))=true then l.drop 6 else ofK l 2):=N.o;have X:=zq (ado (l.drop 6))
   by_cases hp:Lib.hasPrefix l acu=true
   ·
    have A:Lib.trimPrefix l acu=l.drop 6:=by unfold Lib.trimPrefix; rw [if_pos hp]; rfl
    rw [hp] at F;rw [A,hp] at hC;clear hp A N;generalize iq (l.drop 6)=g at *
    go_wp2_with (go_at_call 108; refine (hC _).mono ?_; rintro e w2 ⟨rfl,rfl⟩);refine (U.o _).mono ?_;rintro e w3 ⟨rfl,hb⟩;have M:=zq (O.o.trans (hb.mono O.o.size));have R:Zq (w3.cell? ⟨W.heap.size,0,none⟩=some (.string { data:=#[37,114,101,116,114,121,37] })/\w3.cell? ⟨W.heap.size,1,none⟩=some (.string { data:=#[37,100,101,97,100,37] })):=⟨by rw [hb.cell (ay J.o.1)]; exact J.o.1,by rw [hb.cell (ay J.o.2)]; exact J.o.2⟩;clear hb U hC B
    cases g with
    | true =>
      have I:Zq (ofL l=l.drop 6):=F.o;go_wp2_with fail;go_ret2;rw [I.o,X.o (by first | rfl | trivial)];exact ⟨rfl,M.o⟩
    | false =>
      have I:Zq (ofL l=ofK l 2):=F.o;go_wp2_with fail;go_roundw
      case rel=>exact ⟨2,by omega,by go_num,I,R,M⟩
      case measure=>simp [intOf]
   ·
    have E:Lib.hasPrefix l acu=false:=by simpa using hp
    have A:Lib.trimPrefix l acu=l:=by unfold Lib.trimPrefix; rw [if_neg hp]
    rw [E] at F;rw [A,E] at hC;have I:Zq (ofL l=ofK l 2):=F.o;clear hp E A N F;go_wp2_with (go_at_call 108; refine (hC _).mono ?_; rintro e w2 ⟨rfl,rfl⟩);go_roundw
    case rel=>exact ⟨2,by omega,by go_num,I,J,O⟩
    case measure=>simp [intOf]
  ·
   subst hk2;have I:Zq (ofL l=[]):=N.o;go_wp2_with fail;go_ret2;rw [I.o];exact ⟨rfl,O.o⟩
theorem aas (l:List UInt8) (hl:l.length<=1099511627776) (W:World):Calls Tryz.prog 126 #[.string (S l)] W λe w'=>e=.returned (.bool (jq l))/\Below W.heap.size W w':=by
 have E:Zq (jq l=(ik l || !(ofL l).isEmpty)):=rfl;have F:=zq (λw=>aar l hl w);have hO:=λw=>of_any l hl w
 generalize ik l=b at *
 generalize (ofL l).isEmpty=o at *
 go_enter Tryz.func126,Tryz.ntmps126;go_wp2_with fail;refine (hO _).mono ?_;rintro e w2 ⟨rfl,hb⟩;have A:=zq hb;clear hb hO
 cases o with
 | false =>
   go_wp2_with fail;go_ret;rw [E.o]
   cases b <;> exact ⟨rfl,A.o⟩
 | true =>
   go_wp2_with fail;refine (F.o _).mono ?_;rintro e w3 ⟨rfl,hb⟩;have B:=zq (A.o.trans (hb.mono A.o.size));clear hb;go_wp2_with fail;go_ret;rw [E.o]
   cases b <;> exact ⟨rfl,B.o⟩
end NameW
namespace SeqW
open Go.RowKit Go.Shelf OctMath NameMath
attribute [local go_sem] Oper.semAt_some
set_option maxRecDepth 100000 in
theorem values_in (F:Fence) (n:Nat) (h7:F.fn 187) (hro:F.round=none) (hn:1<=n) (l Bs cap:Nat) (a:Option Addr) (A:List (List UInt8)) (hx:A.length<=1048576) (w0:World) (hS:Strs w0 a (A.map S)) (J:List (List UInt8)->World->Prop)
 (hJB:∀ pre W,J pre W->Below w0.heap.size w0 W)
 (hY:∀ pre x W,J pre W->pre.length < A.length->YieldAt F (n - 1) Tryz.prog l #[.string (S x)] W λe W'=>e=.returned (.bool true)/\J (pre++[x]) W'/\KeepsWalks W W')
 (W:World) (hBs:W.cell? ⟨Bs,0,none⟩=some (.slice a A.length cap)) (h0:J [] W) :
 CallsIn F n Tryz.prog 187 #[.func (.yield l) #[] #[],.pointer (some ⟨Bs,0,none⟩)] W λe W'=>(∃ v,e=.returned v)/\J A W':=by
 refine callsIn_of_wp Tryz.func187 rfl h7 ?_ hro;simp only [Tryz.ntmps187,List.size_toArray,List.length_cons,List.length_nil,Nat.reduceAdd,Nat.reduceSub,Array.replicate_succ,Array.replicate_zero,List.push_toArray,List.append_toArray,List.nil_append,List.cons_append]
 gi_wp2
 gi_loopw [7] (λi wr=>∃ k:Nat,k<=A.length/\i=.int .i64 k/\J (A.take k) wr)
  (λi _=>A.length - (intOf i).toNat)
 case atStart=>exact ⟨0,Nat.zero_le _,rfl,h0⟩
 case round =>
  obtain ⟨k,hk,rfl,B⟩:=hrel
  by_cases hlt:k < A.length
  ·
   obtain ⟨b,off,rfl,E⟩:=(hS.below (hJB _ _ B)) k (by rw [List.length_map]; exact hlt);rw [List.getElem_map] at E;obtain ⟨fn,tmps,assign,body,O,M⟩:=hY _ A[k] wr B (by rw [List.length_take]; omega);rw [<- List.take_succ_eq_append_getElem hlt] at M
   gi_wp2
   refine M.mono ?_;rintro e W3 ⟨rfl,I,N⟩
   gi_wp2
   go_roundw
   case rel=>exact ⟨k+1,by omega,by simp,I⟩
   case measure=>simp [intOf]; omega
  ·
   obtain rfl:k=A.length:=by omega
   rw [List.take_length] at B
   gi_wp2
   go_end0;exact ⟨⟨_,rfl⟩,B⟩
open Go.Maps Go.Sort
def aqk (F:Fence) (n:Nat) (P:Program) (g:Nat) (lb:Array Value) (ts:List (List UInt8)) (w:World):Prop :=
 ∀ (l:Nat) (J:List (List UInt8)->World->Prop) (W:World),Below w.heap.size w W->(∀ pre W1,J pre W1->Below w.heap.size w W1) ->
  (∀ pre x W1,J pre W1->pre.length < ts.length->YieldAt F (n - 1) P l #[encStr x] W1 λe W'=>e=.returned (.bool true)/\J (pre++[x]) W'/\KeepsWalks W1 W') ->
  J [] W ->
  CallsIn F n P g (#[.func (.yield l) #[] #[]]++lb) W λe W'=>(∃ v,e=.returned v)/\J ts W'
theorem own_base {W:World} {base base':Nat} {e:TypeId} {size:Nat} {v:Value} {k:Nat} {xs:List Value} (h:W.ownsRow base e size v k xs) (hb:base'<=base):W.ownsRow base' e size v k xs:=by
 refine ⟨h.1,?_⟩
 rcases h.2 with hn | ⟨g,cap,cur,hv,hbg,rest⟩
 . exact .inl hn
 . exact .inr ⟨g,cap,cur,hv,Nat.le_trans hb hbg,rest⟩
variable {P:Program} {ρ:Ren}
set_option maxRecDepth 100000 in
theorem appendSeq_in (L:SlLaysZ.n11 P ρ) (F:Fence) (n:Nat) (h11:F.fn (ρ.f 11)) (hro:F.round=none) (hn:2<=n) (g:Nat) (I:Array Value) (hFg:F.fn g) (eg:∀ args w,(callFunc g args).run P w=.ok (.enter g args) w)
 (ts:List (List UInt8)) (hN:ts.length<=maxLen) (hNb:ts.length * 16<=140737488355328) (w:World) (hseq:aqk F (n - 1) P g I ts w) :
 CallsIn F n P (ρ.f 11) #[.slice none 0 0,.func (.func g) #[] I] w λe w'=>∃ v:Value,e=.returned v/\w'.ownsRow w.heap.size (ρ.t 26) 1 v ts.length (ts.map encStr)/\Below w.heap.size w w':=by
 have h1:1<=n:=by omega
 have mixed:=L.mixed; have t0:=L.t0; have a0:=L.a0; have z0:=L.z0; have v0:=L.v0; have t24:=L.t24; have a24:=L.a24; have z24:=L.z24; have v24:=L.v24; have t26:=L.t26; have a26:=L.a26; have z26:=L.z26; have v26:=L.v26; have t28:=L.t28; have a28:=L.a28; have z28:=L.z28; have v28:=L.v28;have U:ρ.t 24≠ρ.t 26:=λe=>by have h:=L.t24; rw [e,L.t26] at h; cases h
 have u0:=run_underlying L.t0; have u24:=run_underlying L.t24; have u26:=run_underlying L.t26; have u28:=run_underlying L.t28;obtain ⟨_,_,FG⟩:=L.f11;refine callsIn_of_wp_marks FG rfl h11 ?_ hro;simp only [SlBodyZ.n11_ntmps ρ,List.size_toArray,List.length_cons,List.length_nil,Nat.reduceAdd,Nat.reduceSub,Array.replicate_succ,Array.replicate_zero,List.push_toArray,List.append_toArray,List.nil_append,List.cons_append]
 gi_wp2
 refine wpIn_rangeFunc ?_;intro fn ad;rw [hro];obtain ⟨W0,J⟩:∃ W0,w.alloc (.cells #[.slice none 0 0] (ρ.t 24))=W0:=⟨_,rfl⟩;have ak:W0.heap.size=w.heap.size+1:=by rw [<- J]; simp
 have al:W0.heap[w.heap.size]?=some (.cells #[.slice none 0 0] (ρ.t 24) (0,0)):=by rw [<- J]; exact World.alloc_heap_new w _
 have O:Below w.heap.size w W0:=by rw [<- J]; exact (Below.refl _ w).alloc (Nat.le_refl _) _
 rw [J];obtain ⟨W1,A⟩:∃ W1,(W0.alloc (.deferred (some []))).alloc (.loop (AnyZ.apRec ρ fn (.func (.func g) #[] I) w.heap.size W0.heap.size .ready none))=W1:=⟨_,rfl⟩
 have hold:∀ k,k < W0.heap.size->W1.heap[k]?=W0.heap[k]?:=λk hk=>by
  rw [<- A]; exact (Below.heap_alloc _ _ k (by simp; omega)).trans (Below.heap_alloc _ _ k hk)
 have X:Below w.heap.size w W1:=by rw [<- A]; exact (O.alloc O.size _).alloc (by have:=O.size; simp; omega) _
 have ao:W1.heap.size=W0.heap.size+2:=by rw [<- A]; simp
 have hM:AnyZ.ApAt ρ w fn (.func (.func g) #[] I) w.heap.size (W0.heap.size+1) W0.heap.size [] W1 :=
  ⟨⟨_,(hold w.heap.size (by omega)).trans al,⟨rfl,.inl ⟨rfl,rfl⟩⟩,by simp⟩,
   by rw [<- A]; have:=World.alloc_heap_new (W0.alloc (.deferred (some []))) (.loop (AnyZ.apRec ρ fn (.func (.func g) #[] I) w.heap.size W0.heap.size .ready none)); rwa [World.size_alloc] at this,
   by rw [<- A]; exact (Below.heap_alloc _ _ _ (by simp)).trans (World.alloc_heap_new W0 _),X⟩
 refine ⟨W0.heap.size+1,[{ target:=.collected W0.heap.size,args:=#[] }],W1,{ target:=.fn (.func g) I,args:=#[.func (.yield (W0.heap.size+1)) #[] #[]] },W1,g,
  #[.func (.yield (W0.heap.size+1)) #[] #[]]++I,W1,?_,?_,?_,?_,λ_=>h1,?_⟩
 . rw [<- A]; exact run_enterLoop_outer _ _ _ _ _
 . simp [resolve,go_sem]
 . intro f' Y; simp [Target.leads] at Y; subst Y; exact hFg
 . simp [invoke,go_sem,eg]
 ·
  refine (hseq (W0.heap.size+1) (AnyZ.ApAt ρ w fn (.func (.func g) #[] I) w.heap.size (W0.heap.size+1) W0.heap.size) W1 X (λ_ _ h=>h.below)
   (λpre x W hJ hl=>AnyZ.apYield { L with } F (n - 1 - 1) w fn ad _ w.heap.size (W0.heap.size+1) W0.heap.size (by omega) (by omega) (by omega) (Nat.le_refl _) (by omega) ts.length hN hNb pre x W hJ hl) hM).mono ?_
  rintro e W2 ⟨⟨v0,rfl⟩,R⟩;obtain ⟨v,hv,M,an⟩:=R.box;have N:=run_endLoop (P:=P) R.L (by simp [AnyZ.apRec]);obtain ⟨W3,B⟩:∃ W3,W2.putObj (W0.heap.size+1) (.loop { AnyZ.apRec ρ fn (.func (.func g) #[] I) w.heap.size W0.heap.size .ready none with state:=.exhausted })=W3:=⟨_,rfl⟩;rw [B] at N;have Z:W2.grownBy W3 (some (W0.heap.size+1)):=by rw [<- B]; exact grownBy_putObj_a _ _ _
  have am:W3.heap[w.heap.size]?=some (.cells #[v] (ρ.t 24) (0,0)):=by rw [<- B]; exact (World.putObj_heap_other (by omega)).trans hv
  have ab:W3.heap[W0.heap.size]?=some (.deferred (some [])):=by rw [<- B]; exact (World.putObj_heap_other (by omega)).trans R.K
  have E:=M.kept Z (ownsRow_ne_a M R.L (λcur e=>by first | cases e | exact U (Obj.cells.inj e).2.1));have ac:Below w.heap.size w W3:=R.below.grown Z R.below.size (λk e=>by cases e; omega);obtain ⟨a6,a7⟩:=cell_of_box_a am;clear B;refine ⟨none,W3,N,?_⟩
  gi_wp2
  rw [<- ak];refine ⟨by simp,.inl ⟨_,_,rfl,run_takeDeferred ab,?_⟩⟩;exact ⟨_,results_tmp rfl _ _ _,v,rfl,E.kept (grownBy_putObj_a _ _ _) (ownsRow_ne_a E ab (λcur e=>by first | cases e | exact U (Obj.cells.inj e).2.1)),ac.grown (grownBy_putObj_a _ _ _) ac.size (λk e=>by cases e; omega)⟩
theorem collect_in (L:SlLaysZ.n8 P ρ) (F:Fence) (n:Nat) (h8:F.fn (ρ.f 8)) (h11:F.fn (ρ.f 11)) (hro:F.round=none) (hn:3<=n) (g:Nat) (lb:Array Value) (hFg:F.fn g) (eg:∀ args w,(callFunc g args).run P w=.ok (.enter g args) w)
 (ts:List (List UInt8)) (hN:ts.length<=maxLen) (hNb:ts.length * 16<=140737488355328) (w:World) (hseq:aqk F (n - 1 - 1) P g lb ts w) :
 CallsIn F n P (ρ.f 8) #[.func (.func g) #[] lb] w λe w'=>∃ v:Value,e=.returned v/\w'.ownsRow w.heap.size (ρ.t 26) 1 v ts.length (ts.map encStr)/\Below w.heap.size w w':=by
 have h1:1<=n:=by omega
 have B:∀ args w,(callFunc (ρ.f 11) args).run P w=.ok (.enter (ρ.f 11) args) w:=L.f11.enters rfl;have mixed:=L.mixed; have t0:=L.t0; have a0:=L.a0; have z0:=L.z0; have v0:=L.v0; have t24:=L.t24; have a24:=L.a24; have z24:=L.z24; have v24:=L.v24; have t26:=L.t26; have a26:=L.a26; have z26:=L.z26; have v26:=L.v26; have t28:=L.t28; have a28:=L.a28; have z28:=L.z28; have v28:=L.v28;have u0:=run_underlying L.t0; have u24:=run_underlying L.t24; have u26:=run_underlying L.t26; have u28:=run_underlying L.t28;obtain ⟨_,_,FG⟩:=L.f8;refine callsIn_of_wp FG rfl h8 ?_ hro;simp only [SlBodyZ.n8_ntmps ρ,List.size_toArray,List.length_cons,List.length_nil,Nat.reduceAdd,Nat.reduceSub,Array.replicate_succ,Array.replicate_zero,List.push_toArray,List.append_toArray,List.nil_append,List.cons_append]
 gi_wp2_with (gi_at_fn (ρ.f 11); refine (appendSeq_in { L with } F (n - 1) h11 hro (by omega) g lb hFg eg ts hN hNb _ hseq).mono ?_; rintro e w' ⟨v,rfl,A,hb⟩)
 go_ret;exact ⟨v,rfl,A,hb⟩
set_option maxRecDepth 100000 in
theorem sorted_in (L:SlLaysZ.n6 P ρ) (F:Fence) (n:Nat) (h6:F.fn (ρ.f 6)) (h8:F.fn (ρ.f 8)) (h9:F.fn (ρ.f 9)) (h11:F.fn (ρ.f 11)) (hro:F.round=none) (hn:4<=n) (hsort:AnyZ.SortsIn P ρ F (n - 1)) (e9:∀ args w,(callFunc (ρ.f 9) args).run P w=.ok (.enter (ρ.f 9) args) w) (g:Nat) (lb:Array Value) (hFg:F.fn g) (eg:∀ args w,(callFunc g args).run P w=.ok (.enter g args) w)
 (ts:List (List UInt8)) (hN:ts.length<=maxLen) (hNb:ts.length * 16<=140737488355328) (w:World) (hseq:aqk F (n - 1 - 1 - 1) P g lb ts w) :
 CallsIn F n P (ρ.f 6) #[.func (.func g) #[] lb] w λe w'=>∃ v:Value,e=.returned v /\
  w'.ownsRow w.heap.size (ρ.t 26) 1 v ts.length ((ts.mergeSort (λx y=>decide (x<=y))).map encStr)/\Below w.heap.size w w':=by
 have h1:1<=n:=by omega
 have N:∀ args w,(callFunc (ρ.f 8) args).run P w=.ok (.enter (ρ.f 8) args) w:=L.f8.enters rfl;have mixed:=L.mixed; have t0:=L.t0; have a0:=L.a0; have z0:=L.z0; have v0:=L.v0; have t24:=L.t24; have a24:=L.a24; have z24:=L.z24; have v24:=L.v24; have t26:=L.t26; have a26:=L.a26; have z26:=L.z26; have v26:=L.v26; have t28:=L.t28; have a28:=L.a28; have z28:=L.z28; have v28:=L.v28;have u0:=run_underlying L.t0; have u24:=run_underlying L.t24; have u26:=run_underlying L.t26; have u28:=run_underlying L.t28;obtain ⟨_,_,FG⟩:=L.f6;refine callsIn_of_wp FG rfl h6 ?_ hro;simp only [SlBodyZ.n6_ntmps ρ,List.size_toArray,List.length_cons,List.length_nil,Nat.reduceAdd,Nat.reduceSub,Array.replicate_succ,Array.replicate_zero,List.push_toArray,List.append_toArray,List.nil_append,List.cons_append]
 gi_wp2_with (gi_at_fn (ρ.f 8); refine (collect_in { L with } F (n - 1) h8 h11 hro (by omega) g lb hFg eg ts hN hNb _ hseq).mono ?_; rintro e W ⟨v,rfl,A,hb⟩)
 rcases A.2 with ⟨rfl,hz⟩ | ⟨gb,cap,cur,rfl,hbase,hgb,r1,r2,r3,r4⟩
 ·
  have B:ts=[]:=List.eq_nil_of_length_eq_zero hz;subst B
  gi_wp2_with (gi_at_fn (ρ.f 9); refine (hsort.2 none 0 W).mono ?_; rintro e w' ⟨rfl,rfl⟩)
  go_ret;exact ⟨.slice none 0 0,rfl,by simpa using A,hb⟩
 ·
  have hH:Holds encStr W gb 0 ts.toArray:=holds_of_block hgb (by simpa using r4);have E:gb < W.heap.size:=(Array.getElem?_eq_some_iff.1 hgb).1;have I:ts.length < 4611686018427387904:=by omega
  have J:=hsort.1 gb 0 cap ts W hH E I
  gi_wp2_with (gi_at_fn (ρ.f 9); refine J.mono ?_; rintro e w' ⟨rfl,O,os,rfl⟩)
  go_ret;exact ⟨_,rfl,ownsRow_sorted (by simp) hbase hgb r1 r2 r3,hb.grown (grownBy_sorted _) hb.size (λj M=>by cases M; exact hbase)⟩
theorem sorts (m:Nat):AnyZ.SortsIn Tryz.prog Tryz.sortedZ_ren Fence.wide m :=
 ⟨λblk off cap B W hH hblk A=>callsIn_wide.2 (Tryz.slices_Sort_string blk off cap B W hH hblk A),
  λp cap W=>callsIn_wide.2 (Tryz.slices_Sort_string_none p cap W)⟩
theorem ai6 (n:Nat) (hn:1<=n) (Bs cap:Nat) (a:Option Addr) (ts:List (List UInt8)) (hx:ts.length<=1048576) (w:World) (hS:Strs w a (ts.map S)) (hBl:Bs < w.heap.size) (hBs:w.cell? ⟨Bs,0,none⟩=some (.slice a ts.length cap)) :
 aqk Fence.wide n Tryz.prog 187 #[.pointer (some ⟨Bs,0,none⟩)] ts w:=λl J W hW A B h0 =>
 values_in Fence.wide n trivial rfl hn l Bs cap a ts hx w hS J A B W ((hW.cell (p:=⟨Bs,0,none⟩) hBl).trans hBs) h0
theorem aa1 (Bs cap:Nat) (a:Option Addr) (ts:List (List UInt8)) (hx:ts.length<=1048576) (w:World) (hS:Strs w a (ts.map S)) (hBl:Bs < w.heap.size) (hBs:w.cell? ⟨Bs,0,none⟩=some (.slice a ts.length cap)) :
 Calls Tryz.prog 110 #[.func (.func 187) #[] #[.pointer (some ⟨Bs,0,none⟩)]] w λe w'=>∃ v:Value,e=.returned v /\
  w'.ownsRow w.heap.size 9 1 v ts.length ((ts.mergeSort (λx y=>decide (x<=y))).map encStr)/\Below w.heap.size w w':=by
 refine (callsIn_wide (n:=6)).1 ?_
 have:=sorted_in Tryz.sortedZ Fence.wide 6 trivial trivial trivial trivial rfl (by omega) (sorts _) (enters_of Tryz.func186 (by kernel_rfl) rfl) 187 #[.pointer (some ⟨Bs,0,none⟩)] trivial (enters_of Tryz.func187 (by kernel_rfl) rfl) ts (by unfold maxLen; omega) (by omega) w
  (ai6 3 (by omega) Bs cap a ts hx w hS hBl hBs)
 exact this
end SeqW
namespace TagW
open Go.RowKit Go.Shelf Go.Maps Go.Sort OctMath NameMath
theorem acx (base:Nat) (v:Value) (ss:List (List UInt8)) (hx:ss.length<=1048576) (w0 w:World) (hb:Below base w0 w) (h:w.ownsRow base 9 1 v ss.length (ss.map encStr)) :
 Calls Tryz.prog 112 #[v] w λe w'=>(∃ a c,e=.returned (.slice a (Lib.compact ss).length c))/\Below base w0 w':=by
 rcases h.2 with ⟨rfl,hz⟩ | ⟨gb,cap,cur,rfl,hbase,hgb,r1,r2,r3,r4⟩
 ·
  have A:ss=[]:=List.eq_nil_of_length_eq_zero hz;subst A;refine (Tryz.slices_Compact_string_empty none 0 w).mono ?_;rintro e w' ⟨rfl,rfl⟩;exact ⟨⟨none,0,rfl⟩,hb⟩
 ·
  have hH:Holds encStr w gb 0 ss.toArray:=holds_of_block hgb (by simpa using r4);refine (Tryz.slices_Compact_string gb 0 cap ss w hH (by omega) (by omega)).mono ?_;rintro e w' ⟨rfl,q,rfl⟩;exact ⟨⟨_,_,rfl⟩,Lib.below_putRow hb hbase⟩
theorem afi (a:Option Addr) (cap:Nat) (ts:List (List UInt8)) (hx:ts.length<=1048576) (w:World) (hS:Strs w a (ts.map S)) :
 Calls Tryz.prog 53 #[.slice a ts.length cap] w λe w'=>∃ v,e=.returned v/\w'.ownsRow w.heap.size 9 1 v ts.length (ts.map encStr)/\Below w.heap.size w w':=by
 cases a with
 | none =>
   have A:ts=[]:=by
    cases ts with
    | nil=>rfl
    | cons t r=>obtain ⟨b,off,h,_⟩:=hS 0 (by simp); cases h
   subst A;refine (Tryz.slices_Clone_string_nil 0 cap w).mono ?_;rintro e w' ⟨rfl,rfl⟩;exact ⟨_,rfl,⟨rfl,.inl ⟨rfl,rfl⟩⟩,Below.refl _ _⟩
 | some p =>
   by_cases h0:ts=[]
   . subst h0
     refine (Tryz.slices_Clone_string_zero p cap w).mono ?_;rintro e w' ⟨v,rfl,h,_,hb⟩;exact ⟨v,rfl,h,hb⟩
   ·
    have hp:p.spot=none:=by
     obtain ⟨b,off,h,_⟩:=hS 0 (by rw [List.length_map]; exact List.length_pos_iff.2 h0)
     cases h; rfl
    obtain ⟨b,off,sp⟩:=p
    cases hp
    have hc:∀ j,j < (ts.map S).length->w.cell? ⟨b,off+j,none⟩=some (.string ((ts.map S).getD j ByteArray.empty)):=λj B=>by
     obtain ⟨I,E,h,hc⟩:=hS j B
     cases h
     rw [hc];rw [List.getD_eq_getElem?_getD,List.getElem?_eq_getElem B]; rfl
    refine (Tryz.slices_Clone_string b off ts.length cap (ts.map S) w (by simp) (by omega) hc).mono ?_;rintro e w' ⟨v,rfl,h,_,hb⟩;refine ⟨v,rfl,?_,hb⟩
    have F:((ts.map S).take ts.length).map Value.string=ts.map encStr:=by
     rw [List.take_of_length_le (by simp),List.map_map]; rfl
    rwa [F] at h
def aql (ts:List (List UInt8)):Bool:=decide ((Lib.compact (ts.mergeSort (λx y=>decide (x<=y)))).length < ts.length)
attribute [local go_sem] Oper.semAt_some
theorem ad4 (a:Option Addr) (n cap:Nat) (w:World) :
 Calls Tryz.prog 111 #[.slice a n cap] w λe w'=>e=.returned (.func (.func 187) #[] #[.pointer (some ⟨w.heap.size,0,none⟩)])/\w'=w.alloc (.cells #[.slice a n cap] 32):=by
 go_enter Tryz.func111,Tryz.ntmps111;go_wp2_with fail;go_ret;exact ⟨rfl,rfl⟩
end TagW
namespace DupMath
open Go.RowKit OctMath NameMath
def leL (x y:List UInt8):Bool:=decide (x<=y)
theorem af5 (ts:List (List UInt8)):List.Pairwise (λa b=>leL a b=true) (ts.mergeSort leL) :=
 List.pairwise_mergeSort (le:=leL) (λa b c h k=>by unfold leL at *; exact decide_eq_true (List.le_trans (of_decide_eq_true h) (of_decide_eq_true k))) (λa b=>by
  unfold leL
  rcases List.le_total a b with h | h
  . rw [decide_eq_true h]; rfl
  . rw [decide_eq_true h,Bool.or_true]) ts
theorem af6 {s:List (List UInt8)} (h:List.Pairwise (λa b=>leL a b=true) s):s.Nodup↔∀ j,0 < j->j < s.length->s[j]!≠s[j - 1]! := by
 have hp:=List.pairwise_iff_getElem.1 h
 constructor
 . intro B j h0 A e
   rw [getElem!_pos s j A,getElem!_pos s (j - 1) (by omega)] at e;exact List.pairwise_iff_getElem.1 B (j - 1) j (by omega) A (by omega) e.symm
 ·
  intro E;refine List.pairwise_iff_getElem.2 λi j F A I e=>?_
  have h1:s[i]<=s[j - 1]:=by
   by_cases e':i=j - 1
   . subst e'; exact List.le_refl _
   . exact of_decide_eq_true (hp i (j - 1) F (by omega) (by omega))
  have J:s[j - 1]<=s[j]:=of_decide_eq_true (hp (j - 1) j (by omega) A (by omega));have M:s[j - 1]=s[j]:=List.le_antisymm J (by rw [<- e]; exact h1);have:=E j (by omega) A;rw [getElem!_pos s j A,getElem!_pos s (j - 1) (by omega)] at this;exact this M.symm
theorem ai7 (s:List (List UInt8)):(Lib.compact s).length < s.length↔¬ ∀ j,0 < j->j < s.length->s[j]!≠s[j - 1]! := by
 have E:(Lib.compact s).length<=s.length:=by
  unfold Lib.compact Lib.compactUpTo;rw [List.length_map];exact Nat.le_trans (List.length_filter_le _ _) (by simp)
 have key:(Lib.compact s).length=s.length↔∀ j,0 < j->j < s.length->s[j]!≠s[j - 1]! := by
  unfold Lib.compact Lib.compactUpTo;rw [List.length_map];have e:((List.range s.length).filter (Lib.keeps s.toArray)).length=s.length↔((List.range s.length).filter (Lib.keeps s.toArray)).length=(List.range s.length).length:=by rw [List.length_range]
  rw [e,List.length_filter_eq_length_iff]
  constructor
  ·
   intro h j h0 A;have:=h j (List.mem_range.2 A);unfold Lib.keeps at this;simp at this
   rcases this with h | h
   . omega
   . simpa using h
  ·
   intro h j A;have B:=List.mem_range.1 A;unfold Lib.keeps;simp
   by_cases h0:j=0
   . exact .inl h0
   . exact .inr (by simpa using h j (by omega) B)
 constructor
 . intro h F; have:=key.2 F; omega
 . intro h
   have:(Lib.compact s).length≠s.length:=λe=>h (key.1 e)
   omega
theorem afj (ts:List (List UInt8)):TagW.aql ts=true↔¬ ts.Nodup:=by
 have hp:=List.mergeSort_perm ts leL;have h1:TagW.aql ts=decide ((Lib.compact (ts.mergeSort leL)).length < ts.length):=rfl;rw [h1,decide_eq_true_eq,<- hp.length_eq,ai7,<- af6 (af5 ts),hp.nodup_iff]
end DupMath
end Go.Proofs.YtckjigopecocaaaGreatDoor
