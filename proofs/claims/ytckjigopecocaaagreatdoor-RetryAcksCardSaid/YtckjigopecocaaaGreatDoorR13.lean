/- The frame of every law's proof: a call that hands back true and leaves all that was there as it was meets the row: true, And what follows. -/
import Derived.Test.YtckjigopecocaaaGreatDoorRows
import Derived.ProofKit
import Derived.OpenShut
import Derived.SizedLaws
import Derived.SliceStrings
import Derived.ChangeShapes
import Derived.ChangeArms
import Derived.Deep.Grids
import Derived.Test.YtckjigopecocaaaGreatDoorR12
import Derived.Lay
import Derived.LaidLaws
import Derived.LaidMore
import Derived.Shelf.Vars
set_option linter.unusedVariables false
set_option linter.unusedSimpArgs false
set_option maxHeartbeats 25600000
set_option maxRecDepth 100000
namespace Go.Proofs.YtckjigopecocaaaGreatDoor
section
open Go.ChangeShapes Go.WideShapes Go.ChangeAt Go.RowKit
theorem own:ownKnob Tryz.prog.godebug=none:=by kernel_rfl
theorem laidOut:laidOutB Tryz.prog=true:=by kernel_rfl
theorem aa5 {H:Type} {enc:TypeId×Value->H} {W W':World} (hb:Below W.heap.size W W'):∀ (ts:List TypeId) (vs:List Value) (ds:List (DataW H)) (ps:List MemPlace),
 (∀ t∈ts,Tryz.prog.readableRec t=true/\t < Tryz.prog.types.size)->(∀ x∈ps,x.block < W.heap.size) ->
 DataW.TrodAll enc Tryz.prog W 0 (λ_=>true) true ts vs ds ps->DataW.TrodAll enc Tryz.prog W' 0 (λb=>decide (b < W.heap.size)) true ts vs ds ps
 | [],vs,ds,ps,_,_,h=>by obtain ⟨rfl,rfl,rfl⟩:=trodAll_nil h; exact trodAll_mk0
 | t :: ts,vs,ds,ps,hr,hlt,h=>by
   obtain ⟨v,A,d,B,p,q,rfl,rfl,rfl,h1,F⟩:=trodAll_cons h
   exact trodAll_cons_mk (Below.trod laidOut (hr t (List.mem_cons_self ..)).1 (hr t (List.mem_cons_self ..)).2 h1 hb λx E=>hlt x (List.mem_append_left _ E))
    (aa5 hb ts A B q (λt I=>hr t (List.mem_cons_of_mem _ I)) (λx E=>hlt x (List.mem_append_right _ E)) F)
theorem ap0 {f:Func} {s:ChangeSpec} {H:Type} {enc:TypeId×Value->H} {W W':World} {args:Array Value} {ds gs:List (DataW H)} {before:List MemPlace} {tb:TypeId}
 (hW:DataW.Whole enc Tryz.prog f.params.toList s.vars false W args.toList ds gs before)
 (hr:∀ t∈f.params.toList,Tryz.prog.readableRec t=true/\t < Tryz.prog.types.size) (hres:f.resultTypes=#[tb]) (hbool:Tryz.prog.underlying tb=some .bool) (hv:s.vars=[])
 (hfn:(s.fn H (ds++gs)).results=[.lit (.bool true)]/\(s.fn H (ds++gs)).args=ds/\(s.fn H (ds++gs)).vars=[]) (hb:Below W.heap.size W W') :
 s.post enc Tryz.prog f false true false false W args (.bool true) W':=by
 have A:∀ x∈before,x.block < W.heap.size:=λx B=>by simpa using hW.lt x B
 have E:=hW;obtain ⟨p,q,I,F,rfl,_,_⟩:=hW;rw [hv] at F;obtain ⟨rfl,rfl⟩:=trodVars_none F;refine ⟨ds,[],p++[],[],p,[],E,?_,?_,?_,hb.frame _,λh=>by cases h⟩
 . rw [hfn.1,hres]
   exact trodAll_mk1 (shut_bool hbool true)
 . rw [hfn.2.1]
   exact aa5 hb _ _ _ _ hr (λx B=>A x (by simpa using B)) I
 . rw [hfn.2.2,hv]; rfl
end
namespace StoW
open Go.ChangeShapes Go.WideShapes Go.ChangeAt Go.RowKit OctMath RecMath RecW
section
variable {H:Type} {enc:TypeId×Value->H} {W:World}
theorem i64_in {z:Int} (h:(Lit.int .i64 z).wf=true) : -9223372036854775808<=z/\z<=9223372036854775807:=by simpa [Lit.wf,IntKind.min,IntKind.max,IntKind.signed,IntKind.bits] using h
theorem aeq {α:Type} {P:Nat->α->Prop}:∀ n,(∀ i,i < n->∃ x,P i x)->∃ l:List α,l.length=n/\∀ i (h:i < l.length),P i l[i]
 | 0,_=>⟨[],rfl,λi h=>absurd h (Nat.not_lt_zero _)⟩
 | n+1,h=>by
   obtain ⟨l,h1,B⟩:=aeq n λi A=>h i (by omega)
   obtain ⟨x,E⟩:=h n (by omega);refine ⟨l++[x],by simp [h1],λi A=>?_⟩
   by_cases h3:i < l.length
   . rw [List.getElem_append_left h3]; exact B i h3
   . have:i=n:=by simp at A; omega
     subst this;rw [List.getElem_append_right (by omega)]
     simpa [h1] using E
end
end StoW
namespace SndW
open Go.ChangeShapes Go.WideShapes Go.ChangeAt Go.RowKit OctMath RecMath RecW StoW
section
variable {H:Type} {enc:TypeId×Value->H} {W:World}
end
end SndW
namespace RetW
open Go.ChangeShapes Go.WideShapes Go.ChangeAt Go.RowKit OctMath RecMath RecW StoW SndW
def IntRows (W:World) (a:Option Addr) (ls:List (List Int×Option Addr×Nat)):Prop:=∀ i (h:i < ls.length),∃ b off,a=some ⟨b,off,none⟩/\W.cell? ⟨b,off+i,none⟩=some (.slice ls[i].2.1 ls[i].1.length ls[i].2.2)/\OctW.Ints W ls[i].2.1 ls[i].1
theorem IntRows.below {w w':World} {a:Option Addr} {ls:List (List Int×Option Addr×Nat)} (h:IntRows w a ls) (hb:Below w.heap.size w w'):IntRows w' a ls:=λi B=>by
 obtain ⟨b,off,h1,A,E⟩:=h i B;exact ⟨b,off,h1,by rw [hb.cell (ay A)]; exact A,E.below hb⟩
section
variable {H:Type} {enc:TypeId×Value->H} {W:World}
theorem am4 {n:Nat} {c:Value} {y:DataW H×List MemPlace} (h:DataW.trod enc Tryz.prog W 0 (λ_=>true) true n 50 [c]=some y):∃ a cp,∃ xs:List Int,c=.slice a xs.length cp/\OctW.Ints W a xs/\(∀ x∈xs,inI x)/\xs.length<=9223372036854775807:=by
 rcases open_ints Tryz.underlying50 Tryz.underlying3 (by kernel_rfl) h with ⟨hcs,_⟩ | ⟨a,len,cap,zs,hcs,_,hl,hm,hz,_,hcell,hwf⟩
 . obtain rfl:=List.singleton_inj.1 hcs
   exact ⟨none,0,[],rfl,λi B=>absurd B (by simp),(λx E=>by cases E),by decide⟩
 ·
  obtain rfl:=List.singleton_inj.1 hcs;have I:zs.length=cap:=by rw [hz]; simp
  have J:cap<=9223372036854775807:=hm;refine ⟨some a,cap,zs.take len,by rw [List.length_take,Nat.min_eq_left (by omega)],λi B=>?_,λx E=>i64_in (hwf x (List.mem_of_mem_take E)),by rw [List.length_take]; omega⟩;have M:i < len:=by simp at B; omega
  have hc:=hcell i (by omega);have N:=World.cell?_spot (hcell 0 (by omega));obtain ⟨b,off,spot⟩:=a;have A:spot=none:=by simpa [Addr.add] using N
  subst A;refine ⟨b,off,rfl,?_⟩;have F:i < zs.length:=by omega
  simp only [List.getElem_take];have e:zs.getD i 0=zs[i]:=by simp [List.getD,F]
  rw [e] at hc;rw [<- hc];unfold Addr.add
  split
  . rename_i e; subst e; rfl
  . rfl
theorem am5 {fuel:Nat} {v:Value} {y:DataW H×List MemPlace} (h:DataW.trod enc Tryz.prog W 0 (λ_=>true) true fuel 22 [v]=some y) :
 ∃ a c,∃ ls:List (List Int×Option Addr×Nat),v=.slice a ls.length c/\IntRows W a ls/\(∀ p∈ls,∀ x∈p.1,inI x)/\(∀ p∈ls,p.1.length<=9223372036854775807)/\ls.length<=9223372036854775807:=by
 have J:Tryz.prog.cellsOf 50=1:=by kernel_rfl
 rcases DataW.trod_slice Tryz.underlying22 h with ⟨hcs,_⟩ | ⟨a,len,cap,elems,rest,n,_,hcs,_,_,hl,hm,hlen,hel,_,_⟩
 . obtain rfl:=List.singleton_inj.1 hcs
   exact ⟨none,0,[],rfl,λi A=>absurd A (Nat.not_lt_zero _),(λp hp=>by cases hp),(λp hp=>by cases hp),by decide⟩
 ·
  obtain rfl:=List.singleton_inj.1 hcs
  have each:∀ i,i < len->∃ x:List Int×Option Addr×Nat,W.cell? (a.add (i * 1))=some (.slice x.2.1 x.1.length x.2.2)/\OctW.Ints W x.2.1 x.1/\(∀ z∈x.1,inI z)/\x.1.length<=9223372036854775807:=λi A=>by
   have h1:=hel i A;have E:i < elems.length:=by omega
   rw [List.getElem?_eq_getElem E,J,Option.bind_eq_some_iff] at h1;obtain ⟨cs,M,I⟩:=h1;obtain ⟨_,U,X⟩:=World.cells?_some M;have R:=X 0 (by omega);obtain ⟨c0,F⟩:=List.length_eq_one_iff.1 U;rw [F] at I;obtain ⟨b,c,Y,Z,h8,h9,N⟩:=am4 I;refine ⟨(Y,b,c),?_,h8,h9,N⟩
   have O:(a.add (i * 1)).add 0=a.add (i * 1):=by
    obtain ⟨b0,o0,s0⟩:=a
    cases s0 <;> simp [Addr.add]
   rw [O,F] at R;rw [R,Z]; rfl
  obtain ⟨ls,h1,E⟩:=aeq len each;have ad:cap<=9223372036854775807:=hm;refine ⟨some a,cap,ls,by rw [h1],λi A=>?_,λp hp=>?_,λp hp=>?_,by omega⟩
  ·
   obtain ⟨M,I,_,_⟩:=E i A;have h0:=World.cell?_spot ((E 0 (by omega)).1);obtain ⟨b,off,spot⟩:=a;have B:spot=none:=by simpa [Addr.add] using h0
   subst B;refine ⟨b,off,rfl,?_,I⟩;rw [<- M];congr 1;unfold Addr.add
   split <;> simp_all
  . obtain ⟨i,A,rfl⟩:=List.getElem_of_mem hp
    exact (E i A).2.2.1
  . obtain ⟨i,A,rfl⟩:=List.getElem_of_mem hp
    exact (E i A).2.2.2
end
open Go.MapKept Go.Sort DskW SegW MapG TapeW TapeMath PendW CacheW EntW NameW CqW KxW TopW NameMath
theorem ap1 (n:Int) (xs:List Int) {k:Nat} (h:k < xs.length):(xs.take (k+1)).any (lg n)=((xs.take k).any (lg n) || lg n xs[k]):=by
 rw [List.take_succ_eq_append_getElem h,List.any_append];simp
theorem as3 {n:Int} {xs:List Int} (h:xs.any (lg n)=false) (hn:0<=n):jy xs+1<=n/\-1<=jy xs:=by
 have:=akx xs (n - 1) (λx A=>by have:=aky h x A; omega) (by omega);omega
theorem ap2 (m:Int) (hm:0<=m/\m<=255) (a0:Option Addr) (c0:Nat) (ls:List (List Int×Option Addr×Nat)) (W:World) (hT:Tab W) (hR:IntRows W a0 ls) (hI:∀ p∈ls,∀ x∈p.1,inI x) (hll:∀ p∈ls,p.1.length<=9223372036854775807) (hl:ls.length<=9223372036854775807) :
 Calls Tryz.prog 3 #[.int .u8 m,.slice a0 ls.length c0] W λe w'=>e=.returned (.bool true)/\Below W.heap.size W w':=by
 have a6:Zq (∀ w,Below W.heap.size W w->TabB W.heap.size w):=λw hb=>(show TabB W.heap.size W from ⟨W,hT,Nat.le_refl _,Below.refl _ _⟩).below hb
 have bz:=zq (aib W (a6.o W (Below.refl _ _)));have HH:=zq hR;have HI:=zq hI;have HL:=zq hll;obtain ⟨n,hn⟩:∃ n:Nat,m.tmod 30=(n:Int):=⟨(m.tmod 30).toNat,by have:=Int.tmod_nonneg 30 hm.1; omega⟩;have HN:Zq (n < 30):=by have h1:=Int.tmod_lt_of_pos m (show (0:Int) < 30 by decide); show n < 30; omega
 have cw:Zq (m.tmod 30=(n:Int)):=hn;have cx:=zq hm;clear hT hR hI hll hn hm;go_enter Tryz.func3,Tryz.ntmps3;go_wp2_with fail;refine bz.o.mono ?_;rintro e w1 ⟨rfl,b0⟩;have ak:=zq b0;clear b0 bz
 by_cases h40:40 < ls.length
 ·
  have b1:(40:Int) < (ls.length:Int):=by omega
  go_wp2_with fail;go_ret;exact ⟨rfl,ak.o⟩
 have b1:(ls.length:Int)<=(40:Int):=by omega
 have b3:=zq (DskW.new_any 1048576 W.heap.size w1 ak.o.size);go_wp2_with fail;refine b3.o.mono ?_;rintro e w3 ⟨D,rfl,hD,b4,c6,c8,b5,b6,bo,b7,da,b8⟩;have b9:D.room=1048576:=ab3 bo (by rw [b8]; rfl);have a7:Zq (Below W.heap.size W w3):=ak.o.trans (b4.mono ak.o.size);have HM:=zq (ah7 0 w3 hD ⟨b5,b6⟩ bo b7 a7.o.size (a6.o w3 a7.o) (by decide) (by omega));rw [show ((0:Nat):Int)=0 from rfl] at HM;have ca:=zq b9;have cb:Zq (∀ k,D.foot k->W.heap.size<=k):=λk hk=>hD.base_le hk
 clear hD b4 c6 c8 b5 b6 bo b7 da b8 b9 b3 ak h40;go_wp2_with fail;refine HM.o.mono ?_;rintro e w4 ⟨S0,X,rfl,cc,bh⟩;have ac:=zq bh;have cd:=zq (aia cc a7.o cb.o 41 (by have:=ca.o; omega) (List.replicate 40 pg));clear cc bh HM ca cb a7;generalize S0.blk=sb at *
 generalize S0.T.O.blk=ob at *
 generalize D.blk=db at *
 have ad:=cw.o;have d8:=cx.o;have d9:IntKind.i64.wrap m=m:=IntWalk.i64_in _ (by omega);go_wp2_with fail;go_loopw [8] (λi wr=>∃ k:Nat,k<=n/\i=.int .i64 (k:Int)/\∃ S1,Zq (RetS W wr sb db ob 41 k 0 (List.replicate 40 pg) S1 X)) (λi _=>n - (intOf i).toNat)
 case atStart=>exact ⟨0,Nat.zero_le _,rfl,S0,cd⟩
 case round =>
  obtain ⟨k,hk,rfl,S1,M⟩:=hrel;obtain ⟨wA,rfl⟩:∃ wA:World,wA=wr:=⟨_,rfl⟩
  by_cases hlt:k < n
  ·
   have al:=HN.o;have am:S1.now=0:=M.o.si.now;have hc:xh X.l pg=0:=by rw [ac.o]; exact akw
   have hr:=aal (ki:=1) (due:=0) (now:=S1.now) (by rw [ac.o]; exact zh) hc (.inl ⟨rfl,rfl⟩) rfl (by rw [am]; rfl);have de:=M.o.si.rl;have bp:=M.o.si.wl;have dj:=M.o.si.e
   have a8:=zq (aku pg true ael hc (by rw [ac.o]; exact zh) none 0 wA M.o.si.st (by rw [ac.o]; decide) (λi hi=>absurd hi (Nat.not_lt_zero _)) M.o.si.quiet (a6.o _ M.o.si.low) M.o.si.low.size (by rw [am]; rfl)
    (M.o.si.fits (by omega) hr (by show (1:Int)≠0; decide)) (by omega) (by omega) (by omega))
   rw [M.o.si.blk] at a8;change Zq (Calls _ _ #[_,.agg #[.string ⟨#[97]⟩,.int .i64 0,.string ⟨#[]⟩,.slice none 0 0,.string ⟨#[]⟩],_] _ _) at a8
   have ce:Zq (∀ S2 w6,StoTab W.heap.size w6 S2 X->Put wA.heap.size S1 S2 (jm pg 1 0 S1.now) true->Mod S1.foot wA w6->RetS W w6 sb db ob 41 (k+1) 0 (List.replicate 40 pg) S2 X):=λS2 w6 ba bb bc =>
    M.o.next (by omega) (by rw [List.length_replicate]; omega) (by rw [List.getElem_replicate]; exact hr) ba (by rw [List.getElem_replicate]; exact bb) bc
   clear am hc hr de bp dj;generalize ((S1.T.R.e+(bv S1.T.R.e (jm pg 1 0 S1.now)).length:Nat):Int)=idn at *
   go_wp2_with fail;refine a8.o.mono ?_;rintro e w6 ⟨rfl,S2,ba,bb,bc⟩;have dk:=zq (ce.o S2 w6 ba bb bc);clear ba bb bc a8 ce M;go_wp2_with fail;go_roundw
   case rel=>exact ⟨k+1,by omega,by go_num,S2,dk⟩
   case measure=>simp [intOf]; omega
  ·
   obtain rfl:k=n:=by omega
   have al:=HN.o;obtain ⟨B,cf,bl⟩:=M.o.all (a6.o wA M.o.si.low) (by omega);have cg:=zq bl
   have c7:wA.cell? ⟨sb,7,none⟩=some (.pointer (some ⟨B,0,none⟩)):=by
    have h1:wA.cell? ⟨S1.blk,7,none⟩=some S1.dp:=M.o.si.st.sto.cell 7 _ rfl;rw [cf,M.o.si.blk] at h1;exact h1
   have br:=M.o.si.recs
   have U:Zq (S1.T.O.recs.length=k):=by
    have h1:=congrArg List.length br;rw [List.length_map,List.length_map,List.length_take,List.length_replicate] at h1;show _=_;omega
   have bd:Zq (∀ p∈S1.T.O.recs,p.2.topic=[97]/\p.2.queue=0):=λp hp=>by
    have h1:p.2∈S1.T.O.recs.map (·.2):=List.mem_map.2 ⟨p,hp,rfl⟩;rw [br] at h1;obtain ⟨x,hx,dl⟩:=List.mem_map.1 h1;have:=List.eq_of_mem_replicate (List.mem_of_mem_take hx);subst this;rw [<- dl]; exact ⟨rfl,rfl⟩
   clear al cf bl M cd br;go_wp2_with fail;refine cg.o.mono ?_;rintro e w6 ⟨rfl,C,DC,Y,mk,og,dv,hE⟩;have HE:Zq (AckI W w6 sb ob S1 X C DC Y S1.T.O.recs mk og dv [103] [97] 0 0):=hE.ack
   have ci:Zq (j3 [97] 0 S1.T.O.recs=k):=by
    show _=_;unfold j3;rw [List.filter_eq_self.2 λp hp=>by unfold isQ; rw [(bd.o p hp).1,(bd.o p hp).2]; simp];exact U.o
   clear hE cg c7;go_wp2_with fail;go_loopw [11,54] (λa i wr=>∃ j:Nat,j<=ls.length/\i=.int .i64 (j:Int)/\∃ E:Int,a=.int .i64 E/\(0<=E/\E<=(k:Int))/\Zq (AckI W wr sb ob S1 X C DC Y S1.T.O.recs mk og dv [103] [97] 0 E)) (λ_ i _=>ls.length - (intOf i).toNat)
   case atStart=>exact ⟨0,Nat.zero_le _,rfl,0,rfl,by omega,HE⟩
   case round =>
    obtain ⟨j,hj,rfl,E,rfl,cj,HA⟩:=hrel;obtain ⟨wB,rfl⟩:∃ wB:World,wB=wr:=⟨_,rfl⟩
    by_cases hlt:j < ls.length
    ·
     obtain ⟨b,off,rfl,an,ao⟩:=(HH.o.below (HA.o.get.2.2.2.2)) j hlt;have ck:=zq (HI.o ls[j] (List.getElem_mem hlt));have bm:=zq (HL.o ls[j] (List.getElem_mem hlt));have ap:=zq ao;clear ao;generalize ls[j]=pw at *
     obtain ⟨F,a,c⟩:=pw;dsimp only at an ap ck bm;have dx:=bm.o
     by_cases h20:20 < F.length
     . have cm:(20:Int) < (F.length:Int):=by omega
       go_wp2_with fail;go_ret;exact ⟨rfl,HA.o.get.2.2.2.2⟩
     have cm:(F.length:Int)<=20:=by omega
     go_wp2_with fail;clear an;go_loopw [14,15,63] (λmo fi i wr=>∃ l:Nat,l<=F.length/\i=.int .i64 (l:Int)/\mo=.int .i64 (jy (F.take l))/\fi=.bool (!(F.take l).any (lg (k:Int)))/\wr=wB) (λ_ _ i _=>F.length - (intOf i).toNat)
     case atStart=>exact ⟨0,Nat.zero_le _,rfl,rfl,rfl,rfl⟩
     case round =>
      obtain ⟨l,ef,rfl,rfl,rfl,rfl⟩:=hrel
      by_cases hlt2:l < F.length
      ·
       obtain ⟨b2,dy,rfl,dq⟩:=ap.o l hlt2;have ad:=aax F hlt2;have A:=ap1 (k:Int) F hlt2;have cn:=ck.o F[l] (List.getElem_mem hlt2);obtain ⟨x,hx⟩:∃ x,F[l]=x:=⟨_,rfl⟩;rw [hx] at dq ad A cn;clear hx
       cases hf:(F.take l).any (lg (k:Int)) with
       | true =>
         rw [hf,Bool.true_or] at A;go_wp2_with fail;go_roundw
         case rel=>exact ⟨l+1,by omega,by go_num,by rw [ad],by rw [A]; rfl,trivial⟩
         case measure=>simp [intOf]; omega
       | false =>
         rw [hf,Bool.false_or] at A
         by_cases h1:x < 0
         . have hb:lg (k:Int) x=true:=by unfold lg; rw [decide_eq_true h1]; rfl
           rw [hb] at A;have h2:¬ 0<=x:=by omega
           go_wp2_with fail;go_roundw
           case rel=>exact ⟨l+1,by omega,by go_num,by rw [ad],by rw [A]; rfl,trivial⟩
           case measure=>simp [intOf]; omega
         ·
          have h2:0<=x:=by omega
          by_cases h3:(k:Int)<=x
          . have hb:lg (k:Int) x=true:=by unfold lg; rw [decide_eq_true h3,Bool.or_true]
            rw [hb] at A;have h4:¬ x < (k:Int):=by omega
            go_wp2_with fail;go_roundw
            case rel=>exact ⟨l+1,by omega,by go_num,by rw [ad],by rw [A]; rfl,trivial⟩
            case measure=>simp [intOf]; omega
          . have hb:lg (k:Int) x=false:=by unfold lg; rw [decide_eq_false h3,decide_eq_false h1]; rfl
            rw [hb] at A;have h4:x < (k:Int):=by omega
            go_wp2_with fail;go_roundw
            case rel=>exact ⟨l+1,by omega,by go_num,by rw [ad],by rw [A]; rfl,trivial⟩
            case measure=>simp [intOf]; omega
      ·
       obtain rfl:l=F.length:=by omega
       rw [List.take_length];have al:=HN.o;have I:=zq (apu [103] [97] 0 E a c F HA.o (by rw [ac.o]; decide) (by omega) (by decide) (by decide) ap.o (by rw [ci.o]; omega) (by omega) (by rw [ac.o]; decide) (by decide) (by decide) (by decide));rw [ci.o] at I;change Zq (Calls _ _ #[_,.string ⟨#[103]⟩,.string ⟨#[97]⟩,_,_] _ _) at I
       cases hbad:F.any (lg (k:Int)) with
       | true =>
         rw [hbad,if_pos rfl,if_pos rfl] at I;go_wp2_with fail;refine I.o.mono ?_;rintro e w7 ⟨rfl,Z⟩;have ar:=zq Z;obtain ⟨_,c4,hg,_,_⟩:=Z.get;have HG:=zq hg;change Zq (Calls _ _ #[_,.string ⟨#[103]⟩,.string ⟨#[97]⟩,_] _ _) at HG;clear Z hg I;go_wp2_with fail;refine HG.o.mono ?_;rintro e w8 ⟨rfl,av⟩;have ab:=zq (ar.o.below av);have J:=zq (akz ab.o bd.o (by rw [U.o]; exact cj) (by rw [U.o]; omega));rw [U.o] at J;change Zq (Calls _ _ #[_,.string ⟨#[103]⟩] _ _) at J;clear av HG ar c4;go_wp2_with fail;refine J.o.mono ?_;rintro e w9 ⟨rfl,a1⟩;have bw:=zq (ab.o.below a1);have bp:IntKind.i64.wrap ((k:Int) - E)=(k:Int) - E:=IntWalk.i64_in _ (by omega);clear a1 J ab;go_wp2_with fail;go_roundw
         case rel=>exact ⟨j+1,by omega,by go_num,E,rfl,cj,bw⟩
         case measure=>simp [intOf]; omega
       | false =>
         rw [hbad,if_neg Bool.false_ne_true,if_neg Bool.false_ne_true] at I;obtain ⟨dz,d0⟩:=as3 hbad (by omega);have em:IntKind.i64.wrap (jy F+1)=jy F+1:=IntWalk.i64_in _ (by omega);generalize jy F=mo at *
         obtain ⟨N,cp⟩:∃ N,max (mo+1) E=N:=⟨_,rfl⟩;have en:max E (mo+1)=N:=by omega
         rw [cp] at I;have A:0<=N/\N<=(k:Int):=by omega
         go_wp2_with fail;refine I.o.mono ?_;rintro e w7 ⟨rfl,Z⟩;have ar:=zq Z;obtain ⟨_,c4,hg,_,_⟩:=Z.get;have HG:=zq hg;change Zq (Calls _ _ #[_,.string ⟨#[103]⟩,.string ⟨#[97]⟩,_] _ _) at HG;clear Z hg I;go_wp2_with fail;refine HG.o.mono ?_;rintro e w8 ⟨rfl,av⟩;have ab:=zq (ar.o.below av);have J:=zq (akz ab.o bd.o (by rw [U.o]; exact A) (by rw [U.o]; omega));rw [U.o] at J;change Zq (Calls _ _ #[_,.string ⟨#[103]⟩] _ _) at J;clear av HG ar c4;go_wp2_with fail;refine J.o.mono ?_;rintro e w9 ⟨rfl,a1⟩;have bw:=zq (ab.o.below a1);have bp:IntKind.i64.wrap ((k:Int) - N)=(k:Int) - N:=IntWalk.i64_in _ (by omega);clear a1 J ab;go_wp2_with fail;go_roundw
         case rel=>exact ⟨j+1,by omega,by go_num,N,rfl,A,bw⟩
         case measure=>simp [intOf]; omega
    . obtain rfl:j=ls.length:=by omega
      go_wp2_with fail;go_ret;exact ⟨rfl,HA.o.get.2.2.2.2⟩
end RetW
section
open Go.ChangeShapes Go.WideShapes Go.ChangeAt Go.RowKit
def laidL:List (String×DataW Unit):=[("math/bits.deBruijn32tab",Rows.laid_math_bits_deBruijn32tab),("math/bits.deBruijn64tab",Rows.laid_math_bits_deBruijn64tab),("internal/strconv.uint64pow10",Rows.laid_internal_strconv_uint64pow10),("unicode/utf8.acceptRanges",Rows.laid_unicode_utf8_acceptRanges),("strconv.ErrRange",Rows.laid_strconv_ErrRange),("strconv.ErrSyntax",Rows.laid_strconv_ErrSyntax),("unicode/utf8.first",Rows.laid_unicode_utf8_first)]
theorem aer:∀ W,laidMetH Tryz.prog laidL W=laidMet Tryz.prog laidL W:=λW=>MakeChecks.laidMetH_plain _ _ _ (by kernel_rfl)
theorem as4 {W:World} (h:laidMetH Tryz.prog laidL W):SegW.Tab W:=by
 rw [aer] at h;obtain ⟨ps,A,_,_⟩:=h;obtain ⟨g1,M,c1,f1,N,O,_,_,_,_,A,_⟩:=A;obtain ⟨g2,t2,c2,R,p2,U,_,_,_,_,A,_⟩:=A;obtain ⟨g3,t3,c3,J,p3,X,B,E,F,I,A,_⟩:=A;obtain rfl:=Option.some.inj ((show Tryz.prog.globalNamed "internal/strconv.uint64pow10"=some 1 by kernel_rfl).symm.trans B)
 obtain rfl:=Option.some.inj ((show (Tryz.prog.globals[1]?).map (·.type)=some 395 by kernel_rfl).symm.trans E);show Lib.TabIs Tryz.prog W "internal/strconv.uint64pow10" .u64 Lib.pow10Tab
 unfold Lib.TabIs;rw [F,<- Lib.cells_of_tab Tryz.underlying395 Tryz.underlying297 (by kernel_rfl) (by kernel_rfl) (show DataW.trod (λ_=>()) Tryz.prog W 0 (λ_=>true) false J 395 c3.toList=some (Lib.tabData .u64 Lib.pow10Tab,p3) from I)]
section
variable {H:Type} {enc:TypeId×Value->H}
theorem agh {a:Assume} {os:Os} {f:FuncId} {fn:Func} {s:ChangeSpec} {conds:List PathCond} {apart fresh handsOn again:Bool}
 (started:os.Started) (noInit:Tryz.prog.inits.idxOf? f=none) (hfn:Tryz.prog.funcs[f]?=some fn)
 (witness:∃ (w:World) (tape:Tape) (i:Input),w.os=os/\(w.forCall tape i).Shaped Tryz.prog/\i.vars=[]/\Input.okWide Tryz.prog (w.forCall tape i) .any w.heap.size f i /\
  ((s.pre enc Tryz.prog fn conds apart (w.forCall tape i).memory i.args/\laidMetH Tryz.prog laidL (w.forCall tape i).memory)/\sizedMet enc Tryz.prog fn (OpenSpec.ofChange s) apart (w.forCall tape i).memory i.args)/\a.holds Tryz.prog (lone (Frame.enter Tryz.prog f i.args .normal) [] (w.forCall tape i)))
 (contract:∀ (W:World) (base:Nat) (args:Array Value) (F gs:List (DataW H)) (before:List MemPlace),
  (∀ (j:Nat) t v,fn.params[j]?=some t->args[j]?=some v->Value.okWide Tryz.prog W .any base t v) ->
  DataW.Whole enc Tryz.prog fn.params.toList s.vars apart W args.toList F gs before ->
  (DataW.weightsEach Tryz.prog (fn.params.toList++s.plain.varTypes Tryz.prog) (F++gs)).all (·<=reachBytes)=true->SegW.Tab W ->
  Calls Tryz.prog f args W λe W'=>∃ v,e=.returned v/\s.post enc Tryz.prog fn apart fresh handsOn again W args v W') :
 ReturnsInHanded a Tryz.checked os f .any (λw args=>(s.pre enc Tryz.prog fn conds apart w args/\laidMetH Tryz.prog laidL w)/\sizedMet enc Tryz.prog fn (OpenSpec.ofChange s) apart w args) (s.post enc Tryz.prog fn apart fresh handsOn again):=by
 refine returnsInHanded_of_calls (C:=Tryz.checked) own started noInit witness ?_;intro w tape i _ U _ J A I;obtain ⟨_,_,_,M,B,_,_,_,_,E⟩:=J;have e:M=fn:=Option.some.inj (B.symm.trans hfn);subst e;obtain ⟨⟨⟨F,gs,before,R,hc⟩,X⟩,Y⟩:=A;have N:=DataW.Whole.of_heap (w':=w.forCall tape i) (by rfl) R;have O:laidMetH Tryz.prog laidL (w.forCall tape i):=X.of_heap (by rfl);refine (contract (w.forCall tape i) w.heap.size i.args F gs before E N (Y.weights R) (as4 O)).mono λe W' ⟨v,Z,hp⟩=>?_
 subst Z;exact ChangeSpec.post_blind hp
end
theorem ap3 (os:Os) (args:Array Value):laidMetH Tryz.prog laidL ((World.laidAll Tryz.prog os laidL).forCall (λ_ _=>0) ⟨#[],args,[]⟩).memory:=by
 rw [aer];exact laidMet_laidAll _ (by kernel_rfl) (by kernel_rfl)
theorem aic (os:Os) (args:Array Value):((World.laidAll Tryz.prog os laidL).forCall (λ_ _=>0) ⟨#[],args,[]⟩).Shaped Tryz.prog:=World.shaped_of_ZipB (by kernel_rfl) (by kernel_rfl)
end
end Go.Proofs.YtckjigopecocaaaGreatDoor
