/- seg: Sync, on a disk that doesn't fail. And what follows. -/
import Derived.Test.YtcgonejkkpbepaaGreatDoorR03
import Derived.Maps.Own
import Derived.Sort.KeysCollected
import Derived.Shelf.SlIter.Keys
import Derived.Sort.OwnSorted
import Derived.RangeFuncBox
import Derived.RangeFuncLeaves
import Derived.RangeFuncGives
import Derived.Shelf.Abstract
import Derived.Shelf.AbstractIn
import Derived.OwnWalkIn
import Derived.TacticsInMore
import Derived.LoopNIn
import Derived.LoopIn
import Derived.Lib.OwnBridge
set_option linter.unusedVariables false
set_option linter.unusedSimpArgs false
set_option maxHeartbeats 25600000
set_option maxRecDepth 100000
namespace Go.Proofs.YtcgonejkkpbepaaGreatDoor
namespace SegW
open Go.RowKit OctMath DskW
def SegD.syncK (R:SegD) (k:Nat):List (List UInt8):=if R.synced < R.e then ((List.range k).filter λi=>decide (R.synced < R.b+i * R.size+R.size)).map λi=>af R.head (R.b+i * R.size) else []
def SegD.syncL (R:SegD):List (List UInt8):=R.syncK R.n
theorem aev {R:SegD} {k:Nat} (h1:R.synced < R.b+k * R.size+R.size) (h2:R.synced < R.e):R.syncK (k+1)=R.syncK k++[af R.head (R.b+k * R.size)]:=by
 unfold SegD.syncK;rw [if_pos h2,if_pos h2,List.range_succ,List.filter_append,List.map_append];simp [h1]
theorem am9 {R:SegD} {k:Nat} (h:¬ (R.synced < R.b+k * R.size+R.size/\R.synced < R.e)):R.syncK (k+1)=R.syncK k:=by
 unfold SegD.syncK
 by_cases h2:R.synced < R.e
 . rw [if_pos h2,if_pos h2,List.range_succ,List.filter_append]
   have:¬ R.synced < R.b+k * R.size+R.size:=λh1=>h ⟨h1,h2⟩
   simp [this]
 . rw [if_neg h2,if_neg h2]
theorem ak1 (R:SegD) (k:Nat):(R.syncK k).length<=k:=by
 unfold SegD.syncK
 split
 . rw [List.length_map]
   exact Nat.le_trans (List.length_filter_le _ _) (by simp)
 . exact Nat.zero_le _
theorem aew {base:Nat} {w:World} {R:SegD} (h:SegAt base w R):(R.syncL=[]->R.synced=R.e)/\(R.synced=R.e->R.syncL=[]):=by
 refine ⟨λA=>?_,λA=>by unfold SegD.syncL SegD.syncK; rw [if_neg (by omega)]⟩;have h1:=h.syn
 rcases Nat.lt_or_ge R.synced R.e with h2 | h2
 ·
  exfalso
  rcases Nat.eq_zero_or_pos R.n with h0 | h0
  . obtain ⟨F,I⟩:=h.empty h0
    have:R.e=0:=by unfold SegD.e; rw [F,I]; rfl
    omega
  ·
   obtain ⟨m,E⟩:∃ m,R.n=m+1:=⟨R.n - 1,by omega⟩;have J:=(h.long h0).2.1
   have B:R.synced < R.b+m * R.size+R.size:=by
    rw [E,Nat.add_mul] at J;unfold SegD.e at h2;omega
   unfold SegD.syncL at A;rw [E,aev B h2] at A;simp at A
 . omega
theorem aim (D:DiskD) (l:List (List UInt8)) (wv:Value) (m:List UInt8):(D.lasts l wv).find m=(D.find m).map λf=>if m∈l then { f with img:=f.now } else f:=by
 unfold DiskD.lasts DiskD.find;simp only
 induction D.files with
 | nil=>rfl
 | cons p t ih =>
   rw [List.map_cons,List.find?_cons,List.find?_cons];have A:(if p.1∈l then (p.1,({ p.2 with img:=p.2.now }:FileD)) else p).1=p.1:=by split <;> rfl
   rw [A]
   by_cases hp:p.1=m
   . rw [show (p.1 == m)=true by simp [hp]]
     simp only [Option.map_some];subst hp
     split <;> rfl
   . rw [show (p.1 == m)=false by simp [hp]]
     exact ih
def SegD.syncD (R:SegD) (D:DiskD) (wv:Value):DiskD:=if R.syncL=[] then D else D.lasts R.syncL wv
theorem ow (R:SegD) (D:DiskD) (wv:Value) (m:List UInt8):∃ g:FileD->FileD,(R.syncD D wv).find m=(D.find m).map g/\∀ f,(g f).blk=f.blk/\(g f).now=f.now:=by
 unfold SegD.syncD
 split
 . exact ⟨id,by simp,λf=>⟨rfl,rfl⟩⟩
 . exact ⟨_,aim _ _ _ _,λf=>by split <;> exact ⟨rfl,rfl⟩⟩
theorem aeb {D D':DiskD} {m:List UInt8} {g:FileD->FileD} (h:D'.find m=(D.find m).map g) (hg:∀ f,(g f).blk=f.blk/\(g f).now=f.now):D'.bytes m=D.bytes m/\(D'.find m).isSome=(D.find m).isSome:=by
 unfold DiskD.bytes;rw [h]
 cases hf:D.find m with
 | none=>exact ⟨rfl,rfl⟩
 | some f=>exact ⟨(hg f).2,rfl⟩
theorem ana {D:DiskD} {l:List (List UInt8)} (hq:Quiet D) (h:∀ m∈l,(D.find m).isSome=true):D.bars l=0:=by
 unfold DiskD.bars;rw [hq.up,show (l.all λn=>(D.find n).isSome)=true from List.all_eq_true.2 h]; rfl
theorem anb {base:Nat} {w:World} {R:SegD} (h:SegAt base w R):SegAt base (w.setCell ⟨R.blk,5,none⟩ (.int .i64 (R.e:Int))) { R with synced:=R.e } :=
 ⟨heap_set1 h.cells _ rfl,ownsRow_mod (M:=λk=>k=R.blk) h.row (jm _ _ _ _) (λk hk e=>h.apart k hk e),h.apart,h.above,h.sz,h.empty,h.long,h.mult,Nat.le_refl _,h.hd⟩
theorem sync_any {base:Nat} {D:DiskD} {R:SegD} (w:World) (hT:TabB base w) (hW:Whole base w D R) (hq:Quiet D) (hbase:base<=w.heap.size) (hwl:D.waits.length<=1048576) (hn:R.n<=1048576) :
 Calls Tryz.prog 121 #[.pointer (some ⟨R.blk,0,none⟩)] w λe w'=>e=.returned (.int .i64 0)/\∃ wv,wv.ownBlock=D.wv.ownBlock/\Whole base w' (R.syncD D wv) { R with synced:=R.e }/\Mod (λk=>D.foot k\/R.foot k) w w':=by
 obtain ⟨i0,bs,bw,bz,b0⟩:=info_parts (show (Tryz.prog.info? 9).map (λi=>(i.zero,i.size,i.bytes))=some (some (.string ⟨#[]⟩),1,16) by kernel_rfl);obtain ⟨a,cp,hv⟩:=hW.seg.pv_nil;have c0:w.cell? ⟨R.blk,0,none⟩=some (.pointer (some ⟨D.blk,0,none⟩)):=hW.seg.cell 0 _ (by rw [<- hW.db]; rfl);have c3:w.cell? ⟨R.blk,3,none⟩=some (.slice a R.n cp):=hW.seg.cell 3 _ (by show some R.pv=_; rw [hv]);have CD:=zq (aa6 w hW.dsk);rw [hq.up] at CD;have HW:=zq hW;have HT:=zq hT;have HQ:=zq hq;have HV:=zq hv;have cm:=hW.seg.e_le;have cn:=hW.seg.syn;obtain ⟨co,N⟩:=hW.seg.sz;have a1:Zq (R.n<=1048576):=hn;clear hW hT hq hv hn;go_enter Tryz.func121,Tryz.ntmps121;go_wp2_with fail;refine CD.o.mono ?_;rintro e w1 ⟨rfl,rfl⟩;clear CD;go_wp2_with fail;clear c0 c3;go_loopw [3,21] (λv i wr=>∃ k:Nat,k<=R.n/\i=.int .i64 k/\Zq (wr.ownsRow w1.heap.size 9 1 v (R.syncK k).length ((R.syncK k).map λl=>.string (S l)))/\Zq (Below w1.heap.size w1 wr)) (λ_ i _=>R.n - (intOf i).toNat)
 case atStart=>exact ⟨0,Nat.zero_le _,rfl,(by
  have:R.syncK 0=[]:=by unfold SegD.syncK; split <;> rfl
  rw [this]; exact ⟨rfl,.inl ⟨rfl,rfl⟩⟩),Below.refl _ _⟩
 case round =>
  obtain ⟨k,hk,rfl,B,Y⟩:=hrel;have A:Whole base wr D R:=HW.o.below Y.o;have c2:wr.cell? ⟨R.blk,2,none⟩=some (.int .i64 (R.size:Int)):=A.seg.cell 2 _ rfl;have c4:wr.cell? ⟨R.blk,4,none⟩=some (.int .i64 (R.e:Int)):=A.seg.cell 4 _ rfl;have c5:wr.cell? ⟨R.blk,5,none⟩=some (.int .i64 (R.synced:Int)):=A.seg.cell 5 _ rfl;have a6:=ak1 R k
  by_cases hlt:k < R.n
  ·
   obtain ⟨g,cap,hp,a7,hc⟩:=A.seg.place k hlt;have b3:=HV.o.symm.trans hp;injection b3 with e1 e2 e3
   subst e1
   have b4:R.b+k * R.size<=99999999:=by
    have h1:=(A.seg.long (by omega)).2.2;have h2:k * R.size<=(R.n - 1) * R.size:=Nat.mul_le_mul_right _ (by omega);omega
   have cq:=a1.o;have cr:IntKind.i64.wrap (((R.b+k * R.size:Nat):Int)+(R.size:Int))=((R.b+k * R.size:Nat):Int)+(R.size:Int):=IntWalk.i64_in _ (by omega);have cs:R.b+k * R.size+R.size<=100004095:=by omega
   have a8:=zq (λ(w2:World) (hb:Below wr.heap.size wr w2)=>adj w2 (A.seg.below hb) (HT.o.below (Y.o.trans (hb.mono Y.o.size))).tab (R.b+k * R.size) b4)
   by_cases I:R.synced < R.b+k * R.size+R.size/\R.synced < R.e
   ·
    obtain ⟨I,ak⟩:=I;have HS:=zq (aev I ak);clear A hp e2 e3 a7 HV;generalize hpl:R.b+k * R.size=pl at *
    generalize af R.head pl=nm at *
    generalize R.size=sz at *
    generalize R.e=ee at *
    generalize R.synced=sy at *
    have E:(sy:Int) < (pl:Int)+(sz:Int):=by omega
    have ab:decide ((sy:Int) < (pl:Int)+(sz:Int))=true:=decide_eq_true E;go_wp2_with fail;go_quiet (fail);go_wp2_with fail;refine (a8.o (wr.drewN nq) (((Drawn.refl wr).drewN nq).below _)).mono ?_;rintro e w3 ⟨rfl,al⟩;have Z:=zq (Y.o.trans ((((Drawn.refl wr).drewN nq).below wr.heap.size).trans al |>.mono Y.o.size));have O:Zq (w3.ownsRow w1.heap.size 9 1 u3 (R.syncK k).length ((R.syncK k).map λl=>.string (S l))):=ownsRow_mod (M:=λ_=>False) B.o (Mod.of_below ((((Drawn.refl wr).drewN nq).below wr.heap.size).trans al)) (λ_ _ h=>h);clear al B a8;go_wp2_with (at_builtin; refine wpList_append_own _ rfl (.tmp 47) (.tmp 51) 40 rfl w1.heap.size 9 i0 (.string ⟨#[]⟩) 1 16 Tryz.underlying40 bs bw bz b0 rfl (by decide) _ (R.syncK k).length ((R.syncK k).map λl=>.string (S l)) rfl (O.o.alloc _) ⟨w3.heap.size,0,none⟩ 1 1 [.string (S nm)] rfl rfl ?c1 ?c2 ?c3 ?c4 ?c5 ?_)
    case c1=>exact cell_one_new _ _ _
    case c2=>intro u hu; simp at hu; subst hu; rfl
    case c3=>unfold maxLen; omega
    case c4=>omega
    case c5=>have:=Z.o.size; simp; omega
    intro v' w4 U X _
    have b5:Zq (w4.ownsRow w1.heap.size 9 1 v' (R.syncK (k+1)).length ((R.syncK (k+1)).map λl=>.string (S l))):=by
     show w4.ownsRow _ _ _ _ (R.syncK (k+1)).length _;rw [HS.o,List.map_append,List.length_append]; exact U
    have F:∀ g,u3.ownBlock=some g->w1.heap.size<=g:=ay O.o;have b6:Zq (Below w1.heap.size w1 w4):=(Z.o.alloc Z.o.size _).grown X (by have:=Z.o.size; simp; omega) F;clear U X O F;go_wp2_with fail;go_roundw
    case rel=>exact ⟨k+1,by omega,by go_num,b5.o,b6.o⟩
    case measure=>simp [intOf]; omega
   ·
    have HS:=zq (am9 I);clear A hp e2 e3 a7 HV;generalize hpl:R.b+k * R.size=pl at *
    generalize R.size=sz at *
    generalize R.e=ee at *
    generalize R.synced=sy at *
    by_cases ak:sy < pl+sz
    ·
     have E:(sy:Int) < (pl:Int)+(sz:Int):=by omega
     have ab:decide ((sy:Int) < (pl:Int)+(sz:Int))=true:=decide_eq_true E;have cx:¬ sy < ee:=λh=>I ⟨ak,h⟩
     clear I;go_wp2_with fail;go_quiet (fail);go_wp2_with fail;go_roundw
     case rel=>exact ⟨k+1,by omega,by go_num,by rw [HS.o]; exact B.o,Y.o.trans ((((Drawn.refl wr).drewN nq).below _))⟩
     case measure=>simp [intOf]; omega
    ·
     have E:¬ (sy:Int) < (pl:Int)+(sz:Int):=by omega
     have ab:decide ((sy:Int) < (pl:Int)+(sz:Int))=false:=decide_eq_false E;clear I;go_wp2_with fail;go_quiet (fail);go_wp2_with fail;go_roundw
     case rel=>exact ⟨k+1,by omega,by go_num,by rw [HS.o]; exact B.o,Y.o.trans ((((Drawn.refl wr).drewN nq).below _))⟩
     case measure=>simp [intOf]; omega
  ·
   obtain rfl:k=R.n:=by omega
   have b7:R.syncK R.n=R.syncL:=rfl;rw [b7] at B a6;obtain ⟨av,cv,b8,F,ba⟩:=Row1.of_own B.o;subst b8;have c0:wr.cell? ⟨R.blk,0,none⟩=some (.pointer (some ⟨D.blk,0,none⟩)):=A.seg.cell 0 _ (by rw [<- A.db]; rfl)
   by_cases hnil:R.syncL=[]
   ·
    have b9:=(aew A.seg).1 hnil
    have bb:Zq (Whole base wr (R.syncD D D.wv) { R with synced:=R.e }):=by
     have h1:R.syncD D D.wv=D:=by unfold SegD.syncD; rw [if_pos hnil]
     show Whole base wr (R.syncD D D.wv) _;rw [h1,<- b9]; exact A
    rw [hnil] at a6 ⊢;clear A;go_wp2_with fail;go_ret;exact ⟨rfl,D.wv,rfl,bb.o,Mod.of_below Y.o⟩
   ·
    have c7:¬ (R.syncL).length=0:=by simpa using hnil
    have ca:=A.dsk
    have bc:∀ m∈R.syncL,(D.find m).isSome=true:=λm hm=>by
     unfold SegD.syncL SegD.syncK at hm
     split at hm
     . obtain ⟨i,hi,rfl⟩:=List.mem_map.1 hm
       rw [List.mem_filter,List.mem_range] at hi;exact (A.ok i hi.1).2
     . cases hm
    have J:=ana HQ.o bc;have hE:D.syncE R.syncL=0:=by unfold DiskD.syncE; rw [if_pos J,HQ.o.done]
    have hD:∀ wv,D.sync R.syncL wv=R.syncD D wv:=λwv=>by
     unfold DiskD.sync SegD.syncD;rw [if_pos J,if_neg (by rw [HQ.o.left]; decide),if_neg hnil,HQ.o.burn]
    have am:=zq (DskW.sync_any av cv R.syncL (by have:=a1.o; omega) wr A.dsk F (λad bd hf=>by
     have h1:=ay B.o ad.block (by
      rcases B.o.2 with ⟨e,_⟩ | ⟨g,cap,cur,e,_⟩
      . rw [bd] at e; cases e
      . rw [bd] at e ⊢; injection e with e; injection e with e; rw [e]; rfl)
     have h2:=HW.o.dsk.lt hf;omega) hwl)
    rw [hE] at am;have cb:=zq hD;have bh:=zq A;clear A ca bc J hE hD B F ba c2 c4 c5;go_wp2_with fail;refine am.o.mono ?_;rintro e w2 ⟨wv,rfl,bj,an,ao⟩;rw [cb.o] at an;have N:SegAt base w2 R:=bh.o.seg.mod ao (λk hk ar=>bh.o.ap k ar hk);have dc:w2.cell? ⟨R.blk,4,none⟩=some (.int .i64 (R.e:Int)):=N.cell 4 _ rfl;have dd:w2.cell? ⟨R.blk,5,none⟩=some (.int .i64 (R.synced:Int)):=N.cell 5 _ rfl
    have de:w2.frozen? ⟨R.blk,5,none⟩=false:=by
     unfold World.frozen?; rw [show w2.heap[(⟨R.blk,5,none⟩:Addr).block]?=_ from N.cells]; rfl
    have cc:=zq an;have cd:=zq N;have ce:=zq ao;clear an N ao am;go_wp2_with fail;go_ret
    have bk:∀ k,(R.syncD D wv).foot k↔D.foot k:=λk=>by
     unfold SegD.syncD;rw [if_neg hnil];exact su bj k
    have hblk:(R.syncD D wv).blk=D.blk:=by unfold SegD.syncD; split <;> rfl
    refine ⟨rfl,wv,bj,⟨anb cd.o,cc.o.mod (jm _ _ _ _) (λk hk e=>HW.o.ap k ((bk k).1 hk) (.inl e)),HW.o.db.trans hblk.symm,λk hk ar=>HW.o.ap k ((bk k).1 hk) ar,λi hi=>?_,λp hp cf=>?_⟩,?_⟩
    . obtain ⟨g,h1,h2⟩:=ow R D wv (af R.head (R.b+i * R.size))
      obtain ⟨h3,h4⟩:=aeb h1 h2;obtain ⟨h5,h6⟩:=HW.o.ok i hi;exact ⟨h3.trans h5,h4.trans h6⟩
    . obtain ⟨g,h1,h2⟩:=ow R D wv (af R.head p)
      have:=HW.o.only p hp cf;show (R.syncD D wv).find (af R.head p)=none;rw [h1,this]; rfl
    . exact (((Mod.of_below Y.o).trans (jb (Mod.refl _ wr) ce.o (λk hk=>.inl (.inl hk)))).setCell (.inl (.inr (.inl rfl))) _)
end SegW
namespace DskW
open Go.RowKit Go.MapKept Go.Shelf OctMath
def af9 (v:Value):Option (DataW Unit×List MemPlace):=some (.lit (.bool true),[])
theorem ajz {k:TypeId} (hk:Tryz.prog.underlying k=some .string) {x:MapEntry} {n:List UInt8} (h:x.key=.string (S n)) (hn:n.length<=maxLen):Go.WideElems.rd Tryz.prog k af9 x=some (.string n,.lit (.bool true)):=by
 have B:(S n).size<=maxLen:=by rw [ah]; exact hn
 have A:=WideMaps.keyOf_string_mk (P:=Tryz.prog) hk B;have hd:(S n).data.toList=n:=by simp [S]
 unfold Go.WideElems.rd af9;rw [h,A,hd]; rfl
theorem DiskAt.owns {base:Nat} {w:World} {D:DiskD} (h:DiskAt base w D) (hfl:D.files.length<=maxLen) (hnl:∀ p∈D.files,p.1.length<=maxLen) :
 ∃ D0:DataW Unit,w.ownsMap Tryz.prog 9 af9 D.mB D.files.length D0/\(∀ F:List (List UInt8),F.Perm (strKeys D0)->F.Perm (D.files.map (·.1)))/\Maps.size D0=D.files.length:=by
 obtain ⟨es,c,hb,I,A⟩:=h.map;have B:es.size=D.files.length:=by have:=congrArg List.length A; simpa using this
 have hk:=Tryz.underlying9
 have J:es.toList.map (Go.WideElems.rg Tryz.prog 9 af9)=D.files.map (λp=>((Lit.string p.1,DataW.lit (.bool true)):Lit×DataW Unit)):=by
  have h1:es.toList.map (Go.WideElems.rg Tryz.prog 9 af9)=(es.toList.map (λe:MapEntry=>(e.key,e.val))).map (λq=>Go.WideElems.rg Tryz.prog 9 af9 ⟨q.1,q.2,0⟩):=by
   rw [List.map_map]; rfl
  rw [h1,A,List.map_map];apply List.map_congr_left;intro p hp;exact Go.WideElems.rg_of (ajz hk rfl (hnl p hp))
 refine ⟨_,⟨es,c,hb,⟨by omega,I,λx N=>?_⟩,by omega,rfl⟩,λF M=>?_,?_⟩
 . obtain ⟨p,hp,E,_⟩:=xc A N
   exact ⟨_,ajz hk E (hnl p hp)⟩
 ·
  refine M.trans ?_;show (((es.toList.map (Go.WideElems.rg Tryz.prog 9 af9)).foldr DataW.insert []).map λp=>strOf p.1).Perm _;rw [J];refine ((Go.WideShapes.sorted_perm _).map _).trans ?_;rw [List.map_map];exact List.Perm.refl _
 . show ((es.toList.map (Go.WideElems.rg Tryz.prog 9 af9)).foldr DataW.insert []).length=_
   rw [(Go.WideShapes.sorted_perm _).length_eq,List.length_map,Array.length_toList]; exact B
theorem aqv (m:Nat):AnyZ.SortsIn Tryz.prog Tryz.sortedZ_ren Fence.wide m :=
 ⟨λblk off cap B W hH hblk A=>callsIn_wide.2 (Tryz.slices_Sort_string blk off cap B W hH hblk A),
  λp cap W=>callsIn_wide.2 (Tryz.slices_Sort_string_none p cap W)⟩
def DiskD.names (D:DiskD):List (List UInt8):=(D.files.map (·.1)).mergeSort (λx y=>decide (x<=y))
theorem anc (m:Option Nat) (w:World) :
 Calls Tryz.prog 163 #[.map m] w λe w'=>e=.returned (.func (.func 216) #[] #[.pointer (some ⟨w.heap.size,0,none⟩)])/\w'=w.alloc (.cells #[.map m] 80) :=
 (callsIn_wide (n:=6)).1 (AnyZ.keys_in Tryz.keysZ Fence.wide 6 trivial rfl m w)
theorem aga {base:Nat} {D:DiskD} (Bm:Nat) (w:World) (h:DiskAt base w D) (hfl:D.files.length<=1048576) (hnl:∀ p∈D.files,p.1.length<=maxLen) (hBl:Bm < w.heap.size) (hBm:w.cell? ⟨Bm,0,none⟩=some (.map (some D.mB))) :
 Calls Tryz.prog 113 #[.func (.func 216) #[] #[.pointer (some ⟨Bm,0,none⟩)]] w λe w'=>∃ v:Value,e=.returned v /\
  w'.ownsRow w.heap.size 9 1 v D.names.length (D.names.map λx=>.string (S x))/\Below w.heap.size w w':=by
 obtain ⟨D0,F,E,A⟩:=h.owns (by unfold maxLen; omega) hnl;refine (callsIn_wide (n:=6)).1 ?_
 have:=AnyZ.sorted_in Tryz.sortedZ Fence.wide 6 trivial trivial trivial trivial rfl (by omega) (aqv _) (enters_of Tryz.func177 (by kernel_rfl) rfl) 216 #[.pointer (some ⟨Bm,0,none⟩)] trivial (enters_of Tryz.func216 (by kernel_rfl) rfl) (λI=>I.Perm (strKeys D0)) (Maps.size D0) (by rw [A]; unfold maxLen; omega) (by rw [A]; omega) w
  (AnyZ.keys_gives Tryz.keysZ1 Fence.wide 3 trivial rfl (by omega) Bm D.mB D.files.length D0 w hBl hBm F)
 refine this.mono ?_;rintro e w' ⟨v,I,rfl,N,B,_,hb⟩;refine ⟨v,rfl,?_,hb⟩;have J:I.mergeSort (λx y=>decide (x<=y))=D.names:=mergeSort_of_perm (E I N);have M:I.length=D.names.length:=by rw [<- J,List.length_mergeSort]
 rw [J,M] at B;exact B
open Go.Sort
def lacks (hd x:List UInt8):Bool:=!(Lib.hasPrefix x hd)
theorem aex (bx:Nat) (hd x:List UInt8) (w:World) (hb:w.cell? ⟨bx,0,none⟩=some (.string (S hd))) :
 FnGives Tryz.prog 165 #[.pointer (some ⟨bx,0,none⟩)] #[encStr x] (.bool (lacks hd x)) w:=by
 show Calls Tryz.prog 165 #[.string (S x),.pointer (some ⟨bx,0,none⟩)] w _;have c:=Tryz.strings_HasPrefix (S x) (S hd) w;rw [show Lib.hasPrefix (S x).data.toList (S hd).data.toList=Lib.hasPrefix x hd by simp [S]] at c;have e:Zq (lacks hd x=!(Lib.hasPrefix x hd)):=rfl;generalize Lib.hasPrefix x hd=q at *
 generalize lacks hd x=r at *
 go_enter Tryz.func165,Tryz.ntmps165;go_wp2_with (go_at_call 166; refine c.mono ?_; rintro e w' ⟨rfl,rfl⟩);go_ret;exact ⟨by rw [e.o]; rfl,0,rfl⟩
theorem acj {W:World} {base g cp q:Nat} {e:TypeId} {cur:Array Value} (ts zs:List (List UInt8)) (n:Nat) (hbase:base<=g) (hb:W.heap[g]?=some (.cells cur e (0,0))) (hn:ts.length+zs.length=n) (h1:n<=cp) (h2:cp<=maxLen) (h3:cur.size=cp * 1) :
 (putRow encStr (Sort.ahead W q) g 0 (ts++zs).toArray).ownsRow base e 1 (.slice (some ⟨g,0,none⟩) ts.length cp) ts.length (ts.map encStr):=by
 have h:=heap_sorted (n:=q) (os:=#[]) (ts++zs).toArray hb;rw [grow_empty] at h;refine ⟨by simp,.inr ⟨g,cp,_,rfl,hbase,h,by omega,h2,by simp [putCells,h3],?_⟩⟩;have B:=take_putCells cur (ts++zs) (by rw [List.length_append]; omega);have A:=congrArg (List.take ts.length) B;rw [List.take_take,Nat.min_eq_left (by rw [List.length_append]; omega)] at A;rw [Nat.mul_one,A,List.map_append,List.take_append_of_le_length (by simp),List.take_of_length_le (by simp)]
def DiskD.list (D:DiskD) (hd:List UInt8):List (List UInt8):=D.names.filter λx=>Lib.hasPrefix x hd
theorem afj (l:List (List UInt8)) (hd:List UInt8):(l.filter λx=>!lacks hd x)=l.filter λx=>Lib.hasPrefix x hd:=by
 congr 1; funext x; unfold lacks; rw [Bool.not_not]
theorem index_none (bx:Nat) (w:World) :
 Calls Tryz.prog 217 #[.slice none 0 0,.func (.func 165) #[] #[.pointer (some ⟨bx,0,none⟩)]] w λe w'=>e=.returned (.int .i64 (-1))/\Below w.heap.size w w':=by
 go_enter Tryz.func217,Tryz.ntmps217;go_wp2_with fail;go_loopw [8] (λi wr=>i=.int .i64 0/\Zq (Below w.heap.size w wr)) (λi _=>0)
 case atStart=>exact ⟨rfl,Below.refl _ _⟩
 case round =>
  obtain ⟨rfl,A⟩:=hrel;go_wp2_with fail;go_ret;exact ⟨rfl,A.o⟩
theorem aec (bx base:Nat) (hd:List UInt8) (l:List (List UInt8)) (v:Value) (w:World) (hown:w.ownsRow base 9 1 v l.length (l.map encStr)) (hbx:bx < base) (hbl:base<=w.heap.size) (hb:w.cell? ⟨bx,0,none⟩=some (.string (S hd))) :
 Calls Tryz.prog 164 #[v,.func (.func 165) #[] #[.pointer (some ⟨bx,0,none⟩)]] w λe w'=>∃ v':Value,e=.returned v' /\
  w'.ownsRow base 9 1 v' (l.filter λx=>Lib.hasPrefix x hd).length ((l.filter λx=>Lib.hasPrefix x hd).map encStr)/\Below base w w':=by
 have M:∀ args w,(callFunc 165 args).run Tryz.prog w=.ok (.enter 165 args) w:=enters_of Tryz.func165 (by kernel_rfl) rfl;have B:bx < w.heap.size:=by omega
 rcases hown.2 with ⟨rfl,h0⟩ | ⟨g,cp,cur,rfl,hg,hgb,hnc,hcm,hcs,hct⟩
 ·
  obtain rfl:l=[]:=List.length_eq_zero_iff.1 h0;have c:=zq (index_none bx w);clear hown hb h0 M;go_enter Tryz.func164,Tryz.ntmps164;go_wp2_with fail;refine c.o.mono ?_;rintro e w2 ⟨rfl,F⟩;have N:=zq F;clear F c;go_wp2_with fail;go_ret;exact ⟨_,rfl,⟨rfl,.inl ⟨rfl,rfl⟩⟩,N.o.mono hbl⟩
 ·
  have O:g < w.heap.size:=(Array.getElem?_eq_some_iff.1 hgb).1;have I:bx≠g:=by omega
  rw [Nat.mul_one] at hct;have hH:=holds_of_block hgb hct
  have E:=AnyE.slices_DeleteFunc Tryz.delZ encStr (λ_=>rfl) (lacks hd) 165 #[.pointer (some ⟨bx,0,none⟩)] M [] Tryz.zeroValue9 g 0 cp l.toArray w
   (λW x J=>aex bx hd x W (by rw [J.cell B]; exact hb))
   (λn os dk x _=>aex bx hd x _ (by
    unfold sortWorld;rw [cell?_grow _ _ _ (by show bx < (putRow _ _ _ _ _).heap.size; rw [size_putRow]; exact B),cell?_putRow_other _ _ g 0 _ _ (Or.inl I)];exact hb)) hH (by simp; unfold maxLen at hcm; omega) (by simpa using hnc)
  change Calls Tryz.prog 164 _ _ _ at E;refine Calls.mono (by simpa using E) ?_;rintro e w' ⟨rfl,q,rfl⟩;rw [afj];have R:(l.filter λx=>Lib.hasPrefix x hd).length<=l.length:=List.length_filter_le _ _;have U:l.toArray.size=l.length:=by simp
  refine ⟨_,rfl,?_,?_⟩
  . exact acj _ _ l.length hg hgb (by rw [List.length_replicate]; omega) hnc hcm hcs
  . have A:=grownBy_sorted (w:=w) (g:=g) (n:=q) (os:=#[]) ((l.filter λx=>Lib.hasPrefix x hd)++List.replicate (l.length - (l.filter λx=>Lib.hasPrefix x hd).length) []).toArray
    rw [grow_empty] at A;exact ⟨A.os,A.tape,A.output,A.size,λk hk=>A.block k (by omega) (by intro e; cases e; omega)⟩
theorem list_any {base:Nat} {D:DiskD} (hd:List UInt8) (w:World) (h:DiskAt base w D) (hfl:D.files.length<=1048576) (hnl:∀ p∈D.files,p.1.length<=maxLen) :
 Calls Tryz.prog 102 #[.pointer (some ⟨D.blk,0,none⟩),.string (S hd)] w λe w'=>∃ v:Value,e=.returned v /\
  w'.ownsRow w.heap.size 9 1 v (D.list hd).length ((D.list hd).map encStr)/\Below w.heap.size w w':=by
 obtain ⟨w1,B⟩:∃ w1:World,w1=w.alloc (.cells #[.string (S hd)] 9):=⟨_,rfl⟩;have Y:Below w.heap.size w w1:=by rw [B]; exact (Below.refl _ _).alloc (Nat.le_refl _) _
 have s1:w1.heap.size=w.heap.size+1:=by rw [B]; simp
 have E:w1.cell? ⟨w.heap.size,0,none⟩=some (.string (S hd)):=by rw [B,World.cell?_alloc_new]; rfl
 have h1:DiskAt base w1 D:=h.below Y;have c2:w1.cell? ⟨D.blk,2,none⟩=some (.map (some D.mB)):=h1.cell 2 _ rfl;have k1:=zq (anc (some D.mB) w1);obtain ⟨w2,F⟩:∃ w2:World,w2=w1.alloc (.cells #[.map (some D.mB)] 80):=⟨_,rfl⟩;have U:Below w1.heap.size w1 w2:=by rw [F]; exact (Below.refl _ _).alloc (Nat.le_refl _) _
 have s2:w2.heap.size=w1.heap.size+1:=by rw [F]; simp
 have I:w2.cell? ⟨w1.heap.size,0,none⟩=some (.map (some D.mB)):=by rw [F,World.cell?_alloc_new]; rfl
 have X:DiskAt base w2 D:=h1.below U;have J:w2.cell? ⟨w.heap.size,0,none⟩=some (.string (S hd)):=by rw [U.cell (by show w.heap.size < _; omega)]; exact E
 have k2:=zq (aga w1.heap.size w2 X hfl hnl (by omega) I);rw [<- F] at k1;have B2:Zq (Below w.heap.size w w2):=Y.trans (U.mono (by omega));have BX:=zq J;have B1:=zq B;have N:=zq s1;have O:=zq s2;clear h h1 X I U F J s1 s2 Y E B;go_enter Tryz.func102,Tryz.ntmps102;go_upto_region 1 with fail
 rw [<- B1.o];go_wp2_with fail;refine k1.o.mono ?_;rintro e wz ⟨rfl,rfl⟩;go_wp2_with fail;refine k2.o.mono ?_;rintro e w3 ⟨v,rfl,A,M⟩;have HR:=zq A;have HB:=zq M;have k3:=zq (aec w.heap.size wz.heap.size hd D.names v w3 A (by have:=N.o; have:=O.o; omega) M.size (by rw [M.cell (by have:=N.o; have:=O.o; show w.heap.size < _; omega)]; exact BX.o));clear A M;go_wp2_with fail;refine k3.o.mono ?_;rintro e w4 ⟨v',rfl,A,R⟩;have Z:=zq A;have ab:=zq R;clear A R;go_wp2_with fail;go_ret;have q1:=N.o;have q2:=O.o;exact ⟨_,rfl,by obtain ⟨h1,X⟩:=Z.o; exact ⟨h1,X.imp_right λ⟨g,cp,cur,a,b,c⟩=>⟨g,cp,cur,a,Nat.le_trans (by omega) b,c⟩⟩,B2.o.trans ((HB.o.trans ab.o).mono (by omega))⟩
end DskW
namespace SegW
open Go.RowKit OctMath DskW
theorem ane:∀ (a b:List UInt8) (x y:Nat),a.length=b.length->(∀ c∈a,dig c=true)->(∀ c∈b,dig c=true)->x < y->jk x a < jk y b:=by
 intro a
 induction a with
 | nil =>
   intro b x y A _ _ h
   cases b with
   | nil=>exact h
   | cons _ _=>cases A
 | cons c a ih =>
   intro b x y A B hb h
   cases b with
   | nil=>cases A
   | cons d b =>
     have h1:=B c (.head _);have E:=hb d (.head _);unfold dig at h1 E;simp only [Bool.and_eq_true,decide_eq_true_eq] at h1 E;show jk (x * 10+(c.toNat - 48)) a < jk (y * 10+(d.toNat - 48)) b;refine ih b _ _ (by simpa using A) (λc hc=>B c (.tail _ hc)) (λc hc=>hb c (.tail _ hc)) ?_;omega
theorem apj:∀ (a b:List UInt8) (z:Nat),a.length=b.length->(∀ c∈a,dig c=true)->(∀ c∈b,dig c=true)->a < b->jk z a < jk z b:=by
 intro a
 induction a with
 | nil =>
   intro b z A _ _ h
   cases b with
   | nil=>exact absurd h (List.not_lt_nil _)
   | cons _ _=>cases A
 | cons c a ih =>
   intro b z A B hb h
   cases b with
   | nil=>cases A
   | cons d b =>
     have h1:=B c (.head _);have E:=hb d (.head _);unfold dig at h1 E;simp only [Bool.and_eq_true,decide_eq_true_eq] at h1 E;show jk (z * 10+(c.toNat - 48)) a < jk (z * 10+(d.toNat - 48)) b
     rcases List.cons_lt_cons_iff.1 h with h9 | ⟨rfl,h9⟩
     . have:=UInt8.lt_iff_toNat_lt.1 h9
       exact ane a b _ _ (by simpa using A) (λc hc=>B c (.tail _ hc)) (λc hc=>hb c (.tail _ hc)) (by omega)
     . exact ih b _ (by simpa using A) (λc hc=>B c (.tail _ hc)) (λc hc=>hb c (.tail _ hc)) h9
theorem aqw (h a b:List UInt8):h++a < h++b↔a < b:=by
 induction h with
 | nil=>exact Iff.rfl
 | cons c h ih =>
   rw [List.cons_append,List.cons_append,List.cons_lt_cons_iff,ih]
   constructor
   . rintro (h | ⟨_,h⟩)
     . exact absurd h (UInt8.lt_irrefl _)
     . exact h
   . exact λh=>.inr ⟨rfl,h⟩
theorem acb {head x:List UInt8} {p:Nat} (h:placeL head x=some p):∃ ds,x=head++ds/\ds.length=8/\(∀ c∈ds,dig c=true)/\yt ds=p:=by
 unfold placeL at h
 split at h
 ·
  rename_i h1
  obtain ⟨A,B,E⟩:=h1;unfold Lib.hasPrefix at A;rw [List.isPrefixOf_iff_prefix] at A;obtain ⟨t,rfl⟩:=A;rw [List.drop_left] at B E h;exact ⟨t,rfl,B,E,Option.some.inj h⟩
 . cases h
theorem abv {head x y:List UInt8} {p q:Nat} (hx:placeL head x=some p) (hy:placeL head y=some q) (h:x < y):p < q:=by
 obtain ⟨a,rfl,A,a2,rfl⟩:=acb hx;obtain ⟨b,rfl,B,E,rfl⟩:=acb hy;exact apj a b 0 (A.trans B.symm) a2 E ((aqw head a b).1 h)
theorem anf {head x:List UInt8} {p:Nat} (hx:placeL head x=some p):x=af head p:=by
 have hp:=af1 hx;have A:=adc head p hp
 rcases Std.lt_trichotomy x (af head p) with h | h | h
 . exact absurd (abv hx A h) (Nat.lt_irrefl _)
 . exact h
 . exact absurd (abv A hx h) (Nat.lt_irrefl _)
theorem ain:∀ (l m:List Nat),l.Pairwise (· < ·)->m.Pairwise (· < ·)->(∀ x,x∈l↔x∈m)->l=m:=by
 intro l
 induction l with
 | nil =>
   intro m _ _ h
   cases m with
   | nil=>rfl
   | cons y m=>exact absurd ((h y).2 (.head _)) (by simp)
 | cons x l ih =>
   intro m B E h
   cases m with
   | nil=>exact absurd ((h x).1 (.head _)) (by simp)
   | cons y m =>
     rw [List.pairwise_cons] at B E
     have e:x=y:=by
      rcases List.mem_cons.1 ((h x).1 (.head _)) with h1 | h1
      . exact h1
      . rcases List.mem_cons.1 ((h y).2 (.head _)) with h2 | h2
        . exact h2.symm
        . have:=E.1 x h1
          have:=B.1 y h2;omega
     subst e
     rw [ih m B.2 E.2 λz=>⟨λA=>by
      rcases List.mem_cons.1 ((h z).1 (.tail _ A)) with h1 | h1
      . have:=B.1 z A; omega
      . exact h1,λA=>by
      rcases List.mem_cons.1 ((h z).2 (.tail _ A)) with h1 | h1
      . have:=E.1 z A; omega
      . exact h1⟩]
structure LaidOn (D:DiskD) (R:SegD):Prop where
 sz:16<=R.size/\R.size<=4096
 empty:R.n=0->R.b=0/\R.txt=[]
 long:0 < R.n->(R.n - 1) * R.size<=R.txt.length/\R.txt.length<=R.n * R.size/\R.b+(R.n - 1) * R.size<=99999999
 mult:R.b % R.size=0
 hd:R.head.length<=1048576
 ok:aad D R
 only:ul D R
 db:R.db=D.blk
theorem LaidOn.place_le {D:DiskD} {R:SegD} (h:LaidOn D R) {i:Nat} (hi:i < R.n):R.b+i * R.size<=99999999:=by
 have h1:=(h.long (by omega)).2.2;have A:i * R.size<=(R.n - 1) * R.size:=Nat.mul_le_mul_right _ (by omega);omega
theorem LaidOn.places_sorted {D:DiskD} {R:SegD} (h:LaidOn D R):R.places.Pairwise (· < ·):=by
 unfold SegD.places;rw [List.pairwise_map];refine List.Pairwise.imp ?_ (List.pairwise_lt_range);intro a b A;have:(a+1) * R.size<=b * R.size:=Nat.mul_le_mul_right _ A;rw [Nat.add_mul,Nat.one_mul] at this;have:=h.sz;omega
theorem agb (D:DiskD) (hn:(D.files.map (·.1)).Nodup) (hd:List UInt8):(D.list hd).Pairwise (λx y=>x < y):=by
 have h1:D.names.Pairwise (λx y=>x<=y):=by
  have:=List.pairwise_mergeSort (le:=λx y:List UInt8=>decide (x<=y)) (λa b c h1 B=>decide_eq_true (List.le_trans (of_decide_eq_true h1) (of_decide_eq_true B))) (λa b=>by
   rcases List.le_total a b with h | h
   . simp [h]
   . simp [h]) (D.files.map (·.1))
  exact this.imp λh=>of_decide_eq_true h
 have B:D.names.Nodup:=(List.mergeSort_perm _ _).nodup_iff.2 hn
 have A:D.names.Pairwise (λx y=>x < y):=(h1.and B).imp λ{x y} ⟨h,E⟩=>by
  rcases Std.lt_trichotomy x y with A | A | A
  . exact A
  . exact absurd A E
  . exact absurd A (List.not_lt.2 h)
 unfold DiskD.list;exact A.filter _
theorem aa9 {D:DiskD} {hd x:List UInt8}:x∈D.list hd↔Lib.hasPrefix x hd=true/\x∈D.files.map (·.1):=by
 unfold DiskD.list;rw [List.mem_filter];unfold DiskD.names;rw [List.mem_mergeSort];exact And.comm
theorem yz {D:DiskD} {x:List UInt8}:(D.find x).isSome=true↔x∈D.files.map (·.1):=by
 unfold DiskD.find;rw [Option.isSome_map,List.find?_isSome];simp
theorem LaidOn.found {D:DiskD} {R:SegD} (h:LaidOn D R) (hn:(D.files.map (·.1)).Nodup):(D.list R.head).filterMap (placeL R.head)=R.places:=by
 refine ain _ _ ?_ h.places_sorted λx=>?_
 ·
  rw [List.pairwise_filterMap];refine (agb D hn R.head).imp ?_;intro a b B p hp q M;exact abv hp M B
 ·
  rw [List.mem_filterMap]
  constructor
  ·
   rintro ⟨y,N,hp⟩;obtain rfl:=anf hp;have E:=af1 hp;have I:=yz.2 (aa9.1 N).2;unfold SegD.places;rw [List.mem_map];apply Classical.byContradiction;intro F;have:=h.only x E λi A e=>F ⟨i,List.mem_range.2 A,e.symm⟩
   rw [this] at I; cases I
  ·
   intro J;unfold SegD.places at J;obtain ⟨i,A,rfl⟩:=List.mem_map.1 J;have A:=List.mem_range.1 A;exact ⟨af R.head (R.b+i * R.size),aa9.2 ⟨prefix_append _ _,yz.1 (h.ok i A).2⟩,adc _ _ (h.place_le A)⟩
def SegD.upto (R:SegD) (m:Nat) (pv:Value):SegD:={ R with n:=m,b:=if m=0 then 0 else R.b,txt:=R.txt.take (m * R.size),synced:=0,pv:=pv }
theorem LaidOn.upto_all {D:DiskD} {R:SegD} (h:LaidOn D R) (pv:Value):R.upto R.n pv={ R with synced:=0,pv:=pv }:=by
 unfold SegD.upto
 rcases Nat.eq_zero_or_pos R.n with h0 | h0
 . obtain ⟨A,B⟩:=h.empty h0
   rw [if_pos h0,A,B]; simp
 . rw [if_neg (by omega),List.take_of_length_le (h.long h0).2.1]
theorem aba {w:World} {base n:Nat} {e:TypeId} {v:Value} {xs:List Value} (h:w.ownsRow base e 1 v n xs) (i:Nat) (hi:i < n) (x:Value) (hx:xs[i]?=some x):∃ g cap,v=.slice (some ⟨g,0,Option.none⟩) n cap/\n<=cap/\w.cell? ⟨g,i,Option.none⟩=some x:=by
 rcases h.2 with ⟨_,e⟩ | ⟨g,cap,cur,e,_,hg,hn,_,hsz,ht⟩
 . omega
 ·
  refine ⟨g,cap,e,hn,?_⟩;unfold World.cell?;rw [hg];have h1:(cur.toList.take (n * 1))[i]?=some x:=by rw [ht]; exact hx
  rw [List.getElem?_take_of_lt (by omega)] at h1
  simpa using h1
theorem own_base {w:World} {base B n sz:Nat} {e:TypeId} {v:Value} {xs:List Value} (h:w.ownsRow base e sz v n xs) (hB:∀ k,v.ownBlock=some k->B<=k):w.ownsRow B e sz v n xs:=by
 refine ⟨h.1,?_⟩
 rcases h.2 with h0 | ⟨g,cap,cur,e,hb,r⟩
 . exact .inl h0
 . exact .inr ⟨g,cap,cur,e,hB g (by rw [e]; rfl),r⟩
theorem ak2 {w:World} {base n sz:Nat} {e:TypeId} {v:Value} {xs:List Value} (h:w.ownsRow base e sz v n xs):∃ a cap,v=.slice a n cap:=by
 rcases h.2 with ⟨e,e0⟩ | ⟨g,cap,cur,e,_⟩
 . exact ⟨_,_,by rw [e,e0]⟩
 . exact ⟨_,_,e⟩
theorem ack {L:List (List UInt8)} {f:List UInt8->Option Nat} {P:List Nat} (h:L.filterMap f=P) {k:Nat} {x:List UInt8} (hx:L[k]?=some x) :
 (L.take (k+1)).filterMap f=(L.take k).filterMap f++(f x).toList/\((L.take k).filterMap f).length<=P.length/\(∀ p,f x=some p->P[((L.take k).filterMap f).length]?=some p):=by
 have h1:L.take (k+1)=L.take k++[x]:=by
  rw [List.take_add_one,hx]; rfl
 have B:P=(L.take (k+1)).filterMap f++(L.drop (k+1)).filterMap f:=by rw [<- List.filterMap_append,List.take_append_drop,h]
 have A:(L.take (k+1)).filterMap f=(L.take k).filterMap f++(f x).toList:=by
  rw [h1,List.filterMap_append]
  cases hf:f x <;> simp [hf]
 refine ⟨A,by rw [B,A]; simp <;> omega,λp hp=>?_⟩;rw [B,A,hp];simp
theorem ak3 {base:Nat} {D:DiskD} {R:SegD} (w:World) (h0n:R.n=0) (hL:LaidOn D R) (U:SegAt base w (R.upto 0 (.slice none 0 0))) (hD:DiskAt base w D) (hap:¬ D.foot R.blk) (hfl:D.files.length<=1048576) (hnl:∀ p∈D.files,p.1.length<=1073741824) (hbase:base<=w.heap.size) :
 Calls Tryz.prog 206 #[.pointer (some ⟨R.blk,0,none⟩)] w λe w'=>e=.returned (.slice none 0 0)/\∃ pv,SegAt base w' (R.upto R.n pv)/\Mod (λk=>k=R.blk) w w'/\∀ k,pv.ownBlock=some k->w.heap.size<=k:=by
 obtain ⟨i0,b1,b2,b3,b4⟩:=info_parts (show (Tryz.prog.info? 3).map (λi=>(i.zero,i.size,i.bytes))=some (some (.int .i64 0),1,8) by kernel_rfl);obtain ⟨L,J⟩:∃ L,Zq (L=D.list R.head):=⟨_,rfl⟩;have al:Zq (L.filterMap (placeL R.head)=R.places):=by rw [J.o]; exact hL.found hD.names
 have bd:Zq (∀ x∈L,x.length<=1073741824):=λx F=>by
  rw [J.o] at F;obtain ⟨p,hp,rfl⟩:=List.mem_map.1 (aa9.1 F).2;exact hnl p hp
 have b5:L.length<=1048576:=by
  rw [J.o];refine Nat.le_trans (List.length_filter_le _ _) ?_;unfold DiskD.names;rw [List.length_mergeSort,List.length_map]; exact hfl
 have X:=zq (λ(w2:World) (hb:Below w.heap.size w w2)=>list_any R.head w2 (hD.below hb) hfl (λp hp=>by have:=hnl p hp; unfold maxLen; omega));rw [<- J.o] at X;have am:Zq (∀ w2:World,Below w.heap.size w w2->w2.cell? ⟨R.blk,0,none⟩=some (.pointer (some ⟨D.blk,0,none⟩))):=λw2 hb=>(U.below hb).cell 0 _ (by rw [<- hL.db]; rfl)
 have an:Zq (∀ w2:World,Below w.heap.size w w2->w2.cell? ⟨R.blk,1,none⟩=some (.string (S R.head))):=λw2 hb=>(U.below hb).cell 1 _ rfl
 have HL:=zq hL;have HR:=zq U;have HD:=zq hD;have b7:=zq hap;have Z:Zq (R.places.length=R.n):=by show R.places.length=R.n; unfold SegD.places; simp
 have b8:R.blk < w.heap.size:=U.lt (.inl rfl);clear hL U hD hap hfl hnl;go_enter Tryz.func206,Tryz.ntmps206;go_wp2_with fail;refine Grow.ja 11 [none,none,none,some (.inl (.pointer (some ⟨D.blk,0,none⟩))),none,none,none,some (.inl (.string (S R.head))),some (.inr λv w2=>∃ a cap,v=.slice a L.length cap/\w2.ownsRow w.heap.size 9 1 v L.length (L.map encStr)),some (.inl (.int .i64 (L.length:Int))),none] Ext (by kernel_rfl) (by kernel_rfl) (by kernel_rfl) Ext.refl (λ_ _ _=>Ext.trans) ?_ ?_
 ·
  intro K hK Y hY v w w' U h;simp only [List.mem_cons,List.not_mem_nil,or_false] at hK
  rcases hK with rfl | rfl | rfl | rfl | rfl | rfl | rfl | rfl | rfl | rfl | rfl <;> simp only [reduceCtorEq,Option.some.injEq,Sum.inr.injEq] at hY
  subst hY;obtain ⟨a,cap,e,ho⟩:=h;exact ⟨a,cap,e,ownsRow_mod (M:=λ_=>False) ho (Mod.of_below U) (λ_ _ h=>h)⟩
 simp only [List.take_succ_cons,List.take_zero,List.drop_succ_cons,List.drop_zero]
 iterate 3
  refine Grow.g_det rfl ?_;apply Exists.intro;refine ⟨λw I A=>?_,?_⟩
  . clear A
    go_simp;exact ⟨rfl,Ext.refl _⟩
  go_frame
 refine Grow.g_con rfl (λB I A=>?_) ?_
 ·
  clear A;have c0:=am.o B ((Below.refl w.heap.size w).drew.trans I);go_simp
  all_goals exact Ext.refl _
 iterate 3
  go_frame;refine Grow.g_det rfl ?_;apply Exists.intro;refine ⟨λw I A=>?_,?_⟩
  . clear A
    go_simp;exact ⟨rfl,Ext.refl _⟩
 go_frame;refine Grow.g_con rfl (λB I A=>?_) ?_
 ·
  clear A;have c1:=an.o B ((Below.refl w.heap.size w).drew.trans I);go_simp
  all_goals exact Ext.refl _
 go_frame;refine Grow.g_new rfl (λB I A=>?_) (λvL=>?_)
 ·
  clear A;have bh:w.heap.size<=B.heap.size:=((Below.refl w.heap.size w).drew.trans I).size;go_simp;refine (X.o B ((Below.refl w.heap.size w).drew.trans I)).mono ?_;rintro e w3 ⟨v,rfl,ho,hb⟩;obtain ⟨a,cap,rfl⟩:=ak2 ho;exact ⟨_,rfl,⟨⟨a,cap,rfl⟩,own_base ho (λk hk=>Nat.le_trans bh (ay ho k hk))⟩,hb⟩
 simp only [Act.put,List.setIfInBounds_toArray,List.set_cons_zero,List.set_cons_succ,Grow.ae9];refine Grow.g_con rfl (λB I A=>?_) ?_
 ·
  obtain ⟨a,cap,rfl,ho⟩:=A _ (List.Mem.head _) (by simp [Oper.looksAt,Op.operands,Call.operands]);clear A;go_simp
  all_goals exact Ext.refl _
 go_frame;refine Grow.g_det rfl ?_;apply Exists.intro;refine ⟨λw I A=>?_,?_⟩
 . clear A
   go_simp;exact ⟨rfl,Ext.refl _⟩
 go_frame;refine Grow.g_nil λw1 ao A=>?_
 obtain ⟨a,cap,rfl,E⟩:=A _ (List.Mem.head _);clear A;refine wpList_nil ?_;have HB:=zq ((Below.refl w.heap.size w).drew.trans (show Below w.heap.size w.drew w1 from ao));have bz:=zq E;clear ao X am an
 have bj:Zq (∀ (k:Nat) (x:List UInt8),L[k]?=some x->∃ g cp,(Value.slice a L.length cap)=.slice (some ⟨g,0,none⟩) L.length cp/\L.length<=cp/\w1.cell? ⟨g,k,none⟩=some (.string (S x))/\g < w1.heap.size/\w.heap.size<=g):=λk x F=>by
  have hk:k < L.length:=(List.getElem?_eq_some_iff.1 F).1;obtain ⟨g,cp,e,h1,h2⟩:=aba E k hk (encStr x) (by rw [List.getElem?_map,F]; rfl);exact ⟨g,cp,e,h1,h2,bq h2,ay E g (by rw [e]; rfl)⟩
 clear E;go_wp2_with fail
 go_loopw [3,4,21] (λv3 v4 i wr=>∃ (k m:Nat) (pv:Value) (b:Bool),k<=L.length/\i=.int .i64 k/\v3=.slice none 0 0/\v4=.bool b/\Zq (m=((L.take k).filterMap (placeL R.head)).length)/\Zq (m < R.n->b=true) /\
  Zq (SegAt base wr (R.upto m pv))/\Zq (Mod (λk=>k=R.blk) w1 wr)/\Zq (∀ k,pv.ownBlock=some k->w1.heap.size<=k)) (λ_ _ i _=>L.length - (intOf i).toNat)
 case atStart=>exact ⟨0,0,.slice none 0 0,true,Nat.zero_le _,rfl,rfl,rfl,rfl,λ_=>rfl,HR.o.below HB.o,Mod.refl _ _,λk h=>by cases h⟩
 case round =>
  obtain ⟨k,m,pv,b,hk,rfl,rfl,rfl,HM,ar,HS,N,av⟩:=hrel;have b9:=HB.o.size
  by_cases hlt:k < L.length
  ·
   obtain ⟨x,F⟩:∃ x,L[k]?=some x:=⟨L[k],List.getElem?_eq_getElem hlt⟩;obtain ⟨s1,s2,s3⟩:=ack al.o F;rw [<- HM.o,Z.o] at s2;rw [<- HM.o] at s3
   have O:m < R.n\/placeL R.head x=none:=by
    cases hp:placeL R.head x with
    | none=>exact .inr rfl
    | some p=>exact .inl (by have:=(List.getElem?_eq_some_iff.1 (s3 p hp)).1; rw [Z.o] at this; exact this)
   obtain ⟨g,cp,bk,bl,a1,a6,bm⟩:=bj.o k x F;injection bk with e1 e2 e3
   subst e1;have a7:wr.cell? ⟨g,k,none⟩=some (.string (S x)):=by rw [N.o.cell (p:=⟨g,k,none⟩) a6 (by show ¬ g=R.blk; omega)]; exact a1
   have c1:wr.cell? ⟨R.blk,1,none⟩=some (.string (S R.head)):=HS.o.cell 1 _ rfl;have bo:x.length<=1073741824:=bd.o x (List.mem_of_getElem? F);have ab:=zq (akq R.head x wr bo);have HX:=zq F
   cases hp:placeL R.head x with
   | none =>
     rw [hp] at ab s1
     have bp:Zq (m=((L.take (k+1)).filterMap (placeL R.head)).length):=by
      show m=_;rw [s1,Option.toList_none,List.append_nil]; exact HM.o
     clear s1 s2 s3 O e2 e3 bl a1 a6 bm F hp HM;go_wp2_with fail;refine ab.o.mono ?_;rintro e w3 ⟨rfl,ac⟩;have br:=zq (HS.o.below ac);have a8:=zq (N.o.trans (Mod.of_below ac));clear ac ab HS N a7 c1;go_wp2_with fail;go_roundw
     case rel=>exact ⟨k+1,m,pv,b,by omega,by go_num,rfl,rfl,bp.o,ar.o,br.o,a8.o,av.o⟩
     case measure=>simp [intOf]; omega
   | some p =>
     have ba:m < R.n:=by
      rcases O with h | h
      . exact h
      . rw [h] at hp; cases hp
     exact absurd ba (by rw [h0n]; exact Nat.not_lt_zero _)
  ·
   obtain rfl:k=L.length:=by omega
   have O:m=R.n:=by rw [HM.o,List.take_length,al.o,Z.o]
   subst O;clear HM ar;go_wp2_with fail;go_ret;refine ⟨rfl,pv,HS.o,(Mod.of_below HB.o).trans (jb (Mod.refl _ w1) N.o (λk h=>.inl h)),λk h=>Nat.le_trans HB.o.size (av.o k h)⟩
def SegD.openR (R:SegD) (blk:Nat) (pv:Value):SegD:={ R with blk:=blk,pv:=pv,synced:=R.b }
theorem LaidOn.reblk {D:DiskD} {R:SegD} (h:LaidOn D R) (b s:Nat) (pv:Value):LaidOn D { R with blk:=b,pv:=pv,synced:=s } :=
 ⟨h.sz,h.empty,h.long,h.mult,h.hd,h.ok,h.only,h.db⟩
theorem ak4 {base:Nat} {w:World} {R:SegD} (h:SegAt base w R):SegAt base (w.setCell ⟨R.blk,5,none⟩ (.int .i64 (R.b:Int))) { R with synced:=R.b } :=
 ⟨heap_set1 h.cells _ rfl,ownsRow_mod (M:=λk=>k=R.blk) h.row (jm _ _ _ _) (λk hk e=>h.apart k hk e),h.apart,h.above,h.sz,h.empty,h.long,h.mult,(by show R.b<=R.b+R.txt.length; omega),h.hd⟩
theorem ak5 {base:Nat} {D:DiskD} {R:SegD} (w:World) (h0n:R.n=0) (E:R.blk=w.heap.size) (hL:LaidOn D R) (hD:DiskAt base w D) (hq:Quiet D) (hfl:D.files.length<=1048576) (hnl:∀ p∈D.files,p.1.length<=1073741824) (hbase:base<=w.heap.size) :
 Calls Tryz.prog 149 #[.pointer (some ⟨D.blk,0,none⟩),.string (S R.head),.int .i64 (R.size:Int)] w λe w'=>∃ pv,e=.returned (.tuple #[.pointer (some ⟨R.blk,0,none⟩),.int .i64 0])/\Whole base w' D { R with pv:=pv,synced:=R.b }/\Below w.heap.size w w'/\∀ k,pv.ownBlock=some k->w.heap.size<=k:=by
 have CD:=zq (aa6 w hD);rw [hq.up] at CD;obtain ⟨a6,B⟩:=hL.sz;obtain ⟨M,I⟩:∃ M:Array Value,M=#[.pointer (some ⟨D.blk,0,none⟩),.string (S R.head),.int .i64 (R.size:Int),.slice none 0 0,.int .i64 0,.int .i64 0]:=⟨_,rfl⟩;obtain ⟨w1,A⟩:∃ w1:World,w1=w.alloc (.cells M 141):=⟨_,rfl⟩;have J:Below w.heap.size w w1:=by rw [A]; exact (Below.refl _ _).alloc (Nat.le_refl _) _
 have F:w1.heap.size=w.heap.size+1:=by rw [A]; exact World.size_alloc _ _
 have hblk:w1.heap[R.blk]?=some (.cells M 141 (0,0)):=by
  rw [A,E];show (w.heap.push _)[w.heap.size]?=_;exact Array.getElem?_push_size
 have N:SegAt base w1 (R.upto 0 (.slice none 0 0)):=by
  refine ⟨?_,⟨rfl,.inl ⟨rfl,rfl⟩⟩,(λk h=>by cases h),(by show base<=R.blk; omega),hL.sz,λ_=>⟨rfl,?_⟩,λh=>absurd h (Nat.lt_irrefl 0),?_,Nat.zero_le _,hL.hd⟩
  ·
   have e:(R.upto 0 (.slice none 0 0)).cells=M:=by
    rw [I,<- hL.db];unfold SegD.cells SegD.upto SegD.e;simp
   rw [e]; exact hblk
  . show R.txt.take (0 * R.size)=[]
    simp
  . show 0 % R.size=0
    simp
 have HF:=zq (ak3 w1 h0n hL N (hD.below J) (λh=>by have:=hD.lt h; omega) hfl hnl (by omega));have HU:=zq (λpv=>hL.upto_all pv);have HL:=zq hL;have HD:=zq hD;have ab:=zq J;have ac:=zq E;have ad:=zq A;have ak:=zq F;have al:=zq I;clear hL N hD hq J hblk hfl hnl F A I;go_enter Tryz.func149,Tryz.ntmps149;go_wp2_with fail;refine CD.o.mono ?_;rintro e wz ⟨rfl,rfl⟩;go_upto_region 6 with fail
 rw [<- al.o,<- ad.o,<- E];clear E CD;go_wp2_with fail;refine HF.o.mono ?_;rintro e w2 ⟨rfl,pv,B,O,U⟩;rw [HU.o] at B;have HB:=zq (begin_any w2 B)
 have bb:w2.frozen? ⟨R.blk,5,none⟩=false:=by
  unfold World.frozen?; rw [show w2.heap[(⟨R.blk,5,none⟩:Addr).block]?=_ from B.cells]; rfl
 have c5:w2.cell? ⟨R.blk,5,none⟩=some (.int .i64 ((0:Nat):Int)):=B.cell 5 _ rfl;have an:=zq B;have ao:=zq O;have X:=zq U;clear B O U HF;go_wp2_with fail;refine HB.o.mono ?_;rintro e w3 ⟨rfl,rfl⟩;go_wp2_with fail;go_ret2;have Y:=ab.o;have hz:=Y.size;have bc:=ak.o;have E:=ac.o;have hl:=HL.o;have Z:=ak4 an.o;have hm:Mod (λk=>k=R.blk) wz w3:=(Mod.of_below Y).trans (jb (Mod.refl _ w1) ao.o (λk h=>.inl h));have hb:Below wz.heap.size wz (w3.setCell ⟨R.blk,5,none⟩ (.int .i64 (R.b:Int))):=(hm.setCell (.inl rfl) _).to_below _ (Nat.le_refl _) (λk e=>by rw [e,E]; exact Nat.le_refl _);refine ⟨pv,rfl,⟨Z,HD.o.below hb,hl.db,λk hk ar=>?_,hl.ok,hl.only⟩,hb,λk hk=>?_⟩
 ·
  have h1:=HD.o.lt hk
  rcases ar with e | e
  . rw [show k=R.blk from e] at h1; omega
  . have:=X.o k e; omega
 . have:=X.o k hk; omega
theorem agc {base:Nat} {D:DiskD} {R:SegD} (w:World) (h0n:R.n=0) (hL:LaidOn D R) (hD:DiskAt base w D) (hq:Quiet D) (hfl:D.files.length<=1048576) (hnl:∀ p∈D.files,p.1.length<=1073741824) (hbase:base<=w.heap.size) :
 Calls Tryz.prog 149 #[.pointer (some ⟨D.blk,0,none⟩),.string (S R.head),.int .i64 (R.size:Int)] w λe w'=>∃ blk pv,e=.returned (.tuple #[.pointer (some ⟨blk,0,none⟩),.int .i64 0])/\Whole base w' D (R.openR blk pv)/\Below w.heap.size w w'/\∀ k,(R.openR blk pv).foot k->w.heap.size<=k:=by
 refine (ak5 (R:={ R with blk:=w.heap.size }) w h0n rfl (hL.reblk w.heap.size R.synced R.pv) hD hq hfl hnl hbase).mono ?_;rintro e w' ⟨pv,rfl,h1,A,B⟩
 exact ⟨w.heap.size,pv,rfl,h1,A,λk hk=>by
  rcases hk with hk | hk
  . rw [hk]; exact Nat.le_refl _
  . exact B k hk⟩
end SegW
namespace NameW
open Go.RowKit OctMath NameMath
theorem S_toList (l:List UInt8):(S l).toList=l:=by rw [ByteArray.toList_eq,jv]
theorem ang (n:Nat) (W:World):Calls Tryz.prog 160 #[.int .i32 (n:Int)] W λe w'=>e=.returned (.bool (qm n))/\w'=W:=by
 have h1:decide ((97:Int)<=(n:Int))=decide (97<=n):=decide_eq_decide.2 (by omega);have B:decide ((n:Int)<=122)=decide (n<=122):=decide_eq_decide.2 (by omega);have E:decide ((48:Int)<=(n:Int))=decide (48<=n):=decide_eq_decide.2 (by omega);have F:decide ((n:Int)<=57)=decide (n<=57):=decide_eq_decide.2 (by omega)
 have I:((n:Int) == 45)=(n == 45):=by
  by_cases h:n=45
  . subst h; rfl
  . rw [beq_eq_false_iff_ne.2 h,beq_eq_false_iff_ne.2 (by omega)]
 have A:Zq (qm n=((decide (97<=n) && decide (n<=122)) || (decide (48<=n) && decide (n<=57)) || n == 45)):=rfl;generalize decide (97<=n)=b1 at *
 generalize decide (n<=122)=b2 at *
 generalize decide (48<=n)=b3 at *
 generalize decide (n<=57)=b4 at *
 generalize (n == 45)=b5 at *
 cases b1 <;> cases b2 <;> cases b3 <;> cases b4 <;> cases b5 <;>
 (go_enter Tryz.func160,Tryz.ntmps160
  go_wp2_with fail;go_ret;rw [A.o];exact ⟨rfl,rfl⟩)
theorem aio (n:Nat) (W:World):Calls Tryz.prog 159 #[.int .i32 (n:Int)] W λe w'=>e=.returned (.bool (!qm n))/\∃ q,w'=W.drewN q:=by
 go_enter Tryz.func159,Tryz.ntmps159;go_wp2_with (go_at_call 160; refine (ang n _).mono ?_; rintro e w2 ⟨rfl,rfl⟩);go_ret;exact ⟨rfl,0,rfl⟩
theorem zx (l:List UInt8) (hl:l.length<=1099511627776) (W:World):Calls Tryz.prog 99 #[.string (S l)] W λe w'=>e=.returned (.bool (ig l))/\Below W.heap.size W w':=by
 have hC:=λw=>Tryz.strings_IndexFunc 159 #[] (enters_of Tryz.func159 (by kernel_rfl) rfl) (λn=>!qm n) (S l) w (λW' x hb=>aio x W')
 have I:=ah l;have A:=amu l;have J:=S_toList l
 by_cases h0:l=[]
 ·
  have hb:l.isEmpty=true:=by subst h0; rfl
  have B:Zq (ig l=false):=by show _=_; rw [A,decide_eq_false (by simpa using h0)]; rfl
  clear A h0;go_enter Tryz.func99,Tryz.ntmps99;go_wp2_with fail;go_ret;rw [B.o];exact ⟨rfl,Below.refl _ _⟩
 have hb:l.isEmpty=false:=by cases l with | nil=>exact absurd rfl h0 | cons _ _=>rfl
 rw [decide_eq_true h0,Bool.true_and] at A
 by_cases h1:l.length<=16
 ·
  have B:Zq (ig l=decide (Lib.idxFunc (λn=>!qm n) true (S l) < (0:Int))):=by show _=_; rw [A,decide_eq_true h1]; rfl
  have E:decide ((l.length:Int)<=16)=true:=decide_eq_true (by omega);clear A h0;go_enter Tryz.func99,Tryz.ntmps99;go_wp2_with (go_at_call 158; refine (hC _).mono ?_; rintro e w2 ⟨rfl,F⟩);go_ret;rw [B.o];exact ⟨rfl,F⟩
 ·
  have B:Zq (ig l=false):=by show _=_; rw [A,decide_eq_false h1]; rfl
  have E:decide ((l.length:Int)<=16)=false:=decide_eq_false (by omega);clear A h0;go_enter Tryz.func99,Tryz.ntmps99;go_wp2_with fail;go_ret;rw [B.o];exact ⟨rfl,Below.refl _ _⟩
theorem aey (l:List UInt8) (hl:l.length<=1099511627776) (W:World):Calls Tryz.prog 111 #[.string (S l)] W λe w'=>e=.returned (.bool (oq l))/\Below W.heap.size W w':=by
 have B:=ah l;have E:Zq (oq l=(ig l && decide (l.length<=8))):=rfl;have F:decide ((l.length:Int)<=8)=decide (l.length<=8):=decide_eq_decide.2 (by omega);have hC:=λw=>zx l hl w
 generalize ig l=b at *
 generalize decide (l.length<=8)=b2 at *
 cases b <;>
 (go_enter Tryz.func111,Tryz.ntmps111
  go_wp2_with (go_at_call 99; refine (hC _).mono ?_; rintro e w2 ⟨rfl,A⟩);go_ret;rw [E.o];exact ⟨rfl,A⟩)
theorem anh (l:List UInt8) (n:Nat) (i:Int) (hi:i=n) (h:n < l.length) (k:IntKind) (w:World):(Instr.index 9 (.string (S l)) (.int k i)).run Tryz.prog w=.ok (.int .u8 (l[n].toNat:Int)) w:=by
 subst hi;have A:=ah l;rw [run_index_string (h:=Tryz.underlying9),dif_pos ⟨by omega,by omega⟩]; rfl
theorem aj0 (l:List UInt8) (hl:l.length<=1099511627776) (W:World):Calls Tryz.prog 52 #[.string (S l)] W λe w'=>e=.returned (.bool (l.isEmpty || ig l))/\Below W.heap.size W w':=by
 have B:=S_toList l;generalize he:l.isEmpty=e
 cases e <;>
 (go_enter Tryz.func52,Tryz.ntmps52
  go_wp2_with (go_at_call 99; refine (zx l hl _).mono ?_; rintro e w2 ⟨rfl,A⟩);go_ret
  first | exact ⟨rfl,A⟩ | exact ⟨rfl,Below.refl _ _⟩)
def ofK (l:List UInt8):Nat->List UInt8
 | 0=>ofL l
 | 1=>if (Lib.hasPrefix l ab9 && oq (l.drop 6))=true then l.drop 6 else []
 | _=>[]
theorem ani (l p:List UInt8) (W:World):Calls Tryz.prog 110 #[.string (S l),.string (S p)] W λe w'=>e=.returned (.tuple #[.string (S (Lib.trimPrefix l p)),.bool (Lib.hasPrefix l p)])/\w'=W:=by
 have:=Tryz.strings_CutPrefix (S l) (S p) W;rw [jv,jv] at this;exact this
theorem of_any (l:List UInt8) (hl:l.length<=1099511627776) (W:World):Calls Tryz.prog 50 #[.string (S l)] W λe w'=>e=.returned (.tuple #[.string (S (ofL l)),.bool (!(ofL l).isEmpty)])/\Below W.heap.size W w':=by
 have Y:=ah l;go_enter Tryz.func50,Tryz.ntmps50;go_wp2_with fail;go_loopw [10] (λi wr=>∃ k:Nat,k<=2/\i=.int .i64 (k:Int)/\Zq (ofL l=ofK l k)/\Zq (wr.cell? ⟨W.heap.size,0,none⟩=some (.string { data:=#[37,114,101,116,114,121,37] })/\wr.cell? ⟨W.heap.size,1,none⟩=some (.string { data:=#[37,100,101,97,100,37] }))/\Zq (Below W.heap.size W wr)) (λi _=>3 - (intOf i).toNat)
 case atStart=>exact ⟨0,by omega,rfl,rfl,⟨by rw [World.cell?_alloc_new]; rfl,by rw [World.cell?_alloc_new]; rfl⟩,(Below.refl _ _).alloc (Nat.le_refl _) _⟩
 case round =>
  obtain ⟨k,hk,rfl,N,J,O⟩:=hrel
  rcases (show k=0\/k=1\/k=2 by omega) with hk0 | hk1 | hk2
  ·
   -- round 0
   subst hk0;have B:=J.o.1;have hC:=λw=>ani l aao w
   change ∀ w,Calls _ _ #[.string (S l),.string { data:=#[37,114,101,116,114,121,37] }] w _ at hC;have U:=zq (λw=>aey (l.drop 7) (by rw [List.length_drop]; omega) w);have F:Zq (ofL l=if (Lib.hasPrefix l aao && oq (l.drop 7))=true then l.drop 7 else ofK l 1):=N.o;have X:=zq (af0 (l.drop 7))
   by_cases hp:Lib.hasPrefix l aao=true
   ·
    have A:Lib.trimPrefix l aao=l.drop 7:=by unfold Lib.trimPrefix; rw [if_pos hp]; rfl
    rw [hp] at F;rw [A,hp] at hC;clear hp A N;generalize oq (l.drop 7)=g at *
    go_wp2_with (go_at_call 110; refine (hC _).mono ?_; rintro e w2 ⟨rfl,rfl⟩);refine (U.o _).mono ?_;rintro e w3 ⟨rfl,hb⟩;have M:=zq (O.o.trans (hb.mono O.o.size));have R:Zq (w3.cell? ⟨W.heap.size,0,none⟩=some (.string { data:=#[37,114,101,116,114,121,37] })/\w3.cell? ⟨W.heap.size,1,none⟩=some (.string { data:=#[37,100,101,97,100,37] })):=⟨by rw [hb.cell (bq J.o.1)]; exact J.o.1,by rw [hb.cell (bq J.o.2)]; exact J.o.2⟩;clear hb U hC B
    cases g with
    | true =>
      have I:Zq (ofL l=l.drop 7):=F.o;go_wp2_with fail;go_ret2;rw [I.o,X.o (by first | rfl | trivial)];exact ⟨rfl,M.o⟩
    | false =>
      have I:Zq (ofL l=ofK l 1):=F.o;go_wp2_with fail;go_roundw
      case rel=>exact ⟨1,by omega,by go_num,I,R,M⟩
      case measure=>simp [intOf]
   ·
    have E:Lib.hasPrefix l aao=false:=by simpa using hp
    have A:Lib.trimPrefix l aao=l:=by unfold Lib.trimPrefix; rw [if_neg hp]
    rw [E] at F;rw [A,E] at hC;have I:Zq (ofL l=ofK l 1):=F.o;clear hp E A N F;go_wp2_with (go_at_call 110; refine (hC _).mono ?_; rintro e w2 ⟨rfl,rfl⟩);go_roundw
    case rel=>exact ⟨1,by omega,by go_num,I,J,O⟩
    case measure=>simp [intOf]
  ·
   -- round 1
   subst hk1;have B:=J.o.2;have hC:=λw=>ani l ab9 w
   change ∀ w,Calls _ _ #[.string (S l),.string { data:=#[37,100,101,97,100,37] }] w _ at hC;have U:=zq (λw=>aey (l.drop 6) (by rw [List.length_drop]; omega) w);have F:Zq (ofL l=if (Lib.hasPrefix l ab9 && oq (l.drop 6))=true then l.drop 6 else ofK l 2):=N.o;have X:=zq (af0 (l.drop 6))
   by_cases hp:Lib.hasPrefix l ab9=true
   ·
    have A:Lib.trimPrefix l ab9=l.drop 6:=by unfold Lib.trimPrefix; rw [if_pos hp]; rfl
    rw [hp] at F;rw [A,hp] at hC;clear hp A N;generalize oq (l.drop 6)=g at *
    go_wp2_with (go_at_call 110; refine (hC _).mono ?_; rintro e w2 ⟨rfl,rfl⟩);refine (U.o _).mono ?_;rintro e w3 ⟨rfl,hb⟩;have M:=zq (O.o.trans (hb.mono O.o.size));have R:Zq (w3.cell? ⟨W.heap.size,0,none⟩=some (.string { data:=#[37,114,101,116,114,121,37] })/\w3.cell? ⟨W.heap.size,1,none⟩=some (.string { data:=#[37,100,101,97,100,37] })):=⟨by rw [hb.cell (bq J.o.1)]; exact J.o.1,by rw [hb.cell (bq J.o.2)]; exact J.o.2⟩;clear hb U hC B
    cases g with
    | true =>
      have I:Zq (ofL l=l.drop 6):=F.o;go_wp2_with fail;go_ret2;rw [I.o,X.o (by first | rfl | trivial)];exact ⟨rfl,M.o⟩
    | false =>
      have I:Zq (ofL l=ofK l 2):=F.o;go_wp2_with fail;go_roundw
      case rel=>exact ⟨2,by omega,by go_num,I,R,M⟩
      case measure=>simp [intOf]
   ·
    have E:Lib.hasPrefix l ab9=false:=by simpa using hp
    have A:Lib.trimPrefix l ab9=l:=by unfold Lib.trimPrefix; rw [if_neg hp]
    rw [E] at F;rw [A,E] at hC;have I:Zq (ofL l=ofK l 2):=F.o;clear hp E A N F;go_wp2_with (go_at_call 110; refine (hC _).mono ?_; rintro e w2 ⟨rfl,rfl⟩);go_roundw
    case rel=>exact ⟨2,by omega,by go_num,I,J,O⟩
    case measure=>simp [intOf]
  ·
   subst hk2;have I:Zq (ofL l=[]):=N.o;go_wp2_with fail;go_ret2;rw [I.o];exact ⟨rfl,O.o⟩
theorem abw (l:List UInt8) (hl:l.length<=1099511627776) (W:World):Calls Tryz.prog 134 #[.string (S l)] W λe w'=>e=.returned (.bool (lc l))/\Below W.heap.size W w':=by
 have E:Zq (lc l=(ig l || !(ofL l).isEmpty)):=rfl;have F:=zq (λw=>zx l hl w);have hO:=λw=>of_any l hl w
 generalize ig l=b at *
 generalize (ofL l).isEmpty=o at *
 go_enter Tryz.func134,Tryz.ntmps134;go_wp2_with fail;refine (hO _).mono ?_;rintro e w2 ⟨rfl,hb⟩;have A:=zq hb;clear hb hO
 cases o with
 | false =>
   go_wp2_with fail;go_ret;rw [E.o]
   cases b <;> exact ⟨rfl,A.o⟩
 | true =>
   go_wp2_with fail;refine (F.o _).mono ?_;rintro e w3 ⟨rfl,hb⟩;have B:=zq (A.o.trans (hb.mono A.o.size));clear hb;go_wp2_with fail;go_ret;rw [E.o]
   cases b <;> exact ⟨rfl,B.o⟩
end NameW
namespace SeqW
open Go.RowKit Go.Shelf OctMath NameMath
attribute [local go_sem] Oper.semAt_some
set_option maxRecDepth 100000 in
theorem values_in (F:Fence) (n:Nat) (h7:F.fn 178) (hro:F.round=none) (hn:1<=n) (l Bs cap:Nat) (a:Option Addr) (A:List (List UInt8)) (hx:A.length<=1048576) (w0:World) (hS:Strs w0 a (A.map S)) (J:List (List UInt8)->World->Prop)
 (hJB:∀ pre W,J pre W->Below w0.heap.size w0 W)
 (hY:∀ pre x W,J pre W->pre.length < A.length->YieldAt F (n - 1) Tryz.prog l #[.string (S x)] W λe W'=>e=.returned (.bool true)/\J (pre++[x]) W'/\KeepsWalks W W')
 (W:World) (hBs:W.cell? ⟨Bs,0,none⟩=some (.slice a A.length cap)) (h0:J [] W) :
 CallsIn F n Tryz.prog 178 #[.func (.yield l) #[] #[],.pointer (some ⟨Bs,0,none⟩)] W λe W'=>(∃ v,e=.returned v)/\J A W':=by
 refine callsIn_of_wp Tryz.func178 rfl h7 ?_ hro;simp only [Tryz.ntmps178,List.size_toArray,List.length_cons,List.length_nil,Nat.reduceAdd,Nat.reduceSub,Array.replicate_succ,Array.replicate_zero,List.push_toArray,List.append_toArray,List.nil_append,List.cons_append]
 gi_wp2
 gi_loopw [7] (λi wr=>∃ k:Nat,k<=A.length/\i=.int .i64 k/\J (A.take k) wr)
  (λi _=>A.length - (intOf i).toNat)
 case atStart=>exact ⟨0,Nat.zero_le _,rfl,h0⟩
 case round =>
  obtain ⟨k,hk,rfl,B⟩:=hrel
  by_cases hlt:k < A.length
  ·
   obtain ⟨b,off,rfl,E⟩:=(hS.below (hJB _ _ B)) k (by rw [List.length_map]; exact hlt);rw [List.getElem_map] at E;obtain ⟨fn,tmps,assign,body,O,M⟩:=hY _ A[k] wr B (by rw [List.length_take]; omega);rw [<- List.take_succ_eq_append_getElem hlt] at M
   gi_wp2
   refine M.mono ?_;rintro e W3 ⟨rfl,I,N⟩
   gi_wp2
   go_roundw
   case rel=>exact ⟨k+1,by omega,by simp,I⟩
   case measure=>simp [intOf]; omega
  ·
   obtain rfl:k=A.length:=by omega
   rw [List.take_length] at B
   gi_wp2
   go_end0;exact ⟨⟨_,rfl⟩,B⟩
open Go.Maps Go.Sort
def apk (F:Fence) (n:Nat) (P:Program) (g:Nat) (lb:Array Value) (ts:List (List UInt8)) (w:World):Prop :=
 ∀ (l:Nat) (J:List (List UInt8)->World->Prop) (W:World),Below w.heap.size w W->(∀ pre W1,J pre W1->Below w.heap.size w W1) ->
  (∀ pre x W1,J pre W1->pre.length < ts.length->YieldAt F (n - 1) P l #[encStr x] W1 λe W'=>e=.returned (.bool true)/\J (pre++[x]) W'/\KeepsWalks W1 W') ->
  J [] W ->
  CallsIn F n P g (#[.func (.yield l) #[] #[]]++lb) W λe W'=>(∃ v,e=.returned v)/\J ts W'
theorem own_base {W:World} {base base':Nat} {e:TypeId} {size:Nat} {v:Value} {k:Nat} {xs:List Value} (h:W.ownsRow base e size v k xs) (hb:base'<=base):W.ownsRow base' e size v k xs:=by
 refine ⟨h.1,?_⟩
 rcases h.2 with hn | ⟨g,cap,cur,hv,hbg,rest⟩
 . exact .inl hn
 . exact .inr ⟨g,cap,cur,hv,Nat.le_trans hb hbg,rest⟩
variable {P:Program} {ρ:Ren}
set_option maxRecDepth 100000 in
theorem appendSeq_in (L:SlLaysZ.n11 P ρ) (F:Fence) (n:Nat) (h11:F.fn (ρ.f 11)) (hro:F.round=none) (hn:2<=n) (g:Nat) (I:Array Value) (hFg:F.fn g) (eg:∀ args w,(callFunc g args).run P w=.ok (.enter g args) w)
 (ts:List (List UInt8)) (hN:ts.length<=maxLen) (hNb:ts.length * 16<=140737488355328) (w:World) (hseq:apk F (n - 1) P g I ts w) :
 CallsIn F n P (ρ.f 11) #[.slice none 0 0,.func (.func g) #[] I] w λe w'=>∃ v:Value,e=.returned v/\w'.ownsRow w.heap.size (ρ.t 26) 1 v ts.length (ts.map encStr)/\Below w.heap.size w w':=by
 have h1:1<=n:=by omega
 have mixed:=L.mixed; have t0:=L.t0; have a0:=L.a0; have z0:=L.z0; have v0:=L.v0; have t24:=L.t24; have a24:=L.a24; have z24:=L.z24; have v24:=L.v24; have t26:=L.t26; have a26:=L.a26; have z26:=L.z26; have v26:=L.v26; have t28:=L.t28; have a28:=L.a28; have z28:=L.z28; have v28:=L.v28;have U:ρ.t 24≠ρ.t 26:=λe=>by have h:=L.t24; rw [e,L.t26] at h; cases h
 have u0:=run_underlying L.t0; have u24:=run_underlying L.t24; have u26:=run_underlying L.t26; have u28:=run_underlying L.t28;obtain ⟨_,_,FG⟩:=L.f11;refine callsIn_of_wp_marks FG rfl h11 ?_ hro;simp only [SlBodyZ.n11_ntmps ρ,List.size_toArray,List.length_cons,List.length_nil,Nat.reduceAdd,Nat.reduceSub,Array.replicate_succ,Array.replicate_zero,List.push_toArray,List.append_toArray,List.nil_append,List.cons_append]
 gi_wp2
 refine wpIn_rangeFunc ?_;intro fn ad;rw [hro];obtain ⟨W0,J⟩:∃ W0,w.alloc (.cells #[.slice none 0 0] (ρ.t 24))=W0:=⟨_,rfl⟩;have ak:W0.heap.size=w.heap.size+1:=by rw [<- J]; simp
 have al:W0.heap[w.heap.size]?=some (.cells #[.slice none 0 0] (ρ.t 24) (0,0)):=by rw [<- J]; exact World.alloc_heap_new w _
 have O:Below w.heap.size w W0:=by rw [<- J]; exact (Below.refl _ w).alloc (Nat.le_refl _) _
 rw [J];obtain ⟨W1,A⟩:∃ W1,(W0.alloc (.deferred (some []))).alloc (.loop (AnyZ.apRec ρ fn (.func (.func g) #[] I) w.heap.size W0.heap.size .ready none))=W1:=⟨_,rfl⟩
 have hold:∀ k,k < W0.heap.size->W1.heap[k]?=W0.heap[k]?:=λk hk=>by
  rw [<- A]; exact (Below.heap_alloc _ _ k (by simp; omega)).trans (Below.heap_alloc _ _ k hk)
 have X:Below w.heap.size w W1:=by rw [<- A]; exact (O.alloc O.size _).alloc (by have:=O.size; simp; omega) _
 have ao:W1.heap.size=W0.heap.size+2:=by rw [<- A]; simp
 have hM:AnyZ.ApAt ρ w fn (.func (.func g) #[] I) w.heap.size (W0.heap.size+1) W0.heap.size [] W1 :=
  ⟨⟨_,(hold w.heap.size (by omega)).trans al,⟨rfl,.inl ⟨rfl,rfl⟩⟩,by simp⟩,
   by rw [<- A]; have:=World.alloc_heap_new (W0.alloc (.deferred (some []))) (.loop (AnyZ.apRec ρ fn (.func (.func g) #[] I) w.heap.size W0.heap.size .ready none)); rwa [World.size_alloc] at this,
   by rw [<- A]; exact (Below.heap_alloc _ _ _ (by simp)).trans (World.alloc_heap_new W0 _),X⟩
 refine ⟨W0.heap.size+1,[{ target:=.collected W0.heap.size,args:=#[] }],W1,{ target:=.fn (.func g) I,args:=#[.func (.yield (W0.heap.size+1)) #[] #[]] },W1,g,
  #[.func (.yield (W0.heap.size+1)) #[] #[]]++I,W1,?_,?_,?_,?_,λ_=>h1,?_⟩
 . rw [<- A]; exact run_enterLoop_outer _ _ _ _ _
 . simp [resolve,go_sem]
 . intro f' Y; simp [Target.leads] at Y; subst Y; exact hFg
 . simp [invoke,go_sem,eg]
 ·
  refine (hseq (W0.heap.size+1) (AnyZ.ApAt ρ w fn (.func (.func g) #[] I) w.heap.size (W0.heap.size+1) W0.heap.size) W1 X (λ_ _ h=>h.below)
   (λpre x W hJ hl=>AnyZ.apYield { L with } F (n - 1 - 1) w fn ad _ w.heap.size (W0.heap.size+1) W0.heap.size (by omega) (by omega) (by omega) (Nat.le_refl _) (by omega) ts.length hN hNb pre x W hJ hl) hM).mono ?_
  rintro e W2 ⟨⟨v0,rfl⟩,R⟩;obtain ⟨v,hv,M,an⟩:=R.box;have N:=run_endLoop (P:=P) R.L (by simp [AnyZ.apRec]);obtain ⟨W3,B⟩:∃ W3,W2.putObj (W0.heap.size+1) (.loop { AnyZ.apRec ρ fn (.func (.func g) #[] I) w.heap.size W0.heap.size .ready none with state:=.exhausted })=W3:=⟨_,rfl⟩;rw [B] at N;have Z:W2.grownBy W3 (some (W0.heap.size+1)):=by rw [<- B]; exact grownBy_putObj_a _ _ _
  have am:W3.heap[w.heap.size]?=some (.cells #[v] (ρ.t 24) (0,0)):=by rw [<- B]; exact (World.putObj_heap_other (by omega)).trans hv
  have ab:W3.heap[W0.heap.size]?=some (.deferred (some [])):=by rw [<- B]; exact (World.putObj_heap_other (by omega)).trans R.K
  have E:=M.kept Z (ownsRow_ne_a M R.L (λcur e=>by first | cases e | exact U (Obj.cells.inj e).2.1));have ac:Below w.heap.size w W3:=R.below.grown Z R.below.size (λk e=>by cases e; omega);obtain ⟨a6,a7⟩:=cell_of_box_a am;clear B;refine ⟨none,W3,N,?_⟩
  gi_wp2
  rw [<- ak];refine ⟨by simp,.inl ⟨_,_,rfl,run_takeDeferred ab,?_⟩⟩;exact ⟨_,results_tmp rfl _ _ _,v,rfl,E.kept (grownBy_putObj_a _ _ _) (ownsRow_ne_a E ab (λcur e=>by first | cases e | exact U (Obj.cells.inj e).2.1)),ac.grown (grownBy_putObj_a _ _ _) ac.size (λk e=>by cases e; omega)⟩
theorem collect_in (L:SlLaysZ.n8 P ρ) (F:Fence) (n:Nat) (h8:F.fn (ρ.f 8)) (h11:F.fn (ρ.f 11)) (hro:F.round=none) (hn:3<=n) (g:Nat) (lb:Array Value) (hFg:F.fn g) (eg:∀ args w,(callFunc g args).run P w=.ok (.enter g args) w)
 (ts:List (List UInt8)) (hN:ts.length<=maxLen) (hNb:ts.length * 16<=140737488355328) (w:World) (hseq:apk F (n - 1 - 1) P g lb ts w) :
 CallsIn F n P (ρ.f 8) #[.func (.func g) #[] lb] w λe w'=>∃ v:Value,e=.returned v/\w'.ownsRow w.heap.size (ρ.t 26) 1 v ts.length (ts.map encStr)/\Below w.heap.size w w':=by
 have h1:1<=n:=by omega
 have B:∀ args w,(callFunc (ρ.f 11) args).run P w=.ok (.enter (ρ.f 11) args) w:=L.f11.enters rfl;have mixed:=L.mixed; have t0:=L.t0; have a0:=L.a0; have z0:=L.z0; have v0:=L.v0; have t24:=L.t24; have a24:=L.a24; have z24:=L.z24; have v24:=L.v24; have t26:=L.t26; have a26:=L.a26; have z26:=L.z26; have v26:=L.v26; have t28:=L.t28; have a28:=L.a28; have z28:=L.z28; have v28:=L.v28;have u0:=run_underlying L.t0; have u24:=run_underlying L.t24; have u26:=run_underlying L.t26; have u28:=run_underlying L.t28;obtain ⟨_,_,FG⟩:=L.f8;refine callsIn_of_wp FG rfl h8 ?_ hro;simp only [SlBodyZ.n8_ntmps ρ,List.size_toArray,List.length_cons,List.length_nil,Nat.reduceAdd,Nat.reduceSub,Array.replicate_succ,Array.replicate_zero,List.push_toArray,List.append_toArray,List.nil_append,List.cons_append]
 gi_wp2_with (gi_at_fn (ρ.f 11); refine (appendSeq_in { L with } F (n - 1) h11 hro (by omega) g lb hFg eg ts hN hNb _ hseq).mono ?_; rintro e w' ⟨v,rfl,A,hb⟩)
 go_ret;exact ⟨v,rfl,A,hb⟩
set_option maxRecDepth 100000 in
theorem sorted_in (L:SlLaysZ.n6 P ρ) (F:Fence) (n:Nat) (h6:F.fn (ρ.f 6)) (h8:F.fn (ρ.f 8)) (h9:F.fn (ρ.f 9)) (h11:F.fn (ρ.f 11)) (hro:F.round=none) (hn:4<=n) (hsort:AnyZ.SortsIn P ρ F (n - 1)) (e9:∀ args w,(callFunc (ρ.f 9) args).run P w=.ok (.enter (ρ.f 9) args) w) (g:Nat) (lb:Array Value) (hFg:F.fn g) (eg:∀ args w,(callFunc g args).run P w=.ok (.enter g args) w)
 (ts:List (List UInt8)) (hN:ts.length<=maxLen) (hNb:ts.length * 16<=140737488355328) (w:World) (hseq:apk F (n - 1 - 1 - 1) P g lb ts w) :
 CallsIn F n P (ρ.f 6) #[.func (.func g) #[] lb] w λe w'=>∃ v:Value,e=.returned v /\
  w'.ownsRow w.heap.size (ρ.t 26) 1 v ts.length ((ts.mergeSort (λx y=>decide (x<=y))).map encStr)/\Below w.heap.size w w':=by
 have h1:1<=n:=by omega
 have N:∀ args w,(callFunc (ρ.f 8) args).run P w=.ok (.enter (ρ.f 8) args) w:=L.f8.enters rfl;have mixed:=L.mixed; have t0:=L.t0; have a0:=L.a0; have z0:=L.z0; have v0:=L.v0; have t24:=L.t24; have a24:=L.a24; have z24:=L.z24; have v24:=L.v24; have t26:=L.t26; have a26:=L.a26; have z26:=L.z26; have v26:=L.v26; have t28:=L.t28; have a28:=L.a28; have z28:=L.z28; have v28:=L.v28;have u0:=run_underlying L.t0; have u24:=run_underlying L.t24; have u26:=run_underlying L.t26; have u28:=run_underlying L.t28;obtain ⟨_,_,FG⟩:=L.f6;refine callsIn_of_wp FG rfl h6 ?_ hro;simp only [SlBodyZ.n6_ntmps ρ,List.size_toArray,List.length_cons,List.length_nil,Nat.reduceAdd,Nat.reduceSub,Array.replicate_succ,Array.replicate_zero,List.push_toArray,List.append_toArray,List.nil_append,List.cons_append]
 gi_wp2_with (gi_at_fn (ρ.f 8); refine (collect_in { L with } F (n - 1) h8 h11 hro (by omega) g lb hFg eg ts hN hNb _ hseq).mono ?_; rintro e W ⟨v,rfl,A,hb⟩)
 rcases A.2 with ⟨rfl,hz⟩ | ⟨gb,cap,cur,rfl,hbase,hgb,r1,r2,r3,r4⟩
 ·
  have B:ts=[]:=List.eq_nil_of_length_eq_zero hz;subst B
  gi_wp2_with (gi_at_fn (ρ.f 9); refine (hsort.2 none 0 W).mono ?_; rintro e w' ⟨rfl,rfl⟩)
  go_ret;exact ⟨.slice none 0 0,rfl,by simpa using A,hb⟩
 ·
  have hH:Holds encStr W gb 0 ts.toArray:=holds_of_block hgb (by simpa using r4);have E:gb < W.heap.size:=(Array.getElem?_eq_some_iff.1 hgb).1;have I:ts.length < 4611686018427387904:=by omega
  have J:=hsort.1 gb 0 cap ts W hH E I
  gi_wp2_with (gi_at_fn (ρ.f 9); refine J.mono ?_; rintro e w' ⟨rfl,O,os,rfl⟩)
  go_ret;exact ⟨_,rfl,ownsRow_sorted (by simp) hbase hgb r1 r2 r3,hb.grown (grownBy_sorted _) hb.size (λj M=>by cases M; exact hbase)⟩
theorem sorts (m:Nat):AnyZ.SortsIn Tryz.prog Tryz.sortedZ_ren Fence.wide m :=
 ⟨λblk off cap B W hH hblk A=>callsIn_wide.2 (Tryz.slices_Sort_string blk off cap B W hH hblk A),
  λp cap W=>callsIn_wide.2 (Tryz.slices_Sort_string_none p cap W)⟩
theorem aip (n:Nat) (hn:1<=n) (Bs cap:Nat) (a:Option Addr) (ts:List (List UInt8)) (hx:ts.length<=1048576) (w:World) (hS:Strs w a (ts.map S)) (hBl:Bs < w.heap.size) (hBs:w.cell? ⟨Bs,0,none⟩=some (.slice a ts.length cap)) :
 apk Fence.wide n Tryz.prog 178 #[.pointer (some ⟨Bs,0,none⟩)] ts w:=λl J W hW A B h0 =>
 values_in Fence.wide n trivial rfl hn l Bs cap a ts hx w hS J A B W ((hW.cell (p:=⟨Bs,0,none⟩) hBl).trans hBs) h0
theorem aaf (Bs cap:Nat) (a:Option Addr) (ts:List (List UInt8)) (hx:ts.length<=1048576) (w:World) (hS:Strs w a (ts.map S)) (hBl:Bs < w.heap.size) (hBs:w.cell? ⟨Bs,0,none⟩=some (.slice a ts.length cap)) :
 Calls Tryz.prog 113 #[.func (.func 178) #[] #[.pointer (some ⟨Bs,0,none⟩)]] w λe w'=>∃ v:Value,e=.returned v /\
  w'.ownsRow w.heap.size 9 1 v ts.length ((ts.mergeSort (λx y=>decide (x<=y))).map encStr)/\Below w.heap.size w w':=by
 refine (callsIn_wide (n:=6)).1 ?_
 have:=sorted_in Tryz.sortedZ Fence.wide 6 trivial trivial trivial trivial rfl (by omega) (sorts _) (enters_of Tryz.func177 (by kernel_rfl) rfl) 178 #[.pointer (some ⟨Bs,0,none⟩)] trivial (enters_of Tryz.func178 (by kernel_rfl) rfl) ts (by unfold maxLen; omega) (by omega) w
  (aip 3 (by omega) Bs cap a ts hx w hS hBl hBs)
 exact this
end SeqW
namespace TagW
open Go.RowKit Go.Shelf Go.Maps Go.Sort OctMath NameMath
theorem acd (base:Nat) (v:Value) (ss:List (List UInt8)) (hx:ss.length<=1048576) (w0 w:World) (hb:Below base w0 w) (h:w.ownsRow base 9 1 v ss.length (ss.map encStr)) :
 Calls Tryz.prog 115 #[v] w λe w'=>(∃ a c,e=.returned (.slice a (Lib.compact ss).length c))/\Below base w0 w':=by
 rcases h.2 with ⟨rfl,hz⟩ | ⟨gb,cap,cur,rfl,hbase,hgb,r1,r2,r3,r4⟩
 ·
  have A:ss=[]:=List.eq_nil_of_length_eq_zero hz;subst A;refine (Tryz.slices_Compact_string_empty none 0 w).mono ?_;rintro e w' ⟨rfl,rfl⟩;exact ⟨⟨none,0,rfl⟩,hb⟩
 ·
  have hH:Holds encStr w gb 0 ss.toArray:=holds_of_block hgb (by simpa using r4);refine (Tryz.slices_Compact_string gb 0 cap ss w hH (by omega) (by omega)).mono ?_;rintro e w' ⟨rfl,q,rfl⟩;exact ⟨⟨_,_,rfl⟩,Lib.below_putRow hb hbase⟩
theorem ak6 (a:Option Addr) (cap:Nat) (ts:List (List UInt8)) (hx:ts.length<=1048576) (w:World) (hS:Strs w a (ts.map S)) :
 Calls Tryz.prog 59 #[.slice a ts.length cap] w λe w'=>∃ v,e=.returned v/\w'.ownsRow w.heap.size 9 1 v ts.length (ts.map encStr)/\Below w.heap.size w w':=by
 cases a with
 | none =>
   have A:ts=[]:=by
    cases ts with
    | nil=>rfl
    | cons t r=>obtain ⟨b,off,h,_⟩:=hS 0 (by simp); cases h
   subst A;refine (Tryz.slices_Clone_string_nil 0 cap w).mono ?_;rintro e w' ⟨rfl,rfl⟩;exact ⟨_,rfl,⟨rfl,.inl ⟨rfl,rfl⟩⟩,Below.refl _ _⟩
 | some p =>
   by_cases h0:ts=[]
   . subst h0
     refine (Tryz.slices_Clone_string_zero p cap w).mono ?_;rintro e w' ⟨v,rfl,h,_,hb⟩;exact ⟨v,rfl,h,hb⟩
   ·
    have hp:p.spot=none:=by
     obtain ⟨b,off,h,_⟩:=hS 0 (by rw [List.length_map]; exact List.length_pos_iff.2 h0)
     cases h; rfl
    obtain ⟨b,off,sp⟩:=p
    cases hp
    have hc:∀ j,j < (ts.map S).length->w.cell? ⟨b,off+j,none⟩=some (.string ((ts.map S).getD j ByteArray.empty)):=λj B=>by
     obtain ⟨I,E,h,hc⟩:=hS j B
     cases h
     rw [hc];rw [List.getD_eq_getElem?_getD,List.getElem?_eq_getElem B]; rfl
    refine (Tryz.slices_Clone_string b off ts.length cap (ts.map S) w (by simp) (by omega) hc).mono ?_;rintro e w' ⟨v,rfl,h,_,hb⟩;refine ⟨v,rfl,?_,hb⟩
    have F:((ts.map S).take ts.length).map Value.string=ts.map encStr:=by
     rw [List.take_of_length_le (by simp),List.map_map]; rfl
    rwa [F] at h
def apl (ts:List (List UInt8)):Bool:=decide ((Lib.compact (ts.mergeSort (λx y=>decide (x<=y)))).length < ts.length)
attribute [local go_sem] Oper.semAt_some
theorem adk (a:Option Addr) (n cap:Nat) (w:World) :
 Calls Tryz.prog 114 #[.slice a n cap] w λe w'=>e=.returned (.func (.func 178) #[] #[.pointer (some ⟨w.heap.size,0,none⟩)])/\w'=w.alloc (.cells #[.slice a n cap] 40):=by
 go_enter Tryz.func114,Tryz.ntmps114;go_wp2_with fail;go_ret;exact ⟨rfl,rfl⟩
end TagW
namespace DupMath
open Go.RowKit OctMath NameMath
def leL (x y:List UInt8):Bool:=decide (x<=y)
theorem afk (ts:List (List UInt8)):List.Pairwise (λa b=>leL a b=true) (ts.mergeSort leL) :=
 List.pairwise_mergeSort (le:=leL) (λa b c h k=>by unfold leL at *; exact decide_eq_true (List.le_trans (of_decide_eq_true h) (of_decide_eq_true k))) (λa b=>by
  unfold leL
  rcases List.le_total a b with h | h
  . rw [decide_eq_true h]; rfl
  . rw [decide_eq_true h,Bool.or_true]) ts
theorem afl {s:List (List UInt8)} (h:List.Pairwise (λa b=>leL a b=true) s):s.Nodup↔∀ j,0 < j->j < s.length->s[j]!≠s[j - 1]! := by
 have hp:=List.pairwise_iff_getElem.1 h
 constructor
 . intro B j h0 A e
   rw [getElem!_pos s j A,getElem!_pos s (j - 1) (by omega)] at e;exact List.pairwise_iff_getElem.1 B (j - 1) j (by omega) A (by omega) e.symm
 ·
  intro E;refine List.pairwise_iff_getElem.2 λi j F A I e=>?_
  have h1:s[i]<=s[j - 1]:=by
   by_cases e':i=j - 1
   . subst e'; exact List.le_refl _
   . exact of_decide_eq_true (hp i (j - 1) F (by omega) (by omega))
  have J:s[j - 1]<=s[j]:=of_decide_eq_true (hp (j - 1) j (by omega) A (by omega));have M:s[j - 1]=s[j]:=List.le_antisymm J (by rw [<- e]; exact h1);have:=E j (by omega) A;rw [getElem!_pos s j A,getElem!_pos s (j - 1) (by omega)] at this;exact this M.symm
theorem aiq (s:List (List UInt8)):(Lib.compact s).length < s.length↔¬ ∀ j,0 < j->j < s.length->s[j]!≠s[j - 1]! := by
 have E:(Lib.compact s).length<=s.length:=by
  unfold Lib.compact Lib.compactUpTo;rw [List.length_map];exact Nat.le_trans (List.length_filter_le _ _) (by simp)
 have key:(Lib.compact s).length=s.length↔∀ j,0 < j->j < s.length->s[j]!≠s[j - 1]! := by
  unfold Lib.compact Lib.compactUpTo;rw [List.length_map];have e:((List.range s.length).filter (Lib.keeps s.toArray)).length=s.length↔((List.range s.length).filter (Lib.keeps s.toArray)).length=(List.range s.length).length:=by rw [List.length_range]
  rw [e,List.length_filter_eq_length_iff]
  constructor
  ·
   intro h j h0 A;have:=h j (List.mem_range.2 A);unfold Lib.keeps at this;simp at this
   rcases this with h | h
   . omega
   . simpa using h
  ·
   intro h j A;have B:=List.mem_range.1 A;unfold Lib.keeps;simp
   by_cases h0:j=0
   . exact .inl h0
   . exact .inr (by simpa using h j (by omega) B)
 constructor
 . intro h F; have:=key.2 F; omega
 . intro h
   have:(Lib.compact s).length≠s.length:=λe=>h (key.1 e)
   omega
theorem aez (ts:List (List UInt8)):TagW.apl ts=true↔¬ ts.Nodup:=by
 have hp:=List.mergeSort_perm ts leL;have h1:TagW.apl ts=decide ((Lib.compact (ts.mergeSort leL)).length < ts.length):=rfl;rw [h1,decide_eq_true_eq,<- hp.length_eq,aiq,<- afl (afk ts),hp.nodup_iff]
end DupMath
namespace RecW
open Go.RowKit OctMath RecMath NameMath
theorem S_toList (l:List UInt8):(S l).toList=l:=by rw [ByteArray.toList_eq,jv]
theorem anj (g:Nat) (w:World):Sem.run Tryz.prog (binOp .eql 119 (.func (.func g) #[] #[]) .nilFunc) w=.ok (.bool false) w:=by
 rfl
theorem apm (n:Int) (w:World):Calls Tryz.prog 237 #[.int .i64 n] w λe w'=>e=.returned (.bool (gq n))/\Drawn w w':=by
 by_cases h1:n < 0
 ·
  have hb:gq n=true:=by unfold gq; rw [decide_eq_true h1]; rfl
  rw [hb];clear hb;go_enter Tryz.func237,Tryz.ntmps237;go_wp2_with fail;go_ret;exact ⟨rfl,Drawn.refl _⟩
 ·
  have hb:gq n=decide (1099511627776 < n):=by unfold gq; rw [decide_eq_false h1]; rfl
  rw [hb];clear hb;go_enter Tryz.func237,Tryz.ntmps237;go_wp2_with fail;go_ret;exact ⟨rfl,Drawn.refl _⟩
theorem za (n:Nat) (hn:n<=1099511627776) (w:World):Calls Tryz.prog 80 #[.int .i64 (n:Int)] w λe w'=>e=.returned (.string (S (noughts n)))/\Below w.heap.size w w':=by
 have c:=zq (Tryz.strings_Repeat (S [0]) n w (by omega) (by rw [ah]; simp; omega))
 have A:(⟨(Lib.repeatL (S [0]).data.toList n).toArray⟩:ByteArray)=S (noughts n):=by
  have h:∀ k,Lib.repeatL [(0:UInt8)] k=List.replicate k 0:=by
   intro k
   induction k with
   | zero=>rfl
   | succ k ih=>rw [Lib.repeatL,ih]; rfl
  unfold S noughts;rw [show ((⟨([0]:List UInt8).toArray⟩:ByteArray)).data.toList=[0] from rfl,h]
 rw [A] at c;generalize noughts n=z at *
 go_enter Tryz.func80,Tryz.ntmps80;go_wp2_with fail;refine c.o.mono ?_;rintro e w' ⟨rfl,hb⟩;have B:=zq hb;clear hb;go_wp2_with fail;go_ret;exact ⟨rfl,B.o⟩
theorem nums_any (g:Nat) (l:List Int) (hl:l.length<=1048576) (hne:l≠[]) (w:World) (hr:∀ j,j < l.length->w.cell? ⟨g,j,none⟩=some (.int .i64 l[j]!)) :
 Calls Tryz.prog 203 #[.slice (some ⟨g,0,none⟩) l.length l.length] w λe w'=>e=.returned (.bool (!(l.any gq)))/\Drawn w w':=by
 have c:=zq (Tryz.slices_ContainsFunc (λn:Int=>Value.int .i64 n) gq 237 #[] (enters_of Tryz.func237 (by kernel_rfl) rfl) g 0 l.length l.length l w (λW x _=>apm x W) (Nat.le_refl _) (by omega) (λj A=>by rw [Nat.zero_add]; exact hr j A));rw [List.take_length] at c;generalize l.any gq=z at *
 generalize l.length=n at *
 go_enter Tryz.func203,Tryz.ntmps203;go_wp2_with fail;refine c.o.mono ?_;rintro e w' ⟨rfl,q,rfl⟩;go_wp2_with fail;go_ret;exact ⟨rfl,⟨_,rfl⟩⟩
theorem aj1 (l:List UInt8) (hl:l.length<=1099511627776) (W:World):Calls Tryz.prog 54 #[.string (S l)] W λe w'=>e=.returned (.bool (og l))/\Below W.heap.size W w':=by
 have X:=ah;have Y:=S_toList
 by_cases h0:l=[]
 ·
  have hb:og l=false:=by subst h0; rfl
  rw [hb];subst h0;clear hb;go_enter Tryz.func54,Tryz.ntmps54;go_wp2_with fail;go_ret;exact ⟨rfl,Below.refl _ _⟩
 ·
  have Z:l.isEmpty=false:=by cases l with | nil=>exact absurd rfl h0 | cons _ _=>rfl
  by_cases h1:16 < l.length
  ·
   have hb:og l=false:=by unfold og; rw [decide_eq_false (by omega:¬ l.length<=16)]; simp
   rw [hb];clear hb;go_enter Tryz.func54,Tryz.ntmps54;go_wp2_with fail;go_ret;exact ⟨rfl,Below.refl _ _⟩
  ·
   have hb:og l=l.all ll:=by unfold og; rw [decide_eq_true h0,decide_eq_true (by omega:l.length<=16)]; simp
   rw [hb];clear hb h0;have R:l.length<=16:=by omega
   go_enter Tryz.func54,Tryz.ntmps54;go_wp2_with fail;go_loopw [13] (λi wr=>∃ k:Nat,k<=l.length/\i=.int .i64 (k:Int)/\Zq ((l.take k).all ll=true)/\Zq (Below W.heap.size W wr)) (λi _=>l.length+1 - (intOf i).toNat)
   case atStart=>exact ⟨0,by omega,rfl,rfl,Below.refl _ _⟩
   case round =>
    obtain ⟨k,hk,rfl,M,N⟩:=hrel
    by_cases hlt:k < l.length
    ·
     have A:(l.take (k+1)).all ll=((l.take k).all ll && ll l[k]):=by rw [List.take_succ_eq_append_getElem hlt,List.all_append,List.all_cons,List.all_nil,Bool.and_true]
     have F:ll l[k]=false->l.all ll=false:=λh=>by rw [List.all_eq_false]; exact ⟨l[k],List.getElem_mem hlt,by rw [h]; simp⟩
     have I:=zq A;have B:=zq F;clear A F;have E:k < (S l).size:=by rw [ah]; exact hlt
     have J:((S l)[k]'E).toNat=l[k].toNat:=by rfl
     cases hks:ll l[k] with
     | true =>
       have U:(l.take (k+1)).all ll=true:=by rw [I.o,M.o,Bool.true_and]; exact hks
       have O:=zq U;unfold ll at hks;simp only [Bool.and_eq_true,decide_eq_true_eq] at hks;have q1:¬ (((S l)[k]'E).toNat:Int) < 33:=by omega
       have q2:¬ 126 < (((S l)[k]'E).toNat:Int):=by omega
       clear I B M U hks J;go_wp2_with fail;go_roundw
       case rel=>exact ⟨k+1,by omega,by go_num,O.o,N.o⟩
       case measure=>simp [intOf]; omega
     | false =>
       have O:Zq (l.all ll=false):=B.o hks;unfold ll at hks;rw [Bool.and_eq_false_iff,decide_eq_false_iff_not,decide_eq_false_iff_not] at hks;clear I B M
       by_cases q1:(((S l)[k]'E).toNat:Int) < 33
       . clear hks J
         go_wp2_with fail;go_ret;rw [O.o];exact ⟨rfl,N.o⟩
       . have q2:126 < (((S l)[k]'E).toNat:Int):=by omega
         clear hks J;go_wp2_with fail;go_ret;rw [O.o];exact ⟨rfl,N.o⟩
    ·
     have ek:k=l.length:=by omega
     subst ek;rw [List.take_length] at M;go_wp2_with fail;go_ret;rw [M.o];exact ⟨rfl,N.o⟩
theorem agd (a:Option Addr) (cap:Nat) (ts:List (List UInt8)) (hx:ts.length<=1048576) (hz:∀ t∈ts,t.length<=1099511627776) (W:World) (h:Strs W a (ts.map S)) :
 Calls Tryz.prog 53 #[.func (.func 54) #[] #[],.slice a ts.length cap] W λe w'=>e=.returned (.bool (ts.all og))/\Below W.heap.size W w':=by
 have Z:=enters_of Tryz.func54 (by kernel_rfl) rfl;have U:=zq h;clear h;go_enter Tryz.func53,Tryz.ntmps53;go_wp2_with fail;go_loopw [9] (λi wr=>∃ k:Nat,k<=ts.length/\i=.int .i64 (k:Int)/\Zq ((ts.take k).all og=true)/\Zq (Below W.heap.size W wr)) (λi _=>ts.length+1 - (intOf i).toNat)
 case atStart=>exact ⟨0,by omega,rfl,rfl,Below.refl _ _⟩
 case round =>
  obtain ⟨k,hk,rfl,J,M⟩:=hrel
  by_cases hlt:k < ts.length
  ·
   obtain ⟨b,off,rfl,A⟩:=(U.o.below M.o) k (by rw [List.length_map]; exact hlt);rw [List.getElem_map] at A;have B:(ts.take (k+1)).all og=((ts.take k).all og && og ts[k]):=by rw [List.take_succ_eq_append_getElem hlt,List.all_append,List.all_cons,List.all_nil,Bool.and_true]
   have F:og ts[k]=false->ts.all og=false:=λh=>by rw [List.all_eq_false]; exact ⟨ts[k],List.getElem_mem hlt,by rw [h]; simp⟩
   have R:=λw=>aj1 ts[k] (hz _ (List.getElem_mem hlt)) w
   generalize ts[k]=t at *
   have I:=zq B;have E:=zq F;clear B F;have X:=λw=>anj 54 w
   generalize og t=p at *
   go_wp2_with fail;refine (R _).mono ?_;rintro e w2 ⟨rfl,hb⟩;have N:=zq (M.o.trans (hb.mono M.o.size));clear hb R A M
   cases p with
   | true =>
     have O:Zq ((ts.take (k+1)).all og=true):=by show _=_; rw [I.o,J.o]; rfl
     clear I E J;go_wp2_with fail;go_roundw
     case rel=>exact ⟨k+1,by omega,by go_num,O,N⟩
     case measure=>simp [intOf]; omega
   | false =>
     have O:Zq (ts.all og=false):=E.o rfl;clear I E J;go_wp2_with fail;go_ret;rw [O.o];exact ⟨rfl,N.o⟩
  ·
   have Y:k=ts.length:=by omega
   subst Y;rw [List.take_length] at J;go_wp2_with fail;go_ret;rw [J.o];exact ⟨rfl,M.o⟩
def ae (m:Msg) (a:Option Addr) (c:Nat):Array Value:=#[.int .i64 m.kind,.int .i64 m.queue,.int .i64 m.due,.int .i64 m.retry,.int .i64 m.ref,.int .i64 m.born,.string (S m.topic),.string (S m.tag),.string (S m.body),.slice a m.keys.length c]
def inI (n:Int):Prop := -9223372036854775808<=n/\n<=9223372036854775807
structure um (m:Msg):Prop where
 kind:inI m.kind
 queue:inI m.queue
 due:inI m.due
 retry:inI m.retry
 ref:inI m.ref
 born:inI m.born
 topic:m.topic.length<=1073741824
 tag:m.tag.length<=1073741824
 body:m.body.length<=1073741824
 keys:m.keys.length<=1048576
 key:∀ t∈m.keys,t.length<=1073741824
def Boxed (w:World) (B:Nat) (cs:Array Value):Prop:=∀ (k:Nat) (v:Value),cs[k]?=some v->w.cell? ⟨B,k,none⟩=some v
theorem mr {w:World} {A:Nat} {m:Msg} {a:Option Addr} {c:Nat} (h:Boxed w A (ae m a c)):w.cell? ⟨A,0,none⟩=some (.int .i64 m.kind)/\w.cell? ⟨A,1,none⟩=some (.int .i64 m.queue)/\w.cell? ⟨A,2,none⟩=some (.int .i64 m.due)/\w.cell? ⟨A,3,none⟩=some (.int .i64 m.retry)/\w.cell? ⟨A,4,none⟩=some (.int .i64 m.ref)/\w.cell? ⟨A,5,none⟩=some (.int .i64 m.born)/\w.cell? ⟨A,6,none⟩=some (.string (S m.topic))/\w.cell? ⟨A,7,none⟩=some (.string (S m.tag))/\w.cell? ⟨A,8,none⟩=some (.string (S m.body))/\w.cell? ⟨A,9,none⟩=some (.slice a m.keys.length c):=⟨h 0 _ rfl,h 1 _ rfl,h 2 _ rfl,h 3 _ rfl,h 4 _ rfl,h 5 _ rfl,h 6 _ rfl,h 7 _ rfl,h 8 _ rfl,h 9 _ rfl⟩
theorem Boxed.below {W w:World} {B:Nat} {cs:Array Value} (h:Boxed W B cs) (hb:Below W.heap.size W w):Boxed w B cs:=λk v e=>by
 have hc:=h k v e;rw [hb.cell (bq hc)]; exact hc
theorem Boxed.new (w:World) (cs:Array Value) (e:TypeId):Boxed (w.alloc (.cells cs e)) w.heap.size cs:=λk v h=>by rw [World.cell?_alloc_new]; exact h
theorem Strs.below {W w:World} {a:Option Addr} {ts:List ByteArray} (h:Strs W a ts) (hb:Below W.heap.size W w):Strs w a ts:=(Row1.of_strs h |>.below hb).to_strs
theorem abb (n:Nat) (xs:List Int) (h1:1<=n) (h7:n<=7) (h:∀ x∈xs,OctW.fits n x):OctW.ma (n:Int) xs=(OctW.numsL n xs,0):=by
 unfold OctW.ma;rw [if_neg (by omega),Int.toNat_natCast,if_pos h]
theorem zb (w:World) (xs:List Int) (e:TypeId):OctW.Ints (w.alloc (.cells (xs.map λx=>Value.int .i64 x).toArray e)) (some ⟨w.heap.size,0,none⟩) xs:=λi A =>
 ⟨_,0,rfl,by rw [Nat.zero_add,World.cell?_alloc_new]; simp [A]⟩
theorem agf (w:World) (xs:List ByteArray) (e:TypeId):Strs (w.alloc (.cells (xs.map λx=>Value.string x).toArray e)) (some ⟨w.heap.size,0,none⟩) xs:=λi A =>
 ⟨_,0,rfl,by rw [Nat.zero_add,World.cell?_alloc_new]; simp [A]⟩
theorem air (a:Option Addr) (cap:Nat) (ts:List (List UInt8)) (hx:ts.length<=1048576) (W:World) (hS:Strs W a (ts.map S)) :
 Calls Tryz.prog 238 #[.slice a ts.length cap] W λe w'=>e=.returned (.bool (decide ts.Nodup))/\Below W.heap.size W w':=by
 have N:=zq (TagW.adk a ts.length cap W);have B:Zq (Below W.heap.size W (W.alloc (.cells #[.slice a ts.length cap] 40))):=(Below.refl _ _).alloc (Nat.le_refl _) _;have F:=zq (SeqW.aaf W.heap.size cap a ts hx (W.alloc (.cells #[.slice a ts.length cap] 40)) (Strs.below hS B.o) (by simp) (by rw [World.cell?_alloc_new]; rfl));have A:(ts.mergeSort (λx y=>decide (x<=y))).length=ts.length:=List.length_mergeSort _
 have I:Zq (decide ts.Nodup=!decide ((Lib.compact (ts.mergeSort (λx y=>decide (x<=y)))).length < ts.length)):=by
  have h1:=DupMath.aez ts;unfold TagW.apl at h1;rw [decide_eq_true_eq] at h1;show _=_
  by_cases h:ts.Nodup
  . rw [decide_eq_true h,decide_eq_false (λR=>h1.1 R h)]; rfl
  . rw [decide_eq_false h,decide_eq_true (h1.2 h)]; rfl
 have U:(Lib.compact (ts.mergeSort (λx y=>decide (x<=y)))).length<=ts.length:=by
  rw [<- A];unfold Lib.compact Lib.compactUpTo;rw [List.length_map];exact Nat.le_trans (List.length_filter_le _ _) (by simp)
 generalize ts.mergeSort (λx y=>decide (x<=y))=ss at *
 clear hS;go_enter Tryz.func238,Tryz.ntmps238;go_wp2_with fail;refine N.o.mono ?_;rintro e w2 ⟨rfl,rfl⟩;clear N;go_wp2_with fail;refine F.o.mono ?_;rintro e w3 ⟨v,rfl,E,hb⟩;have M:=zq (B.o.trans (hb.mono B.o.size));have O:=zq (TagW.acd W.heap.size v ss (by omega) W w3 M.o (by rw [A]; exact SeqW.own_base E B.o.size));generalize (Lib.compact ss).length=cn at *
 generalize ts.length=tn at *
 clear E hb F A;go_wp2_with fail;refine O.o.mono ?_;rintro e w4 ⟨⟨a4,c4,rfl⟩,hb⟩;have J:=zq hb;clear hb O
 by_cases h:cn=tn
 ·
  subst h;go_wp2_with fail;go_ret;exact ⟨ax (by rw [I.o]; simp),J.o⟩
 ·
  have X:¬ (cn:Int)=(tn:Int):=by omega
  go_wp2_with fail;go_ret;exact ⟨ax (by rw [I.o,decide_eq_true (by omega:cn < tn)]; first | rfl | (simp; omega)),J.o⟩
theorem agh (n:Int) (h1 : -9223372036854775808<=n) (h2:n<=1099511627776) (w:World) :
 Calls Tryz.prog 181 #[.int .i64 n] w λe w'=>e=.returned (.tuple #[.string (S (mg n)),.bool (decide (3<=n/\n<=1024))])/\Below w.heap.size w w':=by
 by_cases ha:n < 3
 ·
  have A:mg n=[]:=by unfold mg; rw [if_pos (.inl ha)]
  rw [A,decide_eq_false (by omega)];clear A;go_enter Tryz.func181,Tryz.ntmps181;go_wp2_with fail;go_ret2;exact ⟨rfl,Below.refl _ _⟩
 ·
  by_cases hb:1024 < n
  ·
   have A:mg n=[]:=by unfold mg; rw [if_pos (.inr hb)]
   rw [A,decide_eq_false (by omega)];clear A;go_enter Tryz.func181,Tryz.ntmps181;go_wp2_with fail;go_ret2;exact ⟨rfl,Below.refl _ _⟩
  ·
   obtain ⟨k,rfl⟩:∃ k:Nat,n=(k:Int):=⟨n.toNat,by omega⟩;rw [decide_eq_true (by omega)];have A:mg (k:Int)=90 :: be 2 k++noughts (k - 3):=by unfold mg; rw [if_neg (by omega),Int.toNat_natCast]
   have O:Zq (S [90]++S (be 2 k)++S (noughts (k - 3))=S (mg (k:Int))):=by show _=_; rw [gm,gm,A]; rfl
   have B:Zq (Below w.heap.size w (w.alloc (.cells #[.int .i64 (k:Int)] 3))):=(Below.refl _ _).alloc (Nat.le_refl _) _
   have E:OctW.ma 2 [(k:Int)]=(be 2 k,0):=by
    rw [show (2:Int)=((2:Nat):Int) from rfl,abb 2 _ (by omega) (by omega) (λx N=>by rw [List.mem_singleton] at N; subst N; exact ⟨by omega,by show (k:Int) < ((256 ^ 2:Nat):Int); omega⟩)];simp [OctW.numsL]
   have R:=zq (OctW.nums_any 2 (by omega) (by omega) (some ⟨w.heap.size,0,none⟩) 1 [(k:Int)] (by simp) (λx N=>by simp at N; omega) (w.alloc (.cells #[.int .i64 (k:Int)] 3)) (zb w [(k:Int)] _));rw [E] at R;have F:((k - 3:Nat):Int)=(k:Int) - 3:=by omega
   have U:=zq (λ(w2:World)=>za (k - 3) (by omega) w2);rw [F] at U;have Y:(S (be 2 k)).size=2:=by rw [ah,bf]
   have Z:(S (noughts (k - 3))).size<=1024:=by rw [ah]; unfold noughts; simp; omega
   generalize S (be 2 k)=s1 at *
   generalize S (noughts (k - 3))=s2 at *
   clear E A F;go_enter Tryz.func181,Tryz.ntmps181;go_wp2_with fail;refine R.o.mono ?_;rintro e w2 ⟨rfl,I⟩;have J:=zq (B.o.trans (I.mono B.o.size));clear I R;go_wp2_with fail;refine (U.o _).mono ?_;rintro e w3 ⟨rfl,M⟩;have X:=zq (J.o.trans (M.mono J.o.size));clear M U;go_wp2_with fail;go_ret2;exact ⟨by rw [<- O.o]; rfl,X.o⟩
theorem ze (m:Msg) (hm:um m) (a:Option Addr) (c:Nat) (W:World) (hS:Strs W a (m.keys.map S)) :
 Calls Tryz.prog 204 #[.agg (ae m a c)] W λe w'=>e=.returned (.bool (cu m))/\Below W.heap.size W w':=by
 have M:Zq (Below W.heap.size W (W.alloc (.cells (ae m a c) 69))):=(Below.refl _ W).alloc (Nat.le_refl _) _;have HX:Zq (Boxed (W.alloc (.cells (ae m a c) 69)) W.heap.size (ae m a c)):=Boxed.new W _ _;have ao:=zq (Strs.below hS M.o);have X:=zq (λw=>NameW.abw m.topic (by have:=hm.topic; omega) w);have Y:=zq (λw=>NameW.aj0 m.tag (by have:=hm.tag; omega) w);have Z:=zq (λw (h:Strs w a (m.keys.map S))=>agd a c m.keys hm.keys (λt ht=>by have:=hm.key t ht; omega) w h);have ab:=zq (λw (h:Strs w a (m.keys.map S))=>air a c m.keys hm.keys w h);have E:Zq (cu m=(lc m.topic && decide (0<=m.queue) && decide (m.queue < 3) && decide (0<=m.retry) && decide (m.retry<=4) && (m.tag.isEmpty || ig m.tag) && decide (m.keys.length<=3) && m.keys.all og && decide m.keys.Nodup && decide (m.body.length<=200))):=rfl;have a8:=ah;have ap:(ae m a c).size=10:=rfl;have ba:m.keys.length<=1048576:=hm.keys;have bb:m.body.length<=1073741824:=hm.body;clear hm hS;go_enter Tryz.func204,Tryz.ntmps204;go_upto_region 1 with fail
 generalize W.alloc (.cells (ae m a c) 69)=w1 at *
 clear ap;obtain ⟨A,J⟩:∃ A,W.heap.size=A:=⟨_,rfl⟩;rw [J] at HX M ⊢;have k6:w1.cell? ⟨A,6,none⟩=some (.string (S m.topic)):=HX.o 6 _ rfl;go_wp2_with fail;refine (X.o w1).mono ?_;rintro e w2 ⟨rfl,hb⟩;have I:=zq (M.o.trans (hb.mono (by have h9:=M.o.size; omega)));have N:Zq (Boxed w2 A (ae m a c)):=HX.o.below hb;have av:=zq (Strs.below ao.o hb);clear hb;generalize lc m.topic=tp at *
 cases tp with
 | false =>
   have B:cu m=false:=by rw [E.o]; simp
   have F:=zq B;clear B E;go_wp2_with fail;go_ret;exact ⟨ax (by rw [F.o]),J ▸ I.o⟩
 | true =>
   have k1:w2.cell? ⟨A,1,none⟩=some (.int .i64 m.queue):=N.o 1 _ rfl;have k3:w2.cell? ⟨A,3,none⟩=some (.int .i64 m.retry):=N.o 3 _ rfl;have k7:w2.cell? ⟨A,7,none⟩=some (.string (S m.tag)):=N.o 7 _ rfl
   by_cases h1:0<=m.queue
   case neg =>
    have B:cu m=false:=by rw [E.o]; rw [decide_eq_false h1]; simp
    have F:=zq B;clear B E;go_wp2_with fail;go_ret;exact ⟨ax (by rw [F.o]),J ▸ I.o⟩
   by_cases h2:m.queue < 3
   case neg =>
    have B:cu m=false:=by rw [E.o]; rw [decide_eq_false h2]; simp
    have F:=zq B;clear B E;go_wp2_with fail;go_ret;exact ⟨ax (by rw [F.o]),J ▸ I.o⟩
   by_cases h3:0<=m.retry
   case neg =>
    have B:cu m=false:=by rw [E.o]; rw [decide_eq_false h3]; simp
    have F:=zq B;clear B E;go_wp2_with fail;go_ret;exact ⟨ax (by rw [F.o]),J ▸ I.o⟩
   by_cases h4:m.retry<=4
   case neg =>
    have B:cu m=false:=by rw [E.o]; rw [decide_eq_false h4]; simp
    have F:=zq B;clear B E;go_wp2_with fail;go_ret;exact ⟨ax (by rw [F.o]),J ▸ I.o⟩
   go_wp2_with fail;refine (Y.o w2).mono ?_;rintro e w3 ⟨rfl,hb⟩;have O:=zq (I.o.trans (hb.mono (by have h9:=I.o.size; omega)));have ac:Zq (Boxed w3 A (ae m a c)):=N.o.below hb;have ad:=zq (Strs.below av.o hb);clear hb;generalize (m.tag.isEmpty || ig m.tag)=tg at *
   cases tg with
   | false =>
     have B:cu m=false:=by rw [E.o]; simp
     have F:=zq B;clear B E;go_wp2_with fail;go_ret;exact ⟨ax (by rw [F.o]),J ▸ O.o⟩
   | true =>
     have k9:w3.cell? ⟨A,9,none⟩=some (.slice a m.keys.length c):=ac.o 9 _ rfl
     by_cases h5:m.keys.length<=3
     case neg =>
      have B:cu m=false:=by rw [E.o]; rw [decide_eq_false h5]; simp
      have F:=zq B;clear B E;go_wp2_with fail;go_ret;exact ⟨ax (by rw [F.o]),J ▸ O.o⟩
     go_wp2_with fail;refine (Z.o w3 ad.o).mono ?_;rintro e w4 ⟨rfl,hb⟩;have R:=zq (O.o.trans (hb.mono (by have h9:=O.o.size; omega)));have al:Zq (Boxed w4 A (ae m a c)):=ac.o.below hb;have am:=zq (Strs.below ad.o hb);clear hb;generalize m.keys.all og=ak at *
     cases ak with
     | false =>
       have B:cu m=false:=by rw [E.o]; simp
       have F:=zq B;clear B E;go_wp2_with fail;go_ret;exact ⟨ax (by rw [F.o]),J ▸ R.o⟩
     | true =>
       have bc:w4.cell? ⟨A,9,none⟩=some (.slice a m.keys.length c):=al.o 9 _ rfl;go_wp2_with fail;refine (ab.o w4 am.o).mono ?_;rintro e w5 ⟨rfl,hb⟩;have U:=zq (R.o.trans (hb.mono (by have h9:=R.o.size; omega)));have a1:Zq (Boxed w5 A (ae m a c)):=al.o.below hb;have bd:=zq (Strs.below am.o hb);clear hb;generalize decide m.keys.Nodup=nd at *
       cases nd with
       | false =>
         have B:cu m=false:=by rw [E.o]; simp
         have F:=zq B;clear B E;go_wp2_with fail;go_ret;exact ⟨ax (by rw [F.o]),J ▸ U.o⟩
       | true =>
         have k8:w5.cell? ⟨A,8,none⟩=some (.string (S m.body)):=a1.o 8 _ rfl;have B:cu m=decide (m.body.length<=200):=by rw [E.o,decide_eq_true h1,decide_eq_true h2,decide_eq_true h3,decide_eq_true h4,decide_eq_true h5]; simp
         have F:=zq B;clear B E
         by_cases h6:m.body.length<=200
         case pos =>
          go_wp2_with fail;go_ret;exact ⟨ax (by rw [F.o]; simp; first | exact h6 | omega),J ▸ U.o⟩
         case neg =>
          go_wp2_with fail;go_ret;exact ⟨ax (by rw [F.o]; simp; first | exact h6 | omega),J ▸ U.o⟩
theorem ak7 {a b:List (List UInt8)}:a.map S=b.map S↔a=b:=by
 constructor
 ·
  intro h;have:=congrArg (List.map λx:ByteArray=>x.data.toList) h;rw [List.map_map,List.map_map] at this;have e:((λx:ByteArray=>x.data.toList) ∘ S)=id:=by funext x; exact jv x
  rwa [e,List.map_id,List.map_id] at this
 . rintro rfl; rfl
theorem ak8 (a b:Option Addr) (c d:Nat) (xs ys:List (List UInt8)) (hx:xs.length<=1048576) (hy:ys.length<=1048576) (w:World) (h:Strs w a (xs.map S)) (h2:Strs w b (ys.map S)) :
 Calls Tryz.prog 239 #[.slice a xs.length c,.slice b ys.length d] w λe w'=>e=.returned (.bool (decide (xs=ys)))/\Drawn w w':=by
 by_cases hl:xs.length=ys.length
 ·
  rcases Nat.eq_zero_or_pos xs.length with h0 | h0
  ·
   have F:xs=[]:=List.eq_nil_of_length_eq_zero h0;have I:ys=[]:=List.eq_nil_of_length_eq_zero (hl.symm.trans h0);subst F I;refine (Tryz.slices_Equal_string_empty a b c 0 d w (by omega)).mono ?_;rintro e w' ⟨rfl,rfl⟩;exact ⟨rfl,Drawn.refl _⟩
  ·
   obtain ⟨J,M,rfl,_⟩:=h 0 (by rw [List.length_map]; omega);obtain ⟨N,O,rfl,_⟩:=h2 0 (by rw [List.length_map]; omega)
   have hc:∀ {b o:Nat} {B:List (List UInt8)},Strs w (some ⟨b,o,none⟩) (B.map S)->∀ j,j < (B.map S).length->w.cell? ⟨b,o+j,none⟩=some (.string ((B.map S).getD j ByteArray.empty)):=by
    intro b o B R j E;obtain ⟨U,X,e,A⟩:=R j E
    cases e
    rw [A];simp [List.getD_eq_getElem?_getD,List.getElem?_eq_getElem E]
   have:=Tryz.slices_Equal_string J M xs.length c N O ys.length d (xs.map S) (ys.map S) w (by simp) (by simp) (by omega) (by omega) (hc h) (hc h2);refine this.mono ?_;rintro e w' ⟨rfl,q,rfl⟩;refine ⟨?_,⟨q,rfl⟩⟩;rw [List.take_of_length_le (by simp),List.take_of_length_le (by simp)];congr 2;exact decide_eq_decide.2 ak7
 . refine (Tryz.slices_Equal_string_lens a b xs.length c ys.length d w hl).mono ?_
   rintro e w' ⟨rfl,rfl⟩;exact ⟨ax (decide_eq_false (λe=>hl (by rw [e]))).symm,Drawn.refl _⟩
theorem agi (x y:Msg) (hx:um x) (hy:um y) (a b:Option Addr) (c d:Nat) (W:World) (hS:Strs W a (x.keys.map S)) (hS2:Strs W b (y.keys.map S)) :
 Calls Tryz.prog 205 #[.agg (ae x a c),.agg (ae y b d)] W λe w'=>e=.returned (.bool (decide (x=y)))/\Below W.heap.size W w':=by
 have E:Zq (Below W.heap.size W ((W.alloc (.cells (ae x a c) 69)).alloc (.cells (ae y b d) 69))):=((Below.refl _ W).alloc (Nat.le_refl _) _).alloc (by simp) _;have I:Zq (Boxed ((W.alloc (.cells (ae x a c) 69)).alloc (.cells (ae y b d) 69)) W.heap.size (ae x a c)):=(Boxed.new W _ _).below ((Below.refl _ _).alloc (Nat.le_refl _) _)
 have J:Zq (Boxed ((W.alloc (.cells (ae x a c) 69)).alloc (.cells (ae y b d) 69)) (W.heap.size+1) (ae y b d)):=by
  have:=Boxed.new (W.alloc (.cells (ae x a c) 69)) (ae y b d) 69;rw [World.size_alloc] at this; exact this
 have N:=zq (ak8 a b c d x.keys y.keys hx.keys hy.keys _ (Strs.below hS E.o) (Strs.below hS2 E.o));have U:=S_toList;have O:(ae x a c).size=10:=rfl;have R:(ae y b d).size=10:=rfl;clear hx hy hS hS2;go_enter Tryz.func205,Tryz.ntmps205;go_upto_region 1 with fail
 generalize (W.alloc (.cells (ae x a c) 69)).alloc (.cells (ae y b d) 69)=w1 at *
 clear O R;obtain ⟨B,X⟩:∃ B,W.heap.size+1=B:=⟨_,rfl⟩;rw [X] at J ⊢;obtain ⟨A,M⟩:∃ A,W.heap.size=A:=⟨_,rfl⟩;rw [M] at I ⊢ E;have Z:w1.cell? ⟨A,0,none⟩=some (.int .i64 x.kind):=I.o 0 _ rfl;have l0:w1.cell? ⟨B,0,none⟩=some (.int .i64 y.kind):=J.o 0 _ rfl;have k1:w1.cell? ⟨A,1,none⟩=some (.int .i64 x.queue):=I.o 1 _ rfl;have l1:w1.cell? ⟨B,1,none⟩=some (.int .i64 y.queue):=J.o 1 _ rfl;have k2:w1.cell? ⟨A,2,none⟩=some (.int .i64 x.due):=I.o 2 _ rfl;have l2:w1.cell? ⟨B,2,none⟩=some (.int .i64 y.due):=J.o 2 _ rfl;have k3:w1.cell? ⟨A,3,none⟩=some (.int .i64 x.retry):=I.o 3 _ rfl;have l3:w1.cell? ⟨B,3,none⟩=some (.int .i64 y.retry):=J.o 3 _ rfl;have k4:w1.cell? ⟨A,4,none⟩=some (.int .i64 x.ref):=I.o 4 _ rfl;have l4:w1.cell? ⟨B,4,none⟩=some (.int .i64 y.ref):=J.o 4 _ rfl;have k5:w1.cell? ⟨A,5,none⟩=some (.int .i64 x.born):=I.o 5 _ rfl;have l5:w1.cell? ⟨B,5,none⟩=some (.int .i64 y.born):=J.o 5 _ rfl;have k6:w1.cell? ⟨A,6,none⟩=some (.string (S x.topic)):=I.o 6 _ rfl;have l6:w1.cell? ⟨B,6,none⟩=some (.string (S y.topic)):=J.o 6 _ rfl;have k7:w1.cell? ⟨A,7,none⟩=some (.string (S x.tag)):=I.o 7 _ rfl;have l7:w1.cell? ⟨B,7,none⟩=some (.string (S y.tag)):=J.o 7 _ rfl;have k8:w1.cell? ⟨A,8,none⟩=some (.string (S x.body)):=I.o 8 _ rfl;have l8:w1.cell? ⟨B,8,none⟩=some (.string (S y.body)):=J.o 8 _ rfl;have k9:w1.cell? ⟨A,9,none⟩=some (.slice a x.keys.length c):=I.o 9 _ rfl;have l9:w1.cell? ⟨B,9,none⟩=some (.slice b y.keys.length d):=J.o 9 _ rfl
 by_cases h0:x.kind=y.kind
 case neg =>
  have F:Zq (decide (x=y)=false):=decide_eq_false (λe=>h0 (by rw [e]));go_wp2_with fail;go_ret;exact ⟨ax F.o.symm,M ▸ E.o⟩
 by_cases h1:x.queue=y.queue
 case neg =>
  have F:Zq (decide (x=y)=false):=decide_eq_false (λe=>h1 (by rw [e]));go_wp2_with fail;go_ret;exact ⟨ax F.o.symm,M ▸ E.o⟩
 by_cases h2:x.due=y.due
 case neg =>
  have F:Zq (decide (x=y)=false):=decide_eq_false (λe=>h2 (by rw [e]));go_wp2_with fail;go_ret;exact ⟨ax F.o.symm,M ▸ E.o⟩
 by_cases h3:x.retry=y.retry
 case neg =>
  have F:Zq (decide (x=y)=false):=decide_eq_false (λe=>h3 (by rw [e]));go_wp2_with fail;go_ret;exact ⟨ax F.o.symm,M ▸ E.o⟩
 by_cases h4:x.ref=y.ref
 case neg =>
  have F:Zq (decide (x=y)=false):=decide_eq_false (λe=>h4 (by rw [e]));go_wp2_with fail;go_ret;exact ⟨ax F.o.symm,M ▸ E.o⟩
 by_cases h5:x.born=y.born
 case neg =>
  have F:Zq (decide (x=y)=false):=decide_eq_false (λe=>h5 (by rw [e]));go_wp2_with fail;go_ret;exact ⟨ax F.o.symm,M ▸ E.o⟩
 by_cases h6:x.topic=y.topic
 case neg =>
  have F:Zq (decide (x=y)=false):=decide_eq_false (λe=>h6 (by rw [e]));go_wp2_with fail;go_ret;exact ⟨ax F.o.symm,M ▸ E.o⟩
 by_cases h7:x.tag=y.tag
 case neg =>
  have F:Zq (decide (x=y)=false):=decide_eq_false (λe=>h7 (by rw [e]));go_wp2_with fail;go_ret;exact ⟨ax F.o.symm,M ▸ E.o⟩
 by_cases h8:x.body=y.body
 case neg =>
  have F:Zq (decide (x=y)=false):=decide_eq_false (λe=>h8 (by rw [e]));go_wp2_with fail;go_ret;exact ⟨ax F.o.symm,M ▸ E.o⟩
 have F:Zq (decide (x=y)=decide (x.keys=y.keys)):=decide_eq_decide.2 ⟨λe=>by rw [e],λe=>by
  cases x; cases y; simp only at *; subst h0 h1 h2 h3 h4 h5 h6 h7 h8 e; rfl⟩
 generalize decide (x.keys=y.keys)=ke at *
 go_wp2_with fail;refine N.o.mono ?_;rintro e w2 ⟨rfl,hd⟩;have Y:=zq hd;clear hd N;go_wp2_with fail;go_ret;exact ⟨ax F.o.symm,M ▸ (E.o.trans (Y.o.below A))⟩
open DskW
theorem agj (w:World) (a:Option Addr):Strs w a (([]:List (List UInt8)).map S):=λi A=>absurd A (by simp)
theorem acl:inI 0:=by unfold inI; omega
theorem ak9 {m:Msg} (h:um m):um { mf with kind:=m.kind,ref:=m.ref,born:=m.born } :=
 ⟨h.kind,acl,acl,acl,h.ref,h.born,Nat.zero_le _,Nat.zero_le _,Nat.zero_le _,Nat.zero_le _,λt A=>by cases A⟩
theorem apn {m:Msg} (h:um m):um { mf with body:=m.body } :=
 ⟨acl,acl,acl,acl,acl,acl,Nat.zero_le _,Nat.zero_le _,h.body,Nat.zero_le _,λt A=>by cases A⟩
theorem right_any (m:Msg) (hm:um m) (a:Option Addr) (c:Nat) (W:World) (hS:Strs W a (m.keys.map S)) :
 Calls Tryz.prog 148 #[.agg (ae m a c)] W λe w'=>e=.returned (.bool (df m))/\Below W.heap.size W w':=by
 have ad:Zq (Below W.heap.size W (W.alloc (.cells (ae m a c) 69))):=(Below.refl _ W).alloc (Nat.le_refl _) _;have HX:Zq (Boxed (W.alloc (.cells (ae m a c) 69)) W.heap.size (ae m a c)):=Boxed.new W _ _;have a7:=zq (Strs.below hS ad.o);have HM:=zq hm
 have O:Zq (df m=if gq m.due || gq m.ref || gq m.born then false
  else if m.kind=1 then cu m && decide (m.due=0) && decide (m.ref=0)
  else if m.kind=2\/m.kind=3 then cu m
  else if m.kind=4 then decide (m={ mf with kind:=4,ref:=m.ref,born:=m.born })
  else if m.kind=0 then decide (m.body.length<=1024) && decide (m.body=noughts m.body.length) && decide (m={ mf with body:=m.body })
  else false):=rfl
 have bw:=ah;have bz:=S_toList;have b0:m.body.length<=1073741824:=hm.body;have a8:(ae m a c).size=10:=rfl;clear hm hS;go_enter Tryz.func148,Tryz.ntmps148;go_upto_region 1 with fail
 generalize W.alloc (.cells (ae m a c) 69)=w1 at *
 clear a8;obtain ⟨A,X⟩:∃ A,W.heap.size=A:=⟨_,rfl⟩;rw [X] at HX ad ⊢;have k2:w1.cell? ⟨A,2,none⟩=some (.int .i64 m.due):=HX.o 2 _ rfl;have k4:w1.cell? ⟨A,4,none⟩=some (.int .i64 m.ref):=HX.o 4 _ rfl;have k5:w1.cell? ⟨A,5,none⟩=some (.int .i64 m.born):=HX.o 5 _ rfl
 have HN:=zq (nums_any w1.heap.size [m.due,m.ref,m.born] (by simp) (by simp) (w1.alloc (.cells #[.int .i64 m.due,.int .i64 m.ref,.int .i64 m.born] 3)) (λj hj=>by
  rw [World.cell?_alloc_new]
  match j,hj with
  | 0,_=>rfl
  | 1,_=>rfl
  | 2,_=>rfl
  | j+3,hj=>exact absurd hj (by simp)))
 have bj:Zq (Below A W (w1.alloc (.cells #[.int .i64 m.due,.int .i64 m.ref,.int .i64 m.born] 3))):=ad.o.alloc (by have:=ad.o.size; omega) _;have an:[m.due,m.ref,m.born].any gq=(gq m.due || gq m.ref || gq m.born):=by simp [Bool.or_assoc]
 rw [an] at HN;change Zq (Calls _ _ #[.slice _ 3 3] _ _) at HN;generalize (gq m.due || gq m.ref || gq m.born)=bd at *
 clear an;go_wp2_with fail;refine HN.o.mono ?_;rintro e w2 ⟨rfl,hd⟩;have J:=zq (bj.o.trans (hd.below A));have I:Zq (Boxed w2 A (ae m a c)):=(HX.o.below ((Below.refl _ _).alloc (Nat.le_refl _) _)).below (hd.below _);have ab:Zq (Strs w2 a (m.keys.map S)):=Strs.below (Strs.below a7.o ((Below.refl _ _).alloc (Nat.le_refl _) _)) (hd.below _);clear hd HN
 cases bd with
 | true =>
   have U:Zq (df m=false):=by show _=_; rw [O.o]; rfl
   clear O;go_wp2_with fail;go_ret;exact ⟨ax (by rw [U.o]),X ▸ J.o⟩
 | false =>
   replace O:Zq (df m=if m.kind=1 then cu m && decide (m.due=0) && decide (m.ref=0)
    else if m.kind=2\/m.kind=3 then cu m
    else if m.kind=4 then decide (m={ mf with kind:=4,ref:=m.ref,born:=m.born })
    else if m.kind=0 then decide (m.body.length<=1024) && decide (m.body=noughts m.body.length) && decide (m={ mf with body:=m.body })
    else false):=by show _=_; rw [O.o]; rfl
   obtain ⟨k0,k1,k2,k3,k4,k5,k6,k7,k8,k9⟩:=RecW.mr I.o
   by_cases h1:m.kind=1
   case pos =>
    have U:Zq (df m=(cu m && decide (m.due=0) && decide (m.ref=0))):=by show _=_; rw [O.o,if_pos h1]
    have M:=ze m HM.o a c w2 ab.o;generalize cu m=ca at *
    change Calls _ _ #[.agg #[.int .i64 m.kind,.int .i64 m.queue,.int .i64 m.due,.int .i64 m.retry,.int .i64 m.ref,.int .i64 m.born,.string (S m.topic),.string (S m.tag),.string (S m.body),.slice a m.keys.length c]] _ _ at M;rw [h1] at M;have Z:=zq M;clear M;clear O;go_wp2_with fail;refine Z.o.mono ?_;rintro e w3 ⟨rfl,hb⟩;have N:=zq (J.o.trans (hb.mono (by have:=J.o.size; omega)));have k2:w3.cell? ⟨A,2,none⟩=some (.int .i64 m.due):=(I.o.below hb) 2 _ rfl;have k4:w3.cell? ⟨A,4,none⟩=some (.int .i64 m.ref):=(I.o.below hb) 4 _ rfl;clear hb Z k0 k1 k3 k5 k6 k7 k8 k9
    cases ca with
    | false =>
      go_wp2_with fail;go_ret;exact ⟨ax (by rw [U.o]; rfl),X ▸ N.o⟩
    | true =>
      by_cases hd:m.due=0
      . by_cases hr:m.ref=0
        . go_wp2_with fail
          go_ret;exact ⟨ax (by rw [U.o,decide_eq_true hd,decide_eq_true hr]; first | rfl | simp [hd,hr]),X ▸ N.o⟩
        . go_wp2_with fail
          go_ret;exact ⟨ax (by rw [U.o,decide_eq_true hd,decide_eq_false hr]; first | rfl | simp [hd,hr]),X ▸ N.o⟩
      . go_wp2_with fail
        go_ret;exact ⟨ax (by rw [U.o,decide_eq_false hd]; first | rfl | simp [hd]),X ▸ N.o⟩
   by_cases h2:m.kind=2
   case pos =>
    have U:Zq (df m=cu m):=by show _=_; rw [O.o,if_neg h1,if_pos (.inl h2)]
    have M:=ze m HM.o a c w2 ab.o;generalize cu m=ca at *
    change Calls _ _ #[.agg #[.int .i64 m.kind,.int .i64 m.queue,.int .i64 m.due,.int .i64 m.retry,.int .i64 m.ref,.int .i64 m.born,.string (S m.topic),.string (S m.tag),.string (S m.body),.slice a m.keys.length c]] _ _ at M;rw [h2] at M;have Z:=zq M;clear M;clear O;go_wp2_with fail;refine Z.o.mono ?_;rintro e w3 ⟨rfl,hb⟩;have N:=zq (J.o.trans (hb.mono (by have:=J.o.size; omega)));go_wp2_with fail;go_ret;exact ⟨ax (by rw [U.o]),X ▸ N.o⟩
   by_cases h3:m.kind=3
   case pos =>
    have U:Zq (df m=cu m):=by show _=_; rw [O.o,if_neg h1,if_pos (.inr h3)]
    have M:=ze m HM.o a c w2 ab.o;generalize cu m=ca at *
    change Calls _ _ #[.agg #[.int .i64 m.kind,.int .i64 m.queue,.int .i64 m.due,.int .i64 m.retry,.int .i64 m.ref,.int .i64 m.born,.string (S m.topic),.string (S m.tag),.string (S m.body),.slice a m.keys.length c]] _ _ at M;rw [h3] at M;have Z:=zq M;clear M;clear O;go_wp2_with fail;refine Z.o.mono ?_;rintro e w3 ⟨rfl,hb⟩;have N:=zq (J.o.trans (hb.mono (by have:=J.o.size; omega)));go_wp2_with fail;go_ret;exact ⟨ax (by rw [U.o]),X ▸ N.o⟩
   by_cases h4:m.kind=4
   case pos =>
    have U:Zq (df m=decide (m={ mf with kind:=m.kind,ref:=m.ref,born:=m.born })):=by show _=_; rw [O.o,if_neg h1,if_neg (by omega),if_pos h4,h4]
    have R:=agi m _ HM.o (ak9 HM.o) a none c 0 w2 ab.o (agj w2 none);generalize decide (m={ mf with kind:=m.kind,ref:=m.ref,born:=m.born })=sm at *
    change Calls _ _ #[.agg #[.int .i64 m.kind,.int .i64 m.queue,.int .i64 m.due,.int .i64 m.retry,.int .i64 m.ref,.int .i64 m.born,.string (S m.topic),.string (S m.tag),.string (S m.body),.slice a m.keys.length c],.agg #[.int .i64 m.kind,.int .i64 0,.int .i64 0,.int .i64 0,.int .i64 m.ref,.int .i64 m.born,.string (S []),.string (S []),.string (S []),.slice none 0 0]] _ _ at R;rw [h4] at R;have ar:=zq R;clear R;clear O;go_wp2_with fail;refine ar.o.mono ?_;rintro e w3 ⟨rfl,hb⟩;have N:=zq (J.o.trans (hb.mono (by have:=J.o.size; omega)));go_wp2_with fail;go_ret;exact ⟨ax (by rw [U.o]),X ▸ N.o⟩
   by_cases h0:m.kind=0
   case neg =>
    have U:Zq (df m=false):=by show _=_; rw [O.o,if_neg h1,if_neg (by omega),if_neg h4,if_neg h0]
    clear O;go_wp2_with fail;go_ret;exact ⟨ax (by rw [U.o]),X ▸ J.o⟩
   case pos =>
    replace O:Zq (df m=(decide (m.body.length<=1024) && decide (m.body=noughts m.body.length) && decide (m={ mf with body:=m.body }))):=by show _=_; rw [O.o,if_neg h1,if_neg (by omega),if_neg h4,if_pos h0]
    have R:=λ(w':World) (hb:Below w2.heap.size w2 w')=>agi m _ HM.o (apn HM.o) a none c 0 w' (Strs.below ab.o hb) (agj w' none)
    by_cases hb:m.body.length<=1024
    ·
     have ak:(m.body.length:Int)<=1024:=by omega
     by_cases he:m.body=noughts m.body.length
     ·
      replace O:Zq (df m=decide (m={ mf with body:=m.body })):=by show _=_; rw [O.o,decide_eq_true hb,decide_eq_true he]; rfl
      generalize decide (m={ mf with body:=m.body })=sm at *
      have al:=zq (λ(w':World)=>za m.body.length (by omega) w');rw [<- he] at al;change ∀ w',_->Calls _ _ #[.agg #[.int .i64 m.kind,.int .i64 m.queue,.int .i64 m.due,.int .i64 m.retry,.int .i64 m.ref,.int .i64 m.born,.string (S m.topic),.string (S m.tag),.string (S m.body),.slice a m.keys.length c],.agg #[.int .i64 0,.int .i64 0,.int .i64 0,.int .i64 0,.int .i64 0,.int .i64 0,.string (S []),.string (S []),.string (S m.body),.slice none 0 0]] _ _ at R
      rw [h0] at R;have ar:=zq R;clear R he;go_wp2_with fail;refine Grow.ja 21 [none,some (.inl (.string (S m.body))),none,some (.inl (.bool true)),none,none,some (.inl (.string (S m.body))),none,some (.inl (.string (S m.body))),none,some (.inl (.string (S m.body))),some (.inl (.bool true)),none,none,some (.inl (.agg #[.int .i64 0,.int .i64 m.queue,.int .i64 m.due,.int .i64 m.retry,.int .i64 m.ref,.int .i64 m.born,.string (S m.topic),.string (S m.tag),.string (S m.body),.slice a m.keys.length c])),none,some (.inl (.string (S m.body))),none,some (.inl (.bool sm)),none,none] Ext (by kernel_rfl) (by kernel_rfl) (by kernel_rfl) Ext.refl (λ_ _ _=>Ext.trans) ?_ ?_
      . intro K hK Y hY v w w' hR h
        simp only [List.mem_cons,List.not_mem_nil,or_false] at hK
        rcases hK with rfl | rfl | rfl | rfl | rfl | rfl | rfl | rfl | rfl | rfl | rfl | rfl | rfl | rfl | rfl | rfl | rfl | rfl | rfl | rfl | rfl <;> simp only [reduceCtorEq,Option.some.injEq,Sum.inr.injEq] at hY
      simp only [List.take_succ_cons,List.take_zero,List.drop_succ_cons,List.drop_zero];refine Grow.g_det rfl ?_;apply Exists.intro;refine ⟨λw F E=>?_,?_⟩
      . clear E
        go_simp;exact ⟨rfl,Ext.refl _⟩
      go_frame;refine Grow.g_con rfl (λB F E=>?_) ?_
      . clear E
        have k8:B.cell? ⟨A,8,none⟩=some (.string (S m.body)):=(I.o.below ((Below.refl w2.heap.size w2).drew.trans F)) 8 _ rfl;go_simp
        all_goals exact Ext.refl _
      go_frame;refine Grow.g_det rfl ?_;apply Exists.intro;refine ⟨λw F E=>?_,?_⟩
      . clear E
        go_simp;exact ⟨rfl,Ext.refl _⟩
      go_frame;refine Grow.g_con rfl (λB F E=>?_) ?_
      . clear E
        go_simp
        all_goals first | exact Ext.refl _ | exact ak | omega
      iterate 2
       go_frame;refine Grow.g_det rfl ?_;apply Exists.intro;refine ⟨λw F E=>?_,?_⟩
       . clear E
         go_simp;exact ⟨rfl,Ext.refl _⟩
      iterate 2
       go_frame;refine Grow.g_con rfl (λB F E=>?_) ?_
       . clear E
         have k8:B.cell? ⟨A,8,none⟩=some (.string (S m.body)):=(I.o.below ((Below.refl w2.heap.size w2).drew.trans F)) 8 _ rfl;go_simp
         all_goals exact Ext.refl _
       go_frame;refine Grow.g_det rfl ?_;apply Exists.intro;refine ⟨λw F E=>?_,?_⟩
       . clear E
         go_simp;exact ⟨rfl,Ext.refl _⟩
      go_frame;refine Grow.g_con rfl (λB F E=>?_) ?_
      . clear E
        go_simp;exact (al.o B).mono λe w3 h=>⟨_,h.1,rfl,h.2⟩
      go_frame;refine Grow.g_con rfl (λB F E=>?_) ?_
      . clear E
        go_simp
        all_goals first | exact Ext.refl _ | exact am | (simpa using am)
      iterate 2
       go_frame;refine Grow.g_det rfl ?_;apply Exists.intro;refine ⟨λw F E=>?_,?_⟩
       . clear E
         go_simp;exact ⟨rfl,Ext.refl _⟩
      go_frame;refine Grow.g_con rfl (λB F E=>?_) ?_
      ·
       clear E;have k0:B.cell? ⟨A,0,none⟩=some (.int .i64 0):=(h0 ▸ (show B.cell? ⟨A,0,none⟩=some (.int .i64 m.kind) from (I.o.below ((Below.refl w2.heap.size w2).drew.trans F)) 0 _ rfl));have k1:B.cell? ⟨A,1,none⟩=some (.int .i64 m.queue):=(I.o.below ((Below.refl w2.heap.size w2).drew.trans F)) 1 _ rfl;have k2:B.cell? ⟨A,2,none⟩=some (.int .i64 m.due):=(I.o.below ((Below.refl w2.heap.size w2).drew.trans F)) 2 _ rfl;have k3:B.cell? ⟨A,3,none⟩=some (.int .i64 m.retry):=(I.o.below ((Below.refl w2.heap.size w2).drew.trans F)) 3 _ rfl;have k4:B.cell? ⟨A,4,none⟩=some (.int .i64 m.ref):=(I.o.below ((Below.refl w2.heap.size w2).drew.trans F)) 4 _ rfl;have k5:B.cell? ⟨A,5,none⟩=some (.int .i64 m.born):=(I.o.below ((Below.refl w2.heap.size w2).drew.trans F)) 5 _ rfl;have k6:B.cell? ⟨A,6,none⟩=some (.string (S m.topic)):=(I.o.below ((Below.refl w2.heap.size w2).drew.trans F)) 6 _ rfl;have k7:B.cell? ⟨A,7,none⟩=some (.string (S m.tag)):=(I.o.below ((Below.refl w2.heap.size w2).drew.trans F)) 7 _ rfl;have k8:B.cell? ⟨A,8,none⟩=some (.string (S m.body)):=(I.o.below ((Below.refl w2.heap.size w2).drew.trans F)) 8 _ rfl;have k9:B.cell? ⟨A,9,none⟩=some (.slice a m.keys.length c):=(I.o.below ((Below.refl w2.heap.size w2).drew.trans F)) 9 _ rfl;go_simp
       all_goals exact Ext.refl _
      go_frame;refine Grow.g_det rfl ?_;apply Exists.intro;refine ⟨λw F E=>?_,?_⟩
      . clear E
        go_simp;exact ⟨rfl,Ext.refl _⟩
      go_frame;refine Grow.g_con rfl (λB F E=>?_) ?_
      . clear E
        have k8:B.cell? ⟨A,8,none⟩=some (.string (S m.body)):=(I.o.below ((Below.refl w2.heap.size w2).drew.trans F)) 8 _ rfl;go_simp
        all_goals exact Ext.refl _
      go_frame;refine Grow.g_det rfl ?_;apply Exists.intro;refine ⟨λw F E=>?_,?_⟩
      . clear E
        go_simp;exact ⟨rfl,Ext.refl _⟩
      go_frame;refine Grow.g_con rfl (λB F E=>?_) ?_
      . clear E
        go_simp;exact (ar.o B ((Below.refl w2.heap.size w2).drew.trans F)).mono λe w3 h=>⟨_,h.1,rfl,h.2⟩
      iterate 2
       go_frame;refine Grow.g_det rfl ?_;apply Exists.intro;refine ⟨λw F E=>?_,?_⟩
       . clear E
         go_simp;exact ⟨rfl,Ext.refl _⟩
      go_frame;refine Grow.g_nil λw3 ac E=>?_
      clear E;refine wpList_nil ?_;have N:=zq (J.o.trans (((Below.refl w2.heap.size w2).drew.trans ac).mono (by have:=J.o.size; omega)));clear ac;go_wp2_with fail;go_ret;exact ⟨ax (by rw [O.o]),X ▸ N.o⟩
     ·
      have U:Zq (df m=false):=by show _=_; rw [O.o,decide_eq_true hb,decide_eq_false he]; rfl
      clear O R;have al:=zq (λ(w':World)=>za m.body.length (by omega) w');generalize hnn:noughts m.body.length=nn at *
      have am:¬ m.body=nn:=he;clear he hnn;go_wp2_with fail;refine Grow.ja 21 [none,some (.inl (.string (S m.body))),none,some (.inl (.bool true)),none,none,some (.inl (.string (S m.body))),none,some (.inl (.string (S m.body))),none,some (.inl (.string (S nn))),some (.inl (.bool false)),none,none,none,none,none,none,none,none,none] Ext (by kernel_rfl) (by kernel_rfl) (by kernel_rfl) Ext.refl (λ_ _ _=>Ext.trans) ?_ ?_
      . intro K hK Y hY v w w' hR h
        simp only [List.mem_cons,List.not_mem_nil,or_false] at hK
        rcases hK with rfl | rfl | rfl | rfl | rfl | rfl | rfl | rfl | rfl | rfl | rfl | rfl | rfl | rfl | rfl | rfl | rfl | rfl | rfl | rfl | rfl <;> simp only [reduceCtorEq,Option.some.injEq,Sum.inr.injEq] at hY
      simp only [List.take_succ_cons,List.take_zero,List.drop_succ_cons,List.drop_zero];refine Grow.g_det rfl ?_;apply Exists.intro;refine ⟨λw F E=>?_,?_⟩
      . clear E
        go_simp;exact ⟨rfl,Ext.refl _⟩
      go_frame;refine Grow.g_con rfl (λB F E=>?_) ?_
      . clear E
        have k8:B.cell? ⟨A,8,none⟩=some (.string (S m.body)):=(I.o.below ((Below.refl w2.heap.size w2).drew.trans F)) 8 _ rfl;go_simp
        all_goals exact Ext.refl _
      go_frame;refine Grow.g_det rfl ?_;apply Exists.intro;refine ⟨λw F E=>?_,?_⟩
      . clear E
        go_simp;exact ⟨rfl,Ext.refl _⟩
      go_frame;refine Grow.g_con rfl (λB F E=>?_) ?_
      . clear E
        go_simp
        all_goals first | exact Ext.refl _ | exact ak | omega
      iterate 2
       go_frame;refine Grow.g_det rfl ?_;apply Exists.intro;refine ⟨λw F E=>?_,?_⟩
       . clear E
         go_simp;exact ⟨rfl,Ext.refl _⟩
      iterate 2
       go_frame;refine Grow.g_con rfl (λB F E=>?_) ?_
       . clear E
         have k8:B.cell? ⟨A,8,none⟩=some (.string (S m.body)):=(I.o.below ((Below.refl w2.heap.size w2).drew.trans F)) 8 _ rfl;go_simp
         all_goals exact Ext.refl _
       go_frame;refine Grow.g_det rfl ?_;apply Exists.intro;refine ⟨λw F E=>?_,?_⟩
       . clear E
         go_simp;exact ⟨rfl,Ext.refl _⟩
      go_frame;refine Grow.g_con rfl (λB F E=>?_) ?_
      . clear E
        go_simp;exact (al.o B).mono λe w3 h=>⟨_,h.1,rfl,h.2⟩
      go_frame;refine Grow.g_con rfl (λB F E=>?_) ?_
      . clear E
        go_simp
        all_goals first | exact Ext.refl _ | exact am | (simpa using am)
      go_frame
      iterate 9
       first
       | refine Grow.g_skip rfl ?_
       | refine Grow.g_det rfl ?_
         apply Exists.intro;refine ⟨λw F E=>?_,?_⟩
         . clear E
           go_simp;exact ⟨rfl,Ext.refl _⟩
       go_frame
      refine Grow.g_nil λw3 ac E=>?_
      clear E;refine wpList_nil ?_;have N:=zq (J.o.trans (((Below.refl w2.heap.size w2).drew.trans ac).mono (by have:=J.o.size; omega)));clear ac;go_wp2_with fail;go_ret;exact ⟨ax (by rw [U.o]),X ▸ N.o⟩
    ·
     have U:Zq (df m=false):=by show _=_; rw [O.o,decide_eq_false hb]; rfl
     have ak:¬ (m.body.length:Int)<=1024:=by omega
     have b2:decide ((m.body.length:Int)<=1024)=false:=decide_eq_false ak;have bs:decide (m.body.length<=1024)=false:=decide_eq_false hb;clear O R;go_wp2_with fail;go_quiet (fail);go_wp2_with fail;go_ret;exact ⟨ax (by rw [U.o]),X ▸ (J.o.trans (((Drawn.refl w2).drewN nq).below A))⟩
end RecW
end Go.Proofs.YtcgonejkkpbepaaGreatDoor
