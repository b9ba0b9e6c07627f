/- seg: Sync, on a disk that doesn't fail. And what follows. -/
import Derived.Test.YtnoehodmmkioaaaGreatDoorS03
import Derived.Laws.AppendOwn
import Derived.Test.YtnoehodmmkioaaaGreatDoorS01
import Derived.Maps.Own
import Derived.Sort.KeysCollected
import Derived.Shelf.SlIter.Keys
import Derived.Shelf.SlIter.Sorted
import Derived.Shelf.SlicesE.DeleteFunc
import Derived.Sort.OwnSorted
import Derived.Test.YtnoehodmmkioaaaGreatDoorS00
import Derived.RangeFuncBox
import Derived.RangeFuncLeaves
import Derived.RangeFuncGives
import Derived.Shelf.Abstract
import Derived.Shelf.AbstractIn
import Derived.OwnWalkIn
import Derived.TacticsInMore
import Derived.LoopNIn
import Derived.LoopIn
import Derived.Maps.AppendAt
import Derived.Test.YtnoehodmmkioaaaGreatDoorS02
import Derived.Lib.OwnBridge
import Derived.Deep.DeepCutAuto
set_option maxHeartbeats 25600000
set_option maxRecDepth 100000
set_option linter.unusedVariables false
set_option linter.unusedSimpArgs false
namespace Go.Proofs.YtnoehodmmkioaaaGreatDoor.SegW
open Go.RowKit OctMath DskW
def SegD.syncK (R:SegD) (k:Nat):List (List UInt8):=if R.synced < R.e then ((List.range k).filter fun i=>decide (R.synced < R.b+i * R.size+R.size)).map fun i=>nameL R.head (R.b+i * R.size) else []
def SegD.syncL (R:SegD):List (List UInt8):=R.syncK R.n
theorem syncK_yes {R:SegD} {k:Nat} (h1:R.synced < R.b+k * R.size+R.size) (h2:R.synced < R.e):R.syncK (k+1)=R.syncK k++[nameL R.head (R.b+k * R.size)]:=by
 unfold SegD.syncK
 rw [if_pos h2,if_pos h2,List.range_succ,List.filter_append,List.map_append]
 simp [h1]
theorem syncK_no {R:SegD} {k:Nat} (h:¬ (R.synced < R.b+k * R.size+R.size∧R.synced < R.e)):R.syncK (k+1)=R.syncK k:=by
 unfold SegD.syncK
 by_cases h2:R.synced < R.e
 · rw [if_pos h2,if_pos h2,List.range_succ,List.filter_append]
   have:¬ R.synced < R.b+k * R.size+R.size:=fun h1=>h ⟨h1,h2⟩
   simp [this]
 · rw [if_neg h2,if_neg h2]
theorem syncK_len (R:SegD) (k:Nat):(R.syncK k).length≤k:=by
 unfold SegD.syncK
 split
 · rw [List.length_map]
   exact Nat.le_trans (List.length_filter_le _ _) (by simp)
 · exact Nat.zero_le _
theorem syncL_nil {base:Nat} {w:World} {R:SegD} (h:SegAt base w R):(R.syncL=[]→R.synced=R.e)∧(R.synced=R.e→R.syncL=[]):=by
 refine ⟨fun hh=>?_,fun hh=>by unfold SegD.syncL SegD.syncK; rw [if_neg (by omega)]⟩
 have h1:=h.syn
 rcases Nat.lt_or_ge R.synced R.e with h2 | h2
 ·
  exfalso
  rcases Nat.eq_zero_or_pos R.n with h0 | h0
  · obtain ⟨e1,e2⟩:=h.empty h0
    have:R.e=0:=by unfold SegD.e; rw [e1,e2]; rfl
    omega
  ·
   obtain ⟨m,hm⟩:∃ m,R.n=m+1:=⟨R.n - 1,by omega⟩
   have hl:=(h.long h0).2.1
   have hlt:R.synced < R.b+m * R.size+R.size:=by
    rw [hm,Nat.add_mul] at hl
    unfold SegD.e at h2
    omega
   unfold SegD.syncL at hh
   rw [hm,syncK_yes hlt h2] at hh
   simp at hh
 · omega
theorem lasts_find (D:DiskD) (l:List (List UInt8)) (wv:Value) (m:List UInt8):(D.lasts l wv).find m=(D.find m).map fun f=>if m∈l then { f with img:=f.now } else f:=by
 unfold DiskD.lasts DiskD.find
 simp only
 induction D.files with
 | nil=>rfl
 | cons p t ih =>
   rw [List.map_cons,List.find?_cons,List.find?_cons]
   have e1:(if p.1∈l then (p.1,({ p.2 with img:=p.2.now }:FileD)) else p).1=p.1:=by split <;> rfl
   rw [e1]
   by_cases hp:p.1=m
   · rw [show (p.1 == m)=true by simp [hp]]
     simp only [Option.map_some]
     subst hp
     split <;> rfl
   · rw [show (p.1 == m)=false by simp [hp]]
     exact ih
def SegD.syncD (R:SegD) (D:DiskD) (wv:Value):DiskD:=if R.syncL=[] then D else D.lasts R.syncL wv
theorem syncD_find (R:SegD) (D:DiskD) (wv:Value) (m:List UInt8):∃ g:FileD→FileD,(R.syncD D wv).find m=(D.find m).map g∧∀ f,(g f).blk=f.blk∧(g f).now=f.now:=by
 unfold SegD.syncD
 split
 · exact ⟨id,by simp,fun f=>⟨rfl,rfl⟩⟩
 · exact ⟨_,lasts_find _ _ _ _,fun f=>by split <;> exact ⟨rfl,rfl⟩⟩
theorem bytes_of_find {D D':DiskD} {m:List UInt8} {g:FileD→FileD} (h:D'.find m=(D.find m).map g) (hg:∀ f,(g f).blk=f.blk∧(g f).now=f.now):D'.bytes m=D.bytes m∧(D'.find m).isSome=(D.find m).isSome:=by
 unfold DiskD.bytes
 rw [h]
 cases hf:D.find m with
 | none=>exact ⟨rfl,rfl⟩
 | some f=>exact ⟨(hg f).2,rfl⟩
theorem bars_all {D:DiskD} {l:List (List UInt8)} (hq:Quiet D) (h:∀ m∈l,(D.find m).isSome=true):D.bars l=0:=by
 unfold DiskD.bars
 rw [hq.up,show (l.all fun n=>(D.find n).isSome)=true from List.all_eq_true.2 h]; rfl
theorem seg_sync {base:Nat} {w:World} {R:SegD} (h:SegAt base w R):SegAt base (w.setCell ⟨R.blk,5,none⟩ (.int .i64 (R.e:Int))) { R with synced:=R.e } :=
 ⟨heap_set1 h.cells _ rfl,ownsRow_mod (M:=fun k=>k=R.blk) h.row (mod_set _ _ _ _) (fun k hk e=>h.apart k hk e),h.apart,h.above,h.sz,h.empty,h.long,h.mult,Nat.le_refl _,h.hd⟩
theorem sync_any {base:Nat} {D:DiskD} {R:SegD} (w:World) (hT:TabB base w) (hW:Whole base w D R) (hq:Quiet D) (hbase:base≤w.heap.size) (hwl:D.waits.length≤1048576) (hn:R.n≤1048576) :
 Calls Tryz.prog 111 #[.pointer (some ⟨R.blk,0,none⟩)] w fun e w'=>e=.returned (.int .i64 0)∧∃ wv,wv.ownBlock=D.wv.ownBlock∧Whole base w' (R.syncD D wv) { R with synced:=R.e }∧Mod (fun k=>D.foot k∨R.foot k) w w':=by
 obtain ⟨i0,hi0,hz0,hz1,hz2⟩:=info_parts (show (Tryz.prog.info? 9).map (fun i=>(i.zero,i.size,i.bytes))=some (some (.string ⟨#[]⟩),1,16) by kernel_rfl)
 obtain ⟨a,cp,hv⟩:=hW.seg.pv_nil
 have c0:w.cell? ⟨R.blk,0,none⟩=some (.pointer (some ⟨D.blk,0,none⟩)):=hW.seg.cell 0 _ (by rw [← hW.db]; rfl)
 have c3:w.cell? ⟨R.blk,3,none⟩=some (.slice a R.n cp):=hW.seg.cell 3 _ (by show some R.pv=_; rw [hv])
 have CD:=Lib.hid (down_any w hW.dsk)
 rw [hq.up] at CD
 have HW:=Lib.hid hW
 have HT:=Lib.hid hT
 have HQ:=Lib.hid hq
 have HV:=Lib.hid hv
 have hel:=hW.seg.e_le
 have hsy:=hW.seg.syn
 obtain ⟨hs1,hs2⟩:=hW.seg.sz
 have HNN:Hid (R.n≤1048576):=hn
 clear hW hT hq hv hn
 go_enter Tryz.func111,Tryz.ntmps111
 go_wp2_with fail
 refine CD.out.mono ?_
 rintro e w1 ⟨rfl,rfl⟩
 clear CD
 go_wp2_with fail
 clear c0 c3
 go_loopw [3,21] (fun v i wr=>∃ k:Nat,k≤R.n∧i=.int .i64 k∧Hid (wr.ownsRow w1.heap.size 9 1 v (R.syncK k).length ((R.syncK k).map fun l=>.string (S l)))∧Hid (Below w1.heap.size w1 wr)) (fun _ i _=>R.n - (intOf i).toNat)
 case atStart=>exact ⟨0,Nat.zero_le _,rfl,(by
  have:R.syncK 0=[]:=by unfold SegD.syncK; split <;> rfl
  rw [this]; exact ⟨rfl,.inl ⟨rfl,rfl⟩⟩),Below.refl _ _⟩
 case round =>
  obtain ⟨k,hk,rfl,HTX,HB⟩:=hrel
  have hWr:Whole base wr D R:=HW.out.below HB.out
  have c2:wr.cell? ⟨R.blk,2,none⟩=some (.int .i64 (R.size:Int)):=hWr.seg.cell 2 _ rfl
  have c4:wr.cell? ⟨R.blk,4,none⟩=some (.int .i64 (R.e:Int)):=hWr.seg.cell 4 _ rfl
  have c5:wr.cell? ⟨R.blk,5,none⟩=some (.int .i64 (R.synced:Int)):=hWr.seg.cell 5 _ rfl
  have hkl:=syncK_len R k
  by_cases hlt:k < R.n
  ·
   obtain ⟨g,cap,hp,hnc,hc⟩:=hWr.seg.place k hlt
   have hp2:=HV.out.symm.trans hp
   injection hp2 with e1 e2 e3
   subst e1
   have hpb:R.b+k * R.size≤99999999:=by
    have h1:=(hWr.seg.long (by omega)).2.2
    have h2:k * R.size≤(R.n - 1) * R.size:=Nat.mul_le_mul_right _ (by omega)
    omega
   have hn2:=HNN.out
   have hwa:IntKind.i64.wrap (((R.b+k * R.size:Nat):Int)+(R.size:Int))=((R.b+k * R.size:Nat):Int)+(R.size:Int):=IntWalk.i64_in _ (by omega)
   have hsb:R.b+k * R.size+R.size≤100004095:=by omega
   have HNM:=Lib.hid (fun (w2:World) (hb:Below wr.heap.size wr w2)=>name_any w2 (hWr.seg.below hb) (HT.out.below (HB.out.trans (hb.mono HB.out.size))).tab (R.b+k * R.size) hpb)
   by_cases hc1:R.synced < R.b+k * R.size+R.size∧R.synced < R.e
   ·
    obtain ⟨hc1,hc2⟩:=hc1
    have HS:=Lib.hid (syncK_yes hc1 hc2)
    clear hWr hp e2 e3 hnc HV
    generalize hpl:R.b+k * R.size=pl at *
    generalize nameL R.head pl=nm at *
    generalize R.size=sz at *
    generalize R.e=ee at *
    generalize R.synced=sy at *
    have hc1i:(sy:Int) < (pl:Int)+(sz:Int):=by omega
    have hc1d:decide ((sy:Int) < (pl:Int)+(sz:Int))=true:=decide_eq_true hc1i
    go_wp2_with fail
    go_quiet (fail)
    go_wp2_with fail
    refine (HNM.out (wr.drewN nq) (((Drawn.refl wr).drewN nq).below _)).mono ?_
    rintro e w3 ⟨rfl,hb3⟩
    have HB3:=Lib.hid (HB.out.trans ((((Drawn.refl wr).drewN nq).below wr.heap.size).trans hb3 |>.mono HB.out.size))
    have HTX3:Hid (w3.ownsRow w1.heap.size 9 1 u3 (R.syncK k).length ((R.syncK k).map fun l=>.string (S l))):=ownsRow_mod (M:=fun _=>False) HTX.out (Mod.of_below ((((Drawn.refl wr).drewN nq).below wr.heap.size).trans hb3)) (fun _ _ h=>h)
    clear hb3 HTX HNM
    go_wp2_with (at_builtin; refine wpList_append_own _ rfl (.tmp 47) (.tmp 51) 31 rfl w1.heap.size 9 i0 (.string ⟨#[]⟩) 1 16 Tryz.underlying31 hi0 hz0 hz1 hz2 rfl (by decide) _ (R.syncK k).length ((R.syncK k).map fun l=>.string (S l)) rfl (HTX3.out.alloc _) ⟨w3.heap.size,0,none⟩ 1 1 [.string (S nm)] rfl rfl ?c1 ?c2 ?c3 ?c4 ?c5 ?_)
    case c1=>exact cell_one_new _ _ _
    case c2=>intro u hu; simp at hu; subst hu; rfl
    case c3=>unfold maxLen; omega
    case c4=>omega
    case c5=>have:=HB3.out.size; simp; omega
    intro v' w4 hown' hgrow _
    have HO4:Hid (w4.ownsRow w1.heap.size 9 1 v' (R.syncK (k+1)).length ((R.syncK (k+1)).map fun l=>.string (S l))):=by
     show w4.ownsRow _ _ _ _ (R.syncK (k+1)).length _
     rw [HS.out,List.map_append,List.length_append]; exact hown'
    have hrow:∀ g,u3.ownBlock=some g→w1.heap.size≤g:=ownBlock_of_own HTX3.out
    have HB4:Hid (Below w1.heap.size w1 w4):=(HB3.out.alloc HB3.out.size _).grown hgrow (by have:=HB3.out.size; simp; omega) hrow
    clear hown' hgrow HTX3 hrow
    go_wp2_with fail
    go_roundw
    case rel=>exact ⟨k+1,by omega,by go_num,HO4.out,HB4.out⟩
    case measure=>simp [intOf]; omega
   ·
    have HS:=Lib.hid (syncK_no hc1)
    clear hWr hp e2 e3 hnc HV
    generalize hpl:R.b+k * R.size=pl at *
    generalize R.size=sz at *
    generalize R.e=ee at *
    generalize R.synced=sy at *
    by_cases hc2:sy < pl+sz
    ·
     have hc1i:(sy:Int) < (pl:Int)+(sz:Int):=by omega
     have hc1d:decide ((sy:Int) < (pl:Int)+(sz:Int))=true:=decide_eq_true hc1i
     have hc3:¬ sy < ee:=fun h=>hc1 ⟨hc2,h⟩
     clear hc1
     go_wp2_with fail
     go_quiet (fail)
     go_wp2_with fail
     go_roundw
     case rel=>exact ⟨k+1,by omega,by go_num,by rw [HS.out]; exact HTX.out,HB.out.trans ((((Drawn.refl wr).drewN nq).below _))⟩
     case measure=>simp [intOf]; omega
    ·
     have hc1i:¬ (sy:Int) < (pl:Int)+(sz:Int):=by omega
     have hc1d:decide ((sy:Int) < (pl:Int)+(sz:Int))=false:=decide_eq_false hc1i
     clear hc1
     go_wp2_with fail
     go_quiet (fail)
     go_wp2_with fail
     go_roundw
     case rel=>exact ⟨k+1,by omega,by go_num,by rw [HS.out]; exact HTX.out,HB.out.trans ((((Drawn.refl wr).drewN nq).below _))⟩
     case measure=>simp [intOf]; omega
  ·
   obtain rfl:k=R.n:=by omega
   have hsl:R.syncK R.n=R.syncL:=rfl
   rw [hsl] at HTX hkl
   obtain ⟨av,cv,hvv,hrow,hlen⟩:=Row1.of_own HTX.out
   subst hvv
   have c0:wr.cell? ⟨R.blk,0,none⟩=some (.pointer (some ⟨D.blk,0,none⟩)):=hWr.seg.cell 0 _ (by rw [← hWr.db]; rfl)
   by_cases hnil:R.syncL=[]
   ·
    have hse:=(syncL_nil hWr.seg).1 hnil
    have HFIN:Hid (Whole base wr (R.syncD D D.wv) { R with synced:=R.e }):=by
     have h1:R.syncD D D.wv=D:=by unfold SegD.syncD; rw [if_pos hnil]
     show Whole base wr (R.syncD D D.wv) _
     rw [h1,← hse]; exact hWr
    rw [hnil] at hkl ⊢
    clear hWr
    go_wp2_with fail
    go_ret
    exact ⟨rfl,D.wv,rfl,HFIN.out,Mod.of_below HB.out⟩
   ·
    have hln:¬ (R.syncL).length=0:=by simpa using hnil
    have hDW:=hWr.dsk
    have hfd:∀ m∈R.syncL,(D.find m).isSome=true:=fun m hm=>by
     unfold SegD.syncL SegD.syncK at hm
     split at hm
     · obtain ⟨i,hi,rfl⟩:=List.mem_map.1 hm
       rw [List.mem_filter,List.mem_range] at hi
       exact (hWr.ok i hi.1).2
     · cases hm
    have hbars:=bars_all HQ.out hfd
    have hE:D.syncE R.syncL=0:=by unfold DiskD.syncE; rw [if_pos hbars,HQ.out.done]
    have hD:∀ wv,D.sync R.syncL wv=R.syncD D wv:=fun wv=>by
     unfold DiskD.sync SegD.syncD
     rw [if_pos hbars,if_neg (by rw [HQ.out.left]; decide),if_neg hnil,HQ.out.burn]
    have HSY:=Lib.hid (DskW.sync_any av cv R.syncL (by have:=HNN.out; omega) wr hWr.dsk hrow (fun ad had hf=>by
     have h1:=ownBlock_of_own HTX.out ad.block (by
      rcases HTX.out.2 with ⟨e,_⟩ | ⟨g,cap,cur,e,_⟩
      · rw [had] at e; cases e
      · rw [had] at e ⊢; injection e with e; injection e with e; rw [e]; rfl)
     have h2:=HW.out.dsk.lt hf
     omega) hwl)
    rw [hE] at HSY
    have HDD:=Lib.hid hD
    have HWr:=Lib.hid hWr
    clear hWr hDW hfd hbars hE hD HTX hrow hlen c2 c4 c5
    go_wp2_with fail
    refine HSY.out.mono ?_
    rintro e w2 ⟨wv,rfl,hwv,hd2,hm2⟩
    rw [HDD.out] at hd2
    have hs2:SegAt base w2 R:=HWr.out.seg.mod hm2 (fun k hk hk2=>HWr.out.ap k hk2 hk)
    have c42:w2.cell? ⟨R.blk,4,none⟩=some (.int .i64 (R.e:Int)):=hs2.cell 4 _ rfl
    have c52:w2.cell? ⟨R.blk,5,none⟩=some (.int .i64 (R.synced:Int)):=hs2.cell 5 _ rfl
    have hf2:w2.frozen? ⟨R.blk,5,none⟩=false:=by
     unfold World.frozen?; rw [show w2.heap[(⟨R.blk,5,none⟩:Addr).block]?=_ from hs2.cells]; rfl
    have HD2:=Lib.hid hd2
    have HS2:=Lib.hid hs2
    have HM2:=Lib.hid hm2
    clear hd2 hs2 hm2 HSY
    go_wp2_with fail
    go_ret
    have hft:∀ k,(R.syncD D wv).foot k↔D.foot k:=fun k=>by
     unfold SegD.syncD
     rw [if_neg hnil]
     exact lasts_foot hwv k
    have hblk:(R.syncD D wv).blk=D.blk:=by unfold SegD.syncD; split <;> rfl
    refine ⟨rfl,wv,hwv,⟨seg_sync HS2.out,HD2.out.mod (mod_set _ _ _ _) (fun k hk e=>HW.out.ap k ((hft k).1 hk) (.inl e)),HW.out.db.trans hblk.symm,fun k hk hk2=>HW.out.ap k ((hft k).1 hk) hk2,fun i hi=>?_,fun p hp hne=>?_⟩,?_⟩
    · obtain ⟨g,h1,h2⟩:=syncD_find R D wv (nameL R.head (R.b+i * R.size))
      obtain ⟨h3,h4⟩:=bytes_of_find h1 h2
      obtain ⟨h5,h6⟩:=HW.out.ok i hi
      exact ⟨h3.trans h5,h4.trans h6⟩
    · obtain ⟨g,h1,h2⟩:=syncD_find R D wv (nameL R.head p)
      have:=HW.out.only p hp hne
      show (R.syncD D wv).find (nameL R.head p)=none
      rw [h1,this]; rfl
    · exact (((Mod.of_below HB.out).trans (mod_over (Mod.refl _ wr) HM2.out (fun k hk=>.inl (.inl hk)))).setCell (.inl (.inr (.inl rfl))) _)
end Go.Proofs.YtnoehodmmkioaaaGreatDoor.SegW
namespace Go.Proofs.YtnoehodmmkioaaaGreatDoor.DskW
open Go.RowKit Go.MapKept Go.Shelf OctMath
def anyR (v:Value):Option (DataW Unit×List MemPlace):=some (.lit (.bool true),[])
theorem rd_file {k:TypeId} (hk:Tryz.prog.underlying k=some .string) {x:MapEntry} {n:List UInt8} (h:x.key=.string (S n)) (hn:n.length≤maxLen):Go.WideElems.rd Tryz.prog k anyR x=some (.string n,.lit (.bool true)):=by
 have hs:(S n).size≤maxLen:=by rw [S_size]; exact hn
 have hkey:=WideMaps.keyOf_string_mk (P:=Tryz.prog) hk hs
 have hd:(S n).data.toList=n:=by simp [S]
 unfold Go.WideElems.rd anyR
 rw [h,hkey,hd]; rfl
theorem DiskAt.owns {base:Nat} {w:World} {D:DiskD} (h:DiskAt base w D) (hfl:D.files.length≤maxLen) (hnl:∀ p∈D.files,p.1.length≤maxLen) :
 ∃ D0:DataW Unit,w.ownsMap Tryz.prog 9 anyR D.mB D.files.length D0∧(∀ ss:List (List UInt8),ss.Perm (strKeys D0)→ss.Perm (D.files.map (·.1)))∧Maps.size D0=D.files.length:=by
 obtain ⟨es,c,hb,hst,hmap⟩:=h.map
 have hlen:es.size=D.files.length:=by have:=congrArg List.length hmap; simpa using this
 have hk:=Tryz.underlying9
 have hrg:es.toList.map (Go.WideElems.rg Tryz.prog 9 anyR)=D.files.map (fun p=>((Lit.string p.1,DataW.lit (.bool true)):Lit×DataW Unit)):=by
  have h1:es.toList.map (Go.WideElems.rg Tryz.prog 9 anyR)=(es.toList.map (fun e:MapEntry=>(e.key,e.val))).map (fun q=>Go.WideElems.rg Tryz.prog 9 anyR ⟨q.1,q.2,0⟩):=by
   rw [List.map_map]; rfl
  rw [h1,hmap,List.map_map]
  apply List.map_congr_left
  intro p hp
  exact Go.WideElems.rg_of (rd_file hk rfl (hnl p hp))
 refine ⟨_,⟨es,c,hb,⟨by omega,hst,fun x hx=>?_⟩,by omega,rfl⟩,fun ss hss=>?_,?_⟩
 · obtain ⟨p,hp,hkey,_⟩:=entry_file hmap hx
   exact ⟨_,rd_file hk hkey (hnl p hp)⟩
 ·
  refine hss.trans ?_
  show (((es.toList.map (Go.WideElems.rg Tryz.prog 9 anyR)).foldr DataW.insert []).map fun p=>strOf p.1).Perm _
  rw [hrg]
  refine ((Go.WideShapes.sorted_perm _).map _).trans ?_
  rw [List.map_map]
  exact List.Perm.refl _
 · show ((es.toList.map (Go.WideElems.rg Tryz.prog 9 anyR)).foldr DataW.insert []).length=_
   rw [(Go.WideShapes.sorted_perm _).length_eq,List.length_map,Array.length_toList]; exact hlen
theorem sortsK (m:Nat):AnyZ.SortsIn Tryz.prog Tryz.sortedZ_ren Fence.wide m :=
 ⟨fun blk off cap ss W hH hblk hsz=>callsIn_wide.2 (Tryz.slices_Sort_string blk off cap ss W hH hblk hsz),
  fun p cap W=>callsIn_wide.2 (Tryz.slices_Sort_string_none p cap W)⟩
def DiskD.names (D:DiskD):List (List UInt8):=(D.files.map (·.1)).mergeSort (fun x y=>decide (x≤y))
theorem keys_any (m:Option Nat) (w:World) :
 Calls Tryz.prog 146 #[.map m] w fun e w'=>e=.returned (.func (.func 197) #[] #[.pointer (some ⟨w.heap.size,0,none⟩)])∧w'=w.alloc (.cells #[.map m] 75) :=
 (callsIn_wide (n:=6)).1 (AnyZ.keys_in Tryz.keysZ Fence.wide 6 trivial rfl m w)
theorem sorted_keys {base:Nat} {D:DiskD} (Bm:Nat) (w:World) (h:DiskAt base w D) (hfl:D.files.length≤1048576) (hnl:∀ p∈D.files,p.1.length≤maxLen) (hBl:Bm < w.heap.size) (hBm:w.cell? ⟨Bm,0,none⟩=some (.map (some D.mB))) :
 Calls Tryz.prog 104 #[.func (.func 197) #[] #[.pointer (some ⟨Bm,0,none⟩)]] w fun e w'=>∃ v:Value,e=.returned v ∧
  w'.ownsRow w.heap.size 9 1 v D.names.length (D.names.map fun x=>.string (S x))∧Below w.heap.size w w':=by
 obtain ⟨D0,hown,hperm,hsize⟩:=h.owns (by unfold maxLen; omega) hnl
 refine (callsIn_wide (n:=6)).1 ?_
 have:=AnyZ.sorted_in Tryz.sortedZ Fence.wide 6 trivial trivial trivial trivial rfl (by omega) (sortsK _) (enters_of Tryz.func168 (by kernel_rfl) rfl) 197 #[.pointer (some ⟨Bm,0,none⟩)] trivial (enters_of Tryz.func197 (by kernel_rfl) rfl) (fun ss=>ss.Perm (strKeys D0)) (Maps.size D0) (by rw [hsize]; unfold maxLen; omega) (by rw [hsize]; omega) w
  (AnyZ.keys_gives Tryz.keysZ1 Fence.wide 3 trivial rfl (by omega) Bm D.mB D.files.length D0 w hBl hBm hown)
 refine this.mono ?_
 rintro e w' ⟨v,ss,rfl,hS,hrow,_,hb⟩
 refine ⟨v,rfl,?_,hb⟩
 have hms:ss.mergeSort (fun x y=>decide (x≤y))=D.names:=mergeSort_of_perm (hperm ss hS)
 have hlen:ss.length=D.names.length:=by rw [← hms,List.length_mergeSort]
 rw [hms,hlen] at hrow
 exact hrow
open Go.Sort
def lacks (hd x:List UInt8):Bool:=!(Lib.hasPrefix x hd)
theorem lacks_any (bx:Nat) (hd x:List UInt8) (w:World) (hb:w.cell? ⟨bx,0,none⟩=some (.string (S hd))) :
 FnGives Tryz.prog 148 #[.pointer (some ⟨bx,0,none⟩)] #[encStr x] (.bool (lacks hd x)) w:=by
 show Calls Tryz.prog 148 #[.string (S x),.pointer (some ⟨bx,0,none⟩)] w _
 have c:=Tryz.strings_HasPrefix (S x) (S hd) w
 rw [show Lib.hasPrefix (S x).data.toList (S hd).data.toList=Lib.hasPrefix x hd by simp [S]] at c
 have e:Hid (lacks hd x=!(Lib.hasPrefix x hd)):=rfl
 generalize Lib.hasPrefix x hd=q at *
 generalize lacks hd x=r at *
 go_enter Tryz.func148,Tryz.ntmps148
 go_wp2_with (go_at_call 149; refine c.mono ?_; rintro e w' ⟨rfl,rfl⟩)
 go_ret
 exact ⟨by rw [e.out]; rfl,0,rfl⟩
theorem ownsRow_deleted {W:World} {base g cp q:Nat} {e:TypeId} {cur:Array Value} (ts zs:List (List UInt8)) (n:Nat) (hbase:base≤g) (hb:W.heap[g]?=some (.cells cur e (0,0))) (hn:ts.length+zs.length=n) (h1:n≤cp) (h2:cp≤maxLen) (h3:cur.size=cp * 1) :
 (putRow encStr (Sort.ahead W q) g 0 (ts++zs).toArray).ownsRow base e 1 (.slice (some ⟨g,0,none⟩) ts.length cp) ts.length (ts.map encStr):=by
 have h:=heap_sorted (n:=q) (os:=#[]) (ts++zs).toArray hb
 rw [grow_empty] at h
 refine ⟨by simp,.inr ⟨g,cp,_,rfl,hbase,h,by omega,h2,by simp [putCells,h3],?_⟩⟩
 have h4:=take_putCells cur (ts++zs) (by rw [List.length_append]; omega)
 have h5:=congrArg (List.take ts.length) h4
 rw [List.take_take,Nat.min_eq_left (by rw [List.length_append]; omega)] at h5
 rw [Nat.mul_one,h5,List.map_append,List.take_append_of_le_length (by simp),List.take_of_length_le (by simp)]
def DiskD.list (D:DiskD) (hd:List UInt8):List (List UInt8):=D.names.filter fun x=>Lib.hasPrefix x hd
theorem filter_lacks (l:List (List UInt8)) (hd:List UInt8):(l.filter fun x=>!lacks hd x)=l.filter fun x=>Lib.hasPrefix x hd:=by
 congr 1; funext x; unfold lacks; rw [Bool.not_not]
theorem index_none (bx:Nat) (w:World) :
 Calls Tryz.prog 198 #[.slice none 0 0,.func (.func 148) #[] #[.pointer (some ⟨bx,0,none⟩)]] w fun e w'=>e=.returned (.int .i64 (-1))∧Below w.heap.size w w':=by
 go_enter Tryz.func198,Tryz.ntmps198
 go_wp2_with fail
 go_loopw [8] (fun i wr=>i=.int .i64 0∧Hid (Below w.heap.size w wr)) (fun i _=>0)
 case atStart=>exact ⟨rfl,Below.refl _ _⟩
 case round =>
  obtain ⟨rfl,HB⟩:=hrel
  go_wp2_with fail
  go_ret
  exact ⟨rfl,HB.out⟩
theorem deleted_names (bx base:Nat) (hd:List UInt8) (l:List (List UInt8)) (v:Value) (w:World) (hown:w.ownsRow base 9 1 v l.length (l.map encStr)) (hbx:bx < base) (hbl:base≤w.heap.size) (hb:w.cell? ⟨bx,0,none⟩=some (.string (S hd))) :
 Calls Tryz.prog 147 #[v,.func (.func 148) #[] #[.pointer (some ⟨bx,0,none⟩)]] w fun e w'=>∃ v':Value,e=.returned v' ∧
  w'.ownsRow base 9 1 v' (l.filter fun x=>Lib.hasPrefix x hd).length ((l.filter fun x=>Lib.hasPrefix x hd).map encStr)∧Below base w w':=by
 have eg:∀ args w,(callFunc 148 args).run Tryz.prog w=.ok (.enter 148 args) w:=enters_of Tryz.func148 (by kernel_rfl) rfl
 have hbxl:bx < w.heap.size:=by omega
 rcases hown.2 with ⟨rfl,h0⟩ | ⟨g,cp,cur,rfl,hg,hgb,hnc,hcm,hcs,hct⟩
 ·
  obtain rfl:l=[]:=List.length_eq_zero_iff.1 h0
  have c:=Lib.hid (index_none bx w)
  clear hown hb h0 eg
  go_enter Tryz.func147,Tryz.ntmps147
  go_wp2_with fail
  refine c.out.mono ?_
  rintro e w2 ⟨rfl,hb2⟩
  have HB:=Lib.hid hb2
  clear hb2 c
  go_wp2_with fail
  go_ret
  exact ⟨_,rfl,⟨rfl,.inl ⟨rfl,rfl⟩⟩,HB.out.mono hbl⟩
 ·
  have hgl:g < w.heap.size:=(Array.getElem?_eq_some_iff.1 hgb).1
  have hne:bx≠g:=by omega
  rw [Nat.mul_one] at hct
  have hH:=holds_of_block hgb hct
  have hcon:=AnyE.slices_DeleteFunc Tryz.delZ encStr (fun _=>rfl) (lacks hd) 148 #[.pointer (some ⟨bx,0,none⟩)] eg [] Tryz.zeroValue9 g 0 cp l.toArray w
   (fun W x hbe=>lacks_any bx hd x W (by rw [hbe.cell hbxl]; exact hb))
   (fun n os dk x _=>lacks_any bx hd x _ (by
    unfold sortWorld
    rw [cell?_grow _ _ _ (by show bx < (putRow _ _ _ _ _).heap.size; rw [size_putRow]; exact hbxl),cell?_putRow_other _ _ g 0 _ _ (Or.inl hne)]
    exact hb)) hH (by simp; unfold maxLen at hcm; omega) (by simpa using hnc)
  change Calls Tryz.prog 147 _ _ _ at hcon
  refine Calls.mono (by simpa using hcon) ?_
  rintro e w' ⟨rfl,q,rfl⟩
  rw [filter_lacks]
  have hfl:(l.filter fun x=>Lib.hasPrefix x hd).length≤l.length:=List.length_filter_le _ _
  have hz:l.toArray.size=l.length:=by simp
  refine ⟨_,rfl,?_,?_⟩
  · exact ownsRow_deleted _ _ l.length hg hgb (by rw [List.length_replicate]; omega) hnc hcm hcs
  · have hgr:=grownBy_sorted (w:=w) (g:=g) (n:=q) (os:=#[]) ((l.filter fun x=>Lib.hasPrefix x hd)++List.replicate (l.length - (l.filter fun x=>Lib.hasPrefix x hd).length) []).toArray
    rw [grow_empty] at hgr
    exact ⟨hgr.os,hgr.tape,hgr.output,hgr.size,fun k hk=>hgr.block k (by omega) (by intro e; cases e; omega)⟩
theorem list_any {base:Nat} {D:DiskD} (hd:List UInt8) (w:World) (h:DiskAt base w D) (hfl:D.files.length≤1048576) (hnl:∀ p∈D.files,p.1.length≤maxLen) :
 Calls Tryz.prog 88 #[.pointer (some ⟨D.blk,0,none⟩),.string (S hd)] w fun e w'=>∃ v:Value,e=.returned v ∧
  w'.ownsRow w.heap.size 9 1 v (D.list hd).length ((D.list hd).map encStr)∧Below w.heap.size w w':=by
 obtain ⟨w1,hw1⟩:∃ w1:World,w1=w.alloc (.cells #[.string (S hd)] 9):=⟨_,rfl⟩
 have b1:Below w.heap.size w w1:=by rw [hw1]; exact (Below.refl _ _).alloc (Nat.le_refl _) _
 have s1:w1.heap.size=w.heap.size+1:=by rw [hw1]; simp
 have hbox1:w1.cell? ⟨w.heap.size,0,none⟩=some (.string (S hd)):=by rw [hw1,World.cell?_alloc_new]; rfl
 have h1:DiskAt base w1 D:=h.below b1
 have c2:w1.cell? ⟨D.blk,2,none⟩=some (.map (some D.mB)):=h1.cell 2 _ rfl
 have k1:=Lib.hid (keys_any (some D.mB) w1)
 obtain ⟨w2,hw2⟩:∃ w2:World,w2=w1.alloc (.cells #[.map (some D.mB)] 75):=⟨_,rfl⟩
 have b2:Below w1.heap.size w1 w2:=by rw [hw2]; exact (Below.refl _ _).alloc (Nat.le_refl _) _
 have s2:w2.heap.size=w1.heap.size+1:=by rw [hw2]; simp
 have hbox2:w2.cell? ⟨w1.heap.size,0,none⟩=some (.map (some D.mB)):=by rw [hw2,World.cell?_alloc_new]; rfl
 have h2:DiskAt base w2 D:=h1.below b2
 have hbox3:w2.cell? ⟨w.heap.size,0,none⟩=some (.string (S hd)):=by rw [b2.cell (by show w.heap.size < _; omega)]; exact hbox1
 have k2:=Lib.hid (sorted_keys w1.heap.size w2 h2 hfl hnl (by omega) hbox2)
 rw [← hw2] at k1
 have B2:Hid (Below w.heap.size w w2):=b1.trans (b2.mono (by omega))
 have BX:=Lib.hid hbox3
 have B1:=Lib.hid hw1
 have HS1:=Lib.hid s1
 have HS2:=Lib.hid s2
 clear h h1 h2 hbox2 b2 hw2 hbox3 s1 s2 b1 hbox1 hw1
 go_enter Tryz.func88,Tryz.ntmps88
 go_upto_region 1 with fail
 rw [← B1.out]
 go_wp2_with fail
 refine k1.out.mono ?_
 rintro e wz ⟨rfl,rfl⟩
 go_wp2_with fail
 refine k2.out.mono ?_
 rintro e w3 ⟨v,rfl,hrow,hb3⟩
 have HR:=Lib.hid hrow
 have HB:=Lib.hid hb3
 have k3:=Lib.hid (deleted_names w.heap.size wz.heap.size hd D.names v w3 hrow (by have:=HS1.out; have:=HS2.out; omega) hb3.size (by rw [hb3.cell (by have:=HS1.out; have:=HS2.out; show w.heap.size < _; omega)]; exact BX.out))
 clear hrow hb3
 go_wp2_with fail
 refine k3.out.mono ?_
 rintro e w4 ⟨v',rfl,hrow,hb4⟩
 have HR4:=Lib.hid hrow
 have HB4:=Lib.hid hb4
 clear hrow hb4
 go_wp2_with fail
 go_ret
 have q1:=HS1.out
 have q2:=HS2.out
 exact ⟨_,rfl,by obtain ⟨h1,h2⟩:=HR4.out; exact ⟨h1,h2.imp_right fun ⟨g,cp,cur,a,b,c⟩=>⟨g,cp,cur,a,Nat.le_trans (by omega) b,c⟩⟩,B2.out.trans ((HB.out.trans HB4.out).mono (by omega))⟩
end Go.Proofs.YtnoehodmmkioaaaGreatDoor.DskW
namespace Go.Proofs.YtnoehodmmkioaaaGreatDoor.SegW
open Go.RowKit OctMath DskW
theorem num_mono:∀ (a b:List UInt8) (x y:Nat),a.length=b.length→(∀ c∈a,dig c=true)→(∀ c∈b,dig c=true)→x < y→numFrom x a < numFrom y b:=by
 intro a
 induction a with
 | nil =>
   intro b x y hl _ _ h
   cases b with
   | nil=>exact h
   | cons _ _=>cases hl
 | cons c a ih =>
   intro b x y hl ha hb h
   cases b with
   | nil=>cases hl
   | cons d b =>
     have h1:=ha c (.head _)
     have h2:=hb d (.head _)
     unfold dig at h1 h2
     simp only [Bool.and_eq_true,decide_eq_true_eq] at h1 h2
     show numFrom (x * 10+(c.toNat - 48)) a < numFrom (y * 10+(d.toNat - 48)) b
     refine ih b _ _ (by simpa using hl) (fun c hc=>ha c (.tail _ hc)) (fun c hc=>hb c (.tail _ hc)) ?_
     omega
theorem num_lex:∀ (a b:List UInt8) (z:Nat),a.length=b.length→(∀ c∈a,dig c=true)→(∀ c∈b,dig c=true)→a < b→numFrom z a < numFrom z b:=by
 intro a
 induction a with
 | nil =>
   intro b z hl _ _ h
   cases b with
   | nil=>exact absurd h (List.not_lt_nil _)
   | cons _ _=>cases hl
 | cons c a ih =>
   intro b z hl ha hb h
   cases b with
   | nil=>cases hl
   | cons d b =>
     have h1:=ha c (.head _)
     have h2:=hb d (.head _)
     unfold dig at h1 h2
     simp only [Bool.and_eq_true,decide_eq_true_eq] at h1 h2
     show numFrom (z * 10+(c.toNat - 48)) a < numFrom (z * 10+(d.toNat - 48)) b
     rcases List.cons_lt_cons_iff.1 h with h9 | ⟨rfl,h9⟩
     · have:=UInt8.lt_iff_toNat_lt.1 h9
       exact num_mono a b _ _ (by simpa using hl) (fun c hc=>ha c (.tail _ hc)) (fun c hc=>hb c (.tail _ hc)) (by omega)
     · exact ih b _ (by simpa using hl) (fun c hc=>ha c (.tail _ hc)) (fun c hc=>hb c (.tail _ hc)) h9
theorem app_lt (h a b:List UInt8):h++a < h++b↔a < b:=by
 induction h with
 | nil=>exact Iff.rfl
 | cons c h ih =>
   rw [List.cons_append,List.cons_append,List.cons_lt_cons_iff,ih]
   constructor
   · rintro (h | ⟨_,h⟩)
     · exact absurd h (UInt8.lt_irrefl _)
     · exact h
   · exact fun h=>.inr ⟨rfl,h⟩
theorem place_parts {head x:List UInt8} {p:Nat} (h:placeL head x=some p):∃ ds,x=head++ds∧ds.length=8∧(∀ c∈ds,dig c=true)∧numL ds=p:=by
 unfold placeL at h
 split at h
 ·
  rename_i h1
  obtain ⟨h2,h3,h4⟩:=h1
  unfold Lib.hasPrefix at h2
  rw [List.isPrefixOf_iff_prefix] at h2
  obtain ⟨t,rfl⟩:=h2
  rw [List.drop_left] at h3 h4 h
  exact ⟨t,rfl,h3,h4,Option.some.inj h⟩
 · cases h
theorem place_lex {head x y:List UInt8} {p q:Nat} (hx:placeL head x=some p) (hy:placeL head y=some q) (h:x < y):p < q:=by
 obtain ⟨a,rfl,a1,a2,rfl⟩:=place_parts hx
 obtain ⟨b,rfl,b1,b2,rfl⟩:=place_parts hy
 exact num_lex a b 0 (a1.trans b1.symm) a2 b2 ((app_lt head a b).1 h)
theorem place_eq {head x:List UInt8} {p:Nat} (hx:placeL head x=some p):x=nameL head p:=by
 have hp:=place_lt hx
 have hy:=place_name head p hp
 rcases Std.lt_trichotomy x (nameL head p) with h | h | h
 · exact absurd (place_lex hx hy h) (Nat.lt_irrefl _)
 · exact h
 · exact absurd (place_lex hy hx h) (Nat.lt_irrefl _)
theorem sorted_ext:∀ (l m:List Nat),l.Pairwise (· < ·)→m.Pairwise (· < ·)→(∀ x,x∈l↔x∈m)→l=m:=by
 intro l
 induction l with
 | nil =>
   intro m _ _ h
   cases m with
   | nil=>rfl
   | cons y m=>exact absurd ((h y).2 (.head _)) (by simp)
 | cons x l ih =>
   intro m hl hm h
   cases m with
   | nil=>exact absurd ((h x).1 (.head _)) (by simp)
   | cons y m =>
     rw [List.pairwise_cons] at hl hm
     have e:x=y:=by
      rcases List.mem_cons.1 ((h x).1 (.head _)) with h1 | h1
      · exact h1
      · rcases List.mem_cons.1 ((h y).2 (.head _)) with h2 | h2
        · exact h2.symm
        · have:=hm.1 x h1
          have:=hl.1 y h2
          omega
     subst e
     rw [ih m hl.2 hm.2 fun z=>⟨fun hz=>by
      rcases List.mem_cons.1 ((h z).1 (.tail _ hz)) with h1 | h1
      · have:=hl.1 z hz; omega
      · exact h1,fun hz=>by
      rcases List.mem_cons.1 ((h z).2 (.tail _ hz)) with h1 | h1
      · have:=hm.1 z hz; omega
      · exact h1⟩]
structure LaidOn (D:DiskD) (R:SegD):Prop where
 sz:16≤R.size∧R.size≤4096
 empty:R.n=0→R.b=0∧R.txt=[]
 long:0 < R.n→(R.n - 1) * R.size≤R.txt.length∧R.txt.length≤R.n * R.size∧R.b+(R.n - 1) * R.size≤99999999
 mult:R.b % R.size=0
 hd:R.head.length≤1048576
 ok:SegOk D R
 only:SegOnly D R
 db:R.db=D.blk
theorem LaidOn.place_le {D:DiskD} {R:SegD} (h:LaidOn D R) {i:Nat} (hi:i < R.n):R.b+i * R.size≤99999999:=by
 have h1:=(h.long (by omega)).2.2
 have h2:i * R.size≤(R.n - 1) * R.size:=Nat.mul_le_mul_right _ (by omega)
 omega
theorem LaidOn.places_sorted {D:DiskD} {R:SegD} (h:LaidOn D R):R.places.Pairwise (· < ·):=by
 unfold SegD.places
 rw [List.pairwise_map]
 refine List.Pairwise.imp ?_ (List.pairwise_lt_range)
 intro a b hab
 have:(a+1) * R.size≤b * R.size:=Nat.mul_le_mul_right _ hab
 rw [Nat.add_mul,Nat.one_mul] at this
 have:=h.sz
 omega
theorem list_sorted (D:DiskD) (hn:(D.files.map (·.1)).Nodup) (hd:List UInt8):(D.list hd).Pairwise (fun x y=>x < y):=by
 have h1:D.names.Pairwise (fun x y=>x≤y):=by
  have:=List.pairwise_mergeSort (le:=fun x y:List UInt8=>decide (x≤y)) (fun a b c h1 h2=>decide_eq_true (List.le_trans (of_decide_eq_true h1) (of_decide_eq_true h2))) (fun a b=>by
   rcases List.le_total a b with h | h
   · simp [h]
   · simp [h]) (D.files.map (·.1))
  exact this.imp fun h=>of_decide_eq_true h
 have h2:D.names.Nodup:=(List.mergeSort_perm _ _).nodup_iff.2 hn
 have h3:D.names.Pairwise (fun x y=>x < y):=(h1.and h2).imp fun {x y} ⟨h,h'⟩=>by
  rcases Std.lt_trichotomy x y with h3 | h3 | h3
  · exact h3
  · exact absurd h3 h'
  · exact absurd h3 (List.not_lt.2 h)
 unfold DiskD.list
 exact h3.filter _
theorem mem_list {D:DiskD} {hd x:List UInt8}:x∈D.list hd↔Lib.hasPrefix x hd=true∧x∈D.files.map (·.1):=by
 unfold DiskD.list
 rw [List.mem_filter]
 unfold DiskD.names
 rw [List.mem_mergeSort]
 exact And.comm
theorem find_isSome {D:DiskD} {x:List UInt8}:(D.find x).isSome=true↔x∈D.files.map (·.1):=by
 unfold DiskD.find
 rw [Option.isSome_map,List.find?_isSome]
 simp
theorem LaidOn.found {D:DiskD} {R:SegD} (h:LaidOn D R) (hn:(D.files.map (·.1)).Nodup):(D.list R.head).filterMap (placeL R.head)=R.places:=by
 refine sorted_ext _ _ ?_ h.places_sorted fun x=>?_
 ·
  rw [List.pairwise_filterMap]
  refine (list_sorted D hn R.head).imp ?_
  intro a b hab p hp q hq
  exact place_lex hp hq hab
 ·
  rw [List.mem_filterMap]
  constructor
  ·
   rintro ⟨y,hy,hp⟩
   obtain rfl:=place_eq hp
   have hle:=place_lt hp
   have hs:=find_isSome.2 (mem_list.1 hy).2
   unfold SegD.places
   rw [List.mem_map]
   apply Classical.byContradiction
   intro hno
   have:=h.only x hle fun i hi e=>hno ⟨i,List.mem_range.2 hi,e.symm⟩
   rw [this] at hs; cases hs
  ·
   intro hx
   unfold SegD.places at hx
   obtain ⟨i,hi,rfl⟩:=List.mem_map.1 hx
   have hi:=List.mem_range.1 hi
   exact ⟨nameL R.head (R.b+i * R.size),mem_list.2 ⟨prefix_append _ _,find_isSome.1 (h.ok i hi).2⟩,place_name _ _ (h.place_le hi)⟩
def SegD.upto (R:SegD) (m:Nat) (pv:Value):SegD:={ R with n:=m,b:=if m=0 then 0 else R.b,txt:=R.txt.take (m * R.size),synced:=0,pv:=pv }
theorem LaidOn.upto_all {D:DiskD} {R:SegD} (h:LaidOn D R) (pv:Value):R.upto R.n pv={ R with synced:=0,pv:=pv }:=by
 unfold SegD.upto
 rcases Nat.eq_zero_or_pos R.n with h0 | h0
 · obtain ⟨e1,e2⟩:=h.empty h0
   rw [if_pos h0,e1,e2]; simp
 · rw [if_neg (by omega),List.take_of_length_le (h.long h0).2.1]
theorem LaidOn.upto_e {D:DiskD} {R:SegD} (h:LaidOn D R) {m:Nat} (hm:m < R.n) (pv:Value):(R.upto m pv).e=if m=0 then 0 else R.b+m * R.size:=by
 have hl:=(h.long (by omega)).1
 have h2:m * R.size≤(R.n - 1) * R.size:=Nat.mul_le_mul_right _ (by omega)
 unfold SegD.upto SegD.e
 simp only
 by_cases h0:m=0
 · rw [if_pos h0,if_pos h0,h0]; simp
 · rw [if_neg h0,if_neg h0,List.length_take]; omega
theorem LaidOn.upto_succ_e {D:DiskD} {R:SegD} (h:LaidOn D R) {m:Nat} (hm:m < R.n) (pv:Value):(R.upto (m+1) pv).e=R.b+m * R.size+(D.bytes (nameL R.head (R.b+m * R.size))).length∧(D.bytes (nameL R.head (R.b+m * R.size))).length≤R.size∧(m+1 < R.n→(D.bytes (nameL R.head (R.b+m * R.size))).length=R.size):=by
 have hl:=(h.long (by omega)).1
 have h2:m * R.size≤(R.n - 1) * R.size:=Nat.mul_le_mul_right _ (by omega)
 have h3:(D.bytes (nameL R.head (R.b+m * R.size))).length=min R.size (R.txt.length - m * R.size):=by
  rw [(h.ok m hm).1,List.length_take,List.length_drop]
 refine ⟨?_,by omega,fun h4=>?_⟩
 ·
  unfold SegD.upto SegD.e
  simp only
  rw [if_neg (by omega),List.length_take,h3,Nat.add_mul,Nat.one_mul]
  omega
 · have h5:(m+1) * R.size≤(R.n - 1) * R.size:=Nat.mul_le_mul_right _ (by omega)
   rw [Nat.add_mul,Nat.one_mul] at h5
   omega
theorem own_cell {w:World} {base n:Nat} {e:TypeId} {v:Value} {xs:List Value} (h:w.ownsRow base e 1 v n xs) (i:Nat) (hi:i < n) (x:Value) (hx:xs[i]?=some x):∃ g cap,v=.slice (some ⟨g,0,Option.none⟩) n cap∧n≤cap∧w.cell? ⟨g,i,Option.none⟩=some x:=by
 rcases h.2 with ⟨_,e⟩ | ⟨g,cap,cur,e,_,hg,hn,_,hsz,ht⟩
 · omega
 ·
  refine ⟨g,cap,e,hn,?_⟩
  unfold World.cell?
  rw [hg]
  have h1:(cur.toList.take (n * 1))[i]?=some x:=by rw [ht]; exact hx
  rw [List.getElem?_take_of_lt (by omega)] at h1
  simpa using h1
theorem own_base {w:World} {base B n sz:Nat} {e:TypeId} {v:Value} {xs:List Value} (h:w.ownsRow base e sz v n xs) (hB:∀ k,v.ownBlock=some k→B≤k):w.ownsRow B e sz v n xs:=by
 refine ⟨h.1,?_⟩
 rcases h.2 with h0 | ⟨g,cap,cur,e,hb,r⟩
 · exact .inl h0
 · exact .inr ⟨g,cap,cur,e,hB g (by rw [e]; rfl),r⟩
theorem own_shape {w:World} {base n sz:Nat} {e:TypeId} {v:Value} {xs:List Value} (h:w.ownsRow base e sz v n xs):∃ a cap,v=.slice a n cap:=by
 rcases h.2 with ⟨e,e0⟩ | ⟨g,cap,cur,e,_⟩
 · exact ⟨_,_,by rw [e,e0]⟩
 · exact ⟨_,_,e⟩
theorem upto_places (R:SegD) (m:Nat) (pv:Value):(R.upto m pv).places=(List.range m).map fun i=>R.b+i * R.size:=by
 unfold SegD.places SegD.upto
 simp only
 by_cases h0:m=0
 · subst h0; rfl
 · rw [if_neg h0]
theorem filterMap_split {L:List (List UInt8)} {f:List UInt8→Option Nat} {P:List Nat} (h:L.filterMap f=P) {k:Nat} {x:List UInt8} (hx:L[k]?=some x) :
 (L.take (k+1)).filterMap f=(L.take k).filterMap f++(f x).toList∧((L.take k).filterMap f).length≤P.length∧(∀ p,f x=some p→P[((L.take k).filterMap f).length]?=some p):=by
 have h1:L.take (k+1)=L.take k++[x]:=by
  rw [List.take_add_one,hx]; rfl
 have h2:P=(L.take (k+1)).filterMap f++(L.drop (k+1)).filterMap f:=by rw [← List.filterMap_append,List.take_append_drop,h]
 have h3:(L.take (k+1)).filterMap f=(L.take k).filterMap f++(f x).toList:=by
  rw [h1,List.filterMap_append]
  cases hf:f x <;> simp [hf]
 refine ⟨h3,by rw [h2,h3]; simp <;> omega,fun p hp=>?_⟩
 rw [h2,h3,hp]
 simp
theorem upto_cells {base:Nat} {w3 w4:World} {D:DiskD} {R:SegD} {m B:Nat} {pv:Value} {o:Obj} (hS:SegAt base w3 (R.upto m pv)) (hg:(w3.alloc o).grownBy w4 pv.ownBlock) (hpv:∀ k,pv.ownBlock=some k→B≤k) (hB:R.blk < B) :
 w4.heap[R.blk]?=some (.cells (R.upto m pv).cells 116 (0,0)):=by
 have hlt:R.blk < w3.heap.size:=hS.lt (.inl rfl)
 have h1:(w3.alloc o).heap[R.blk]?=some (.cells (R.upto m pv).cells 116 (0,0)):=((Below.refl w3.heap.size w3).alloc (Nat.le_refl _) o).block _ hlt |>.trans hS.cells
 exact (hg.block R.blk (by rw [World.size_alloc]; omega) (fun e=>by have:=hpv _ e.symm; omega)).trans h1
theorem upto_next {base:Nat} {w3 w4:World} {D:DiskD} {R:SegD} {m B p:Nat} {pv v':Value} {o:Obj} (hL:LaidOn D R) (hm:m < R.n) (hS:SegAt base w3 (R.upto m pv)) (hg:(w3.alloc o).grownBy w4 pv.ownBlock) (hpv:∀ k,pv.ownBlock=some k→B≤k) (hB:R.blk < B) (hbB:base≤B) (hp:p=R.b+m * R.size)
 (hown:w4.ownsRow B 3 1 v' (m+1) ((R.upto m pv).places.map (fun (q:Nat)=>Value.int .i64 (q:Int))++[.int .i64 (p:Int)])) :
 SegAt base ((w4.setCell ⟨R.blk,3,none⟩ v').setCell ⟨R.blk,4,none⟩ (.int .i64 ((p:Int)+((D.bytes (nameL R.head p)).length:Int)))) (R.upto (m+1) v'):=by
 have hc:=upto_cells (D:=D) hS hg hpv hB
 have hve:∀ k,v'.ownBlock=some k→k≠R.blk:=fun k hk e=>by have:=ownBlock_of_own hown k hk; omega
 obtain ⟨e1,e2,e3⟩:=hL.upto_succ_e hm v'
 have hml:=hL.long (by omega)
 have hms:m * R.size≤(R.n - 1) * R.size:=Nat.mul_le_mul_right _ (by omega)
 have hle:=hL.place_le hm
 refine ⟨heap_set1 (heap_set1 hc v' rfl) _ ?_,?_,hve,hS.above,hL.sz,fun h=>absurd (show m+1=0 from h) (by omega),fun _=>?_,?_,Nat.zero_le _,hL.hd⟩
 · rw [hp]
   have e4:((R.upto (m+1) v').e:Int)=((R.b+m * R.size:Nat):Int)+((D.bytes (nameL R.head (R.b+m * R.size))).length:Int):=by rw [e1]; omega
   rw [← e4]; rfl
 ·
  have h1:(R.upto (m+1) v').places.map (fun (q:Nat)=>Value.int .i64 (q:Int))=(R.upto m pv).places.map (fun (q:Nat)=>Value.int .i64 (q:Int))++[.int .i64 (p:Int)]:=by
   rw [upto_places,upto_places,List.range_succ,List.map_append,List.map_append,hp]; rfl
  rw [h1]
  have h2:w4.ownsRow base 3 1 v' (m+1) _:=own_base hown (fun k hk=>Nat.le_trans hbB (ownBlock_of_own hown k hk))
  exact ownsRow_mod (M:=fun k=>k=R.blk) (ownsRow_mod (M:=fun k=>k=R.blk) h2 (mod_set _ _ _ _) (fun k hk e=>hve k hk e)) (mod_set _ _ _ _) (fun k hk e=>hve k hk e)
 · show (m+1 - 1) * R.size≤(R.txt.take ((m+1) * R.size)).length∧(R.txt.take ((m+1) * R.size)).length≤(m+1) * R.size∧(if m+1=0 then 0 else R.b)+(m+1 - 1) * R.size≤99999999
   rw [if_neg (by omega),List.length_take,Nat.add_sub_cancel,Nat.add_mul,Nat.one_mul]
   omega
 · show (if m+1=0 then 0 else R.b) % R.size=0
   rw [if_neg (by omega)]; exact hL.mult
theorem found_any {base:Nat} {D:DiskD} {R:SegD} (w:World) (hL:LaidOn D R) (hR:SegAt base w (R.upto 0 (.slice none 0 0))) (hD:DiskAt base w D) (hap:¬ D.foot R.blk) (hfl:D.files.length≤1048576) (hnl:∀ p∈D.files,p.1.length≤1073741824) (hbase:base≤w.heap.size) :
 Calls Tryz.prog 172 #[.pointer (some ⟨R.blk,0,none⟩)] w fun e w'=>e=.returned (.slice none 0 0)∧∃ pv,SegAt base w' (R.upto R.n pv)∧Mod (fun k=>k=R.blk) w w'∧∀ k,pv.ownBlock=some k→w.heap.size≤k:=by
 obtain ⟨i0,hi0,hz0,hz1,hz2⟩:=info_parts (show (Tryz.prog.info? 3).map (fun i=>(i.zero,i.size,i.bytes))=some (some (.int .i64 0),1,8) by kernel_rfl)
 obtain ⟨L,HLL⟩:∃ L,Hid (L=D.list R.head):=⟨_,rfl⟩
 have HFD:Hid (L.filterMap (placeL R.head)=R.places):=by rw [HLL.out]; exact hL.found hD.names
 have HLN:Hid (∀ x∈L,x.length≤1073741824):=fun x hx=>by
  rw [HLL.out] at hx
  obtain ⟨p,hp,rfl⟩:=List.mem_map.1 (mem_list.1 hx).2
  exact hnl p hp
 have hLl:L.length≤1048576:=by
  rw [HLL.out]
  refine Nat.le_trans (List.length_filter_le _ _) ?_
  unfold DiskD.names
  rw [List.length_mergeSort,List.length_map]; exact hfl
 have HLI:=Lib.hid (fun (w2:World) (hb:Below w.heap.size w w2)=>list_any R.head w2 (hD.below hb) hfl (fun p hp=>by have:=hnl p hp; unfold maxLen; omega))
 rw [← HLL.out] at HLI
 have HC0:Hid (∀ w2:World,Below w.heap.size w w2→w2.cell? ⟨R.blk,0,none⟩=some (.pointer (some ⟨D.blk,0,none⟩))):=fun w2 hb=>(hR.below hb).cell 0 _ (by rw [← hL.db]; rfl)
 have HC1:Hid (∀ w2:World,Below w.heap.size w w2→w2.cell? ⟨R.blk,1,none⟩=some (.string (S R.head))):=fun w2 hb=>(hR.below hb).cell 1 _ rfl
 have HL:=Lib.hid hL
 have HR:=Lib.hid hR
 have HD:=Lib.hid hD
 have HAP:=Lib.hid hap
 have HPN:Hid (R.places.length=R.n):=by show R.places.length=R.n; unfold SegD.places; simp
 have hRB:R.blk < w.heap.size:=hR.lt (.inl rfl)
 clear hL hR hD hap hfl hnl
 go_enter Tryz.func172,Tryz.ntmps172
 go_wp2_with fail
 refine Grow.wp_region_g 11 [none,none,none,some (.inl (.pointer (some ⟨D.blk,0,none⟩))),none,none,none,some (.inl (.string (S R.head))),some (.inr fun v w2=>∃ a cap,v=.slice a L.length cap∧w2.ownsRow w.heap.size 9 1 v L.length (L.map encStr)),some (.inl (.int .i64 (L.length:Int))),none] Ext (by kernel_rfl) (by kernel_rfl) (by kernel_rfl) Ext.refl (fun _ _ _=>Ext.trans) ?_ ?_
 ·
  intro K hK Y hY v w w' hR h
  simp only [List.mem_cons,List.not_mem_nil,or_false] at hK
  rcases hK with rfl | rfl | rfl | rfl | rfl | rfl | rfl | rfl | rfl | rfl | rfl <;> simp only [reduceCtorEq,Option.some.injEq,Sum.inr.injEq] at hY
  subst hY
  obtain ⟨a,cap,e,ho⟩:=h
  exact ⟨a,cap,e,ownsRow_mod (M:=fun _=>False) ho (Mod.of_below hR) (fun _ _ h=>h)⟩
 simp only [List.take_succ_cons,List.take_zero,List.drop_succ_cons,List.drop_zero]
 iterate 3
  refine Grow.g_det rfl ?_
  apply Exists.intro
  refine ⟨fun w hw hF=>?_,?_⟩
  · clear hF
    go_simp
    exact ⟨rfl,Ext.refl _⟩
  go_frame
 refine Grow.g_con rfl (fun w2' hw hF=>?_) ?_
 ·
  clear hF
  have c0:=HC0.out w2' ((Below.refl w.heap.size w).drew.trans hw)
  go_simp
  all_goals exact Ext.refl _
 iterate 3
  go_frame
  refine Grow.g_det rfl ?_
  apply Exists.intro
  refine ⟨fun w hw hF=>?_,?_⟩
  · clear hF
    go_simp
    exact ⟨rfl,Ext.refl _⟩
 go_frame
 refine Grow.g_con rfl (fun w2' hw hF=>?_) ?_
 ·
  clear hF
  have c1:=HC1.out w2' ((Below.refl w.heap.size w).drew.trans hw)
  go_simp
  all_goals exact Ext.refl _
 go_frame
 refine Grow.g_new rfl (fun w2' hw hF=>?_) (fun vL=>?_)
 ·
  clear hF
  have hwz:w.heap.size≤w2'.heap.size:=((Below.refl w.heap.size w).drew.trans hw).size
  go_simp
  refine (HLI.out w2' ((Below.refl w.heap.size w).drew.trans hw)).mono ?_
  rintro e w3 ⟨v,rfl,ho,hb⟩
  obtain ⟨a,cap,rfl⟩:=own_shape ho
  exact ⟨_,rfl,⟨⟨a,cap,rfl⟩,own_base ho (fun k hk=>Nat.le_trans hwz (ownBlock_of_own ho k hk))⟩,hb⟩
 simp only [Act.put,List.setIfInBounds_toArray,List.set_cons_zero,List.set_cons_succ,Grow.addF]
 refine Grow.g_con rfl (fun w2' hw hF=>?_) ?_
 ·
  obtain ⟨a,cap,rfl,ho⟩:=hF _ (List.Mem.head _) (by simp [Oper.looksAt,Op.operands,Call.operands])
  clear hF
  go_simp
  all_goals exact Ext.refl _
 go_frame
 refine Grow.g_det rfl ?_
 apply Exists.intro
 refine ⟨fun w hw hF=>?_,?_⟩
 · clear hF
   go_simp
   exact ⟨rfl,Ext.refl _⟩
 go_frame
 refine Grow.g_nil fun w1 hw1 hF=>?_
 obtain ⟨a,cap,rfl,hown⟩:=hF _ (List.Mem.head _)
 clear hF
 refine wpList_nil ?_
 have HB:=Lib.hid ((Below.refl w.heap.size w).drew.trans (show Below w.heap.size w.drew w1 from hw1))
 have HROW:=Lib.hid hown
 clear hw1 HLI HC0 HC1
 have HXC:Hid (∀ (k:Nat) (x:List UInt8),L[k]?=some x→∃ g cp,(Value.slice a L.length cap)=.slice (some ⟨g,0,none⟩) L.length cp∧L.length≤cp∧w1.cell? ⟨g,k,none⟩=some (.string (S x))∧g < w1.heap.size∧w.heap.size≤g):=fun k x hx=>by
  have hk:k < L.length:=(List.getElem?_eq_some_iff.1 hx).1
  obtain ⟨g,cp,e,h1,h2⟩:=own_cell hown k hk (encStr x) (by rw [List.getElem?_map,hx]; rfl)
  exact ⟨g,cp,e,h1,h2,cell_lt h2,ownBlock_of_own hown g (by rw [e]; rfl)⟩
 clear hown
 go_wp2_with fail
 go_loopw [3,4,21] (fun v3 v4 i wr=>∃ (k m:Nat) (pv:Value) (b:Bool),k≤L.length∧i=.int .i64 k∧v3=.slice none 0 0∧v4=.bool b∧Hid (m=((L.take k).filterMap (placeL R.head)).length)∧Hid (m < R.n→b=true) ∧
  Hid (SegAt base wr (R.upto m pv))∧Hid (Mod (fun k=>k=R.blk) w1 wr)∧Hid (∀ k,pv.ownBlock=some k→w1.heap.size≤k)) (fun _ _ i _=>L.length - (intOf i).toNat)
 case atStart=>exact ⟨0,0,.slice none 0 0,true,Nat.zero_le _,rfl,rfl,rfl,rfl,fun _=>rfl,HR.out.below HB.out,Mod.refl _ _,fun k h=>by cases h⟩
 case round =>
  obtain ⟨k,m,pv,b,hk,rfl,rfl,rfl,HM,HBT,HS,HMD,HPV⟩:=hrel
  have hbs:=HB.out.size
  by_cases hlt:k < L.length
  ·
   obtain ⟨x,hx⟩:∃ x,L[k]?=some x:=⟨L[k],List.getElem?_eq_getElem hlt⟩
   obtain ⟨s1,s2,s3⟩:=filterMap_split HFD.out hx
   rw [← HM.out,HPN.out] at s2
   rw [← HM.out] at s3
   have hmn:m < R.n∨placeL R.head x=none:=by
    cases hp:placeL R.head x with
    | none=>exact .inr rfl
    | some p=>exact .inl (by have:=(List.getElem?_eq_some_iff.1 (s3 p hp)).1; rw [HPN.out] at this; exact this)
   obtain ⟨g,cp,hsl,hlc,hcx,hg1,hg2⟩:=HXC.out k x hx
   injection hsl with e1 e2 e3
   subst e1
   have hcx2:wr.cell? ⟨g,k,none⟩=some (.string (S x)):=by rw [HMD.out.cell (p:=⟨g,k,none⟩) hg1 (by show ¬ g=R.blk; omega)]; exact hcx
   have c1:wr.cell? ⟨R.blk,1,none⟩=some (.string (S R.head)):=HS.out.cell 1 _ rfl
   have hxl:x.length≤1073741824:=HLN.out x (List.mem_of_getElem? hx)
   have HPL:=Lib.hid (Place_any R.head x wr hxl)
   have HX:=Lib.hid hx
   cases hp:placeL R.head x with
   | none =>
     rw [hp] at HPL s1
     have HM2:Hid (m=((L.take (k+1)).filterMap (placeL R.head)).length):=by
      show m=_
      rw [s1,Option.toList_none,List.append_nil]; exact HM.out
     clear s1 s2 s3 hmn e2 e3 hlc hcx hg1 hg2 hx hp HM
     go_wp2_with fail
     refine HPL.out.mono ?_
     rintro e w3 ⟨rfl,hb3⟩
     have HS3:=Lib.hid (HS.out.below hb3)
     have HMD3:=Lib.hid (HMD.out.trans (Mod.of_below hb3))
     clear hb3 HPL HS HMD hcx2 c1
     go_wp2_with fail
     go_roundw
     case rel=>exact ⟨k+1,m,pv,b,by omega,by go_num,rfl,rfl,HM2.out,HBT.out,HS3.out,HMD3.out,HPV.out⟩
     case measure=>simp [intOf]; omega
   | some p =>
     have hmlt:m < R.n:=by
      rcases hmn with h | h
      · exact h
      · rw [h] at hp; cases hp
     have hpe:p=R.b+m * R.size:=by
      have h1:=s3 p hp
      unfold SegD.places at h1
      rw [List.getElem?_map,List.getElem?_range hmlt] at h1
      exact (Option.some.inj h1).symm
     have hxe:=place_eq hp
     rw [hp] at HPL s1
     have HM2:Hid (m+1=((L.take (k+1)).filterMap (placeL R.head)).length):=by
      show m+1=_
      rw [s1,List.length_append,← HM.out]; rfl
     have hbt:=HBT.out hmlt
     subst hbt
     have HPE0:=Lib.hid hpe
     have HXE0:=Lib.hid hxe
     clear s1 s2 s3 hmn e2 e3 hlc hcx hx hp HM HBT hpe hxe
     change Hid (Calls _ _ _ _ fun e w'=>e=.returned (.tuple #[.int .i64 (p:Int),.bool true])∧_) at HPL
     go_wp2_with fail
     refine HPL.out.mono ?_
     rintro e w3 ⟨rfl,hb3⟩
     have hpe:=HPE0.out
     have hxe:=HXE0.out
     have hs3:=HS.out.below hb3
     have hmd3:=HMD.out.trans (Mod.of_below (M:=fun k=>k=R.blk) hb3)
     have hd3:DiskAt base w3 D:=(HD.out.below HB.out).mod hmd3 (fun k hk e=>HAP.out (e ▸ hk))
     have c0:w3.cell? ⟨R.blk,0,none⟩=some (.pointer (some ⟨D.blk,0,none⟩)):=hs3.cell 0 _ (by rw [← HL.out.db]; rfl)
     have c2:w3.cell? ⟨R.blk,2,none⟩=some (.int .i64 (R.size:Int)):=hs3.cell 2 _ rfl
     obtain ⟨a3,cp3,hv3⟩:=own_shape hs3.row
     change pv=.slice a3 m cp3 at hv3
     have c3:w3.cell? ⟨R.blk,3,none⟩=some (.slice a3 m cp3):=hs3.cell 3 _ (by show some pv=_; rw [hv3])
     have c4:w3.cell? ⟨R.blk,4,none⟩=some (.int .i64 ((if m=0 then 0 else p:Nat):Int)):=hs3.cell 4 _ (by rw [hpe,← HL.out.upto_e hmlt pv]; rfl)
     have HLEN:=Lib.hid (len_any x w3 hd3)
     obtain ⟨u1,u2,u3⟩:=HL.out.upto_succ_e hmlt pv
     rw [← hpe,← hxe] at u1 u2 u3
     have hlg:Hid ((D.bytes x).length=(D.bytes (nameL R.head p)).length):=by show _=_; rw [hxe]
     generalize (D.bytes x).length=lg at *
     have hsz:=HL.out.sz
     have hpl:p≤99999999:=by have:=HL.out.place_le hmlt; omega
     have hrem:Int.tmod (p:Int) (R.size:Int)=0:=by
      have h1:p % R.size=0:=by rw [hpe,Nat.add_mul_mod_self_right]; exact HL.out.mult
      show ((p % R.size:Nat):Int)=0
      rw [h1]; rfl
     have hsz0:¬ (R.size:Int)=0:=by omega
     have hlgs:¬ R.size < lg:=by omega
     have hmc:m≤1073741824:=by
      have h1:=(HL.out.long (by omega)).2.2
      have h2:=Nat.mul_le_mul_left (R.n - 1) hsz.1
      omega
     have HS3:=Lib.hid hs3
     have HMD3:=Lib.hid hmd3
     have HU3:=Lib.hid u3
     have HPE:=Lib.hid hpe
     have hwr:IntKind.i64.wrap ((p:Int)+(lg:Int))=(p:Int)+(lg:Int):=IntWalk.i64_in _ (by omega)
     have HROWP:Hid (w3.ownsRow w1.heap.size 3 1 (.slice a3 m cp3) m ((R.upto m pv).places.map (fun (q:Nat)=>Value.int .i64 (q:Int)))):=by rw [← hv3]; exact own_base hs3.row HPV.out
     have HV3:=Lib.hid hv3
     clear hb3 hs3 hmd3 hd3 HPL HS HMD hcx2 c1 u1 u2 u3 hxe hpe hv3
     by_cases h0:m=0
     ·
      subst h0
      simp only [if_pos] at c4
      go_wp2_with fail
      refine HLEN.out.mono ?_
      rintro e w3' ⟨rfl,rfl⟩
      go_wp2_with (at_builtin; refine wpList_append_own _ rfl (.tmp 60) (.tmp 62) 49 rfl w1.heap.size 3 i0 (.int .i64 0) 1 8 Tryz.underlying49 hi0 hz0 hz1 hz2 rfl (by decide) _ 0 ((R.upto 0 pv).places.map (fun (q:Nat)=>Value.int .i64 (q:Int))) rfl (HROWP.out.alloc _) ⟨w3'.heap.size,0,none⟩ 1 1 [.int .i64 (p:Int)] rfl rfl ?c1 ?c2 ?c3 ?c4 ?c5 ?_)
      case c1=>exact cell_one_new _ _ _
      case c2=>intro u hu; simp at hu; subst hu; rfl
      case c3=>unfold maxLen; omega
      case c4=>omega
      case c5=>have:=HMD3.out.size; simp; omega
      intro v' w4 hown' hgrow _
      have hgr:(w3'.alloc (.cells #[.int .i64 (p:Int)] 3)).grownBy w4 pv.ownBlock:=by rw [HV3.out]; exact hgrow
      obtain ⟨a4,cp4,rfl⟩:=own_shape hown'
      have hcl:=upto_cells (D:=D) HS3.out hgr HPV.out (by omega)
      have hnx:=upto_next HL.out hmlt HS3.out hgr HPV.out (by omega) (by omega) HPE.out hown'
      rw [← hlg.out] at hnx
      have c24:w4.cell? ⟨R.blk,2,none⟩=some (.int .i64 (R.size:Int)):=by unfold World.cell?; rw [show w4.heap[(⟨R.blk,2,none⟩:Addr).block]?=_ from hcl]; rfl
      have c34:w4.cell? ⟨R.blk,3,none⟩=some pv:=by unfold World.cell?; rw [show w4.heap[(⟨R.blk,3,none⟩:Addr).block]?=_ from hcl]; rfl
      have c44:w4.cell? ⟨R.blk,4,none⟩=some (.int .i64 ((R.upto 0 pv).e:Int)):=by unfold World.cell?; rw [show w4.heap[(⟨R.blk,4,none⟩:Addr).block]?=_ from hcl]; rfl
      have hf3:w4.frozen? ⟨R.blk,3,none⟩=false:=by unfold World.frozen?; rw [show w4.heap[(⟨R.blk,3,none⟩:Addr).block]?=_ from hcl]; rfl
      have hf4:w4.frozen? ⟨R.blk,4,none⟩=false:=by unfold World.frozen?; rw [show w4.heap[(⟨R.blk,4,none⟩:Addr).block]?=_ from hcl]; rfl
      have HMD4:Hid (Mod (fun k=>k=R.blk) w1 w4):=by
       have h1:Mod (fun k=>pv.ownBlock=some k) (w3'.alloc (.cells #[.int .i64 (p:Int)] 3)) w4:=⟨hgr.os,hgr.tape,hgr.output,hgr.size,fun k hk hne=>hgr.block k hk (fun e=>hne e.symm)⟩
       exact mod_over (HMD3.out.trans (Mod.of_below ((Below.refl _ _).alloc (Nat.le_refl _) _))) h1 (fun k hk=>.inr (HPV.out k hk))
      have HPV4:=Lib.hid (fun k hk=>ownBlock_of_own hown' k hk)
      have HNX:=Lib.hid hnx
      have hlz:lg≤4096:=by omega
      clear hown' hgrow hgr hcl hnx c0 c2 c3 c4 HROWP HS3 HMD3
      generalize (R.upto 0 pv).e=ue at *
      go_wp2_with fail
      go_roundw
      case rel=>exact ⟨k+1,0+1,_,_,by omega,by go_num,rfl,rfl,HM2.out,(fun h=>by have hq:lg=R.size:=HU3.out h; subst hq; simp),HNX.out,(HMD4.out.setCell (.inl rfl) _).setCell (.inl rfl) _,HPV4.out⟩
      case measure=>simp [intOf]; omega
     ·
      rw [if_neg h0] at c4
      have h0i:¬ (m:Int)=0:=by omega
      go_wp2_with fail
      refine HLEN.out.mono ?_
      rintro e w3' ⟨rfl,rfl⟩
      go_wp2_with (at_builtin; refine wpList_append_own _ rfl (.tmp 60) (.tmp 62) 49 rfl w1.heap.size 3 i0 (.int .i64 0) 1 8 Tryz.underlying49 hi0 hz0 hz1 hz2 rfl (by decide) _ m ((R.upto m pv).places.map (fun (q:Nat)=>Value.int .i64 (q:Int))) rfl (HROWP.out.alloc _) ⟨w3'.heap.size,0,none⟩ 1 1 [.int .i64 (p:Int)] rfl rfl ?c1 ?c2 ?c3 ?c4 ?c5 ?_)
      case c1=>exact cell_one_new _ _ _
      case c2=>intro u hu; simp at hu; subst hu; rfl
      case c3=>unfold maxLen; omega
      case c4=>omega
      case c5=>have:=HMD3.out.size; simp; omega
      intro v' w4 hown' hgrow _
      have hgr:(w3'.alloc (.cells #[.int .i64 (p:Int)] 3)).grownBy w4 pv.ownBlock:=by rw [HV3.out]; exact hgrow
      obtain ⟨a4,cp4,rfl⟩:=own_shape hown'
      have hcl:=upto_cells (D:=D) HS3.out hgr HPV.out (by omega)
      have hnx:=upto_next HL.out hmlt HS3.out hgr HPV.out (by omega) (by omega) HPE.out hown'
      rw [← hlg.out] at hnx
      have c24:w4.cell? ⟨R.blk,2,none⟩=some (.int .i64 (R.size:Int)):=by unfold World.cell?; rw [show w4.heap[(⟨R.blk,2,none⟩:Addr).block]?=_ from hcl]; rfl
      have c34:w4.cell? ⟨R.blk,3,none⟩=some pv:=by unfold World.cell?; rw [show w4.heap[(⟨R.blk,3,none⟩:Addr).block]?=_ from hcl]; rfl
      have c44:w4.cell? ⟨R.blk,4,none⟩=some (.int .i64 ((R.upto m pv).e:Int)):=by unfold World.cell?; rw [show w4.heap[(⟨R.blk,4,none⟩:Addr).block]?=_ from hcl]; rfl
      have hf3:w4.frozen? ⟨R.blk,3,none⟩=false:=by unfold World.frozen?; rw [show w4.heap[(⟨R.blk,3,none⟩:Addr).block]?=_ from hcl]; rfl
      have hf4:w4.frozen? ⟨R.blk,4,none⟩=false:=by unfold World.frozen?; rw [show w4.heap[(⟨R.blk,4,none⟩:Addr).block]?=_ from hcl]; rfl
      have HMD4:Hid (Mod (fun k=>k=R.blk) w1 w4):=by
       have h1:Mod (fun k=>pv.ownBlock=some k) (w3'.alloc (.cells #[.int .i64 (p:Int)] 3)) w4:=⟨hgr.os,hgr.tape,hgr.output,hgr.size,fun k hk hne=>hgr.block k hk (fun e=>hne e.symm)⟩
       exact mod_over (HMD3.out.trans (Mod.of_below ((Below.refl _ _).alloc (Nat.le_refl _) _))) h1 (fun k hk=>.inr (HPV.out k hk))
      have HPV4:=Lib.hid (fun k hk=>ownBlock_of_own hown' k hk)
      have HNX:=Lib.hid hnx
      have hlz:lg≤4096:=by omega
      clear hown' hgrow hgr hcl hnx c0 c2 c3 c4 HROWP HS3 HMD3
      generalize (R.upto m pv).e=ue at *
      go_wp2_with fail
      go_roundw
      case rel=>exact ⟨k+1,m+1,_,_,by omega,by go_num,rfl,rfl,HM2.out,(fun h=>by have hq:lg=R.size:=HU3.out h; subst hq; simp),HNX.out,(HMD4.out.setCell (.inl rfl) _).setCell (.inl rfl) _,HPV4.out⟩
      case measure=>simp [intOf]; omega
  ·
   obtain rfl:k=L.length:=by omega
   have hmn:m=R.n:=by rw [HM.out,List.take_length,HFD.out,HPN.out]
   subst hmn
   clear HM HBT
   go_wp2_with fail
   go_ret
   refine ⟨rfl,pv,HS.out,(Mod.of_below HB.out).trans (mod_over (Mod.refl _ w1) HMD.out (fun k h=>.inl h)),fun k h=>Nat.le_trans HB.out.size (HPV.out k h)⟩
def SegD.openR (R:SegD) (blk:Nat) (pv:Value):SegD:={ R with blk:=blk,pv:=pv,synced:=R.b }
theorem LaidOn.reblk {D:DiskD} {R:SegD} (h:LaidOn D R) (b s:Nat) (pv:Value):LaidOn D { R with blk:=b,pv:=pv,synced:=s } :=
 ⟨h.sz,h.empty,h.long,h.mult,h.hd,h.ok,h.only,h.db⟩
theorem seg_syncb {base:Nat} {w:World} {R:SegD} (h:SegAt base w R):SegAt base (w.setCell ⟨R.blk,5,none⟩ (.int .i64 (R.b:Int))) { R with synced:=R.b } :=
 ⟨heap_set1 h.cells _ rfl,ownsRow_mod (M:=fun k=>k=R.blk) h.row (mod_set _ _ _ _) (fun k hk e=>h.apart k hk e),h.apart,h.above,h.sz,h.empty,h.long,h.mult,(by show R.b≤R.b+R.txt.length; omega),h.hd⟩
theorem open_core {base:Nat} {D:DiskD} {R:SegD} (w:World) (hbk:R.blk=w.heap.size) (hL:LaidOn D R) (hD:DiskAt base w D) (hq:Quiet D) (hfl:D.files.length≤1048576) (hnl:∀ p∈D.files,p.1.length≤1073741824) (hbase:base≤w.heap.size) :
 Calls Tryz.prog 112 #[.pointer (some ⟨D.blk,0,none⟩),.string (S R.head),.int .i64 (R.size:Int)] w fun e w'=>∃ pv,e=.returned (.tuple #[.pointer (some ⟨R.blk,0,none⟩),.int .i64 0])∧Whole base w' D { R with pv:=pv,synced:=R.b }∧Below w.heap.size w w'∧∀ k,pv.ownBlock=some k→w.heap.size≤k:=by
 have CD:=Lib.hid (down_any w hD)
 rw [hq.up] at CD
 obtain ⟨hs1,hs2⟩:=hL.sz
 obtain ⟨cs,hcs⟩:∃ cs:Array Value,cs=#[.pointer (some ⟨D.blk,0,none⟩),.string (S R.head),.int .i64 (R.size:Int),.slice none 0 0,.int .i64 0,.int .i64 0]:=⟨_,rfl⟩
 obtain ⟨w1,hw1e⟩:∃ w1:World,w1=w.alloc (.cells cs 116):=⟨_,rfl⟩
 have hw1:Below w.heap.size w w1:=by rw [hw1e]; exact (Below.refl _ _).alloc (Nat.le_refl _) _
 have hsz1:w1.heap.size=w.heap.size+1:=by rw [hw1e]; exact World.size_alloc _ _
 have hblk:w1.heap[R.blk]?=some (.cells cs 116 (0,0)):=by
  rw [hw1e,hbk]
  show (w.heap.push _)[w.heap.size]?=_
  exact Array.getElem?_push_size
 have hS0:SegAt base w1 (R.upto 0 (.slice none 0 0)):=by
  refine ⟨?_,⟨rfl,.inl ⟨rfl,rfl⟩⟩,(fun k h=>by cases h),(by show base≤R.blk; omega),hL.sz,fun _=>⟨rfl,?_⟩,fun h=>absurd h (Nat.lt_irrefl 0),?_,Nat.zero_le _,hL.hd⟩
  ·
   have e:(R.upto 0 (.slice none 0 0)).cells=cs:=by
    rw [hcs,← hL.db]
    unfold SegD.cells SegD.upto SegD.e
    simp
   rw [e]; exact hblk
  · show R.txt.take (0 * R.size)=[]
    simp
  · show 0 % R.size=0
    simp
 have HF:=Lib.hid (found_any w1 hL hS0 (hD.below hw1) (fun h=>by have:=hD.lt h; omega) hfl hnl (by omega))
 have HU:=Lib.hid (fun pv=>hL.upto_all pv)
 have HL:=Lib.hid hL
 have HD:=Lib.hid hD
 have HB1:=Lib.hid hw1
 have HBK:=Lib.hid hbk
 have HW1:=Lib.hid hw1e
 have HS1:=Lib.hid hsz1
 have HCS:=Lib.hid hcs
 clear hL hS0 hD hq hw1 hblk hfl hnl hsz1 hw1e hcs
 go_enter Tryz.func112,Tryz.ntmps112
 go_wp2_with fail
 refine CD.out.mono ?_
 rintro e wz ⟨rfl,rfl⟩
 go_upto_region 6 with fail
 rw [← HCS.out,← HW1.out,← hbk]
 clear hbk CD
 go_wp2_with fail
 refine HF.out.mono ?_
 rintro e w2 ⟨rfl,pv,hs2,hm2,hpv⟩
 rw [HU.out] at hs2
 have HB:=Lib.hid (begin_any w2 hs2)
 have hf5:w2.frozen? ⟨R.blk,5,none⟩=false:=by
  unfold World.frozen?; rw [show w2.heap[(⟨R.blk,5,none⟩:Addr).block]?=_ from hs2.cells]; rfl
 have c5:w2.cell? ⟨R.blk,5,none⟩=some (.int .i64 ((0:Nat):Int)):=hs2.cell 5 _ rfl
 have HS2:=Lib.hid hs2
 have HM2:=Lib.hid hm2
 have HPV:=Lib.hid hpv
 clear hs2 hm2 hpv HF
 go_wp2_with fail
 refine HB.out.mono ?_
 rintro e w3 ⟨rfl,rfl⟩
 go_wp2_with fail
 go_ret2
 have hb1:=HB1.out
 have hz:=hb1.size
 have hz1:=HS1.out
 have hbk:=HBK.out
 have hl:=HL.out
 have hfin:=seg_syncb HS2.out
 have hm:Mod (fun k=>k=R.blk) wz w3:=(Mod.of_below hb1).trans (mod_over (Mod.refl _ w1) HM2.out (fun k h=>.inl h))
 have hb:Below wz.heap.size wz (w3.setCell ⟨R.blk,5,none⟩ (.int .i64 (R.b:Int))):=(hm.setCell (.inl rfl) _).to_below _ (Nat.le_refl _) (fun k e=>by rw [e,hbk]; exact Nat.le_refl _)
 refine ⟨pv,rfl,⟨hfin,HD.out.below hb,hl.db,fun k hk hk2=>?_,hl.ok,hl.only⟩,hb,fun k hk=>?_⟩
 ·
  have h1:=HD.out.lt hk
  rcases hk2 with e | e
  · rw [show k=R.blk from e] at h1; omega
  · have:=HPV.out k e; omega
 · have:=HPV.out k hk; omega
theorem open_any {base:Nat} {D:DiskD} {R:SegD} (w:World) (hL:LaidOn D R) (hD:DiskAt base w D) (hq:Quiet D) (hfl:D.files.length≤1048576) (hnl:∀ p∈D.files,p.1.length≤1073741824) (hbase:base≤w.heap.size) :
 Calls Tryz.prog 112 #[.pointer (some ⟨D.blk,0,none⟩),.string (S R.head),.int .i64 (R.size:Int)] w fun e w'=>∃ blk pv,e=.returned (.tuple #[.pointer (some ⟨blk,0,none⟩),.int .i64 0])∧Whole base w' D (R.openR blk pv)∧Below w.heap.size w w'∧∀ k,(R.openR blk pv).foot k→w.heap.size≤k:=by
 refine (open_core (R:={ R with blk:=w.heap.size }) w rfl (hL.reblk w.heap.size R.synced R.pv) hD hq hfl hnl hbase).mono ?_
 rintro e w' ⟨pv,rfl,h1,h2,h3⟩
 exact ⟨w.heap.size,pv,rfl,h1,h2,fun k hk=>by
  rcases hk with hk | hk
  · rw [hk]; exact Nat.le_refl _
  · exact h3 k hk⟩
end Go.Proofs.YtnoehodmmkioaaaGreatDoor.SegW
namespace Go.Proofs.YtnoehodmmkioaaaGreatDoor.NameW
open Go.RowKit OctMath NameMath
theorem S_toList (l:List UInt8):(S l).toList=l:=by rw [ByteArray.toList_eq,S_list]
theorem sign_any (n:Nat) (W:World):Calls Tryz.prog 143 #[.int .i32 (n:Int)] W fun e w'=>e=.returned (.bool (signN n))∧w'=W:=by
 have h1:decide ((97:Int)≤(n:Int))=decide (97≤n):=decide_eq_decide.2 (by omega)
 have h2:decide ((n:Int)≤122)=decide (n≤122):=decide_eq_decide.2 (by omega)
 have h3:decide ((48:Int)≤(n:Int))=decide (48≤n):=decide_eq_decide.2 (by omega)
 have h4:decide ((n:Int)≤57)=decide (n≤57):=decide_eq_decide.2 (by omega)
 have h5:((n:Int) == 45)=(n == 45):=by
  by_cases h:n=45
  · subst h; rfl
  · rw [beq_eq_false_iff_ne.2 h,beq_eq_false_iff_ne.2 (by omega)]
 have HR:Hid (signN n=((decide (97≤n) && decide (n≤122)) || (decide (48≤n) && decide (n≤57)) || n == 45)):=rfl
 generalize decide (97≤n)=b1 at *
 generalize decide (n≤122)=b2 at *
 generalize decide (48≤n)=b3 at *
 generalize decide (n≤57)=b4 at *
 generalize (n == 45)=b5 at *
 cases b1 <;> cases b2 <;> cases b3 <;> cases b4 <;> cases b5 <;>
 (go_enter Tryz.func143,Tryz.ntmps143
  go_wp2_with fail
  go_ret
  rw [HR.out]
  exact ⟨rfl,rfl⟩)
theorem unsign_any (n:Nat) (W:World):Calls Tryz.prog 142 #[.int .i32 (n:Int)] W fun e w'=>e=.returned (.bool (!signN n))∧∃ q,w'=W.drewN q:=by
 go_enter Tryz.func142,Tryz.ntmps142
 go_wp2_with (go_at_call 143; refine (sign_any n _).mono ?_; rintro e w2 ⟨rfl,rfl⟩)
 go_ret
 exact ⟨rfl,0,rfl⟩
theorem plain_any (l:List UInt8) (hl:l.length≤1099511627776) (W:World):Calls Tryz.prog 85 #[.string (S l)] W fun e w'=>e=.returned (.bool (plainL l))∧Below W.heap.size W w':=by
 have hC:=fun w=>Tryz.strings_IndexFunc 142 #[] (enters_of Tryz.func142 (by kernel_rfl) rfl) (fun n=>!signN n) (S l) w (fun W' x hb=>unsign_any x W')
 have hsz:=S_size l
 have hE:=plain_eq l
 have htl:=S_toList l
 by_cases h0:l=[]
 ·
  have hb:l.isEmpty=true:=by subst h0; rfl
  have HR:Hid (plainL l=false):=by show _=_; rw [hE,decide_eq_false (by simpa using h0)]; rfl
  clear hE h0
  go_enter Tryz.func85,Tryz.ntmps85
  go_wp2_with fail
  go_ret
  rw [HR.out]
  exact ⟨rfl,Below.refl _ _⟩
 have hb:l.isEmpty=false:=by cases l with | nil=>exact absurd rfl h0 | cons _ _=>rfl
 rw [decide_eq_true h0,Bool.true_and] at hE
 by_cases h1:l.length≤16
 ·
  have HR:Hid (plainL l=decide (Lib.idxFunc (fun n=>!signN n) true (S l) < (0:Int))):=by show _=_; rw [hE,decide_eq_true h1]; rfl
  have h16:decide ((l.length:Int)≤16)=true:=decide_eq_true (by omega)
  clear hE h0
  go_enter Tryz.func85,Tryz.ntmps85
  go_wp2_with (go_at_call 141; refine (hC _).mono ?_; rintro e w2 ⟨rfl,hb2⟩)
  go_ret
  rw [HR.out]
  exact ⟨rfl,hb2⟩
 ·
  have HR:Hid (plainL l=false):=by show _=_; rw [hE,decide_eq_false h1]; rfl
  have h16:decide ((l.length:Int)≤16)=false:=decide_eq_false (by omega)
  clear hE h0
  go_enter Tryz.func85,Tryz.ntmps85
  go_wp2_with fail
  go_ret
  rw [HR.out]
  exact ⟨rfl,Below.refl _ _⟩
theorem group_any (l:List UInt8) (hl:l.length≤1099511627776) (W:World):Calls Tryz.prog 102 #[.string (S l)] W fun e w'=>e=.returned (.bool (groupL l))∧Below W.heap.size W w':=by
 have hsz:=S_size l
 have HR:Hid (groupL l=(plainL l && decide (l.length≤8))):=rfl
 have h8:decide ((l.length:Int)≤8)=decide (l.length≤8):=decide_eq_decide.2 (by omega)
 have hC:=fun w=>plain_any l hl w
 generalize plainL l=b at *
 generalize decide (l.length≤8)=b2 at *
 cases b <;>
 (go_enter Tryz.func102,Tryz.ntmps102
  go_wp2_with (go_at_call 85; refine (hC _).mono ?_; rintro e w2 ⟨rfl,hb2⟩)
  go_ret
  rw [HR.out]
  exact ⟨rfl,hb2⟩)
theorem index_at (l:List UInt8) (n:Nat) (i:Int) (hi:i=n) (h:n < l.length) (k:IntKind) (w:World):(Instr.index 9 (.string (S l)) (.int k i)).run Tryz.prog w=.ok (.int .u8 (l[n].toNat:Int)) w:=by
 subst hi
 have hs:=S_size l
 rw [run_index_string (h:=Tryz.underlying9),dif_pos ⟨by omega,by omega⟩]; rfl
theorem tag_any (l:List UInt8) (hl:l.length≤1099511627776) (W:World):Calls Tryz.prog 52 #[.string (S l)] W fun e w'=>e=.returned (.bool (l.isEmpty || plainL l))∧Below W.heap.size W w':=by
 have htl:=S_toList l
 generalize he:l.isEmpty=e
 cases e <;>
 (go_enter Tryz.func52,Tryz.ntmps52
  go_wp2_with (go_at_call 85; refine (plain_any l hl _).mono ?_; rintro e w2 ⟨rfl,hb2⟩)
  go_ret
  first | exact ⟨rfl,hb2⟩ | exact ⟨rfl,Below.refl _ _⟩)
def ofK (l:List UInt8):Nat→List UInt8
 | 0=>ofL l
 | 1=>if (Lib.hasPrefix l deadL && groupL (l.drop 6))=true then l.drop 6 else []
 | _=>[]
theorem cut_of (l p:List UInt8) (W:World):Calls Tryz.prog 101 #[.string (S l),.string (S p)] W fun e w'=>e=.returned (.tuple #[.string (S (Lib.trimPrefix l p)),.bool (Lib.hasPrefix l p)])∧w'=W:=by
 have:=Tryz.strings_CutPrefix (S l) (S p) W
 rw [S_list,S_list] at this
 exact this
theorem of_any (l:List UInt8) (hl:l.length≤1099511627776) (W:World):Calls Tryz.prog 50 #[.string (S l)] W fun e w'=>e=.returned (.tuple #[.string (S (ofL l)),.bool (!(ofL l).isEmpty)])∧Below W.heap.size W w':=by
 have hsz:=S_size l
 go_enter Tryz.func50,Tryz.ntmps50
 go_wp2_with fail
 go_loopw [10] (fun i wr=>∃ k:Nat,k≤2∧i=.int .i64 (k:Int)∧Hid (ofL l=ofK l k)∧Hid (wr.cell? ⟨W.heap.size,0,none⟩=some (.string { data:=#[37,114,101,116,114,121,37] })∧wr.cell? ⟨W.heap.size,1,none⟩=some (.string { data:=#[37,100,101,97,100,37] }))∧Hid (Below W.heap.size W wr)) (fun i _=>3 - (intOf i).toNat)
 case atStart=>exact ⟨0,by omega,rfl,rfl,⟨by rw [World.cell?_alloc_new]; rfl,by rw [World.cell?_alloc_new]; rfl⟩,(Below.refl _ _).alloc (Nat.le_refl _) _⟩
 case round =>
  obtain ⟨k,hk,rfl,HK,HC,HB⟩:=hrel
  rcases (show k=0∨k=1∨k=2 by omega) with hk0 | hk1 | hk2
  ·
   -- round 0
   subst hk0
   have hcell:=HC.out.1
   have hC:=fun w=>cut_of l retryL w
   change ∀ w,Calls _ _ #[.string (S l),.string { data:=#[37,114,101,116,114,121,37] }] w _ at hC
   have HG:=Lib.hid (fun w=>group_any (l.drop 7) (by rw [List.length_drop]; omega) w)
   have HX:Hid (ofL l=if (Lib.hasPrefix l retryL && groupL (l.drop 7))=true then l.drop 7 else ofK l 1):=HK.out
   have HN:=Lib.hid (group_ne (l.drop 7))
   by_cases hp:Lib.hasPrefix l retryL=true
   ·
    have htr:Lib.trimPrefix l retryL=l.drop 7:=by unfold Lib.trimPrefix; rw [if_pos hp]; rfl
    rw [hp] at HX
    rw [htr,hp] at hC
    clear hp htr HK
    generalize groupL (l.drop 7)=g at *
    go_wp2_with (go_at_call 101; refine (hC _).mono ?_; rintro e w2 ⟨rfl,rfl⟩)
    refine (HG.out _).mono ?_
    rintro e w3 ⟨rfl,hb⟩
    have HB3:=Lib.hid (HB.out.trans (hb.mono HB.out.size))
    have HC3:Hid (w3.cell? ⟨W.heap.size,0,none⟩=some (.string { data:=#[37,114,101,116,114,121,37] })∧w3.cell? ⟨W.heap.size,1,none⟩=some (.string { data:=#[37,100,101,97,100,37] })):=⟨by rw [hb.cell (cell_lt HC.out.1)]; exact HC.out.1,by rw [hb.cell (cell_lt HC.out.2)]; exact HC.out.2⟩
    clear hb HG hC hcell
    cases g with
    | true =>
      have HT:Hid (ofL l=l.drop 7):=HX.out
      go_wp2_with fail
      go_ret2
      rw [HT.out,HN.out (by first | rfl | trivial)]
      exact ⟨rfl,HB3.out⟩
    | false =>
      have HT:Hid (ofL l=ofK l 1):=HX.out
      go_wp2_with fail
      go_roundw
      case rel=>exact ⟨1,by omega,by go_num,HT,HC3,HB3⟩
      case measure=>simp [intOf]
   ·
    have hp':Lib.hasPrefix l retryL=false:=by simpa using hp
    have htr:Lib.trimPrefix l retryL=l:=by unfold Lib.trimPrefix; rw [if_neg hp]
    rw [hp'] at HX
    rw [htr,hp'] at hC
    have HT:Hid (ofL l=ofK l 1):=HX.out
    clear hp hp' htr HK HX
    go_wp2_with (go_at_call 101; refine (hC _).mono ?_; rintro e w2 ⟨rfl,rfl⟩)
    go_roundw
    case rel=>exact ⟨1,by omega,by go_num,HT,HC,HB⟩
    case measure=>simp [intOf]
  ·
   -- round 1
   subst hk1
   have hcell:=HC.out.2
   have hC:=fun w=>cut_of l deadL w
   change ∀ w,Calls _ _ #[.string (S l),.string { data:=#[37,100,101,97,100,37] }] w _ at hC
   have HG:=Lib.hid (fun w=>group_any (l.drop 6) (by rw [List.length_drop]; omega) w)
   have HX:Hid (ofL l=if (Lib.hasPrefix l deadL && groupL (l.drop 6))=true then l.drop 6 else ofK l 2):=HK.out
   have HN:=Lib.hid (group_ne (l.drop 6))
   by_cases hp:Lib.hasPrefix l deadL=true
   ·
    have htr:Lib.trimPrefix l deadL=l.drop 6:=by unfold Lib.trimPrefix; rw [if_pos hp]; rfl
    rw [hp] at HX
    rw [htr,hp] at hC
    clear hp htr HK
    generalize groupL (l.drop 6)=g at *
    go_wp2_with (go_at_call 101; refine (hC _).mono ?_; rintro e w2 ⟨rfl,rfl⟩)
    refine (HG.out _).mono ?_
    rintro e w3 ⟨rfl,hb⟩
    have HB3:=Lib.hid (HB.out.trans (hb.mono HB.out.size))
    have HC3:Hid (w3.cell? ⟨W.heap.size,0,none⟩=some (.string { data:=#[37,114,101,116,114,121,37] })∧w3.cell? ⟨W.heap.size,1,none⟩=some (.string { data:=#[37,100,101,97,100,37] })):=⟨by rw [hb.cell (cell_lt HC.out.1)]; exact HC.out.1,by rw [hb.cell (cell_lt HC.out.2)]; exact HC.out.2⟩
    clear hb HG hC hcell
    cases g with
    | true =>
      have HT:Hid (ofL l=l.drop 6):=HX.out
      go_wp2_with fail
      go_ret2
      rw [HT.out,HN.out (by first | rfl | trivial)]
      exact ⟨rfl,HB3.out⟩
    | false =>
      have HT:Hid (ofL l=ofK l 2):=HX.out
      go_wp2_with fail
      go_roundw
      case rel=>exact ⟨2,by omega,by go_num,HT,HC3,HB3⟩
      case measure=>simp [intOf]
   ·
    have hp':Lib.hasPrefix l deadL=false:=by simpa using hp
    have htr:Lib.trimPrefix l deadL=l:=by unfold Lib.trimPrefix; rw [if_neg hp]
    rw [hp'] at HX
    rw [htr,hp'] at hC
    have HT:Hid (ofL l=ofK l 2):=HX.out
    clear hp hp' htr HK HX
    go_wp2_with (go_at_call 101; refine (hC _).mono ?_; rintro e w2 ⟨rfl,rfl⟩)
    go_roundw
    case rel=>exact ⟨2,by omega,by go_num,HT,HC,HB⟩
    case measure=>simp [intOf]
  ·
   subst hk2
   have HT:Hid (ofL l=[]):=HK.out
   go_wp2_with fail
   go_ret2
   rw [HT.out]
   exact ⟨rfl,HB.out⟩
theorem topic_any (l:List UInt8) (hl:l.length≤1099511627776) (W:World):Calls Tryz.prog 121 #[.string (S l)] W fun e w'=>e=.returned (.bool (topicL l))∧Below W.heap.size W w':=by
 have HR:Hid (topicL l=(plainL l || !(ofL l).isEmpty)):=rfl
 have HP:=Lib.hid (fun w=>plain_any l hl w)
 have hO:=fun w=>of_any l hl w
 generalize plainL l=b at *
 generalize (ofL l).isEmpty=o at *
 go_enter Tryz.func121,Tryz.ntmps121
 go_wp2_with fail
 refine (hO _).mono ?_
 rintro e w2 ⟨rfl,hb⟩
 have HB:=Lib.hid hb
 clear hb hO
 cases o with
 | false =>
   go_wp2_with fail
   go_ret
   rw [HR.out]
   cases b <;> exact ⟨rfl,HB.out⟩
 | true =>
   go_wp2_with fail
   refine (HP.out _).mono ?_
   rintro e w3 ⟨rfl,hb⟩
   have HB3:=Lib.hid (HB.out.trans (hb.mono HB.out.size))
   clear hb
   go_wp2_with fail
   go_ret
   rw [HR.out]
   cases b <;> exact ⟨rfl,HB3.out⟩
end Go.Proofs.YtnoehodmmkioaaaGreatDoor.NameW
namespace Go.Proofs.YtnoehodmmkioaaaGreatDoor.SeqW
open Go.RowKit Go.Shelf OctMath NameMath
attribute [local go_sem] Oper.semAt_some
set_option maxRecDepth 100000 in
theorem values_in (F:Fence) (n:Nat) (h7:F.fn 169) (hro:F.round=none) (hn:1≤n) (l Bs cap:Nat) (a:Option Addr) (ts:List (List UInt8)) (hx:ts.length≤1048576) (w0:World) (hS:Strs w0 a (ts.map S)) (J:List (List UInt8)→World→Prop)
 (hJB:∀ pre W,J pre W→Below w0.heap.size w0 W)
 (hY:∀ pre x W,J pre W→pre.length < ts.length→YieldAt F (n - 1) Tryz.prog l #[.string (S x)] W fun e W'=>e=.returned (.bool true)∧J (pre++[x]) W'∧KeepsWalks W W')
 (W:World) (hBs:W.cell? ⟨Bs,0,none⟩=some (.slice a ts.length cap)) (h0:J [] W) :
 CallsIn F n Tryz.prog 169 #[.func (.yield l) #[] #[],.pointer (some ⟨Bs,0,none⟩)] W fun e W'=>(∃ v,e=.returned v)∧J ts W':=by
 refine callsIn_of_wp Tryz.func169 rfl h7 ?_ hro
 simp only [Tryz.ntmps169,List.size_toArray,List.length_cons,List.length_nil,Nat.reduceAdd,Nat.reduceSub,Array.replicate_succ,Array.replicate_zero,List.push_toArray,List.append_toArray,List.nil_append,List.cons_append]
 gi_wp2
 gi_loopw [7] (fun i wr=>∃ k:Nat,k≤ts.length∧i=.int .i64 k∧J (ts.take k) wr)
  (fun i _=>ts.length - (intOf i).toNat)
 case atStart=>exact ⟨0,Nat.zero_le _,rfl,h0⟩
 case round =>
  obtain ⟨k,hk,rfl,hJs⟩:=hrel
  by_cases hlt:k < ts.length
  ·
   obtain ⟨b,off,rfl,hcell⟩:=(hS.below (hJB _ _ hJs)) k (by rw [List.length_map]; exact hlt)
   rw [List.getElem_map] at hcell
   obtain ⟨fn,tmps,assign,body,hy,hR⟩:=hY _ ts[k] wr hJs (by rw [List.length_take]; omega)
   rw [← List.take_succ_eq_append_getElem hlt] at hR
   gi_wp2
   refine hR.mono ?_
   rintro e W3 ⟨rfl,hJ3,hk3⟩
   gi_wp2
   go_roundw
   case rel=>exact ⟨k+1,by omega,by simp,hJ3⟩
   case measure=>simp [intOf]; omega
  ·
   obtain rfl:k=ts.length:=by omega
   rw [List.take_length] at hJs
   gi_wp2
   go_end0
   exact ⟨⟨_,rfl⟩,hJs⟩
open Go.Maps Go.Sort
def SeqB (F:Fence) (n:Nat) (P:Program) (g:Nat) (lb:Array Value) (ts:List (List UInt8)) (w:World):Prop :=
 ∀ (l:Nat) (J:List (List UInt8)→World→Prop) (W:World),Below w.heap.size w W→(∀ pre W1,J pre W1→Below w.heap.size w W1) →
  (∀ pre x W1,J pre W1→pre.length < ts.length→YieldAt F (n - 1) P l #[encStr x] W1 fun e W'=>e=.returned (.bool true)∧J (pre++[x]) W'∧KeepsWalks W1 W') →
  J [] W →
  CallsIn F n P g (#[.func (.yield l) #[] #[]]++lb) W fun e W'=>(∃ v,e=.returned v)∧J ts W'
theorem own_base {W:World} {base base':Nat} {e:TypeId} {size:Nat} {v:Value} {k:Nat} {xs:List Value} (h:W.ownsRow base e size v k xs) (hb:base'≤base):W.ownsRow base' e size v k xs:=by
 refine ⟨h.1,?_⟩
 rcases h.2 with hn | ⟨g,cap,cur,hv,hbg,rest⟩
 · exact .inl hn
 · exact .inr ⟨g,cap,cur,hv,Nat.le_trans hb hbg,rest⟩
variable {P:Program} {ρ:Ren}
set_option maxRecDepth 100000 in
theorem appendSeq_in (L:SlLaysZ.n11 P ρ) (F:Fence) (n:Nat) (h11:F.fn (ρ.f 11)) (hro:F.round=none) (hn:2≤n) (g:Nat) (lb:Array Value) (hFg:F.fn g) (eg:∀ args w,(callFunc g args).run P w=.ok (.enter g args) w)
 (ts:List (List UInt8)) (hN:ts.length≤maxLen) (hNb:ts.length * 16≤140737488355328) (w:World) (hseq:SeqB F (n - 1) P g lb ts w) :
 CallsIn F n P (ρ.f 11) #[.slice none 0 0,.func (.func g) #[] lb] w fun e w'=>∃ v:Value,e=.returned v∧w'.ownsRow w.heap.size (ρ.t 26) 1 v ts.length (ts.map encStr)∧Below w.heap.size w w':=by
 have h1:1≤n:=by omega
 have mixed:=L.mixed; have t0:=L.t0; have a0:=L.a0; have z0:=L.z0; have v0:=L.v0; have t24:=L.t24; have a24:=L.a24; have z24:=L.z24; have v24:=L.v24; have t26:=L.t26; have a26:=L.a26; have z26:=L.z26; have v26:=L.v26; have t28:=L.t28; have a28:=L.a28; have z28:=L.z28; have v28:=L.v28
 have hne:ρ.t 24≠ρ.t 26:=fun e=>by have h:=L.t24; rw [e,L.t26] at h; cases h
 have u0:=run_underlying L.t0; have u24:=run_underlying L.t24; have u26:=run_underlying L.t26; have u28:=run_underlying L.t28
 obtain ⟨_,_,FG⟩:=L.f11
 refine callsIn_of_wp_marks FG rfl h11 ?_ hro
 simp only [SlBodyZ.n11_ntmps ρ,List.size_toArray,List.length_cons,List.length_nil,Nat.reduceAdd,Nat.reduceSub,Array.replicate_succ,Array.replicate_zero,List.push_toArray,List.append_toArray,List.nil_append,List.cons_append]
 gi_wp2
 refine wpIn_rangeFunc ?_
 intro fn hfn
 rw [hro]
 obtain ⟨W0,hW0⟩:∃ W0,w.alloc (.cells #[.slice none 0 0] (ρ.t 24))=W0:=⟨_,rfl⟩
 have hs0:W0.heap.size=w.heap.size+1:=by rw [← hW0]; simp
 have hv0:W0.heap[w.heap.size]?=some (.cells #[.slice none 0 0] (ρ.t 24) (0,0)):=by rw [← hW0]; exact World.alloc_heap_new w _
 have hb0:Below w.heap.size w W0:=by rw [← hW0]; exact (Below.refl _ w).alloc (Nat.le_refl _) _
 rw [hW0]
 obtain ⟨W1,hW1⟩:∃ W1,(W0.alloc (.deferred (some []))).alloc (.loop (AnyZ.apRec ρ fn (.func (.func g) #[] lb) w.heap.size W0.heap.size .ready none))=W1:=⟨_,rfl⟩
 have hold:∀ k,k < W0.heap.size→W1.heap[k]?=W0.heap[k]?:=fun k hk=>by
  rw [← hW1]; exact (Below.heap_alloc _ _ k (by simp; omega)).trans (Below.heap_alloc _ _ k hk)
 have hb1:Below w.heap.size w W1:=by rw [← hW1]; exact (hb0.alloc hb0.size _).alloc (by have:=hb0.size; simp; omega) _
 have hs1:W1.heap.size=W0.heap.size+2:=by rw [← hW1]; simp
 have hM:AnyZ.ApAt ρ w fn (.func (.func g) #[] lb) w.heap.size (W0.heap.size+1) W0.heap.size [] W1 :=
  ⟨⟨_,(hold w.heap.size (by omega)).trans hv0,⟨rfl,.inl ⟨rfl,rfl⟩⟩,by simp⟩,
   by rw [← hW1]; have:=World.alloc_heap_new (W0.alloc (.deferred (some []))) (.loop (AnyZ.apRec ρ fn (.func (.func g) #[] lb) w.heap.size W0.heap.size .ready none)); rwa [World.size_alloc] at this,
   by rw [← hW1]; exact (Below.heap_alloc _ _ _ (by simp)).trans (World.alloc_heap_new W0 _),hb1⟩
 refine ⟨W0.heap.size+1,[{ target:=.collected W0.heap.size,args:=#[] }],W1,{ target:=.fn (.func g) lb,args:=#[.func (.yield (W0.heap.size+1)) #[] #[]] },W1,g,
  #[.func (.yield (W0.heap.size+1)) #[] #[]]++lb,W1,?_,?_,?_,?_,fun _=>h1,?_⟩
 · rw [← hW1]; exact run_enterLoop_outer _ _ _ _ _
 · simp [resolve,go_sem]
 · intro f' hf'; simp [Target.leads] at hf'; subst hf'; exact hFg
 · simp [invoke,go_sem,eg]
 ·
  refine (hseq (W0.heap.size+1) (AnyZ.ApAt ρ w fn (.func (.func g) #[] lb) w.heap.size (W0.heap.size+1) W0.heap.size) W1 hb1 (fun _ _ h=>h.below)
   (fun pre x W hJ hl=>AnyZ.apYield { L with } F (n - 1 - 1) w fn hfn _ w.heap.size (W0.heap.size+1) W0.heap.size (by omega) (by omega) (by omega) (Nat.le_refl _) (by omega) ts.length hN hNb pre x W hJ hl) hM).mono ?_
  rintro e W2 ⟨⟨v0,rfl⟩,h2⟩
  obtain ⟨v,hv,hrow,hnil⟩:=h2.box
  have hend:=run_endLoop (P:=P) h2.L (by simp [AnyZ.apRec])
  obtain ⟨W3,hW3⟩:∃ W3,W2.putObj (W0.heap.size+1) (.loop { AnyZ.apRec ρ fn (.func (.func g) #[] lb) w.heap.size W0.heap.size .ready none with state:=.exhausted })=W3:=⟨_,rfl⟩
  rw [hW3] at hend
  have hg3:W2.grownBy W3 (some (W0.heap.size+1)):=by rw [← hW3]; exact grownBy_putObj_a _ _ _
  have hv3:W3.heap[w.heap.size]?=some (.cells #[v] (ρ.t 24) (0,0)):=by rw [← hW3]; exact (World.putObj_heap_other (by omega)).trans hv
  have hK3:W3.heap[W0.heap.size]?=some (.deferred (some [])):=by rw [← hW3]; exact (World.putObj_heap_other (by omega)).trans h2.K
  have hrow3:=hrow.kept hg3 (ownsRow_ne_a hrow h2.L (fun cur e=>by first | cases e | exact hne (Obj.cells.inj e).2.1))
  have hb3:Below w.heap.size w W3:=h2.below.grown hg3 h2.below.size (fun k e=>by cases e; omega)
  obtain ⟨hc3,hf3⟩:=cell_of_box_a hv3
  clear hW3
  refine ⟨none,W3,hend,?_⟩
  gi_wp2
  rw [← hs0]
  refine ⟨by simp,.inl ⟨_,_,rfl,run_takeDeferred hK3,?_⟩⟩
  exact ⟨_,results_tmp rfl _ _ _,v,rfl,hrow3.kept (grownBy_putObj_a _ _ _) (ownsRow_ne_a hrow3 hK3 (fun cur e=>by first | cases e | exact hne (Obj.cells.inj e).2.1)),hb3.grown (grownBy_putObj_a _ _ _) hb3.size (fun k e=>by cases e; omega)⟩
theorem collect_in (L:SlLaysZ.n8 P ρ) (F:Fence) (n:Nat) (h8:F.fn (ρ.f 8)) (h11:F.fn (ρ.f 11)) (hro:F.round=none) (hn:3≤n) (g:Nat) (lb:Array Value) (hFg:F.fn g) (eg:∀ args w,(callFunc g args).run P w=.ok (.enter g args) w)
 (ts:List (List UInt8)) (hN:ts.length≤maxLen) (hNb:ts.length * 16≤140737488355328) (w:World) (hseq:SeqB F (n - 1 - 1) P g lb ts w) :
 CallsIn F n P (ρ.f 8) #[.func (.func g) #[] lb] w fun e w'=>∃ v:Value,e=.returned v∧w'.ownsRow w.heap.size (ρ.t 26) 1 v ts.length (ts.map encStr)∧Below w.heap.size w w':=by
 have h1:1≤n:=by omega
 have e11:∀ args w,(callFunc (ρ.f 11) args).run P w=.ok (.enter (ρ.f 11) args) w:=L.f11.enters rfl
 have mixed:=L.mixed; have t0:=L.t0; have a0:=L.a0; have z0:=L.z0; have v0:=L.v0; have t24:=L.t24; have a24:=L.a24; have z24:=L.z24; have v24:=L.v24; have t26:=L.t26; have a26:=L.a26; have z26:=L.z26; have v26:=L.v26; have t28:=L.t28; have a28:=L.a28; have z28:=L.z28; have v28:=L.v28
 have u0:=run_underlying L.t0; have u24:=run_underlying L.t24; have u26:=run_underlying L.t26; have u28:=run_underlying L.t28
 obtain ⟨_,_,FG⟩:=L.f8
 refine callsIn_of_wp FG rfl h8 ?_ hro
 simp only [SlBodyZ.n8_ntmps ρ,List.size_toArray,List.length_cons,List.length_nil,Nat.reduceAdd,Nat.reduceSub,Array.replicate_succ,Array.replicate_zero,List.push_toArray,List.append_toArray,List.nil_append,List.cons_append]
 gi_wp2_with (gi_at_fn (ρ.f 11); refine (appendSeq_in { L with } F (n - 1) h11 hro (by omega) g lb hFg eg ts hN hNb _ hseq).mono ?_; rintro e w' ⟨v,rfl,hrow,hb⟩)
 go_ret
 exact ⟨v,rfl,hrow,hb⟩
set_option maxRecDepth 100000 in
theorem sorted_in (L:SlLaysZ.n6 P ρ) (F:Fence) (n:Nat) (h6:F.fn (ρ.f 6)) (h8:F.fn (ρ.f 8)) (h9:F.fn (ρ.f 9)) (h11:F.fn (ρ.f 11)) (hro:F.round=none) (hn:4≤n) (hsort:AnyZ.SortsIn P ρ F (n - 1)) (e9:∀ args w,(callFunc (ρ.f 9) args).run P w=.ok (.enter (ρ.f 9) args) w) (g:Nat) (lb:Array Value) (hFg:F.fn g) (eg:∀ args w,(callFunc g args).run P w=.ok (.enter g args) w)
 (ts:List (List UInt8)) (hN:ts.length≤maxLen) (hNb:ts.length * 16≤140737488355328) (w:World) (hseq:SeqB F (n - 1 - 1 - 1) P g lb ts w) :
 CallsIn F n P (ρ.f 6) #[.func (.func g) #[] lb] w fun e w'=>∃ v:Value,e=.returned v ∧
  w'.ownsRow w.heap.size (ρ.t 26) 1 v ts.length ((ts.mergeSort (fun x y=>decide (x≤y))).map encStr)∧Below w.heap.size w w':=by
 have h1:1≤n:=by omega
 have e8:∀ args w,(callFunc (ρ.f 8) args).run P w=.ok (.enter (ρ.f 8) args) w:=L.f8.enters rfl
 have mixed:=L.mixed; have t0:=L.t0; have a0:=L.a0; have z0:=L.z0; have v0:=L.v0; have t24:=L.t24; have a24:=L.a24; have z24:=L.z24; have v24:=L.v24; have t26:=L.t26; have a26:=L.a26; have z26:=L.z26; have v26:=L.v26; have t28:=L.t28; have a28:=L.a28; have z28:=L.z28; have v28:=L.v28
 have u0:=run_underlying L.t0; have u24:=run_underlying L.t24; have u26:=run_underlying L.t26; have u28:=run_underlying L.t28
 obtain ⟨_,_,FG⟩:=L.f6
 refine callsIn_of_wp FG rfl h6 ?_ hro
 simp only [SlBodyZ.n6_ntmps ρ,List.size_toArray,List.length_cons,List.length_nil,Nat.reduceAdd,Nat.reduceSub,Array.replicate_succ,Array.replicate_zero,List.push_toArray,List.append_toArray,List.nil_append,List.cons_append]
 gi_wp2_with (gi_at_fn (ρ.f 8); refine (collect_in { L with } F (n - 1) h8 h11 hro (by omega) g lb hFg eg ts hN hNb _ hseq).mono ?_; rintro e W ⟨v,rfl,hrow,hb⟩)
 rcases hrow.2 with ⟨rfl,hz⟩ | ⟨gb,cap,cur,rfl,hbase,hgb,r1,r2,r3,r4⟩
 ·
  have hss:ts=[]:=List.eq_nil_of_length_eq_zero hz
  subst hss
  gi_wp2_with (gi_at_fn (ρ.f 9); refine (hsort.2 none 0 W).mono ?_; rintro e w' ⟨rfl,rfl⟩)
  go_ret
  exact ⟨.slice none 0 0,rfl,by simpa using hrow,hb⟩
 ·
  have hH:Holds encStr W gb 0 ts.toArray:=holds_of_block hgb (by simpa using r4)
  have hgl:gb < W.heap.size:=(Array.getElem?_eq_some_iff.1 hgb).1
  have hsz:ts.length < 4611686018427387904:=by omega
  have cS:=hsort.1 gb 0 cap ts W hH hgl hsz
  gi_wp2_with (gi_at_fn (ρ.f 9); refine cS.mono ?_; rintro e w' ⟨rfl,nn,os,rfl⟩)
  go_ret
  exact ⟨_,rfl,ownsRow_sorted (by simp) hbase hgb r1 r2 r3,hb.grown (grownBy_sorted _) hb.size (fun j hj=>by cases hj; exact hbase)⟩
theorem sorts (m:Nat):AnyZ.SortsIn Tryz.prog Tryz.sortedZ_ren Fence.wide m :=
 ⟨fun blk off cap ss W hH hblk hsz=>callsIn_wide.2 (Tryz.slices_Sort_string blk off cap ss W hH hblk hsz),
  fun p cap W=>callsIn_wide.2 (Tryz.slices_Sort_string_none p cap W)⟩
theorem seq_values (n:Nat) (hn:1≤n) (Bs cap:Nat) (a:Option Addr) (ts:List (List UInt8)) (hx:ts.length≤1048576) (w:World) (hS:Strs w a (ts.map S)) (hBl:Bs < w.heap.size) (hBs:w.cell? ⟨Bs,0,none⟩=some (.slice a ts.length cap)) :
 SeqB Fence.wide n Tryz.prog 169 #[.pointer (some ⟨Bs,0,none⟩)] ts w:=fun l J W hW hJ hY h0 =>
 values_in Fence.wide n trivial rfl hn l Bs cap a ts hx w hS J hJ hY W ((hW.cell (p:=⟨Bs,0,none⟩) hBl).trans hBs) h0
theorem sorted_values (Bs cap:Nat) (a:Option Addr) (ts:List (List UInt8)) (hx:ts.length≤1048576) (w:World) (hS:Strs w a (ts.map S)) (hBl:Bs < w.heap.size) (hBs:w.cell? ⟨Bs,0,none⟩=some (.slice a ts.length cap)) :
 Calls Tryz.prog 104 #[.func (.func 169) #[] #[.pointer (some ⟨Bs,0,none⟩)]] w fun e w'=>∃ v:Value,e=.returned v ∧
  w'.ownsRow w.heap.size 9 1 v ts.length ((ts.mergeSort (fun x y=>decide (x≤y))).map encStr)∧Below w.heap.size w w':=by
 refine (callsIn_wide (n:=6)).1 ?_
 have:=sorted_in Tryz.sortedZ Fence.wide 6 trivial trivial trivial trivial rfl (by omega) (sorts _) (enters_of Tryz.func168 (by kernel_rfl) rfl) 169 #[.pointer (some ⟨Bs,0,none⟩)] trivial (enters_of Tryz.func169 (by kernel_rfl) rfl) ts (by unfold maxLen; omega) (by omega) w
  (seq_values 3 (by omega) Bs cap a ts hx w hS hBl hBs)
 exact this
end Go.Proofs.YtnoehodmmkioaaaGreatDoor.SeqW
namespace Go.Proofs.YtnoehodmmkioaaaGreatDoor.TagW
open Go.RowKit Go.Shelf Go.Maps Go.Sort OctMath NameMath
theorem compact_any (base:Nat) (v:Value) (ss:List (List UInt8)) (hx:ss.length≤1048576) (w0 w:World) (hb:Below base w0 w) (h:w.ownsRow base 9 1 v ss.length (ss.map encStr)) :
 Calls Tryz.prog 106 #[v] w fun e w'=>(∃ a c,e=.returned (.slice a (Lib.compact ss).length c))∧Below base w0 w':=by
 rcases h.2 with ⟨rfl,hz⟩ | ⟨gb,cap,cur,rfl,hbase,hgb,r1,r2,r3,r4⟩
 ·
  have hss:ss=[]:=List.eq_nil_of_length_eq_zero hz
  subst hss
  refine (Tryz.slices_Compact_string_empty none 0 w).mono ?_
  rintro e w' ⟨rfl,rfl⟩
  exact ⟨⟨none,0,rfl⟩,hb⟩
 ·
  have hH:Holds encStr w gb 0 ss.toArray:=holds_of_block hgb (by simpa using r4)
  refine (Tryz.slices_Compact_string gb 0 cap ss w hH (by omega) (by omega)).mono ?_
  rintro e w' ⟨rfl,q,rfl⟩
  exact ⟨⟨_,_,rfl⟩,Lib.below_putRow hb hbase⟩
theorem clone_any (a:Option Addr) (cap:Nat) (ts:List (List UInt8)) (hx:ts.length≤1048576) (w:World) (hS:Strs w a (ts.map S)) :
 Calls Tryz.prog 59 #[.slice a ts.length cap] w fun e w'=>∃ v,e=.returned v∧w'.ownsRow w.heap.size 9 1 v ts.length (ts.map encStr)∧Below w.heap.size w w':=by
 cases a with
 | none =>
   have hts:ts=[]:=by
    cases ts with
    | nil=>rfl
    | cons t r=>obtain ⟨b,off,h,_⟩:=hS 0 (by simp); cases h
   subst hts
   refine (Tryz.slices_Clone_string_nil 0 cap w).mono ?_
   rintro e w' ⟨rfl,rfl⟩
   exact ⟨_,rfl,⟨rfl,.inl ⟨rfl,rfl⟩⟩,Below.refl _ _⟩
 | some p =>
   by_cases h0:ts=[]
   · subst h0
     refine (Tryz.slices_Clone_string_zero p cap w).mono ?_
     rintro e w' ⟨v,rfl,h,_,hb⟩
     exact ⟨v,rfl,h,hb⟩
   ·
    have hp:p.spot=none:=by
     obtain ⟨b,off,h,_⟩:=hS 0 (by rw [List.length_map]; exact List.length_pos_iff.2 h0)
     cases h; rfl
    obtain ⟨b,off,sp⟩:=p
    cases hp
    have hc:∀ j,j < (ts.map S).length→w.cell? ⟨b,off+j,none⟩=some (.string ((ts.map S).getD j ByteArray.empty)):=fun j hj=>by
     obtain ⟨b',off',h,hc⟩:=hS j hj
     cases h
     rw [hc]
     rw [List.getD_eq_getElem?_getD,List.getElem?_eq_getElem hj]; rfl
    refine (Tryz.slices_Clone_string b off ts.length cap (ts.map S) w (by simp) (by omega) hc).mono ?_
    rintro e w' ⟨v,rfl,h,_,hb⟩
    refine ⟨v,rfl,?_,hb⟩
    have e2:((ts.map S).take ts.length).map Value.string=ts.map encStr:=by
     rw [List.take_of_length_le (by simp),List.map_map]; rfl
    rwa [e2] at h
def dupL (ts:List (List UInt8)):Bool:=decide ((Lib.compact (ts.mergeSort (fun x y=>decide (x≤y)))).length < ts.length)
attribute [local go_sem] Oper.semAt_some
theorem values_any (a:Option Addr) (n cap:Nat) (w:World) :
 Calls Tryz.prog 105 #[.slice a n cap] w fun e w'=>e=.returned (.func (.func 169) #[] #[.pointer (some ⟨w.heap.size,0,none⟩)])∧w'=w.alloc (.cells #[.slice a n cap] 31):=by
 go_enter Tryz.func105,Tryz.ntmps105
 go_wp2_with fail
 go_ret
 exact ⟨rfl,rfl⟩
end Go.Proofs.YtnoehodmmkioaaaGreatDoor.TagW
namespace Go.Proofs.YtnoehodmmkioaaaGreatDoor.DupMath
open Go.RowKit OctMath NameMath
def leL (x y:List UInt8):Bool:=decide (x≤y)
theorem sorted_merge (ts:List (List UInt8)):List.Pairwise (fun a b=>leL a b=true) (ts.mergeSort leL) :=
 List.pairwise_mergeSort (le:=leL) (fun a b c h k=>by unfold leL at *; exact decide_eq_true (List.le_trans (of_decide_eq_true h) (of_decide_eq_true k))) (fun a b=>by
  unfold leL
  rcases List.le_total a b with h | h
  · rw [decide_eq_true h]; rfl
  · rw [decide_eq_true h,Bool.or_true]) ts
theorem sorted_nodup {s:List (List UInt8)} (h:List.Pairwise (fun a b=>leL a b=true) s):s.Nodup↔∀ j,0 < j→j < s.length→s[j]!≠s[j - 1]! := by
 have hp:=List.pairwise_iff_getElem.1 h
 constructor
 · intro hn j h0 hj e
   rw [getElem!_pos s j hj,getElem!_pos s (j - 1) (by omega)] at e
   exact List.pairwise_iff_getElem.1 hn (j - 1) j (by omega) hj (by omega) e.symm
 ·
  intro ha
  refine List.pairwise_iff_getElem.2 fun i j hi hj hij e=>?_
  have h1:s[i]≤s[j - 1]:=by
   by_cases e':i=j - 1
   · subst e'; exact List.le_refl _
   · exact of_decide_eq_true (hp i (j - 1) hi (by omega) (by omega))
  have h2:s[j - 1]≤s[j]:=of_decide_eq_true (hp (j - 1) j (by omega) hj (by omega))
  have h3:s[j - 1]=s[j]:=List.le_antisymm h2 (by rw [← e]; exact h1)
  have:=ha j (by omega) hj
  rw [getElem!_pos s j hj,getElem!_pos s (j - 1) (by omega)] at this
  exact this h3.symm
theorem compact_lt (s:List (List UInt8)):(Lib.compact s).length < s.length↔¬ ∀ j,0 < j→j < s.length→s[j]!≠s[j - 1]! := by
 have hle:(Lib.compact s).length≤s.length:=by
  unfold Lib.compact Lib.compactUpTo
  rw [List.length_map]
  exact Nat.le_trans (List.length_filter_le _ _) (by simp)
 have key:(Lib.compact s).length=s.length↔∀ j,0 < j→j < s.length→s[j]!≠s[j - 1]! := by
  unfold Lib.compact Lib.compactUpTo
  rw [List.length_map]
  have e:((List.range s.length).filter (Lib.keeps s.toArray)).length=s.length↔((List.range s.length).filter (Lib.keeps s.toArray)).length=(List.range s.length).length:=by rw [List.length_range]
  rw [e,List.length_filter_eq_length_iff]
  constructor
  ·
   intro h j h0 hj
   have:=h j (List.mem_range.2 hj)
   unfold Lib.keeps at this
   simp at this
   rcases this with h | h
   · omega
   · simpa using h
  ·
   intro h j hj
   have hj':=List.mem_range.1 hj
   unfold Lib.keeps
   simp
   by_cases h0:j=0
   · exact .inl h0
   · exact .inr (by simpa using h j (by omega) hj')
 constructor
 · intro h h2; have:=key.2 h2; omega
 · intro h
   have:(Lib.compact s).length≠s.length:=fun e=>h (key.1 e)
   omega
theorem dup_nodup (ts:List (List UInt8)):TagW.dupL ts=true↔¬ ts.Nodup:=by
 have hp:=List.mergeSort_perm ts leL
 have h1:TagW.dupL ts=decide ((Lib.compact (ts.mergeSort leL)).length < ts.length):=rfl
 rw [h1,decide_eq_true_eq,← hp.length_eq,compact_lt,← sorted_nodup (sorted_merge ts),hp.nodup_iff]
end Go.Proofs.YtnoehodmmkioaaaGreatDoor.DupMath
namespace Go.Proofs.YtnoehodmmkioaaaGreatDoor.RecW
open Go.RowKit OctMath RecMath NameMath
theorem S_toList (l:List UInt8):(S l).toList=l:=by rw [ByteArray.toList_eq,S_list]
theorem eql_nilk (g:Nat) (w:World):Sem.run Tryz.prog (binOp .eql 96 (.func (.func g) #[] #[]) .nilFunc) w=.ok (.bool false) w:=by
 rfl
theorem bad_any (n:Int) (w:World):Calls Tryz.prog 208 #[.int .i64 n] w fun e w'=>e=.returned (.bool (badNum n))∧Drawn w w':=by
 by_cases h1:n < 0
 ·
  have hb:badNum n=true:=by unfold badNum; rw [decide_eq_true h1]; rfl
  rw [hb]
  clear hb
  go_enter Tryz.func208,Tryz.ntmps208
  go_wp2_with fail
  go_ret
  exact ⟨rfl,Drawn.refl _⟩
 ·
  have hb:badNum n=decide (1099511627776 < n):=by unfold badNum; rw [decide_eq_false h1]; rfl
  rw [hb]
  clear hb
  go_enter Tryz.func208,Tryz.ntmps208
  go_wp2_with fail
  go_ret
  exact ⟨rfl,Drawn.refl _⟩
theorem noughts_any (n:Nat) (hn:n≤1099511627776) (w:World):Calls Tryz.prog 100 #[.int .i64 (n:Int)] w fun e w'=>e=.returned (.string (S (noughts n)))∧Below w.heap.size w w':=by
 have c:=Lib.hid (Tryz.strings_Repeat (S [0]) n w (by omega) (by rw [S_size]; simp; omega))
 have he:(⟨(Lib.repeatL (S [0]).data.toList n).toArray⟩:ByteArray)=S (noughts n):=by
  have h:∀ k,Lib.repeatL [(0:UInt8)] k=List.replicate k 0:=by
   intro k
   induction k with
   | zero=>rfl
   | succ k ih=>rw [Lib.repeatL,ih]; rfl
  unfold S noughts
  rw [show ((⟨([0]:List UInt8).toArray⟩:ByteArray)).data.toList=[0] from rfl,h]
 rw [he] at c
 generalize noughts n=z at *
 go_enter Tryz.func100,Tryz.ntmps100
 go_wp2_with fail
 refine c.out.mono ?_
 rintro e w' ⟨rfl,hb⟩
 have HB:=Lib.hid hb
 clear hb
 go_wp2_with fail
 go_ret
 exact ⟨rfl,HB.out⟩
theorem nums_any (g:Nat) (l:List Int) (hl:l.length≤1048576) (hne:l≠[]) (w:World) (hr:∀ j,j < l.length→w.cell? ⟨g,j,none⟩=some (.int .i64 l[j]!)) :
 Calls Tryz.prog 161 #[.slice (some ⟨g,0,none⟩) l.length l.length] w fun e w'=>e=.returned (.bool (!(l.any badNum)))∧Drawn w w':=by
 have c:=Lib.hid (Tryz.slices_ContainsFunc (fun n:Int=>Value.int .i64 n) badNum 208 #[] (enters_of Tryz.func208 (by kernel_rfl) rfl) g 0 l.length l.length l w (fun W x _=>bad_any x W) (Nat.le_refl _) (by omega) (fun j hj=>by rw [Nat.zero_add]; exact hr j hj))
 rw [List.take_length] at c
 generalize l.any badNum=z at *
 generalize l.length=n at *
 go_enter Tryz.func161,Tryz.ntmps161
 go_wp2_with fail
 refine c.out.mono ?_
 rintro e w' ⟨rfl,q,rfl⟩
 go_wp2_with fail
 go_ret
 exact ⟨rfl,⟨_,rfl⟩⟩
theorem key_any (l:List UInt8) (hl:l.length≤1099511627776) (W:World):Calls Tryz.prog 54 #[.string (S l)] W fun e w'=>e=.returned (.bool (keyL l))∧Below W.heap.size W w':=by
 have hsz:=S_size
 have htl:=S_toList
 by_cases h0:l=[]
 ·
  have hb:keyL l=false:=by subst h0; rfl
  rw [hb]
  subst h0
  clear hb
  go_enter Tryz.func54,Tryz.ntmps54
  go_wp2_with fail
  go_ret
  exact ⟨rfl,Below.refl _ _⟩
 ·
  have hie:l.isEmpty=false:=by cases l with | nil=>exact absurd rfl h0 | cons _ _=>rfl
  by_cases h1:16 < l.length
  ·
   have hb:keyL l=false:=by unfold keyL; rw [decide_eq_false (by omega:¬ l.length≤16)]; simp
   rw [hb]
   clear hb
   go_enter Tryz.func54,Tryz.ntmps54
   go_wp2_with fail
   go_ret
   exact ⟨rfl,Below.refl _ _⟩
  ·
   have hb:keyL l=l.all keySign:=by unfold keyL; rw [decide_eq_true h0,decide_eq_true (by omega:l.length≤16)]; simp
   rw [hb]
   clear hb h0
   have hl16:l.length≤16:=by omega
   go_enter Tryz.func54,Tryz.ntmps54
   go_wp2_with fail
   go_loopw [13] (fun i wr=>∃ k:Nat,k≤l.length∧i=.int .i64 (k:Int)∧Hid ((l.take k).all keySign=true)∧Hid (Below W.heap.size W wr)) (fun i _=>l.length+1 - (intOf i).toNat)
   case atStart=>exact ⟨0,by omega,rfl,rfl,Below.refl _ _⟩
   case round =>
    obtain ⟨k,hk,rfl,HA,HB⟩:=hrel
    by_cases hlt:k < l.length
    ·
     have hstep:(l.take (k+1)).all keySign=((l.take k).all keySign && keySign l[k]):=by rw [List.take_succ_eq_append_getElem hlt,List.all_append,List.all_cons,List.all_nil,Bool.and_true]
     have hmem:keySign l[k]=false→l.all keySign=false:=fun h=>by rw [List.all_eq_false]; exact ⟨l[k],List.getElem_mem hlt,by rw [h]; simp⟩
     have HST:=Lib.hid hstep
     have HMEM:=Lib.hid hmem
     clear hstep hmem
     have hsk:k < (S l).size:=by rw [S_size]; exact hlt
     have hgk:((S l)[k]'hsk).toNat=l[k].toNat:=by rfl
     cases hks:keySign l[k] with
     | true =>
       have hT:(l.take (k+1)).all keySign=true:=by rw [HST.out,HA.out,Bool.true_and]; exact hks
       have HT:=Lib.hid hT
       unfold keySign at hks
       simp only [Bool.and_eq_true,decide_eq_true_eq] at hks
       have q1:¬ (((S l)[k]'hsk).toNat:Int) < 33:=by omega
       have q2:¬ 126 < (((S l)[k]'hsk).toNat:Int):=by omega
       clear HST HMEM HA hT hks hgk
       go_wp2_with fail
       go_roundw
       case rel=>exact ⟨k+1,by omega,by go_num,HT.out,HB.out⟩
       case measure=>simp [intOf]; omega
     | false =>
       have HT:Hid (l.all keySign=false):=HMEM.out hks
       unfold keySign at hks
       rw [Bool.and_eq_false_iff,decide_eq_false_iff_not,decide_eq_false_iff_not] at hks
       clear HST HMEM HA
       by_cases q1:(((S l)[k]'hsk).toNat:Int) < 33
       · clear hks hgk
         go_wp2_with fail
         go_ret
         rw [HT.out]
         exact ⟨rfl,HB.out⟩
       · have q2:126 < (((S l)[k]'hsk).toNat:Int):=by omega
         clear hks hgk
         go_wp2_with fail
         go_ret
         rw [HT.out]
         exact ⟨rfl,HB.out⟩
    ·
     have ek:k=l.length:=by omega
     subst ek
     rw [List.take_length] at HA
     go_wp2_with fail
     go_ret
     rw [HA.out]
     exact ⟨rfl,HB.out⟩
theorem allk_any (a:Option Addr) (cap:Nat) (ts:List (List UInt8)) (hx:ts.length≤1048576) (hz:∀ t∈ts,t.length≤1099511627776) (W:World) (h:Strs W a (ts.map S)) :
 Calls Tryz.prog 53 #[.func (.func 54) #[] #[],.slice a ts.length cap] W fun e w'=>e=.returned (.bool (ts.all keyL))∧Below W.heap.size W w':=by
 have eg:=enters_of Tryz.func54 (by kernel_rfl) rfl
 have HS:=Lib.hid h
 clear h
 go_enter Tryz.func53,Tryz.ntmps53
 go_wp2_with fail
 go_loopw [9] (fun i wr=>∃ k:Nat,k≤ts.length∧i=.int .i64 (k:Int)∧Hid ((ts.take k).all keyL=true)∧Hid (Below W.heap.size W wr)) (fun i _=>ts.length+1 - (intOf i).toNat)
 case atStart=>exact ⟨0,by omega,rfl,rfl,Below.refl _ _⟩
 case round =>
  obtain ⟨k,hk,rfl,HA,HB⟩:=hrel
  by_cases hlt:k < ts.length
  ·
   obtain ⟨b,off,rfl,hcell⟩:=(HS.out.below HB.out) k (by rw [List.length_map]; exact hlt)
   rw [List.getElem_map] at hcell
   have hstep:(ts.take (k+1)).all keyL=((ts.take k).all keyL && keyL ts[k]):=by rw [List.take_succ_eq_append_getElem hlt,List.all_append,List.all_cons,List.all_nil,Bool.and_true]
   have hmem:keyL ts[k]=false→ts.all keyL=false:=fun h=>by rw [List.all_eq_false]; exact ⟨ts[k],List.getElem_mem hlt,by rw [h]; simp⟩
   have hP:=fun w=>key_any ts[k] (hz _ (List.getElem_mem hlt)) w
   generalize ts[k]=t at *
   have HST:=Lib.hid hstep
   have HMEM:=Lib.hid hmem
   clear hstep hmem
   have hnf:=fun w=>eql_nilk 54 w
   generalize keyL t=p at *
   go_wp2_with fail
   refine (hP _).mono ?_
   rintro e w2 ⟨rfl,hb⟩
   have HB2:=Lib.hid (HB.out.trans (hb.mono HB.out.size))
   clear hb hP hcell HB
   cases p with
   | true =>
     have HT:Hid ((ts.take (k+1)).all keyL=true):=by show _=_; rw [HST.out,HA.out]; rfl
     clear HST HMEM HA
     go_wp2_with fail
     go_roundw
     case rel=>exact ⟨k+1,by omega,by go_num,HT,HB2⟩
     case measure=>simp [intOf]; omega
   | false =>
     have HT:Hid (ts.all keyL=false):=HMEM.out rfl
     clear HST HMEM HA
     go_wp2_with fail
     go_ret
     rw [HT.out]
     exact ⟨rfl,HB2.out⟩
  ·
   have ek:k=ts.length:=by omega
   subst ek
   rw [List.take_length] at HA
   go_wp2_with fail
   go_ret
   rw [HA.out]
   exact ⟨rfl,HB.out⟩
def cellsM (m:Msg) (a:Option Addr) (c:Nat):Array Value:=#[.int .i64 m.kind,.int .i64 m.queue,.int .i64 m.due,.int .i64 m.retry,.int .i64 m.ref,.int .i64 m.born,.string (S m.topic),.string (S m.tag),.string (S m.body),.slice a m.keys.length c]
def inI (n:Int):Prop := -9223372036854775808≤n∧n≤9223372036854775807
structure MsgOk (m:Msg):Prop where
 kind:inI m.kind
 queue:inI m.queue
 due:inI m.due
 retry:inI m.retry
 ref:inI m.ref
 born:inI m.born
 topic:m.topic.length≤1073741824
 tag:m.tag.length≤1073741824
 body:m.body.length≤1073741824
 keys:m.keys.length≤1048576
 key:∀ t∈m.keys,t.length≤1073741824
def Boxed (w:World) (B:Nat) (cs:Array Value):Prop:=∀ (k:Nat) (v:Value),cs[k]?=some v→w.cell? ⟨B,k,none⟩=some v
theorem ten_cells {w:World} {A:Nat} {m:Msg} {a:Option Addr} {c:Nat} (h:Boxed w A (cellsM m a c)):w.cell? ⟨A,0,none⟩=some (.int .i64 m.kind)∧w.cell? ⟨A,1,none⟩=some (.int .i64 m.queue)∧w.cell? ⟨A,2,none⟩=some (.int .i64 m.due)∧w.cell? ⟨A,3,none⟩=some (.int .i64 m.retry)∧w.cell? ⟨A,4,none⟩=some (.int .i64 m.ref)∧w.cell? ⟨A,5,none⟩=some (.int .i64 m.born)∧w.cell? ⟨A,6,none⟩=some (.string (S m.topic))∧w.cell? ⟨A,7,none⟩=some (.string (S m.tag))∧w.cell? ⟨A,8,none⟩=some (.string (S m.body))∧w.cell? ⟨A,9,none⟩=some (.slice a m.keys.length c):=⟨h 0 _ rfl,h 1 _ rfl,h 2 _ rfl,h 3 _ rfl,h 4 _ rfl,h 5 _ rfl,h 6 _ rfl,h 7 _ rfl,h 8 _ rfl,h 9 _ rfl⟩
theorem Boxed.below {W w:World} {B:Nat} {cs:Array Value} (h:Boxed W B cs) (hb:Below W.heap.size W w):Boxed w B cs:=fun k v e=>by
 have hc:=h k v e
 rw [hb.cell (cell_lt hc)]; exact hc
theorem Boxed.new (w:World) (cs:Array Value) (e:TypeId):Boxed (w.alloc (.cells cs e)) w.heap.size cs:=fun k v h=>by rw [World.cell?_alloc_new]; exact h
theorem Strs.below {W w:World} {a:Option Addr} {ts:List ByteArray} (h:Strs W a ts) (hb:Below W.heap.size W w):Strs w a ts:=(Row1.of_strs h |>.below hb).to_strs
theorem nums_fit (n:Nat) (xs:List Int) (h1:1≤n) (h7:n≤7) (h:∀ x∈xs,OctW.fits n x):OctW.numsW (n:Int) xs=(OctW.numsL n xs,0):=by
 unfold OctW.numsW
 rw [if_neg (by omega),Int.toNat_natCast,if_pos h]
theorem ints_new (w:World) (xs:List Int) (e:TypeId):OctW.Ints (w.alloc (.cells (xs.map fun x=>Value.int .i64 x).toArray e)) (some ⟨w.heap.size,0,none⟩) xs:=fun i hi =>
 ⟨_,0,rfl,by rw [Nat.zero_add,World.cell?_alloc_new]; simp [hi]⟩
theorem strs_new (w:World) (xs:List ByteArray) (e:TypeId):Strs (w.alloc (.cells (xs.map fun x=>Value.string x).toArray e)) (some ⟨w.heap.size,0,none⟩) xs:=fun i hi =>
 ⟨_,0,rfl,by rw [Nat.zero_add,World.cell?_alloc_new]; simp [hi]⟩
theorem unlike_any (a:Option Addr) (cap:Nat) (ts:List (List UInt8)) (hx:ts.length≤1048576) (W:World) (hS:Strs W a (ts.map S)) :
 Calls Tryz.prog 209 #[.slice a ts.length cap] W fun e w'=>e=.returned (.bool (decide ts.Nodup))∧Below W.heap.size W w':=by
 have hV:=Lib.hid (TagW.values_any a ts.length cap W)
 have HB2:Hid (Below W.heap.size W (W.alloc (.cells #[.slice a ts.length cap] 31))):=(Below.refl _ _).alloc (Nat.le_refl _) _
 have HSO:=Lib.hid (SeqW.sorted_values W.heap.size cap a ts hx (W.alloc (.cells #[.slice a ts.length cap] 31)) (Strs.below hS HB2.out) (by simp) (by rw [World.cell?_alloc_new]; rfl))
 have hlen:(ts.mergeSort (fun x y=>decide (x≤y))).length=ts.length:=List.length_mergeSort _
 have HND:Hid (decide ts.Nodup=!decide ((Lib.compact (ts.mergeSort (fun x y=>decide (x≤y)))).length < ts.length)):=by
  have h1:=DupMath.dup_nodup ts
  unfold TagW.dupL at h1
  rw [decide_eq_true_eq] at h1
  show _=_
  by_cases h:ts.Nodup
  · rw [decide_eq_true h,decide_eq_false (fun h2=>h1.1 h2 h)]; rfl
  · rw [decide_eq_false h,decide_eq_true (h1.2 h)]; rfl
 have hle:(Lib.compact (ts.mergeSort (fun x y=>decide (x≤y)))).length≤ts.length:=by
  rw [← hlen]
  unfold Lib.compact Lib.compactUpTo
  rw [List.length_map]
  exact Nat.le_trans (List.length_filter_le _ _) (by simp)
 generalize ts.mergeSort (fun x y=>decide (x≤y))=ss at *
 clear hS
 go_enter Tryz.func209,Tryz.ntmps209
 go_wp2_with fail
 refine hV.out.mono ?_
 rintro e w2 ⟨rfl,rfl⟩
 clear hV
 go_wp2_with fail
 refine HSO.out.mono ?_
 rintro e w3 ⟨v,rfl,hrow,hb⟩
 have HB3:=Lib.hid (HB2.out.trans (hb.mono HB2.out.size))
 have HC:=Lib.hid (TagW.compact_any W.heap.size v ss (by omega) W w3 HB3.out (by rw [hlen]; exact SeqW.own_base hrow HB2.out.size))
 generalize (Lib.compact ss).length=cn at *
 generalize ts.length=tn at *
 clear hrow hb HSO hlen
 go_wp2_with fail
 refine HC.out.mono ?_
 rintro e w4 ⟨⟨a4,c4,rfl⟩,hb⟩
 have HB4:=Lib.hid hb
 clear hb HC
 by_cases h:cn=tn
 ·
  subst h
  go_wp2_with fail
  go_ret
  exact ⟨ret_bool (by rw [HND.out]; simp),HB4.out⟩
 ·
  have hne:¬ (cn:Int)=(tn:Int):=by omega
  go_wp2_with fail
  go_ret
  exact ⟨ret_bool (by rw [HND.out,decide_eq_true (by omega:cn < tn)]; first | rfl | (simp; omega)),HB4.out⟩
theorem fill_any (n:Int) (h1 : -9223372036854775808≤n) (h2:n≤1099511627776) (w:World) :
 Calls Tryz.prog 49 #[.int .i64 n] w fun e w'=>e=.returned (.tuple #[.string (S (fillL n)),.bool (decide (3≤n∧n≤1024))])∧Below w.heap.size w w':=by
 by_cases ha:n < 3
 ·
  have hf:fillL n=[]:=by unfold fillL; rw [if_pos (.inl ha)]
  rw [hf,decide_eq_false (by omega)]
  clear hf
  go_enter Tryz.func49,Tryz.ntmps49
  go_wp2_with fail
  go_ret2
  exact ⟨rfl,Below.refl _ _⟩
 ·
  by_cases hb:1024 < n
  ·
   have hf:fillL n=[]:=by unfold fillL; rw [if_pos (.inr hb)]
   rw [hf,decide_eq_false (by omega)]
   clear hf
   go_enter Tryz.func49,Tryz.ntmps49
   go_wp2_with fail
   go_ret2
   exact ⟨rfl,Below.refl _ _⟩
  ·
   obtain ⟨k,rfl⟩:∃ k:Nat,n=(k:Int):=⟨n.toNat,by omega⟩
   rw [decide_eq_true (by omega)]
   have hf:fillL (k:Int)=90 :: be 2 k++noughts (k - 3):=by unfold fillL; rw [if_neg (by omega),Int.toNat_natCast]
   have HFE:Hid (S [90]++S (be 2 k)++S (noughts (k - 3))=S (fillL (k:Int))):=by show _=_; rw [S_append,S_append,hf]; rfl
   have HB1:Hid (Below w.heap.size w (w.alloc (.cells #[.int .i64 (k:Int)] 3))):=(Below.refl _ _).alloc (Nat.le_refl _) _
   have hnw:OctW.numsW 2 [(k:Int)]=(be 2 k,0):=by
    rw [show (2:Int)=((2:Nat):Int) from rfl,nums_fit 2 _ (by omega) (by omega) (fun x hx=>by rw [List.mem_singleton] at hx; subst hx; exact ⟨by omega,by show (k:Int) < ((256 ^ 2:Nat):Int); omega⟩)]
    simp [OctW.numsL]
   have HN:=Lib.hid (OctW.nums_any 2 (by omega) (by omega) (some ⟨w.heap.size,0,none⟩) 1 [(k:Int)] (by simp) (fun x hx=>by simp at hx; omega) (w.alloc (.cells #[.int .i64 (k:Int)] 3)) (ints_new w [(k:Int)] _))
   rw [hnw] at HN
   have hk3:((k - 3:Nat):Int)=(k:Int) - 3:=by omega
   have HZ:=Lib.hid (fun (w2:World)=>noughts_any (k - 3) (by omega) w2)
   rw [hk3] at HZ
   have hz1:(S (be 2 k)).size=2:=by rw [S_size,be_length]
   have hz2:(S (noughts (k - 3))).size≤1024:=by rw [S_size]; unfold noughts; simp; omega
   generalize S (be 2 k)=s1 at *
   generalize S (noughts (k - 3))=s2 at *
   clear hnw hf hk3
   go_enter Tryz.func49,Tryz.ntmps49
   go_wp2_with fail
   refine HN.out.mono ?_
   rintro e w2 ⟨rfl,hb2⟩
   have HB2:=Lib.hid (HB1.out.trans (hb2.mono HB1.out.size))
   clear hb2 HN
   go_wp2_with fail
   refine (HZ.out _).mono ?_
   rintro e w3 ⟨rfl,hb3⟩
   have HB3:=Lib.hid (HB2.out.trans (hb3.mono HB2.out.size))
   clear hb3 HZ
   go_wp2_with fail
   go_ret2
   exact ⟨by rw [← HFE.out]; rfl,HB3.out⟩
theorem carries_any (m:Msg) (hm:MsgOk m) (a:Option Addr) (c:Nat) (W:World) (hS:Strs W a (m.keys.map S)) :
 Calls Tryz.prog 162 #[.agg (cellsM m a c)] W fun e w'=>e=.returned (.bool (carriesL m))∧Below W.heap.size W w':=by
 have HB0:Hid (Below W.heap.size W (W.alloc (.cells (cellsM m a c) 53))):=(Below.refl _ W).alloc (Nat.le_refl _) _
 have HX:Hid (Boxed (W.alloc (.cells (cellsM m a c) 53)) W.heap.size (cellsM m a c)):=Boxed.new W _ _
 have HS0:=Lib.hid (Strs.below hS HB0.out)
 have HTOP:=Lib.hid (fun w=>NameW.topic_any m.topic (by have:=hm.topic; omega) w)
 have HTAG:=Lib.hid (fun w=>NameW.tag_any m.tag (by have:=hm.tag; omega) w)
 have HALL:=Lib.hid (fun w (h:Strs w a (m.keys.map S))=>allk_any a c m.keys hm.keys (fun t ht=>by have:=hm.key t ht; omega) w h)
 have HUNL:=Lib.hid (fun w (h:Strs w a (m.keys.map S))=>unlike_any a c m.keys hm.keys w h)
 have HC:Hid (carriesL m=(topicL m.topic && decide (0≤m.queue) && decide (m.queue < 3) && decide (0≤m.retry) && decide (m.retry≤4) && (m.tag.isEmpty || plainL m.tag) && decide (m.keys.length≤3) && m.keys.all keyL && decide m.keys.Nodup && decide (m.body.length≤200))):=rfl
 have hsz:=S_size
 have hcu:(cellsM m a c).size=10:=rfl
 have hkn:m.keys.length≤1048576:=hm.keys
 have hbn:m.body.length≤1073741824:=hm.body
 clear hm hS
 go_enter Tryz.func162,Tryz.ntmps162
 go_upto_region 1 with fail
 generalize W.alloc (.cells (cellsM m a c) 53)=w1 at *
 clear hcu
 obtain ⟨A,hA⟩:∃ A,W.heap.size=A:=⟨_,rfl⟩
 rw [hA] at HX HB0 ⊢
 have k6:w1.cell? ⟨A,6,none⟩=some (.string (S m.topic)):=HX.out 6 _ rfl
 go_wp2_with fail
 refine (HTOP.out w1).mono ?_
 rintro e w2 ⟨rfl,hb⟩
 have HB1:=Lib.hid (HB0.out.trans (hb.mono (by have h9:=HB0.out.size; omega)))
 have HX1:Hid (Boxed w2 A (cellsM m a c)):=HX.out.below hb
 have HS1:=Lib.hid (Strs.below HS0.out hb)
 clear hb
 generalize topicL m.topic=tp at *
 cases tp with
 | false =>
   have hF:carriesL m=false:=by rw [HC.out]; simp
   have HF:=Lib.hid hF
   clear hF HC
   go_wp2_with fail
   go_ret
   exact ⟨ret_bool (by rw [HF.out]),hA ▸ HB1.out⟩
 | true =>
   have k1:w2.cell? ⟨A,1,none⟩=some (.int .i64 m.queue):=HX1.out 1 _ rfl
   have k3:w2.cell? ⟨A,3,none⟩=some (.int .i64 m.retry):=HX1.out 3 _ rfl
   have k7:w2.cell? ⟨A,7,none⟩=some (.string (S m.tag)):=HX1.out 7 _ rfl
   by_cases h1:0≤m.queue
   case neg =>
    have hF:carriesL m=false:=by rw [HC.out]; rw [decide_eq_false h1]; simp
    have HF:=Lib.hid hF
    clear hF HC
    go_wp2_with fail
    go_ret
    exact ⟨ret_bool (by rw [HF.out]),hA ▸ HB1.out⟩
   by_cases h2:m.queue < 3
   case neg =>
    have hF:carriesL m=false:=by rw [HC.out]; rw [decide_eq_false h2]; simp
    have HF:=Lib.hid hF
    clear hF HC
    go_wp2_with fail
    go_ret
    exact ⟨ret_bool (by rw [HF.out]),hA ▸ HB1.out⟩
   by_cases h3:0≤m.retry
   case neg =>
    have hF:carriesL m=false:=by rw [HC.out]; rw [decide_eq_false h3]; simp
    have HF:=Lib.hid hF
    clear hF HC
    go_wp2_with fail
    go_ret
    exact ⟨ret_bool (by rw [HF.out]),hA ▸ HB1.out⟩
   by_cases h4:m.retry≤4
   case neg =>
    have hF:carriesL m=false:=by rw [HC.out]; rw [decide_eq_false h4]; simp
    have HF:=Lib.hid hF
    clear hF HC
    go_wp2_with fail
    go_ret
    exact ⟨ret_bool (by rw [HF.out]),hA ▸ HB1.out⟩
   go_wp2_with fail
   refine (HTAG.out w2).mono ?_
   rintro e w3 ⟨rfl,hb⟩
   have HB2:=Lib.hid (HB1.out.trans (hb.mono (by have h9:=HB1.out.size; omega)))
   have HX2:Hid (Boxed w3 A (cellsM m a c)):=HX1.out.below hb
   have HS2:=Lib.hid (Strs.below HS1.out hb)
   clear hb
   generalize (m.tag.isEmpty || plainL m.tag)=tg at *
   cases tg with
   | false =>
     have hF:carriesL m=false:=by rw [HC.out]; simp
     have HF:=Lib.hid hF
     clear hF HC
     go_wp2_with fail
     go_ret
     exact ⟨ret_bool (by rw [HF.out]),hA ▸ HB2.out⟩
   | true =>
     have k9:w3.cell? ⟨A,9,none⟩=some (.slice a m.keys.length c):=HX2.out 9 _ rfl
     by_cases h5:m.keys.length≤3
     case neg =>
      have hF:carriesL m=false:=by rw [HC.out]; rw [decide_eq_false h5]; simp
      have HF:=Lib.hid hF
      clear hF HC
      go_wp2_with fail
      go_ret
      exact ⟨ret_bool (by rw [HF.out]),hA ▸ HB2.out⟩
     go_wp2_with fail
     refine (HALL.out w3 HS2.out).mono ?_
     rintro e w4 ⟨rfl,hb⟩
     have HB3:=Lib.hid (HB2.out.trans (hb.mono (by have h9:=HB2.out.size; omega)))
     have HX3:Hid (Boxed w4 A (cellsM m a c)):=HX2.out.below hb
     have HS3:=Lib.hid (Strs.below HS2.out hb)
     clear hb
     generalize m.keys.all keyL=ak at *
     cases ak with
     | false =>
       have hF:carriesL m=false:=by rw [HC.out]; simp
       have HF:=Lib.hid hF
       clear hF HC
       go_wp2_with fail
       go_ret
       exact ⟨ret_bool (by rw [HF.out]),hA ▸ HB3.out⟩
     | true =>
       have k9b:w4.cell? ⟨A,9,none⟩=some (.slice a m.keys.length c):=HX3.out 9 _ rfl
       go_wp2_with fail
       refine (HUNL.out w4 HS3.out).mono ?_
       rintro e w5 ⟨rfl,hb⟩
       have HB4:=Lib.hid (HB3.out.trans (hb.mono (by have h9:=HB3.out.size; omega)))
       have HX4:Hid (Boxed w5 A (cellsM m a c)):=HX3.out.below hb
       have HS4:=Lib.hid (Strs.below HS3.out hb)
       clear hb
       generalize decide m.keys.Nodup=nd at *
       cases nd with
       | false =>
         have hF:carriesL m=false:=by rw [HC.out]; simp
         have HF:=Lib.hid hF
         clear hF HC
         go_wp2_with fail
         go_ret
         exact ⟨ret_bool (by rw [HF.out]),hA ▸ HB4.out⟩
       | true =>
         have k8:w5.cell? ⟨A,8,none⟩=some (.string (S m.body)):=HX4.out 8 _ rfl
         have hF:carriesL m=decide (m.body.length≤200):=by rw [HC.out,decide_eq_true h1,decide_eq_true h2,decide_eq_true h3,decide_eq_true h4,decide_eq_true h5]; simp
         have HF:=Lib.hid hF
         clear hF HC
         by_cases h6:m.body.length≤200
         case pos =>
          go_wp2_with fail
          go_ret
          exact ⟨ret_bool (by rw [HF.out]; simp; first | exact h6 | omega),hA ▸ HB4.out⟩
         case neg =>
          go_wp2_with fail
          go_ret
          exact ⟨ret_bool (by rw [HF.out]; simp; first | exact h6 | omega),hA ▸ HB4.out⟩
theorem map_S_inj {a b:List (List UInt8)}:a.map S=b.map S↔a=b:=by
 constructor
 ·
  intro h
  have:=congrArg (List.map fun x:ByteArray=>x.data.toList) h
  rw [List.map_map,List.map_map] at this
  have e:((fun x:ByteArray=>x.data.toList) ∘ S)=id:=by funext x; exact S_list x
  rwa [e,List.map_id,List.map_id] at this
 · rintro rfl; rfl
theorem equal_any (a b:Option Addr) (c d:Nat) (xs ys:List (List UInt8)) (hx:xs.length≤1048576) (hy:ys.length≤1048576) (w:World) (h:Strs w a (xs.map S)) (h2:Strs w b (ys.map S)) :
 Calls Tryz.prog 210 #[.slice a xs.length c,.slice b ys.length d] w fun e w'=>e=.returned (.bool (decide (xs=ys)))∧Drawn w w':=by
 by_cases hl:xs.length=ys.length
 ·
  rcases Nat.eq_zero_or_pos xs.length with h0 | h0
  ·
   have e1:xs=[]:=List.eq_nil_of_length_eq_zero h0
   have e2:ys=[]:=List.eq_nil_of_length_eq_zero (hl.symm.trans h0)
   subst e1 e2
   refine (Tryz.slices_Equal_string_empty a b c 0 d w (by omega)).mono ?_
   rintro e w' ⟨rfl,rfl⟩
   exact ⟨rfl,Drawn.refl _⟩
  ·
   obtain ⟨b1,o1,rfl,_⟩:=h 0 (by rw [List.length_map]; omega)
   obtain ⟨b2,o2,rfl,_⟩:=h2 0 (by rw [List.length_map]; omega)
   have hc:∀ {b o:Nat} {zs:List (List UInt8)},Strs w (some ⟨b,o,none⟩) (zs.map S)→∀ j,j < (zs.map S).length→w.cell? ⟨b,o+j,none⟩=some (.string ((zs.map S).getD j ByteArray.empty)):=by
    intro b o zs hh j hj
    obtain ⟨b',o',e,hcell⟩:=hh j hj
    cases e
    rw [hcell]
    simp [List.getD_eq_getElem?_getD,List.getElem?_eq_getElem hj]
   have:=Tryz.slices_Equal_string b1 o1 xs.length c b2 o2 ys.length d (xs.map S) (ys.map S) w (by simp) (by simp) (by omega) (by omega) (hc h) (hc h2)
   refine this.mono ?_
   rintro e w' ⟨rfl,q,rfl⟩
   refine ⟨?_,⟨q,rfl⟩⟩
   rw [List.take_of_length_le (by simp),List.take_of_length_le (by simp)]
   congr 2
   exact decide_eq_decide.2 map_S_inj
 · refine (Tryz.slices_Equal_string_lens a b xs.length c ys.length d w hl).mono ?_
   rintro e w' ⟨rfl,rfl⟩
   exact ⟨ret_bool (decide_eq_false (fun e=>hl (by rw [e]))).symm,Drawn.refl _⟩
theorem same_any (x y:Msg) (hx:MsgOk x) (hy:MsgOk y) (a b:Option Addr) (c d:Nat) (W:World) (hS:Strs W a (x.keys.map S)) (hS2:Strs W b (y.keys.map S)) :
 Calls Tryz.prog 163 #[.agg (cellsM x a c),.agg (cellsM y b d)] W fun e w'=>e=.returned (.bool (decide (x=y)))∧Below W.heap.size W w':=by
 have HB0:Hid (Below W.heap.size W ((W.alloc (.cells (cellsM x a c) 53)).alloc (.cells (cellsM y b d) 53))):=((Below.refl _ W).alloc (Nat.le_refl _) _).alloc (by simp) _
 have HX:Hid (Boxed ((W.alloc (.cells (cellsM x a c) 53)).alloc (.cells (cellsM y b d) 53)) W.heap.size (cellsM x a c)):=(Boxed.new W _ _).below ((Below.refl _ _).alloc (Nat.le_refl _) _)
 have HY:Hid (Boxed ((W.alloc (.cells (cellsM x a c) 53)).alloc (.cells (cellsM y b d) 53)) (W.heap.size+1) (cellsM y b d)):=by
  have:=Boxed.new (W.alloc (.cells (cellsM x a c) 53)) (cellsM y b d) 53
  rw [World.size_alloc] at this; exact this
 have HEQ:=Lib.hid (equal_any a b c d x.keys y.keys hx.keys hy.keys _ (Strs.below hS HB0.out) (Strs.below hS2 HB0.out))
 have htl:=S_toList
 have hcu:(cellsM x a c).size=10:=rfl
 have hcv:(cellsM y b d).size=10:=rfl
 clear hx hy hS hS2
 go_enter Tryz.func163,Tryz.ntmps163
 go_upto_region 1 with fail
 generalize (W.alloc (.cells (cellsM x a c) 53)).alloc (.cells (cellsM y b d) 53)=w1 at *
 clear hcu hcv
 obtain ⟨B,hB⟩:∃ B,W.heap.size+1=B:=⟨_,rfl⟩
 rw [hB] at HY ⊢
 obtain ⟨A,hA⟩:∃ A,W.heap.size=A:=⟨_,rfl⟩
 rw [hA] at HX ⊢ HB0
 have k0:w1.cell? ⟨A,0,none⟩=some (.int .i64 x.kind):=HX.out 0 _ rfl
 have l0:w1.cell? ⟨B,0,none⟩=some (.int .i64 y.kind):=HY.out 0 _ rfl
 have k1:w1.cell? ⟨A,1,none⟩=some (.int .i64 x.queue):=HX.out 1 _ rfl
 have l1:w1.cell? ⟨B,1,none⟩=some (.int .i64 y.queue):=HY.out 1 _ rfl
 have k2:w1.cell? ⟨A,2,none⟩=some (.int .i64 x.due):=HX.out 2 _ rfl
 have l2:w1.cell? ⟨B,2,none⟩=some (.int .i64 y.due):=HY.out 2 _ rfl
 have k3:w1.cell? ⟨A,3,none⟩=some (.int .i64 x.retry):=HX.out 3 _ rfl
 have l3:w1.cell? ⟨B,3,none⟩=some (.int .i64 y.retry):=HY.out 3 _ rfl
 have k4:w1.cell? ⟨A,4,none⟩=some (.int .i64 x.ref):=HX.out 4 _ rfl
 have l4:w1.cell? ⟨B,4,none⟩=some (.int .i64 y.ref):=HY.out 4 _ rfl
 have k5:w1.cell? ⟨A,5,none⟩=some (.int .i64 x.born):=HX.out 5 _ rfl
 have l5:w1.cell? ⟨B,5,none⟩=some (.int .i64 y.born):=HY.out 5 _ rfl
 have k6:w1.cell? ⟨A,6,none⟩=some (.string (S x.topic)):=HX.out 6 _ rfl
 have l6:w1.cell? ⟨B,6,none⟩=some (.string (S y.topic)):=HY.out 6 _ rfl
 have k7:w1.cell? ⟨A,7,none⟩=some (.string (S x.tag)):=HX.out 7 _ rfl
 have l7:w1.cell? ⟨B,7,none⟩=some (.string (S y.tag)):=HY.out 7 _ rfl
 have k8:w1.cell? ⟨A,8,none⟩=some (.string (S x.body)):=HX.out 8 _ rfl
 have l8:w1.cell? ⟨B,8,none⟩=some (.string (S y.body)):=HY.out 8 _ rfl
 have k9:w1.cell? ⟨A,9,none⟩=some (.slice a x.keys.length c):=HX.out 9 _ rfl
 have l9:w1.cell? ⟨B,9,none⟩=some (.slice b y.keys.length d):=HY.out 9 _ rfl
 by_cases h0:x.kind=y.kind
 case neg =>
  have HF:Hid (decide (x=y)=false):=decide_eq_false (fun e=>h0 (by rw [e]))
  go_wp2_with fail
  go_ret
  exact ⟨ret_bool HF.out.symm,hA ▸ HB0.out⟩
 by_cases h1:x.queue=y.queue
 case neg =>
  have HF:Hid (decide (x=y)=false):=decide_eq_false (fun e=>h1 (by rw [e]))
  go_wp2_with fail
  go_ret
  exact ⟨ret_bool HF.out.symm,hA ▸ HB0.out⟩
 by_cases h2:x.due=y.due
 case neg =>
  have HF:Hid (decide (x=y)=false):=decide_eq_false (fun e=>h2 (by rw [e]))
  go_wp2_with fail
  go_ret
  exact ⟨ret_bool HF.out.symm,hA ▸ HB0.out⟩
 by_cases h3:x.retry=y.retry
 case neg =>
  have HF:Hid (decide (x=y)=false):=decide_eq_false (fun e=>h3 (by rw [e]))
  go_wp2_with fail
  go_ret
  exact ⟨ret_bool HF.out.symm,hA ▸ HB0.out⟩
 by_cases h4:x.ref=y.ref
 case neg =>
  have HF:Hid (decide (x=y)=false):=decide_eq_false (fun e=>h4 (by rw [e]))
  go_wp2_with fail
  go_ret
  exact ⟨ret_bool HF.out.symm,hA ▸ HB0.out⟩
 by_cases h5:x.born=y.born
 case neg =>
  have HF:Hid (decide (x=y)=false):=decide_eq_false (fun e=>h5 (by rw [e]))
  go_wp2_with fail
  go_ret
  exact ⟨ret_bool HF.out.symm,hA ▸ HB0.out⟩
 by_cases h6:x.topic=y.topic
 case neg =>
  have HF:Hid (decide (x=y)=false):=decide_eq_false (fun e=>h6 (by rw [e]))
  go_wp2_with fail
  go_ret
  exact ⟨ret_bool HF.out.symm,hA ▸ HB0.out⟩
 by_cases h7:x.tag=y.tag
 case neg =>
  have HF:Hid (decide (x=y)=false):=decide_eq_false (fun e=>h7 (by rw [e]))
  go_wp2_with fail
  go_ret
  exact ⟨ret_bool HF.out.symm,hA ▸ HB0.out⟩
 by_cases h8:x.body=y.body
 case neg =>
  have HF:Hid (decide (x=y)=false):=decide_eq_false (fun e=>h8 (by rw [e]))
  go_wp2_with fail
  go_ret
  exact ⟨ret_bool HF.out.symm,hA ▸ HB0.out⟩
 have HF:Hid (decide (x=y)=decide (x.keys=y.keys)):=decide_eq_decide.2 ⟨fun e=>by rw [e],fun e=>by
  cases x; cases y; simp only at *; subst h0 h1 h2 h3 h4 h5 h6 h7 h8 e; rfl⟩
 generalize decide (x.keys=y.keys)=ke at *
 go_wp2_with fail
 refine HEQ.out.mono ?_
 rintro e w2 ⟨rfl,hd⟩
 have HD:=Lib.hid hd
 clear hd HEQ
 go_wp2_with fail
 go_ret
 exact ⟨ret_bool HF.out.symm,hA ▸ (HB0.out.trans (HD.out.below A))⟩
end Go.Proofs.YtnoehodmmkioaaaGreatDoor.RecW
