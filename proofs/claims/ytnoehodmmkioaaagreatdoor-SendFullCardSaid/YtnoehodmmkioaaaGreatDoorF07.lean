/- tape: Open, of a disk whose tape holds records. And what follows. -/
import Derived.Test.YtnoehodmmkioaaaGreatDoorF06
import Derived.Test.YtnoehodmmkioaaaGreatDoorF04
import Derived.Test.YtnoehodmmkioaaaGreatDoorF00
import Derived.Test.YtnoehodmmkioaaaGreatDoorProg
import Derived.Test.YtnoehodmmkioaaaGreatDoorF05
import Derived.Test.YtnoehodmmkioaaaGreatDoorF01
import Derived.Test.YtnoehodmmkioaaaGreatDoorF02
import Derived.Test.YtnoehodmmkioaaaGreatDoorF03
import Derived.Maps.AppendAt
set_option maxHeartbeats 25600000
set_option maxRecDepth 100000
set_option linter.unusedVariables false
set_option linter.unusedSimpArgs false
namespace Go.Proofs.YtnoehodmmkioaaaGreatDoor.TapeW
open Go.RowKit Go.MapKept OctMath RecMath RecW TapeMath DskW SegW MapG
structure Opened (base:Nat) (w w':World) (D:DiskD) (its:List TapeMath.Item) (b:Nat) (T:TapeD):Prop where
 tape:TapeAt base w' T
 its:T.its=its
 b:T.R.b=b
 syn:T.R.synced=T.R.e
 waits:T.D.waits=[]
 quiet:Quiet T.D
 dblk:T.D.blk=D.blk
 dfoot:∀ k,T.D.foot k↔D.foot k
 find:∀ n,(T.D.find n).isSome=(D.find n).isSome
 room:T.D.room=D.room
 fresh:∀ k,T.O.foot k∨T.R.foot k→w.heap.size≤k
 mod:Mod D.foot w w'
 kept:∀ n f,D.find n=some f→∃ f',T.D.find n=some f'∧f'.now=f.now
theorem tape_name:S tapeH=⟨#[116,97,112,101,45]⟩:=rfl
theorem syncD_room (R:SegD) (D:DiskD) (wv:Value):(R.syncD D wv).room=D.room:=by
 unfold SegD.syncD
 split
 · rfl
 ·
  have:(D.lasts R.syncL wv).size=D.size:=by
   unfold DiskD.size DiskD.lasts sizeL
   simp only [List.map_map]
   congr 1
   refine List.map_congr_left fun p _=>?_
   simp only [Function.comp]
   split <;> rfl
  unfold DiskD.room
  rw [this]; rfl
theorem topen_any {base:Nat} {D:DiskD} {R:SegD} {its:List TapeMath.Item} (w:World) (hL:LaidOn D R) (hD:DiskAt base w D) (hq:Quiet D) (hfl:D.files.length≤1048576) (hnl:∀ p∈D.files,p.1.length≤1073741824) (hbase:base≤w.heap.size) (hT:TabB base w)
 (hh:R.head=tapeH) (hs:R.size=1024) (ht:R.txt=bytesL its) (hf:Fits R.b its) (hil:its.length≤1000000) (hwt:D.waits=[]) :
 Calls Tryz.prog 61 #[.pointer (some ⟨D.blk,0,none⟩)] w fun e w'=>∃ T,e=.returned (.tuple #[.pointer (some ⟨T.O.blk,0,none⟩),.int .i64 0])∧Opened base w w' D its R.b T:=by
 have HOP:=Lib.hid (open_any w hL hD hq hfl hnl hbase)
 have hs1:((R.size:Nat):Int)=1024:=by rw [hs]; rfl
 rw [hh,tape_name,hs1] at HOP
 have HD:=Lib.hid hD
 have HQ:=Lib.hid hq
 have HH:=Lib.hid hh
 have HS:=Lib.hid hs
 have HTX:=Lib.hid ht
 have HF:=Lib.hid hf
 have HWT:=Lib.hid hwt
 have HTB:=Lib.hid hT
 have HLG:=Lib.hid hL
 have hmk:∀ w:World,(Instr.makeMap 82 none).run Tryz.prog w=.ok (.map (some w.heap.size)) (w.alloc (.map #[] 0)):=fun _=>rfl
 clear hL hD hq hfl hnl hT hh hs hs1 ht hf hwt
 go_enter Tryz.func61,Tryz.ntmps61
 go_wp2_with fail
 refine HOP.out.mono ?_
 rintro e w1 ⟨rb,pv,rfl,hW,hb,hfr⟩
 have HW1:=Lib.hid hW
 have HB1:=Lib.hid hb
 have HFR:=Lib.hid hfr
 clear hW hb hfr HOP
 go_wp2_with fail
 refine (CrcW.new_any w1).mono ?_
 rintro e w2 ⟨B,rfl,hl⟩
 have HLD:=Lib.hid hl
 clear hl
 go_upto_region 5 with fail
 obtain ⟨O0,hO0⟩:∃ O:OwnD,O=⟨w2.heap.size+1,rb,B,.slice none 0 0,w2.heap.size,0,[]⟩:=⟨_,rfl⟩
 have hb2:Below w.heap.size w w2:=HB1.out.trans (HLD.out.below.mono HB1.out.size)
 have hb23:Below w2.heap.size w2 ((w2.alloc (Obj.map #[] 0)).alloc (.cells #[.pointer (some ⟨rb,0,none⟩),.pointer (some ⟨B,0,none⟩),.slice none 0 0,.map (some w2.heap.size),.int .i64 0] 84)):=((Below.refl _ _).alloc (Nat.le_refl _) _).alloc (by rw [World.size_alloc]; omega) _
 have hz3:((w2.alloc (Obj.map #[] 0)).alloc (.cells #[.pointer (some ⟨rb,0,none⟩),.pointer (some ⟨B,0,none⟩),.slice none 0 0,.map (some w2.heap.size),.int .i64 0] 84)).heap[w2.heap.size+1]?=some (.cells #[.pointer (some ⟨rb,0,none⟩),.pointer (some ⟨B,0,none⟩),.slice none 0 0,.map (some w2.heap.size),.int .i64 0] 84 (0,0)):=by
  have:=heap_alloc_new (w2.alloc (Obj.map #[] 0)) (.cells #[.pointer (some ⟨rb,0,none⟩),.pointer (some ⟨B,0,none⟩),.slice none 0 0,.map (some w2.heap.size),.int .i64 0] 84)
  rw [World.size_alloc] at this; exact this
 have hp3:PairsAt ((w2.alloc (Obj.map #[] 0)).alloc (.cells #[.pointer (some ⟨rb,0,none⟩),.pointer (some ⟨B,0,none⟩),.slice none 0 0,.map (some w2.heap.size),.int .i64 0] 84)) w2.heap.size []:=(PairsAt.new w2).below ((Below.refl _ _).alloc (Nat.le_refl _) _)
 generalize (w2.alloc (Obj.map #[] 0)).alloc (.cells #[.pointer (some ⟨rb,0,none⟩),.pointer (some ⟨B,0,none⟩),.slice none 0 0,.map (some w2.heap.size),.int .i64 0] 84)=w3 at *
 have hb3:Below w.heap.size w w3:=hb2.trans (hb23.mono hb2.size)
 have hW3:Whole base w3 D (R.openR rb pv):=(HW1.out.below (HLD.out.below)).below hb23
 have hBB:=HLD.out.size
 have hBO:=HLD.out.old
 have hs1:=HB1.out.size
 have hs12:=HLD.out.below.size
 have hs23:=hb23.size
 have hO:OwnAt base w3 O0:=by
  rw [hO0]
  refine ⟨hz3,⟨rfl,.inl ⟨rfl,rfl⟩⟩,hp3,?_,⟨by show B < w3.heap.size; omega,by show base≤B; omega,by show base≤w2.heap.size+1; omega,by show base≤w2.heap.size; omega⟩,by show w2.heap.size+1≠B; omega,by show w2.heap.size+1≠w2.heap.size; omega,by show B≠w2.heap.size; omega,fun k hk=>by cases hk⟩
  exact RecW.tabs_below HLD.out.tabs hBB hb23
 have hof:∀ k,O0.foot k→w1.heap.size≤k:=fun k hk=>by
  rw [hO0] at hk
  rcases hk with hk | hk | hk | hk
  · have:k=w2.heap.size+1:=hk
    omega
  · have:k=B:=hk
    omega
  · have:k=w2.heap.size:=hk
    omega
  · cases hk
 have haw:∀ k,O0.foot k→¬ D.foot k∧¬ (R.openR rb pv).foot k:=fun k hk=>by
  have h1:=hof k hk
  exact ⟨fun h=>by have:=HW1.out.dsk.lt h; omega,fun h=>by have:=HW1.out.seg.lt h; omega⟩
 have HSC:=Lib.hid (scan_any (R:=R.openR rb pv) w3 hO (by rw [hO0]; rfl) (by rw [hO0]) hW3 haw HS.out HTX.out HF.out HQ.out.up (HTB.out.below hb3) (by omega) hil)
 have hpt:O0.blk=w2.heap.size+1:=by rw [hO0]
 have hre:(R.openR rb pv).e=R.e:=rfl
 rw [hpt,hre] at HSC
 have HPT:=Lib.hid hpt
 have HAW:=Lib.hid haw
 have HOF:=Lib.hid hof
 have HB3:=Lib.hid hb3
 have HS13:Hid (w1.heap.size≤w3.heap.size):=by show _≤_; omega
 have HRB:Hid (O0.rb=rb):=by show _=_; rw [hO0]
 clear hO0 hb2 hb23 hz3 hp3 hb3 hW3 hBB hBO hs12 hs23 hO hof haw hpt
 go_wp2_with fail
 refine HSC.out.mono ?_
 rintro e w4 ⟨rfl,hsc⟩
 have HSN:=Lib.hid hsc
 have HEN:=Lib.hid (SegW.end_any w4 hsc.whole.seg)
 have hT4:TabB base w4:=(HTB.out.below HB3.out).mod hsc.mod (fun k hk=>by have:=HOF.out k hk; omega)
 have HSY:=Lib.hid (SegW.sync_any w4 hT4 hsc.whole HQ.out (by have:=HB3.out.size; have:=hsc.mod.size; omega) (by rw [HWT.out]; exact Nat.zero_le _) (by
  show R.n≤_
  rcases Nat.eq_zero_or_pos R.n with h0 | hp
  · omega
  · have h1:=(HLG.out.long hp).2.2
    have h2:=HS.out
    rw [h2] at h1
    omega))
 rw [hre] at HEN
 have hbk:(R.openR rb pv).blk=rb:=rfl
 rw [hbk] at HEN HSY
 clear hsc HSC hT4 hbk hre
 go_wp2_with fail
 refine HEN.out.mono ?_
 rintro e w5 ⟨rfl,rfl⟩
 go_wp2_with fail
 refine HSY.out.mono ?_
 rintro e w6 ⟨rfl,wv,hwv,hW6,hm6⟩
 have HW6:=Lib.hid hW6
 have HM6:=Lib.hid hm6
 have HWV:=Lib.hid hwv
 clear hW6 hm6 hwv HSY HEN
 go_wp2_with fail
 go_ret2
 obtain ⟨O,o1,o2,o3,o4,o5,o6,o7,o8⟩:=HSN.out.ex
 rw [List.take_length] at o6
 have hof:∀ k,O.foot k→w1.heap.size≤k:=fun k hk=>by
  rcases o8 k hk with h | h
  · exact HOF.out k h
  · have:=HS13.out; omega
 have hft:∀ k,((R.openR rb pv).syncD D wv).foot k↔D.foot k:=fun k=>by
  unfold SegD.syncD
  split
  · exact Iff.rfl
  · exact lasts_foot HWV.out k
 have haw:∀ k,O.foot k→¬ D.foot k∧¬ (R.openR rb pv).foot k:=fun k hk=>by
  have h1:=hof k hk
  exact ⟨fun h=>by have:=HW1.out.dsk.lt h; omega,fun h=>by have:=HW1.out.seg.lt h; omega⟩
 have hwn:((R.openR rb pv).syncD D wv).waits=[]:=Waiting.sync (Waiting.none HWT.out) HSN.out.whole.seg HSN.out.whole.dsk wv
 have hqq:Quiet ((R.openR rb pv).syncD D wv):=by
  unfold SegD.syncD
  split
  · exact HQ.out
  · exact ⟨HQ.out.left,HQ.out.up⟩
 have hm3:Mod D.foot w w5:=mod_over (Mod.of_below HB3.out) HSN.out.mod (fun k hk=>.inr (by have:=HOF.out k hk; omega))
 refine ⟨⟨O,(R.openR rb pv).syncD D wv,{ R.openR rb pv with synced:=(R.openR rb pv).e },its⟩,by show _=Ending.returned (.tuple #[.pointer (some ⟨O.blk,0,none⟩),.int .i64 0]); rw [o2,HPT.out]; rfl,
  ⟨⟨o1.mod HM6.out (fun k hk hk2=>?_),o3.trans HRB.out,o6,fun k hk=>⟨fun h=>(haw k hk).1 ((hft k).1 h),(haw k hk).2⟩,HW6.out,HH.out,HS.out,HTX.out,HF.out,o7,Waiting.none hwn⟩,rfl,rfl,rfl,hwn,hqq,?_,hft,fun n=>?_,syncD_room _ _ _,fun k hk=>?_,?_,fun n f hf=>?_⟩⟩
 · rcases hk2 with h | h
   · exact (haw k hk).1 h
   · exact (haw k hk).2 h
 · show ((R.openR rb pv).syncD D wv).blk=D.blk
   unfold SegD.syncD; split <;> rfl
 · obtain ⟨g,h1,_⟩:=syncD_find (R.openR rb pv) D wv n
   show (((R.openR rb pv).syncD D wv).find n).isSome=_
   rw [h1]; cases D.find n <;> rfl
 · rcases hk with h | h
   · have:=hof k h; omega
   · exact HFR.out k h
 · exact mod_over hm3 HM6.out (fun k hk=>hk.elim .inl (fun h=>.inr (HFR.out k h)))
 · obtain ⟨g,h1,h2⟩:=syncD_find (R.openR rb pv) D wv n
   exact ⟨g f,by show ((R.openR rb pv).syncD D wv).find n=_; rw [h1,hf]; rfl,(h2 f).2⟩
end Go.Proofs.YtnoehodmmkioaaaGreatDoor.TapeW
namespace Go.Proofs.YtnoehodmmkioaaaGreatDoor.PendW
open Go.RowKit Go.MapKept OctMath RecMath MapG
structure PendD where
 blk:Nat
 mB:Nat
 all:List (Int×Int×Int)
def oneV (v:Int×Int):Value:=.agg #[.int .i64 v.1,.int .i64 v.2]
def oneP (p:Int×Int×Int):Value×Value:=(.int .i64 p.1,oneV p.2)
structure PendAt (base:Nat) (w:World) (P:PendD):Prop where
 cells:w.heap[P.blk]?=some (.cells #[.map (some P.mB)] 131 (0,0))
 map:PairsAt w P.mB (P.all.map oneP)
 low:base≤P.blk∧base≤P.mB
 ne:P.blk≠P.mB
def PendD.foot (P:PendD) (k:Nat):Prop:=k=P.blk∨k=P.mB
theorem PendAt.lt {base:Nat} {w:World} {P:PendD} (h:PendAt base w P) {k:Nat} (hk:P.foot k):k < w.heap.size:=by
 rcases hk with hk | hk
 · rw [hk]; exact (Array.getElem?_eq_some_iff.1 h.cells).1
 · rw [hk]; exact h.map.lt
theorem PendAt.mod {base:Nat} {w w':World} {P:PendD} {M:Nat→Prop} (h:PendAt base w P) (hm:Mod M w w') (hM:∀ k,P.foot k→¬ M k):PendAt base w' P :=
 ⟨(hm.block _ (h.lt (.inl rfl)) (hM _ (.inl rfl))).trans h.cells,h.map.mod hm (hM _ (.inr rfl)),h.low,h.ne⟩
theorem PendAt.below {base:Nat} {w w':World} {P:PendD} (h:PendAt base w P) (hb:Below w.heap.size w w'):PendAt base w' P :=
 h.mod (M:=fun _=>False) (Mod.of_below hb) (fun _ _ h=>h)
theorem PendAt.cell {base:Nat} {w:World} {P:PendD} (h:PendAt base w P):w.cell? ⟨P.blk,0,none⟩=some (.map (some P.mB)):=by
 unfold World.cell?; rw [show w.heap[(⟨P.blk,0,none⟩:Addr).block]?=_ from h.cells]; rfl
/-! what is kept of a number -/
def getP (all:List (Int×Int×Int)) (id:Int):Int×Int:=((all.find? fun p=>decide (p.1=id)).map (·.2)).getD (0,0)
def setP (all:List (Int×Int×Int)) (id:Int) (v:Int×Int):List (Int×Int×Int) :=
 if all.any (fun p=>decide (p.1=id)) then all.map (fun p=>if p.1=id then (id,v) else p) else all++[(id,v)]
theorem keyedI:Keyed Tryz.prog 3 (IsKey (.int .i64)):=Keyed.of_isKey Tryz.underlying3
theorem keysP (all:List (Int×Int×Int)):∀ p∈all.map oneP,IsKey (.int .i64) p.1:=fun p hp=>by
 obtain ⟨q,_,rfl⟩:=List.mem_map.1 hp; rfl
theorem zero_one (w:World):(zeroValue 199).run Tryz.prog w=.ok (oneV (0,0)) w:=by kernel_rfl
theorem find_split {all:List (Int×Int×Int)} {id:Int} {q:Int×Int×Int} (h:all.find? (fun p=>decide (p.1=id))=some q):∃ a b,all=a++q :: b∧q.1=id∧∀ p∈a,p.1≠id:=by
 obtain ⟨h1,a,b,h2,h3⟩:=List.find?_eq_some_iff_append.1 h
 exact ⟨a,b,h2,by simpa using h1,fun p hp=>by simpa using h3 p hp⟩
theorem find_no {all:List (Int×Int×Int)} {id:Int} (h:all.find? (fun p=>decide (p.1=id))=none):∀ p∈all,p.1≠id:=fun p hp=>by
 have:=List.find?_eq_none.1 h p hp
 simpa using this
theorem lookupP {base:Nat} {w:World} {P:PendD} (h:PendAt base w P) (id:Int) :
 (Instr.lookup 129 (.map (some P.mB)) (.int .i64 id) false).run Tryz.prog w=.ok (oneV (getP P.all id)) w:=by
 have hm:=Tryz.underlying129
 unfold getP
 cases hf:P.all.find? (fun p=>decide (p.1=id)) with
 | none =>
   have hn:=find_no hf
   have:=lookup_not hm keyedI h.map (keysP _) (k:=.int .i64 id) rfl (fun p hp=>by
    obtain ⟨q,hq,rfl⟩:=List.mem_map.1 hp
    intro e
    exact hn q hq (by unfold oneP at e; simpa using e)) zero_one false
   exact this
 | some q =>
   obtain ⟨a,b,h1,h2,h3⟩:=find_split hf
   have:=lookup_has hm keyedI h.map (keysP _) (k:=.int .i64 id) (v:=oneV q.2) rfl (List.mem_map.2 ⟨q,by rw [h1]; simp,by unfold oneP; rw [h2]⟩) false
   exact this
theorem updateP {base:Nat} {w:World} {P:PendD} (h:PendAt base w P) (id:Int) (v:Int×Int) :
 ∃ w',(Instr.mapUpdate 129 (.map (some P.mB)) (.int .i64 id) (oneV v)).run Tryz.prog w=.ok () w'∧PendAt base w' { P with all:=setP P.all id v }∧Mod (fun k=>k=P.mB) w w':=by
 have hm:=Tryz.underlying129
 have hcell:∀ w',Mod (fun k=>k=P.mB) w w'→w'.heap[P.blk]?=some (.cells #[.map (some P.mB)] 131 (0,0)):=fun w' hmod=>(hmod.block _ (h.lt (.inl rfl)) h.ne).trans h.cells
 have hnd:=h.map.nodup
 unfold setP
 cases hf:P.all.find? (fun p=>decide (p.1=id)) with
 | none =>
   have hn:=find_no hf
   obtain ⟨w',h1,h2,h3⟩:=update_new hm keyedI h.map (keysP _) (k:=.int .i64 id) rfl (fun p hp=>by
    obtain ⟨q,hq,rfl⟩:=List.mem_map.1 hp
    intro e
    exact hn q hq (by unfold oneP at e; simpa using e)) (oneV v)
   have ha:P.all.any (fun p=>decide (p.1=id))=false:=by
    rw [List.any_eq_false]
    intro p hp; simpa using hn p hp
   refine ⟨w',h1,⟨hcell w' h3,?_,h.low,h.ne⟩,h3⟩
   rw [if_neg (by rw [ha]; decide),List.map_append]
   exact h2
 | some q =>
   obtain ⟨a,b,h1,h2,h3⟩:=find_split hf
   obtain ⟨w',k1,k2,k3⟩:=update_old hm keyedI h.map (keysP _) (k:=.int .i64 id) (v0:=oneV q.2) (l1:=a.map oneP) (l2:=b.map oneP) rfl (by rw [h1,List.map_append,List.map_cons]; unfold oneP; rw [h2]) (oneV v)
   have ha:P.all.any (fun p=>decide (p.1=id))=true:=by
    rw [List.any_eq_true]
    exact ⟨q,by rw [h1]; simp,by simpa using h2⟩
   refine ⟨w',k1,⟨hcell w' k3,?_,h.low,h.ne⟩,k3⟩
   rw [if_pos ha]
   have hb:∀ p∈b,p.1≠id:=by
    intro p hp e
    rw [h1,List.map_append,List.map_cons,List.map_append,List.map_cons] at hnd
    have:=(List.nodup_cons.1 (List.nodup_append.1 hnd).2.1).1
    exact this (List.mem_map.2 ⟨oneP p,List.mem_map.2 ⟨p,hp,rfl⟩,by unfold oneP; rw [h2,e]⟩)
   have e1:a.map (fun p=>if p.1=id then (id,v) else p)=a:=by
    conv=>rhs; rw [← List.map_id a]
    exact List.map_congr_left fun p hp=>if_neg (h3 p hp)
   have e2:b.map (fun p=>if p.1=id then (id,v) else p)=b:=by
    conv=>rhs; rw [← List.map_id b]
    exact List.map_congr_left fun p hp=>if_neg (hb p hp)
   rw [h1,List.map_append,List.map_cons,e1,e2,if_pos h2,List.map_append,List.map_cons]
   exact k2
theorem field_one (a b:Value) (w:World):(Instr.field 199 (.agg #[a,b]) 0).run Tryz.prog w=.ok a w:=by kernel_rfl
theorem new_any (base:Nat) (w:World) (hb:base≤w.heap.size) :
 Calls Tryz.prog 33 #[] w fun e w'=>∃ P,e=.returned (.pointer (some ⟨P.blk,0,none⟩))∧PendAt base w' P∧P.all=[]∧Below w.heap.size w w'∧w.heap.size≤P.blk∧w.heap.size≤P.mB:=by
 have HP:Hid (PendAt base ((w.alloc (.map #[] 0)).alloc (.cells #[.map (some w.heap.size)] 131)) ⟨w.heap.size+1,w.heap.size,[]⟩):=by
  refine ⟨?_,?_,⟨by show base≤w.heap.size+1; omega,hb⟩,by show w.heap.size+1≠w.heap.size; omega⟩
  · have:=heap_alloc_new (w.alloc (.map #[] 0)) (.cells #[.map (some w.heap.size)] 131)
    rw [World.size_alloc] at this; exact this
  · exact (PairsAt.new w).below ((Below.refl _ _).alloc (Nat.le_refl _) _)
 have HB:Hid (Below w.heap.size w ((w.alloc (.map #[] 0)).alloc (.cells #[.map (some w.heap.size)] 131))):=((Below.refl _ _).alloc (Nat.le_refl _) _).alloc (by rw [World.size_alloc]; omega) _
 have hmk:∀ w:World,(Instr.makeMap 129 none).run Tryz.prog w=.ok (.map (some w.heap.size)) (w.alloc (.map #[] 0)):=fun _=>rfl
 go_enter Tryz.func33,Tryz.ntmps33
 go_wp2_with fail
 go_ret
 exact ⟨⟨w.heap.size+1,w.heap.size,[]⟩,rfl,HP.out,rfl,HB.out,Nat.le_succ _,Nat.le_refl _⟩
theorem state_any {base:Nat} {P:PendD} (id:Int) (w:World) (h:PendAt base w P) :
 Calls Tryz.prog 171 #[.pointer (some ⟨P.blk,0,none⟩),.int .i64 id] w fun e w'=>e=.returned (.int .i64 (getP P.all id).1)∧w'=w:=by
 have c0:=h.cell
 have hl:=lookupP h id
 clear h
 unfold oneV at hl
 generalize getP P.all id=g at *
 have hfo:=field_one (.int .i64 g.1) (.int .i64 g.2)
 go_enter Tryz.func171,Tryz.ntmps171
 go_wp2_with fail
 go_ret
 exact ⟨rfl,rfl⟩
def endsP (all:List (Int×Int×Int)) (id s:Int):List (Int×Int×Int):=if (getP all id).1=1 then setP all id (s,0) else all
theorem ends_any {base:Nat} {P:PendD} (id s:Int) (w:World) (h:PendAt base w P) :
 Calls Tryz.prog 110 #[.pointer (some ⟨P.blk,0,none⟩),.int .i64 id,.int .i64 s] w fun e w'=>∃ v,e=.returned v∧PendAt base w' { P with all:=endsP P.all id s }∧Mod (fun k=>k=P.mB) w w':=by
 have c0:=h.cell
 have HS:=Lib.hid (state_any id w h)
 have HE:Hid (endsP P.all id s=if (getP P.all id).1=1 then setP P.all id (s,0) else P.all):=rfl
 obtain ⟨w1,hup,hp1,hm1⟩:=updateP h id (s,0)
 have HP1:=Lib.hid hp1
 have HM1:=Lib.hid hm1
 have HP:=Lib.hid h
 clear h hp1 hm1
 unfold oneV at hup
 generalize getP P.all id=g at *
 go_enter Tryz.func110,Tryz.ntmps110
 go_wp2_with fail
 refine HS.out.mono ?_
 rintro e w2 ⟨rfl,rfl⟩
 clear HS
 by_cases h1:g.1=1
 · go_wp2_with fail
   go_ret
   exact ⟨_,rfl,by rw [HE.out,if_pos h1]; exact HP1.out,HM1.out⟩
 · go_wp2_with fail
   go_ret
   exact ⟨_,rfl,by rw [HE.out,if_neg h1]; exact HP.out,Mod.refl _ _⟩
def noteP (all:List (Int×Int×Int)) (id:Int) (m:Msg):List (Int×Int×Int) :=
 if id < 0 then all else if m.kind=3 then endsP all m.ref 2 else if m.kind=4 then endsP all m.ref 3 else if m.kind=2∧getP all id=(0,0) then setP all id (1,m.due) else all
open RecW
theorem eql_one (a b:Int) (w:World):Sem.run Tryz.prog (binOp .eql 199 (oneV (a,b)) (oneV (0,0))) w=.ok (.bool (decide ((a,b)=((0,0):Int×Int)))) w   := by
 unfold oneV
 have hst:Tryz.prog.stoodInHeld 199=false:=by kernel_rfl
 have hp0:∀ a b:Value,(part 3 #[a,b] 0).run Tryz.prog w=.ok a w:=fun a b=>by kernel_rfl
 have hp1:∀ a b:Value,(part 3 #[a,b] 1).run Tryz.prog w=.ok b w:=fun a b=>by kernel_rfl
 have hq:∀ x y:Int,(Op.equalIn 9999 3 (.int .i64 x) (.int .i64 y)).run Tryz.prog w=.ok (x == y) w:=fun x y=>run_equalIn_int _ 9998 _ _ _ _ _ Tryz.underlying3
 have he:(Op.equalIn 10000 199 (.agg #[.int .i64 a,.int .i64 b]) (.agg #[.int .i64 0,.int .i64 0])).run Tryz.prog w=.ok (a == 0 && b == 0) w:=by
  show (Op.equalIn (9999+1) _ _ _).run _ _=_
  unfold Op.equalIn
  have hpr:∀ w,Sem.run Tryz.prog program w=.ok Tryz.prog w:=fun _=>rfl
  have hia:(isAgg 3).run Tryz.prog w=.ok false w:=by kernel_rfl
  simp [go_sem,run_underlying Tryz.underlying199,Result.andThen,hpr,hst,hia,hq]
  by_cases h1:a=0 <;> by_cases h2:b=0 <;> simp [h1,h2,hq]
 have hb:binOp .eql 199 (.agg #[.int .i64 a,.int .i64 b]) (.agg #[.int .i64 0,.int .i64 0])=(do pure (.bool (← Op.equal 199 (.agg #[.int .i64 a,.int .i64 b]) (.agg #[.int .i64 0,.int .i64 0])))):=rfl
 rw [hb]
 unfold Op.equal Op.maxDepth
 rw [Sem.run_bind,he]
 simp [Result.andThen]
 by_cases h1:a=0 <;> by_cases h2:b=0 <;> simp [h1,h2]
def ExtP (w w':World):Prop:=∃ n,w'=w.drewN n
theorem ExtP.refl (w:World):ExtP w w:=⟨0,rfl⟩
theorem ExtP.trans {u v w:World} (h:ExtP u v) (k:ExtP v w):ExtP u w:=by obtain ⟨m,rfl⟩:=h; obtain ⟨n,rfl⟩:=k; exact ⟨m+n,World.drewN_drewN ..⟩
theorem note_any {base:Nat} {P:PendD} (id:Int) (m:Msg) (a:Option Addr) (c:Nat) (W:World) (h:PendAt base W P) :
 Calls Tryz.prog 57 #[.pointer (some ⟨P.blk,0,none⟩),.int .i64 id,.agg (cellsM m a c)] W fun e w'=>∃ v,e=.returned v∧PendAt base w' { P with all:=noteP P.all id m }∧Mod (fun k=>k=P.mB) W w':=by
 have HB0:Hid (Below W.heap.size W (W.alloc (.cells (cellsM m a c) 53))):=(Below.refl _ W).alloc (Nat.le_refl _) _
 have HX:Hid (RecW.Boxed (W.alloc (.cells (cellsM m a c) 53)) W.heap.size (cellsM m a c)):=RecW.Boxed.new W _ _
 have HP0:=Lib.hid (h.below HB0.out)
 have HN:Hid (noteP P.all id m=if id < 0 then P.all else if m.kind=3 then endsP P.all m.ref 2 else if m.kind=4 then endsP P.all m.ref 3 else if m.kind=2∧getP P.all id=(0,0) then setP P.all id (1,m.due) else P.all):=rfl
 have hcu:(cellsM m a c).size=10:=rfl
 have HPB:Hid (P.mB < W.heap.size):=h.map.lt
 clear h
 go_enter Tryz.func57,Tryz.ntmps57
 go_upto_region 1 with fail
 generalize W.alloc (.cells (cellsM m a c) 53)=w1 at *
 clear hcu
 obtain ⟨A,hA⟩:∃ A,W.heap.size=A:=⟨_,rfl⟩
 rw [hA] at HX HB0 HPB
 have HM0:Hid (Mod (fun k=>k=P.mB) W w1):=Mod.of_below (hA ▸ HB0.out)
 have k0:w1.cell? ⟨A,0,none⟩=some (.int .i64 m.kind):=HX.out 0 _ rfl
 have k2:w1.cell? ⟨A,2,none⟩=some (.int .i64 m.due):=HX.out 2 _ rfl
 have k4:w1.cell? ⟨A,4,none⟩=some (.int .i64 m.ref):=HX.out 4 _ rfl
 have c0:=HP0.out.cell
 by_cases hn:id < 0
 · go_wp2_with fail
   go_ret
   exact ⟨_,rfl,by rw [HN.out,if_pos hn]; exact HP0.out,HM0.out⟩
 by_cases h3:m.kind=3
 ·
  have HE:=Lib.hid (ends_any m.ref 2 w1 HP0.out)
  rw [h3] at k0
  go_wp2_with fail
  refine HE.out.mono ?_
  rintro e w2 ⟨v,rfl,hp,hm⟩
  have HP2:=Lib.hid hp
  have HM2:=Lib.hid hm
  clear hp hm HE
  go_wp2_with fail
  go_ret
  exact ⟨_,rfl,by rw [HN.out,if_neg (Int.not_lt.2 hn),if_pos h3]; exact HP2.out,HM0.out.trans HM2.out⟩
 by_cases h4:m.kind=4
 ·
  have HE:=Lib.hid (ends_any m.ref 3 w1 HP0.out)
  rw [h4] at k0
  go_wp2_with fail
  refine HE.out.mono ?_
  rintro e w2 ⟨v,rfl,hp,hm⟩
  have HP2:=Lib.hid hp
  have HM2:=Lib.hid hm
  clear hp hm HE
  go_wp2_with fail
  go_ret
  exact ⟨_,rfl,by rw [HN.out,if_neg (Int.not_lt.2 hn),if_neg h3,if_pos h4]; exact HP2.out,HM0.out.trans HM2.out⟩
 by_cases h2:m.kind=2
 ·
  have hl:=lookupP HP0.out id
  have HEQ:=eql_one
  unfold oneV at hl HEQ
  rw [h2] at k0
  by_cases hg:getP P.all id=(0,0)
  ·
   have HG:=Lib.hid hg
   rw [hg] at hl
   simp only at hl
   clear hg
   go_wp2_with fail
   refine Grow.wp_region_g 8 [none,none,none,none,none,none,none,none] ExtP (by kernel_rfl) (by kernel_rfl) (by kernel_rfl) ExtP.refl (fun _ _ _=>ExtP.trans) ?_ ?_
   · intro K hK Y hY v w w' hR h
     simp only [List.mem_cons,List.not_mem_nil,or_false] at hK
     rcases hK with rfl | rfl | rfl | rfl | rfl | rfl | rfl | rfl <;> simp only [reduceCtorEq,Option.some.injEq,Sum.inr.injEq] at hY
   simp only [List.take_succ_cons,List.take_zero,List.drop_succ_cons,List.drop_zero]
   iterate 8 (
    refine Grow.g_det rfl ?_
    apply Exists.intro
    refine ⟨fun w hw hF=>?_,?_⟩
    · clear hF
      obtain ⟨nn,rfl⟩:=hw
      go_simp
      exact ⟨rfl,ExtP.refl _⟩
    go_frame)
   refine Grow.g_nil fun w3 hw3 hF=>?_
   clear hF
   obtain ⟨nn,rfl⟩:=hw3
   have hbd:Below w1.heap.size w1 (w1.drew.drewN nn):=(((Drawn.refl w1).drew).drewN nn).below _
   have hp3:=HP0.out.below hbd
   have HM3:=Lib.hid (HM0.out.trans (Mod.of_below hbd))
   obtain ⟨w2,hup,hp2,hm2⟩:=updateP hp3 id (1,m.due)
   have HP2:=Lib.hid hp2
   have HM2:=Lib.hid hm2
   unfold oneV at hup
   clear hp2 hm2 hbd hp3
   generalize w1.drew.drewN nn=wz at *
   go_wp2_with fail
   go_ret
   exact ⟨⟨_,rfl⟩,by rw [HN.out,if_neg (Int.not_lt.2 hn),if_neg h3,if_neg h4,if_pos ⟨h2,HG.out⟩]; exact HP2.out,HM3.out.trans HM2.out⟩
  ·
   have hng:¬ ((getP P.all id).1=0∧(getP P.all id).2=0):=fun h=>hg (Prod.ext h.1 h.2)
   have HNG:=Lib.hid hg
   clear hg
   generalize getP P.all id=g at *
   go_wp2_with fail
   go_ret
   exact ⟨⟨_,rfl⟩,by rw [HN.out,if_neg (Int.not_lt.2 hn),if_neg h3,if_neg h4,if_neg (fun h=>HNG.out h.2)]; exact HP0.out,HM0.out⟩
 · go_wp2_with fail
   go_ret
   exact ⟨⟨_,rfl⟩,by rw [HN.out,if_neg (Int.not_lt.2 hn),if_neg h3,if_neg h4,if_neg (fun h=>h2 h.1)]; exact HP0.out,HM0.out⟩
end Go.Proofs.YtnoehodmmkioaaaGreatDoor.PendW
namespace Go.Proofs.YtnoehodmmkioaaaGreatDoor.StoW
open Go.RowKit Go.MapKept OctMath RecMath RecW TapeMath DskW SegW MapG TapeW PendW
theorem sizeL_map (l:List (List UInt8×FileD)) (f:List UInt8×FileD→List UInt8×FileD) (h:∀ p∈l,(f p).2.now=p.2.now):sizeL (l.map f)=sizeL l:=by
 unfold sizeL
 rw [List.map_map]
 congr 1
 exact List.map_congr_left fun p hp=>by simp [h p hp]
theorem syncD_room (R:SegD) (D:DiskD) (wv:Value):(R.syncD D wv).room=D.room:=by
 unfold SegD.syncD
 split
 · rfl
 ·
  unfold DiskD.room DiskD.size DiskD.lasts
  show D.cap - ((sizeL (D.files.map _):Nat):Int)=_
  rw [sizeL_map]
  intro p _
  dsimp only
  split <;> rfl
theorem syncD_files (R:SegD) (D:DiskD) (wv:Value):(R.syncD D wv).files=D.files∨∃ f:List UInt8×FileD→List UInt8×FileD,(∀ p,(f p).1=p.1)∧(R.syncD D wv).files=D.files.map f:=by
 unfold SegD.syncD
 split
 · exact .inl rfl
 · refine .inr ⟨_,fun p=>?_,rfl⟩
   dsimp only
   split <;> rfl
theorem syncD_len (R:SegD) (D:DiskD) (wv:Value):(R.syncD D wv).files.length=D.files.length:=by
 rcases syncD_files R D wv with e | ⟨f,_,e⟩
 · rw [e]
 · rw [e,List.length_map]
theorem syncD_mem {R:SegD} {D:DiskD} {wv:Value} {p:List UInt8×FileD} (h:p∈(R.syncD D wv).files):∃ q∈D.files,q.1=p.1:=by
 rcases syncD_files R D wv with e | ⟨f,hf,e⟩
 · rw [e] at h; exact ⟨p,h,rfl⟩
 · rw [e] at h
   obtain ⟨q,hq,rfl⟩:=List.mem_map.1 h
   exact ⟨q,hq,(hf q).symm⟩
theorem syncD_none {R:SegD} {D:DiskD} {wv:Value} {n:List UInt8} (h:D.find n=none):(R.syncD D wv).find n=none:=by
 obtain ⟨g,e,_⟩:=SegW.syncD_find R D wv n
 rw [e,h]
 rfl
structure StoD where
 blk:Nat
 T:TapeD
 P:PendD
 cq:Value
 kx:Value
 top:Value
 off:Value
 tl:Value
 dp:Value
 eq:Value
 dq:Value
 dk:Value
 now:Int
def StoD.cells (S:StoD):Array Value:=#[.pointer (some ⟨S.T.O.blk,0,none⟩),S.cq,S.kx,S.top,S.off,S.tl,.pointer (some ⟨S.P.blk,0,none⟩),S.dp,S.eq,S.dq,S.dk,.int .i64 S.now]
def StoD.foot (S:StoD) (k:Nat):Prop:=k=S.blk∨S.T.foot k∨S.P.foot k
structure StoAt (base:Nat) (w:World) (S:StoD):Prop where
 cells:w.heap[S.blk]?=some (.cells S.cells 47 (0,0))
 tape:TapeAt base w S.T
 pend:PendAt base w S.P
 low:base≤S.blk
 away:(∀ k,S.T.foot k→k≠S.blk∧¬ S.P.foot k)∧∀ k,S.P.foot k→k≠S.blk
theorem StoAt.lt {base:Nat} {w:World} {S:StoD} (h:StoAt base w S) {k:Nat} (hk:S.foot k):k < w.heap.size:=by
 rcases hk with hk | hk | hk
 · rw [hk]; exact (Array.getElem?_eq_some_iff.1 h.cells).1
 · exact h.tape.lt hk
 · exact h.pend.lt hk
theorem StoAt.mod {base:Nat} {w w':World} {S:StoD} {M:Nat→Prop} (h:StoAt base w S) (hm:Mod M w w') (hM:∀ k,S.foot k→¬ M k):StoAt base w' S :=
 ⟨(hm.block _ (h.lt (.inl rfl)) (hM _ (.inl rfl))).trans h.cells,h.tape.mod hm (fun k hk=>hM k (.inr (.inl hk))),h.pend.mod hm (fun k hk=>hM k (.inr (.inr hk))),h.low,h.away⟩
theorem StoAt.below {base:Nat} {w w':World} {S:StoD} (h:StoAt base w S) (hb:Below w.heap.size w w'):StoAt base w' S :=
 h.mod (M:=fun _=>False) (Mod.of_below hb) (fun _ _ h=>h)
theorem StoAt.cell {base:Nat} {w:World} {S:StoD} (h:StoAt base w S) (k:Nat) (v:Value) (hv:S.cells[k]?=some v):w.cell? ⟨S.blk,k,Option.none⟩=some v:=by
 unfold World.cell?; rw [show w.heap[(⟨S.blk,k,Option.none⟩:Addr).block]?=_ from h.cells]; simpa using hv
theorem now_any {base:Nat} {S:StoD} (w:World) (h:StoAt base w S) :
 Calls Tryz.prog 30 #[.pointer (some ⟨S.blk,0,none⟩)] w fun e w'=>e=.returned (.int .i64 S.now)∧w'=w:=by
 have c11:=h.cell 11 _ rfl
 clear h
 go_enter Tryz.func30,Tryz.ntmps30
 go_wp2_with fail
 go_ret
 exact ⟨rfl,rfl⟩
theorem put_no {base:Nat} {S0:StoD} (r:Int) (hr:r≠0) (m:Msg) (sy:Bool) (a:Option Addr) (c:Nat) (W:World) (h:StoAt base W S0)
 (HAP:Hid (∀ w,Below W.heap.size W w→Calls Tryz.prog 56 #[.pointer (some ⟨S0.T.O.blk,0,none⟩),.agg (cellsM m a c)] w fun e w'=>e=.returned (.tuple #[.int .i64 0,.int .i64 r])∧Below w.heap.size w w')) :
 Calls Tryz.prog 28 #[.pointer (some ⟨S0.blk,0,none⟩),.agg (cellsM m a c),.bool sy] W fun e w'=>e=.returned (.tuple #[.int .i64 0,.int .i64 r])∧Below W.heap.size W w':=by
 have HB0:Hid (Below W.heap.size W (W.alloc (.cells (cellsM m a c) 53))):=(Below.refl _ W).alloc (Nat.le_refl _) _
 have HX0:Hid (RecW.Boxed (W.alloc (.cells (cellsM m a c) 53)) W.heap.size (cellsM m a c)):=RecW.Boxed.new W _ _
 have HT0:=Lib.hid (h.below HB0.out)
 have hcu:(cellsM m a c).size=10:=rfl
 have hne:(r != 0)=true:=bne_iff_ne.2 hr
 clear h hr
 go_enter Tryz.func28,Tryz.ntmps28
 go_upto_region 3 with fail
 generalize W.alloc (.cells (cellsM m a c) 53)=w1 at *
 clear hcu
 obtain ⟨A,hA⟩:∃ A,W.heap.size=A:=⟨_,rfl⟩
 rw [hA] at HX0 ⊢
 have HAA:=Lib.hid hA
 have c0:w1.cell? ⟨S0.blk,0,none⟩=some (.pointer (some ⟨S0.T.O.blk,0,none⟩)):=HT0.out.cell 0 _ rfl
 have HLD:=Lib.hid (HAP.out w1.drew (HB0.out.trans ((Below.refl _ w1).drew.mono HB0.out.size)))
 have HCM:Hid (cellsM m a c=#[.int .i64 m.kind,.int .i64 m.queue,.int .i64 m.due,.int .i64 m.retry,.int .i64 m.ref,.int .i64 m.born,.string (S m.topic),.string (S m.tag),.string (S m.body),.slice a m.keys.length c]):=rfl
 rw [HCM.out] at HLD
 obtain ⟨k0,k1,k2,k3,k4,k5,k6,k7,k8,k9⟩:=RecW.ten_cells HX0.out
 clear hA
 refine GrowM.wp_region_s (by kernel_rfl) ?_
 refine GrowM.st_grow 5 [none,none,none,none,none] (fun u v=>v=u) (by kernel_rfl) (by kernel_rfl) (fun _=>rfl) (fun _ _ _ h k=>k.trans h) ?_ ?_
 · exact GrowN.stab0 rfl
 simp only [List.take_succ_cons,List.take_zero,List.drop_succ_cons,List.drop_zero,Nat.reduceSub]
 iterate 5
  refine GrowN.g_det rfl ?_
  apply Exists.intro
  refine ⟨fun w hw hF=>?_,?_⟩
  · obtain rfl:=hw.symm
    clear hF
    go_simp
    first | exact rfl | exact ⟨rfl,rfl⟩
  go_frame
 refine GrowN.g_nil fun wz hwz hF=>?_
 obtain rfl:=hwz.symm
 clear hF
 refine GrowM.st_call (fun v w'=>v=.tuple #[.int .i64 0,.int .i64 r]∧Below w1.drew.heap.size w1.drew w') (by kernel_rfl) rfl rfl ?_ ?_
 ·
  go_simp
  refine HLD.out.mono ?_
  rintro e w' ⟨rfl,hb⟩
  exact ⟨_,rfl,rfl,hb⟩
 rintro v w2 ⟨rfl,hb⟩
 go_frame
 have HB2:=Lib.hid hb
 clear hb
 refine GrowM.st_grow 11 [none,none,none,none,none] (fun u v=>v=u) (by kernel_rfl) (by kernel_rfl) (fun _=>rfl) (fun _ _ _ h k=>k.trans h) ?_ ?_
 · exact GrowN.stab0 rfl
 simp only [List.take_succ_cons,List.take_zero,List.drop_succ_cons,List.drop_zero,Nat.reduceSub]
 iterate 5
  refine GrowN.g_det rfl ?_
  apply Exists.intro
  refine ⟨fun w hw hF=>?_,?_⟩
  · obtain rfl:=hw.symm
    clear hF
    go_simp
    first | exact rfl | exact ⟨rfl,rfl⟩
  go_frame
 refine GrowN.g_nil fun wz hwz hF=>?_
 obtain rfl:=hwz.symm
 clear hF
 refine GrowM.st_end rfl ?_
 go_wp2_with fail
 go_ret2
 exact ⟨rfl,(HB0.out.trans ((Below.refl _ w1).drew.mono HB0.out.size)).trans (HB2.out.mono (Nat.le_trans HB0.out.size (Nat.le_of_eq rfl)))⟩
structure Put (B:Nat) (S0 S1:StoD) (m:Msg) (sy:Bool):Prop where
 same:S1={ S0 with T:=S1.T,P:=S1.P }
 oblk:S1.T.O.blk=S0.T.O.blk
 pblk:S1.P.blk=S0.P.blk
 dblk:S1.T.D.blk=S0.T.D.blk
 b:S1.T.R.b=S0.T.R.b
 its:S1.T.its=S0.T.its++laidOf S0.T.R.e m
 quiet:Quiet S1.T.D
 room:S1.T.D.room=S0.T.D.room - ((bytesL (laidOf S0.T.R.e m)).length:Int)
 waits:if sy then S1.T.D.waits=[]∧S1.T.R.synced=S1.T.R.e else S1.T.D.waits≠[]∧S1.T.R.synced=S0.T.R.synced
 wl:S1.T.D.waits.length≤S0.T.D.waits.length+2
 foot:∀ k,S1.foot k→S0.foot k∨B≤k
 fl:S1.T.D.files.length≤S0.T.D.files.length+2
 nm:∀ p∈S1.T.D.files,p.1.length≤tapeH.length+8∨∃ q∈S0.T.D.files,q.1=p.1
 find:∀ n,(∀ p,p≤99999999→n≠nameL tapeH p)→S0.T.D.find n=none→S1.T.D.find n=none
 pall:S1.P.all=noteP S0.P.all ((S0.T.R.e+(fillOf S0.T.R.e m).length:Nat):Int) m
 cap:S1.T.D.cap=S0.T.D.cap
 keep:∀ n f,(∀ p,p≤99999999→n≠nameL tapeH p)→S0.T.D.find n=some f→∃ f',S1.T.D.find n=some f'∧f'.now=f.now
theorem put_ok {base:Nat} {S0:StoD} (m:Msg) (sy:Bool) (hm:MsgOk m) (hr:rightL m=true) (h0:m.kind≠0) (a:Option Addr) (c:Nat) (W:World) (h:StoAt base W S0) (hS:Strs W a (m.keys.map S)) (hq:Quiet S0.T.D) (hT:TabB base W) (hbase:base≤W.heap.size)
 (hroom:(((fillOf S0.T.R.e m).length+(recL m).length:Nat):Int)≤S0.T.D.room) (hwl:S0.T.D.waits.length≤1000000) (hfar:S0.T.R.e≤80000000) (hrl:S0.T.O.recs.length≤1000000) :
 Calls Tryz.prog 28 #[.pointer (some ⟨S0.blk,0,none⟩),.agg (cellsM m a c),.bool sy] W fun e w'=>e=.returned (.tuple #[.int .i64 ((S0.T.R.e+(fillOf S0.T.R.e m).length:Nat):Int),.int .i64 0]) ∧
  ∃ S1,StoAt base w' S1∧Put W.heap.size S0 S1 m sy∧Mod S0.foot W w':=by
 have HB0:Hid (Below W.heap.size W (W.alloc (.cells (cellsM m a c) 53))):=(Below.refl _ W).alloc (Nat.le_refl _) _
 have HX0:Hid (RecW.Boxed (W.alloc (.cells (cellsM m a c) 53)) W.heap.size (cellsM m a c)):=RecW.Boxed.new W _ _
 have HH0:Hid ((W.alloc (.cells (cellsM m a c) 53)).heap.size=W.heap.size+1):=by exact Array.size_push _
 have HT0:=Lib.hid (h.below HB0.out)
 have HS0:=Lib.hid (Strs.below hS HB0.out)
 have hcu:(cellsM m a c).size=10:=rfl
 have HTB:=Lib.hid (hT.below HB0.out)
 have HBS:=Lib.hid hbase
 have HQ:=Lib.hid hq
 have HAP:=Lib.hid (fun (w:World) (hb:Below w.heap.size (W.alloc (.cells (cellsM m a c) 53)) w) (hT2:TapeAt base w S0.T) (hS2:Strs w a (m.keys.map S)) (hTB:TabB base w) (hsz:base≤w.heap.size)=>append_ok m hm hr h0 a c w hT2 hS2 hq hTB hsz hroom hwl (by omega) hrl)
 have HPN:=Lib.hid (fun (id:Int) (P:PendD) (w:World) (hp:PendAt base w P)=>note_any id m a c w hp)
 have HLT:=Lib.hid (fun (k:Nat) (hk:S0.foot k)=>h.lt hk)
 have HWL:=Lib.hid hwl
 have HFAR:=Lib.hid hfar
 have hpos:(0:Int)≤((S0.T.R.e+(fillOf S0.T.R.e m).length:Nat):Int):=by omega
 obtain ⟨id,hid⟩:∃ id:Int,id=((S0.T.R.e+(fillOf S0.T.R.e m).length:Nat):Int):=⟨_,rfl⟩
 have HIDQ:=Lib.hid hid
 rw [← hid] at HAP ⊢
 clear h hS hq hT hbase hroom hwl hfar hrl hm hr h0 hpos hid
 go_enter Tryz.func28,Tryz.ntmps28
 go_upto_region 3 with fail
 generalize W.alloc (.cells (cellsM m a c) 53)=w1 at *
 clear hcu
 obtain ⟨A,hA⟩:∃ A,W.heap.size=A:=⟨_,rfl⟩
 rw [hA] at HX0 HH0 HLT ⊢
 have HAA:=Lib.hid hA
 have c0:w1.cell? ⟨S0.blk,0,none⟩=some (.pointer (some ⟨S0.T.O.blk,0,none⟩)):=HT0.out.cell 0 _ rfl
 have HLD:=Lib.hid (HAP.out w1.drew ((Below.refl _ w1).drew) (HT0.out.tape.below ((Below.refl _ w1).drew)) (Strs.below HS0.out ((Below.refl _ w1).drew)) (HTB.out.below ((Below.refl _ w1).drew)) (Nat.le_trans HBS.out HB0.out.size))
 have HCM:Hid (cellsM m a c=#[.int .i64 m.kind,.int .i64 m.queue,.int .i64 m.due,.int .i64 m.retry,.int .i64 m.ref,.int .i64 m.born,.string (S m.topic),.string (S m.tag),.string (S m.body),.slice a m.keys.length c]):=rfl
 rw [HCM.out] at HLD HPN
 obtain ⟨k0,k1,k2,k3,k4,k5,k6,k7,k8,k9⟩:=RecW.ten_cells HX0.out
 clear hA
 refine GrowM.wp_region_s (by kernel_rfl) ?_
 refine GrowM.st_grow 5 [none,none,none,none,none] (fun u v=>v=u) (by kernel_rfl) (by kernel_rfl) (fun _=>rfl) (fun _ _ _ h k=>k.trans h) ?_ ?_
 · exact GrowN.stab0 rfl
 simp only [List.take_succ_cons,List.take_zero,List.drop_succ_cons,List.drop_zero,Nat.reduceSub]
 iterate 5
  refine GrowN.g_det rfl ?_
  apply Exists.intro
  refine ⟨fun w hw hF=>?_,?_⟩
  · obtain rfl:=hw.symm
    clear hF
    go_simp
    first | exact rfl | exact ⟨rfl,rfl⟩
  go_frame
 refine GrowN.g_nil fun wz hwz hF=>?_
 obtain rfl:=hwz.symm
 clear hF
 refine GrowM.st_call (fun v w'=>v=.tuple #[.int .i64 id,.int .i64 0]∧∃ T',TapeAt base w' T'∧TapeW.Next S0.T T' (laidOf S0.T.R.e m)∧Mod S0.T.foot w1.drew w'∧∀ k,T'.foot k→S0.T.foot k∨w1.drew.heap.size≤k) (by kernel_rfl) rfl rfl ?_ ?_
 ·
  go_simp
  refine HLD.out.mono ?_
  rintro e w' ⟨rfl,hb⟩
  exact ⟨_,rfl,rfl,hb⟩
 rintro v w2 ⟨rfl,hb⟩
 go_frame
 have HP:=Lib.hid hb
 clear hb HLD
 refine GrowM.st_grow 11 [none,none,none,none,none] (fun u v=>v=u) (by kernel_rfl) (by kernel_rfl) (fun _=>rfl) (fun _ _ _ h k=>k.trans h) ?_ ?_
 · exact GrowN.stab0 rfl
 simp only [List.take_succ_cons,List.take_zero,List.drop_succ_cons,List.drop_zero,Nat.reduceSub]
 iterate 5
  refine GrowN.g_det rfl ?_
  apply Exists.intro
  refine ⟨fun w hw hF=>?_,?_⟩
  · obtain rfl:=hw.symm
    clear hF
    go_simp
    first | exact rfl | exact ⟨rfl,rfl⟩
  go_frame
 refine GrowN.g_nil fun wz hwz hF=>?_
 obtain rfl:=hwz.symm
 clear hF
 refine GrowM.st_end rfl ?_
 obtain ⟨T',hT',hN,hmod,hft⟩:=HP.out
 have hmw:Mod S0.T.foot w1 w2:=(Mod.of_below (M:=S0.T.foot) ((Below.refl _ w1).drew)).trans hmod
 have HMW:=Lib.hid hmw
 have HTP:=Lib.hid hT'
 have HN:=Lib.hid hN
 have HFT:=Lib.hid hft
 have HS2:Hid (PendAt base w2 S0.P):=HT0.out.pend.mod hmw (fun k hk h2=>(HT0.out.away.1 k h2).2 hk)
 have HBK:Hid (RecW.Boxed w2 A (cellsM m a c)):=fun k v e=>by
  have:=HX0.out k v e
  rw [← this]
  exact hmw.cell (by have:=HH0.out; show A < _; omega) (fun h2=>by have:=HLT.out A (.inr (.inl h2)); omega)
 have d6:w2.cell? ⟨S0.blk,6,none⟩=some (.pointer (some ⟨S0.P.blk,0,none⟩)):=by
  rw [hmw.cell (HT0.out.lt (.inl rfl)) (fun h2=>(HT0.out.away.1 _ h2).1 rfl)]; exact HT0.out.cell 6 _ rfl
 have d0:w2.cell? ⟨S0.blk,0,none⟩=some (.pointer (some ⟨S0.T.O.blk,0,none⟩)):=by
  rw [hmw.cell (HT0.out.lt (.inl rfl)) (fun h2=>(HT0.out.away.1 _ h2).1 rfl)]; exact HT0.out.cell 0 _ rfl
 clear hmod hmw hT' hN hft HP c0 k0 k1 k2 k3 k4 k5 k6 k7 k8 k9 HX0
 obtain ⟨l0,l1,l2,l3,l4,l5,l6,l7,l8,l9⟩:=RecW.ten_cells HBK.out
 have HNT:=Lib.hid (HPN.out id S0.P w2.drew (HS2.out.below ((Below.refl _ w2).drew)))
 go_upto_region 6 with fail
 refine GrowM.wp_region_s (by kernel_rfl) ?_
 refine GrowM.st_grow 6 [none,none,none,none,none,none] (fun u v=>v=u) (by kernel_rfl) (by kernel_rfl) (fun _=>rfl) (fun _ _ _ h k=>k.trans h) ?_ ?_
 · exact GrowN.stab0 rfl
 simp only [List.take_succ_cons,List.take_zero,List.drop_succ_cons,List.drop_zero,Nat.reduceSub]
 iterate 6
  refine GrowN.g_det rfl ?_
  apply Exists.intro
  refine ⟨fun w hw hF=>?_,?_⟩
  · obtain rfl:=hw.symm
    clear hF
    go_simp
    first | exact rfl | exact ⟨rfl,rfl⟩
  go_frame
 refine GrowN.g_nil fun wz hwz hF=>?_
 obtain rfl:=hwz.symm
 clear hF
 refine GrowM.st_call (fun v w'=>PendAt base w' { S0.P with all:=noteP S0.P.all id m }∧Mod (fun k=>k=S0.P.mB) w2.drew w') (by kernel_rfl) rfl rfl ?_ ?_
 ·
  go_simp
  refine HNT.out.mono ?_
  rintro e w' ⟨v,rfl,hb⟩
  first | exact ⟨⟨_,rfl⟩,hb⟩ | exact ⟨_,hb⟩
 rintro v w3 hb
 go_frame
 refine GrowM.st_end rfl ?_
 have HP3:=Lib.hid hb
 clear hb HNT HPN l0 l1 l2 l3 l4 l5 l6 l7 l8 l9 HBK
 have hm3:Mod (fun k=>k=S0.P.mB) w2 w3:=(Mod.of_below (M:=fun k=>k=S0.P.mB) ((Below.refl _ w2).drew)).trans HP3.out.2
 have HM3:=Lib.hid hm3
 have e0:w3.cell? ⟨S0.blk,0,none⟩=some (.pointer (some ⟨S0.T.O.blk,0,none⟩)):=by
  rw [hm3.cell (Nat.lt_of_lt_of_le (HT0.out.lt (.inl rfl)) HMW.out.size) (fun h2=>HT0.out.away.2 _ (.inr h2) rfl)]; exact d0
 clear hm3 d0 d6
 have hM13:Mod (fun k=>S0.T.foot k∨S0.P.foot k) w1 w3:=(HMW.out.mono (fun k _ hk=>.inl hk)).trans (HM3.out.mono (fun k _ hk=>.inr (.inr hk)))
 have HM13:=Lib.hid hM13
 have HM03:=Lib.hid ((Mod.of_below (M:=fun k=>S0.T.foot k∨S0.P.foot k) HB0.out).trans hM13)
 have HT3:Hid (TapeAt base w3 T'):=HTP.out.mod HM3.out (fun k hk h2=>by
  subst h2
  rcases HFT.out _ hk with h3 | h3
  · exact (HT0.out.away.1 _ h3).2 (.inr rfl)
  · have:=HLT.out S0.P.mB (.inr (.inr (.inr rfl)))
    have h4:w1.heap.size≤S0.P.mB:=h3
    have:=HH0.out
    omega)
 have KEY:Hid (∀ T2:TapeD,∀ w,TapeAt base w T2→PendAt base w { S0.P with all:=noteP S0.P.all id m }→Mod (fun k=>S0.T.foot k∨S0.P.foot k) W w→T2.O.blk=S0.T.O.blk→(∀ k,T2.foot k→S0.T.foot k∨A≤k) →
  StoAt base w { S0 with T:=T2,P:={ S0.P with all:=noteP S0.P.all id m } }∧∀ k,StoD.foot { S0 with T:=T2,P:={ S0.P with all:=noteP S0.P.all id m } } k→S0.foot k∨A≤k):=fun T2 w a1 a2 a3 a4 a5=>by
  have hlb:=HLT.out S0.blk (.inl rfl)
  refine ⟨⟨?_,a1,a2,HT0.out.low,fun k hk=>?_,HT0.out.away.2⟩,fun k hk=>?_⟩
  ·
   have:=(Mod.of_below (M:=fun k=>S0.T.foot k∨S0.P.foot k) HB0.out)
   have h1:w.heap[S0.blk]?=some (.cells S0.cells 47 (0,0)):=by
    rw [a3.block S0.blk (by have:=HAA.out; omega) (fun h2=>h2.elim (fun h3=>(HT0.out.away.1 _ h3).1 rfl) (fun h3=>HT0.out.away.2 _ h3 rfl)),← HB0.out.block S0.blk (by have:=HAA.out; omega)]
    exact HT0.out.cells
   rw [show w.heap[S0.blk]?=_ from h1]
   unfold StoD.cells
   rw [a4]
  · rcases a5 k hk with h2 | h2
    · exact HT0.out.away.1 k h2
    · exact ⟨(show k≠S0.blk by omega),fun h3=>by have:=HLT.out k (.inr (.inr h3)); omega⟩
  · rcases hk with hk | hk | hk
    · exact .inl (.inl hk)
    · exact (a5 k hk).imp (fun h=>.inr (.inl h)) fun h=>h
    · exact .inl (.inr (.inr hk))
 have HFA:Hid (∀ k,T'.foot k→S0.T.foot k∨A≤k):=fun k hk=>(HFT.out k hk).imp (fun h=>h) fun h2=>by
  have h4:w1.heap.size≤k:=h2
  have:=HH0.out
  omega
 have HSY:=Lib.hid (TapeW.sync_any w3 HT3.out HN.out.quiet (HTB.out.mod HM13.out (fun k hk=>hk.elim (fun h=>HT0.out.tape.base_le h) fun h=>h.elim (fun e=>e ▸ HT0.out.pend.low.1) fun e=>e ▸ HT0.out.pend.low.2)) (Nat.le_trans HBS.out HM03.out.size) (by have:=HN.out.wl; have:=HWL.out; omega) (by
  rcases Nat.eq_zero_or_pos T'.R.n with h0 | hp
  · omega
  · have:=(HT3.out.whole.seg.long hp).2.2
    rw [HT3.out.size] at this
    omega))
 rw [HN.out.blk] at HSY
 cases sy
 ·
  go_wp2_with fail
  go_ret2
  obtain ⟨k1,k2⟩:=KEY.out T' w3 HT3.out HP3.out.1 HM03.out HN.out.blk HFA.out
  exact ⟨rfl,_,k1,⟨rfl,HN.out.blk,rfl,HN.out.dblk,HN.out.b,HN.out.its,HN.out.quiet,HN.out.room,⟨HN.out.waits,HN.out.syn⟩,HN.out.wl,fun k hk=>(k2 k hk).imp (fun h=>h) fun h=>by rw [HAA.out]; exact h,by have h1:=HN.out.few.1; have h2:=HN.out.wl; show T'.D.files.length≤_; omega,HN.out.few.2.1,fun n hn h0=>(HN.out.other n hn).trans h0,by show noteP S0.P.all id m=_; rw [HIDQ.out],HN.out.few.2.2,fun n f hn hf=>⟨f,(HN.out.other n hn).trans hf,rfl⟩⟩,HM03.out.mono (fun k _ hk=>hk.elim (fun h=>.inr (.inl h)) fun h=>.inr (.inr h))⟩
 ·
  go_wp2_with fail
  refine HSY.out.mono ?_
  rintro e w4 ⟨rfl,wv,hT4,hm4,hw4,hq4,hf4⟩
  have HT4:=Lib.hid hT4
  have HM4:=Lib.hid hm4
  have HW4:=Lib.hid hw4
  have HQ4:=Lib.hid hq4
  have HF4:=Lib.hid hf4
  clear hT4 hm4 hw4 hq4 hf4 HSY
  go_wp2_with fail
  go_ret2
  have hM04:Mod (fun k=>S0.T.foot k∨S0.P.foot k) W w4:=((HM03.out.mono (N:=fun k=>(S0.T.foot k∨S0.P.foot k)∨A≤k) (fun k _ h=>.inl h)).trans (HM4.out.mono (fun k _ h=>(HFA.out k h).imp (fun h=>.inl h) fun h=>h))).mono (fun k hk h=>h.elim (fun h=>h) fun h=>by have:=HAA.out; omega)
  obtain ⟨k1,k2⟩:=KEY.out _ w4 HT4.out (HP3.out.1.mod HM4.out (fun k hk h2=>(HFA.out k h2).elim (fun h3=>(HT0.out.away.1 k h3).2 hk) fun h3=>by have:=HLT.out k (.inr (.inr hk)); omega)) hM04 HN.out.blk (fun k hk=>HFA.out k (by
   rcases hk with h | h | h
   · exact .inl h
   · exact .inr (.inl ((HF4.out k).1 h))
   · exact .inr (.inr h)))
  exact ⟨rfl,_,k1,⟨rfl,HN.out.blk,rfl,(show (T'.R.syncD T'.D wv).blk=_ from (show (T'.R.syncD T'.D wv).blk=T'.D.blk by unfold SegD.syncD; split <;> rfl).trans HN.out.dblk),HN.out.b,HN.out.its,HQ4.out,(syncD_room _ _ _).trans HN.out.room,⟨HW4.out,rfl⟩,by show (T'.R.syncD T'.D wv).waits.length≤_; rw [HW4.out]; simp,fun k hk=>(k2 k hk).imp (fun h=>h) fun h=>by rw [HAA.out]; exact h,by show (T'.R.syncD T'.D wv).files.length≤_; rw [syncD_len]; have h1:=HN.out.few.1; have h2:=HN.out.wl; omega,fun p hp=>by obtain ⟨q,hq,e⟩:=syncD_mem hp; exact e ▸ HN.out.few.2.1 q hq,fun n hn h0=>syncD_none ((HN.out.other n hn).trans h0),by show noteP S0.P.all id m=_; rw [HIDQ.out],(show (T'.R.syncD T'.D wv).cap=T'.D.cap by unfold SegD.syncD; split <;> rfl).trans HN.out.few.2.2,fun n f hn hf=>by obtain ⟨g,h1,h2⟩:=syncD_find T'.R T'.D wv n; exact ⟨g f,by show (T'.R.syncD T'.D wv).find n=_; rw [h1,HN.out.other n hn,hf]; rfl,(h2 f).2⟩⟩,hM04.mono (fun k _ hk=>hk.elim (fun h=>.inr (.inl h)) fun h=>.inr (.inr h))⟩
structure NewB (W w:World) (B:Nat) (cs:Array Value) (t:TypeId):Prop where
 cells:w.heap[B]?=some (.cells cs t (0,0))
 below:Below W.heap.size W w
 new:W.heap.size≤B
theorem newB_alloc (W w:World) (cs:Array Value) (t:TypeId) (h:Below W.heap.size W w):NewB W (w.alloc (.cells cs t)) w.heap.size cs t :=
 ⟨heap_alloc_new w _,h.alloc h.size _,h.size⟩
theorem dispnew_any {base:Nat} {T:TapeD} (q x:Nat) (W:World) (h:TapeAt base W T) :
 Calls Tryz.prog 72 #[.pointer (some ⟨T.O.blk,0,none⟩),.pointer (some ⟨q,0,none⟩),.pointer (some ⟨x,0,none⟩)] W fun e w'=>∃ B,e=.returned (.tuple #[.pointer (some ⟨B,0,none⟩),.int .i64 0]) ∧
  NewB W w' B #[.pointer (some ⟨T.O.blk,0,none⟩),.pointer (some ⟨q,0,none⟩),.pointer (some ⟨x,0,none⟩),.int .i64 (T.R.b:Int)] 164:=by
 have HB:=Lib.hid (begin_any W h)
 clear h
 go_enter Tryz.func72,Tryz.ntmps72
 go_wp2_with fail
 refine HB.out.mono ?_
 rintro e w2 ⟨rfl,rfl⟩
 go_wp2_with fail
 go_ret2
 exact ⟨_,rfl,newB_alloc _ _ _ _ (Below.refl _ _)⟩
theorem enqnew_any {base:Nat} {T:TapeD} (q x:Nat) (W:World) (h:TapeAt base W T) :
 Calls Tryz.prog 73 #[.pointer (some ⟨T.O.blk,0,none⟩),.pointer (some ⟨q,0,none⟩),.pointer (some ⟨x,0,none⟩)] W fun e w'=>∃ B,e=.returned (.tuple #[.pointer (some ⟨B,0,none⟩),.int .i64 0]) ∧
  NewB W w' B #[.pointer (some ⟨T.O.blk,0,none⟩),.pointer (some ⟨q,0,none⟩),.pointer (some ⟨x,0,none⟩),.int .i64 (T.R.b:Int),.slice none 0 0] 229:=by
 have HB:=Lib.hid (begin_any W h)
 clear h
 go_enter Tryz.func73,Tryz.ntmps73
 go_wp2_with fail
 refine HB.out.mono ?_
 rintro e w2 ⟨rfl,rfl⟩
 go_wp2_with fail
 go_ret2
 exact ⟨_,rfl,newB_alloc _ _ _ _ (Below.refl _ _)⟩
theorem deqnew_any (t q x:Nat) (W:World) :
 Calls Tryz.prog 74 #[.pointer (some ⟨t,0,none⟩),.pointer (some ⟨q,0,none⟩),.pointer (some ⟨x,0,none⟩)] W fun e w'=>∃ B,e=.returned (.tuple #[.pointer (some ⟨B,0,none⟩),.int .i64 0]) ∧
  NewB W w' B #[.pointer (some ⟨t,0,none⟩),.pointer (some ⟨q,0,none⟩),.pointer (some ⟨x,0,none⟩),.slice none 0 0] 231:=by
 go_enter Tryz.func74,Tryz.ntmps74
 go_wp2_with fail
 go_ret2
 exact ⟨_,rfl,newB_alloc _ _ _ _ (Below.refl _ _)⟩
theorem late_nil {B:Nat} {c0 c1 c2 c3:Value} (W:World) (h:W.heap[B]?=some (.cells #[c0,c1,c2,c3,.slice none 0 0] 229 (0,0))) :
 Calls Tryz.prog 77 #[.pointer (some ⟨B,0,none⟩)] W fun e w'=>e=.returned (.slice none 0 0)∧w'.heap[B]?=some (.cells #[c0,c1,c2,c3,.slice none 0 0] 229 (0,0))∧Mod (fun k=>k=B) W w':=by
 have c4:W.cell? ⟨B,4,none⟩=some (.slice none 0 0):=by unfold World.cell?; rw [show W.heap[(⟨B,4,none⟩:Addr).block]?=_ from h]; rfl
 have f4:W.frozen? ⟨B,4,none⟩=false:=by unfold World.frozen?; rw [show W.heap[(⟨B,4,none⟩:Addr).block]?=_ from h]; rfl
 have H:=Lib.hid h
 clear h
 go_enter Tryz.func77,Tryz.ntmps77
 go_wp2_with fail
 go_ret
 exact ⟨rfl,heap_setCell_same _ B 4 _ _ _ H.out,(Mod.refl (fun k=>k=B) W).setCell (.inl rfl) _⟩
theorem dadd_nil {B:Nat} {c0 c1 c2:Value} (W:World) (h:W.heap[B]?=some (.cells #[c0,c1,c2,.slice none 0 0] 231 (0,0))) :
 Calls Tryz.prog 76 #[.pointer (some ⟨B,0,none⟩),.slice none 0 0] W fun e w'=>∃ v,e=.returned v∧w'.heap[B]?=some (.cells #[c0,c1,c2,.slice none 0 0] 231 (0,0))∧Mod (fun k=>k=B) W w':=by
 have c3:W.cell? ⟨B,3,none⟩=some (.slice none 0 0):=by unfold World.cell?; rw [show W.heap[(⟨B,3,none⟩:Addr).block]?=_ from h]; rfl
 have f3:W.frozen? ⟨B,3,none⟩=false:=by unfold World.frozen?; rw [show W.heap[(⟨B,3,none⟩:Addr).block]?=_ from h]; rfl
 have H:=Lib.hid h
 clear h
 go_enter Tryz.func76,Tryz.ntmps76
 go_wp2_with fail
 go_end0
 exact ⟨_,rfl,heap_setCell_same _ B 3 _ _ _ H.out,(Mod.refl (fun k=>k=B) W).setCell (.inl rfl) _⟩
def Runs (f:Nat) (B:Nat) (Q:World→Prop):Nat→World→Prop
 | 0,w=>Calls Tryz.prog f #[.pointer (some ⟨B,0,none⟩)] w fun e w'=>e=.returned (.tuple #[.bool false,.int .i64 0])∧Q w'
 | n+1,w=>Calls Tryz.prog f #[.pointer (some ⟨B,0,none⟩)] w fun e w'=>e=.returned (.tuple #[.bool true,.int .i64 0])∧Runs f B Q n w'
theorem dall_any {B:Nat} {Q:World→Prop} (n:Nat) (hn:n≤1073741824) (w:World) (h:Runs 38 B Q n w) :
 Calls Tryz.prog 18 #[.pointer (some ⟨B,0,none⟩)] w fun e w'=>e=.returned (.tuple #[.int .i64 (n:Int),.int .i64 0])∧Q w':=by
 have H0:=Lib.hid h
 clear h
 go_enter Tryz.func18,Tryz.ntmps18
 go_wp2_with fail
 go_loopw [4] (fun i wr=>∃ k:Nat,k≤n∧i=.int .i64 (k:Int)∧Hid (Runs 38 B Q (n - k) wr)) (fun i _=>n+1 - (intOf i).toNat)
 case atStart=>exact ⟨0,Nat.zero_le _,rfl,H0⟩
 case round =>
  obtain ⟨k,hk,rfl,HR⟩:=hrel
  clear H0
  by_cases hkn:k=n
  ·
   subst hkn
   have hr:=HR.out
   rw [Nat.sub_self] at hr
   have HS:Hid _:=Lib.hid hr
   clear hr HR
   unfold Runs at HS
   go_wp2_with fail
   refine HS.out.mono ?_
   rintro e w2 ⟨rfl,hq⟩
   have HQ:=Lib.hid hq
   clear hq HS
   go_wp2_with fail
   go_ret2
   exact ⟨rfl,HQ.out⟩
  ·
   obtain ⟨j,hj⟩:∃ j,n - k=j+1:=⟨n - k - 1,by omega⟩
   have hr:=HR.out
   rw [hj] at hr
   have HS:Hid _:=Lib.hid hr
   clear hr HR
   unfold Runs at HS
   go_wp2_with fail
   refine HS.out.mono ?_
   rintro e w2 ⟨rfl,hq⟩
   have HQ:=Lib.hid hq
   clear hq HS
   go_wp2_with fail
   go_roundw
   case rel=>exact ⟨k+1,by omega,by go_num,by rw [show n - (k+1)=j by omega]; exact HQ.out⟩
   case measure=>simp [intOf]; omega
theorem eall_any {B:Nat} {Q:World→Prop} (n:Nat) (hn:n≤1073741824) (w:World) (h:Runs 131 B Q n w) :
 Calls Tryz.prog 75 #[.pointer (some ⟨B,0,none⟩)] w fun e w'=>e=.returned (.tuple #[.int .i64 (n:Int),.int .i64 0])∧Q w':=by
 have H0:=Lib.hid h
 clear h
 go_enter Tryz.func75,Tryz.ntmps75
 go_wp2_with fail
 go_loopw [4] (fun i wr=>∃ k:Nat,k≤n∧i=.int .i64 (k:Int)∧Hid (Runs 131 B Q (n - k) wr)) (fun i _=>n+1 - (intOf i).toNat)
 case atStart=>exact ⟨0,Nat.zero_le _,rfl,H0⟩
 case round =>
  obtain ⟨k,hk,rfl,HR⟩:=hrel
  clear H0
  by_cases hkn:k=n
  ·
   subst hkn
   have hr:=HR.out
   rw [Nat.sub_self] at hr
   have HS:Hid _:=Lib.hid hr
   clear hr HR
   unfold Runs at HS
   go_wp2_with fail
   refine HS.out.mono ?_
   rintro e w2 ⟨rfl,hq⟩
   have HQ:=Lib.hid hq
   clear hq HS
   go_wp2_with fail
   go_ret2
   exact ⟨rfl,HQ.out⟩
  ·
   obtain ⟨j,hj⟩:∃ j,n - k=j+1:=⟨n - k - 1,by omega⟩
   have hr:=HR.out
   rw [hj] at hr
   have HS:Hid _:=Lib.hid hr
   clear hr HR
   unfold Runs at HS
   go_wp2_with fail
   refine HS.out.mono ?_
   rintro e w2 ⟨rfl,hq⟩
   have HQ:=Lib.hid hq
   clear hq HS
   go_wp2_with fail
   go_roundw
   case rel=>exact ⟨k+1,by omega,by go_num,by rw [show n - (k+1)=j by omega]; exact HQ.out⟩
   case measure=>simp [intOf]; omega
theorem cell_at {w:World} {B:Nat} {cs:Array Value} {t:TypeId} (h:w.heap[B]?=some (.cells cs t (0,0))) (k:Nat) (v:Value) (hv:cs[k]?=some v):w.cell? ⟨B,k,Option.none⟩=some v:=by
 unfold World.cell?; rw [show w.heap[(⟨B,k,Option.none⟩:Addr).block]?=_ from h]; simpa using hv
theorem frozen_at {w:World} {B:Nat} {cs:Array Value} {t:TypeId} (h:w.heap[B]?=some (.cells cs t (0,0))) (k:Nat):w.frozen? ⟨B,k,Option.none⟩=false:=by
 unfold World.frozen?; rw [show w.heap[(⟨B,k,Option.none⟩:Addr).block]?=_ from h]; rfl
theorem heap_drawn {w w':World} (h:Drawn w w') {B:Nat} {o:Obj} (hb:w.heap[B]?=some o):w'.heap[B]?=some o:=by rw [h.heap]; exact hb
theorem dstep_none {base B:Nat} {T:OwnD} {q x:Value} {d:Int} (W:World) (h:OwnAt base W T) (hB:W.heap[B]?=some (.cells #[.pointer (some ⟨T.blk,0,none⟩),q,x,.int .i64 d] 164 (0,0))) (hs:(T.recs.map (·.1)).Pairwise (· < ·)) (hl:T.recs.length≤1073741824) (hn:(nextL T.recs d).2=false) :
 Calls Tryz.prog 38 #[.pointer (some ⟨B,0,none⟩)] W fun e w'=>e=.returned (.tuple #[.bool false,.int .i64 0])∧Drawn W w':=by
 have c0:=cell_at hB 0 _ rfl
 have c3:=cell_at hB 3 _ rfl
 have HNX:=Lib.hid (next_any d W.drew (h.below ((Below.refl _ W).drew)) hs hl)
 rw [hn] at HNX
 clear h hs hl hn hB
 generalize (nextL T.recs d).1=p at *
 go_enter Tryz.func38,Tryz.ntmps38
 go_upto_region 3 with fail
 refine GrowM.wp_region_s (by kernel_rfl) ?_
 refine GrowM.st_grow 8 [none,none,none,none,none,none,none,none] (fun u v=>v=u) (by kernel_rfl) (by kernel_rfl) (fun _=>rfl) (fun _ _ _ h k=>k.trans h) ?_ ?_
 · exact GrowN.stab0 rfl
 simp only [List.take_succ_cons,List.take_zero,List.drop_succ_cons,List.drop_zero,Nat.reduceSub]
 iterate 8
  refine GrowN.g_det rfl ?_
  apply Exists.intro
  refine ⟨fun w hw hF=>?_,?_⟩
  · obtain rfl:=hw.symm
    clear hF
    go_simp
    first | exact rfl | exact ⟨rfl,rfl⟩
  go_frame
 refine GrowN.g_nil fun wz hwz hF=>?_
 obtain rfl:=hwz.symm
 clear hF
 refine GrowM.st_call (fun v w'=>v=.tuple #[.int .i64 p,.bool false]∧Drawn W.drew w') (by kernel_rfl) rfl rfl ?_ ?_
 ·
  go_simp
  refine HNX.out.mono ?_
  rintro e w' ⟨rfl,hb⟩
  exact ⟨_,rfl,rfl,hb⟩
 rintro v w2 ⟨rfl,hb⟩
 go_frame
 refine GrowM.st_grow 14 [none,none,none,none,none] (fun u v=>v=u) (by kernel_rfl) (by kernel_rfl) (fun _=>rfl) (fun _ _ _ h k=>k.trans h) ?_ ?_
 · exact GrowN.stab0 rfl
 simp only [List.take_succ_cons,List.take_zero,List.drop_succ_cons,List.drop_zero,Nat.reduceSub]
 iterate 5
  refine GrowN.g_det rfl ?_
  apply Exists.intro
  refine ⟨fun w hw hF=>?_,?_⟩
  · obtain rfl:=hw.symm
    clear hF
    go_simp
    first | exact rfl | exact ⟨rfl,rfl⟩
  go_frame
 refine GrowN.g_nil fun wz hwz hF=>?_
 obtain rfl:=hwz.symm
 clear hF
 refine GrowM.st_end rfl ?_
 have HD:=Lib.hid hb
 clear hb HNX
 go_wp2_with fail
 go_ret2
 exact ⟨rfl,Drawn.trans (Drawn.refl W).drew HD.out⟩
def FreshP (w1:World) (v:Value) (w:World):Prop:=∃ g,v=.pointer (some ⟨g,0,none⟩)∧w.heap[g]?=some (.cells #[.int .i64 0,.int .i64 0,.int .i64 0,.int .i64 0] 68 (0,0))∧w1.heap.size≤g
theorem ext_heap {u v:World} (h:RecW.ExtR u v) {g:Nat} {o:Obj} (hg:u.heap[g]?=some o):v.heap[g]?=some o:=by
 rw [Below.block h g (Array.getElem?_eq_some_iff.1 hg).1]; exact hg
theorem nextL_nil (p:Int):nextL [] p=(0,false):=rfl
theorem nextL_lt (x:Nat×Msg) (l:List (Nat×Msg)) (p:Int) (h:(x.1:Int) < p):nextL (x :: l) p=nextL l p:=by
 unfold nextL TapeW.placeL idI
 rw [List.map_cons,List.countP_cons_of_pos (by simpa using h),List.drop_succ_cons]
theorem nextL_ge (x:Nat×Msg) (l:List (Nat×Msg)) (p:Int) (h:p≤(x.1:Int)) (hs:((x :: l).map (·.1)).Pairwise (· < ·)):nextL (x :: l) p=((x.1:Int),true):=by
 have:TapeW.placeL (x :: l) p=0:=by
  unfold TapeW.placeL idI
  rw [List.countP_eq_zero]
  intro i hi
  obtain ⟨y,hy,rfl⟩:=List.mem_map.1 hi
  have:x.1≤y.1:=by
   rcases List.mem_cons.1 hy with rfl | hy
   · exact Nat.le_refl _
   · rw [List.map_cons,List.pairwise_cons] at hs
     exact Nat.le_of_lt (hs.1 y.1 (List.mem_map.2 ⟨y,hy,rfl⟩))
  simp; omega
 unfold nextL
 rw [this]; rfl
theorem nextL_spec (p:Int):∀ l:List (Nat×Msg),(l.map (·.1)).Pairwise (· < ·)→(nextL l p).2=true→∃ id m,(id,m)∈l∧nextL l p=((id:Int),true)∧p≤(id:Int)
 | [],_,h=>by rw [nextL_nil] at h; cases h
 | x :: l,hs,h=>by
   by_cases hx:(x.1:Int) < p
   · rw [nextL_lt x l p hx] at h ⊢
     rw [List.map_cons,List.pairwise_cons] at hs
     obtain ⟨id,m,h1,h2,h3⟩:=nextL_spec p l hs.2 h
     exact ⟨id,m,List.mem_cons_of_mem _ h1,h2,h3⟩
   · exact ⟨x.1,x.2,List.mem_cons_self ..,nextL_ge x l p (by omega) hs,by omega⟩
theorem enext_none {base B:Nat} {T:TapeD} (q x:Value) (cs4:Value) (d e0:Int) (W:World) (h:TapeAt base W T) (hT:TabB base W) (hbase:base≤W.heap.size) (hup:T.D.down=false)
 (hB:W.heap[B]?=some (.cells #[.pointer (some ⟨T.O.blk,0,none⟩),q,x,.int .i64 e0,cs4] 229 (0,0))) (hl:T.O.recs.length≤1073741824) (hk:∀ p∈T.O.recs,p.2.kind≠2) (hd:0≤d∧d≤200000000) :
 Calls Tryz.prog 189 #[.pointer (some ⟨B,0,none⟩),.int .i64 d] W fun e w'=>e=.returned (.tuple #[.int .i64 0,.agg #[.int .i64 0,.int .i64 0,.int .i64 0,.int .i64 0,.int .i64 0,.int .i64 0,.string ⟨#[]⟩,.string ⟨#[]⟩,.string ⟨#[]⟩,.slice none 0 0],.bool false])∧Below W.heap.size W w':=by
 have hBl:=(Array.getElem?_eq_some_iff.1 hB).1
 have hss:(T.O.recs.map (·.1)).Pairwise (· < ·):=by rw [h.recs]; exact (recs_sorted h.fits).2
 have HSP:=Lib.hid (fun p=>nextL_spec p T.O.recs hss)
 have HNX:Hid (∀ p w,Below W.heap.size W w→Calls Tryz.prog 78 #[.pointer (some ⟨T.O.blk,0,none⟩),.int .i64 p] w fun e w'=>e=.returned (.tuple #[.int .i64 (nextL T.O.recs p).1,.bool (nextL T.O.recs p).2])∧Drawn w w'):=fun p w hb=>next_any p w (h.own.below hb) hss hl
 have HSY:Hid (∀ w,Below W.heap.size W w→Calls Tryz.prog 79 #[.pointer (some ⟨T.O.blk,0,none⟩)] w fun e w'=>e=.returned (.int .i64 (T.R.synced:Int))∧w'=w):=fun w hb=>TapeW.synced_any w (h.below hb)
 have HRD:Hid (∀ id m w,(id,m)∈T.O.recs→Below W.heap.size W w→Calls Tryz.prog 71 #[.pointer (some ⟨T.O.blk,0,none⟩),.int .i64 (id:Int)] w fun e w'=>∃ a c,e=.returned (.tuple #[.agg (cellsM m a c),.int .i64 0])∧Below w.heap.size w w'):=fun id m w hm hb =>
  (tread_any id m w (h.below hb) hup (hT.below hb) (Nat.le_trans hbase hb.size) hm).mono fun e w' ⟨a,c,h5,h6,h7,h8⟩=>⟨a,c,h5,h7⟩
 have HSI:Hid (∀ id m w,(id,m)∈T.O.recs→Below W.heap.size W w→Calls Tryz.prog 81 #[.pointer (some ⟨T.O.blk,0,none⟩),.int .i64 (id:Int)] w fun e w'=>e=.returned (.int .i64 ((recL m).length:Int))∧w'=w):=fun id m w hm hb=>by
  have:=size_any (id:Int) w (h.own.below hb)
  rw [size_rec (recs_nodup h) hm] at this
  exact this
 have HLI:Hid (∀ id m,(id,m)∈T.O.recs→1≤(recL m).length∧(recL m).length≤1024∧id≤100004095):=fun id m hm=>by
  obtain ⟨a1,a2,a3,a4,a5,a6⟩:=lies_rec h hm
  have:=rec_pos m
  have:=h.whole.seg.e_le
  omega
 have HB:Hid (∀ w,Below W.heap.size W w→w.cell? ⟨B,0,none⟩=some (.pointer (some ⟨T.O.blk,0,none⟩))):=fun w hb=>cell_at ((hb.block B hBl).trans hB) 0 _ rfl
 have HK:=Lib.hid hk
 have HW1:Hid (Below W.heap.size W (W.alloc (.cells #[.int .i64 0,.int .i64 0,.int .i64 0,.int .i64 0,.int .i64 0,.int .i64 0,.string ⟨#[]⟩,.string ⟨#[]⟩,.string ⟨#[]⟩,.slice none 0 0] 53))):=(Below.refl _ W).alloc (Nat.le_refl _) _
 have HX1:Hid ((W.alloc (.cells #[.int .i64 0,.int .i64 0,.int .i64 0,.int .i64 0,.int .i64 0,.int .i64 0,.string ⟨#[]⟩,.string ⟨#[]⟩,.string ⟨#[]⟩,.slice none 0 0] 53)).heap[W.heap.size]?=some (.cells #[.int .i64 0,.int .i64 0,.int .i64 0,.int .i64 0,.int .i64 0,.int .i64 0,.string ⟨#[]⟩,.string ⟨#[]⟩,.string ⟨#[]⟩,.slice none 0 0] 53 (0,0))):=heap_alloc_new W _
 have HS1:Hid ((W.alloc (.cells #[.int .i64 0,.int .i64 0,.int .i64 0,.int .i64 0,.int .i64 0,.int .i64 0,.string ⟨#[]⟩,.string ⟨#[]⟩,.string ⟨#[]⟩,.slice none 0 0] 53)).heap.size=W.heap.size+1):=by exact Array.size_push _
 generalize T.O.recs=recs at *
 generalize T.R.synced=sy at *
 generalize T.O.blk=tb at *
 clear h hT hbase hup hB hl hk hss hBl
 go_enter Tryz.func189,Tryz.ntmps189
 go_wp2_with fail
 generalize W.alloc (.cells #[.int .i64 0,.int .i64 0,.int .i64 0,.int .i64 0,.int .i64 0,.int .i64 0,.string ⟨#[]⟩,.string ⟨#[]⟩,.string ⟨#[]⟩,.slice none 0 0] 53)=w1 at *
 obtain ⟨A,hA⟩:∃ A,W.heap.size=A:=⟨_,rfl⟩
 have HAA:=Lib.hid hA
 rw [hA] at HX1 HS1
 clear hA
 rw [HAA.out]
 go_loopw [1] (fun i wr=>∃ p:Int,0≤p∧p≤200000000∧i=.int .i64 p∧Hid (Below w1.heap.size w1 wr)) (fun i _=>sy - (intOf i).toNat)
 case atStart=>exact ⟨d,hd.1,hd.2,rfl,Below.refl _ _⟩
 case round =>
  obtain ⟨p,hp0,hp1,rfl,HR⟩:=hrel
  have hb:Below W.heap.size W wr:=HW1.out.trans (HR.out.mono HW1.out.size)
  have c0:=HB.out wr hb
  have HN:=Lib.hid (HNX.out p wr hb)
  have HBR:=Lib.hid hb
  have HSPP:=Lib.hid (HSP.out p)
  clear hb
  cases hok:(nextL recs p).2 with
  | false =>
    rw [hok] at HN
    have HAX:Hid (wr.heap[A]?=some (.cells #[.int .i64 0,.int .i64 0,.int .i64 0,.int .i64 0,.int .i64 0,.int .i64 0,.string ⟨#[]⟩,.string ⟨#[]⟩,.string ⟨#[]⟩,.slice none 0 0] 53 (0,0))):=(HR.out.block A (by have:=HS1.out; omega)).trans HX1.out
    clear HSPP hok
    generalize (nextL recs p).1=np at *
    go_wp2_with fail
    refine HN.out.mono ?_
    rintro e w2 ⟨rfl,hdr⟩
    have HB2:Hid (Below W.heap.size W w2):=HBR.out.trans (hdr.below _)
    have hA2:w2.heap[A]?=some (.cells #[.int .i64 0,.int .i64 0,.int .i64 0,.int .i64 0,.int .i64 0,.int .i64 0,.string ⟨#[]⟩,.string ⟨#[]⟩,.string ⟨#[]⟩,.slice none 0 0] 53 (0,0)):=heap_drawn hdr HAX.out
    have HA2:=Lib.hid hA2
    have HH:=Lib.hid (put10_heap rfl hA2 (.int .i64 0) (.int .i64 0) (.int .i64 0) (.int .i64 0) (.int .i64 0) (.int .i64 0) (.string ⟨#[]⟩) (.string ⟨#[]⟩) (.string ⟨#[]⟩) (.slice none 0 0))
    have HBM:=Lib.hid (put10_mod w2 A (.int .i64 0) (.int .i64 0) (.int .i64 0) (.int .i64 0) (.int .i64 0) (.int .i64 0) (.string ⟨#[]⟩) (.string ⟨#[]⟩) (.string ⟨#[]⟩) (.slice none 0 0))
    clear hdr HN c0
    have y0:=cell_at hA2 0 _ rfl
    have z0:=frozen_at hA2 0
    have y1:=cell_at hA2 1 _ rfl
    have z1:=frozen_at hA2 1
    have y2:=cell_at hA2 2 _ rfl
    have z2:=frozen_at hA2 2
    have y3:=cell_at hA2 3 _ rfl
    have z3:=frozen_at hA2 3
    have y4:=cell_at hA2 4 _ rfl
    have z4:=frozen_at hA2 4
    have y5:=cell_at hA2 5 _ rfl
    have z5:=frozen_at hA2 5
    have y6:=cell_at hA2 6 _ rfl
    have z6:=frozen_at hA2 6
    have y7:=cell_at hA2 7 _ rfl
    have z7:=frozen_at hA2 7
    have y8:=cell_at hA2 8 _ rfl
    have z8:=frozen_at hA2 8
    have y9:=cell_at hA2 9 _ rfl
    have z9:=frozen_at hA2 9
    clear hA2
    go_wp2_with fail
    clear y0 y1 y2 y3 y4 y5 y6 y7 y8 y9 z0 z1 z2 z3 z4 z5 z6 z7 z8 z9
    change bodyPost _ _ _ _ _ (put10 w2 A (.int .i64 0) (.int .i64 0) (.int .i64 0) (.int .i64 0) (.int .i64 0) (.int .i64 0) (.string ⟨#[]⟩) (.string ⟨#[]⟩) (.string ⟨#[]⟩) (.slice none 0 0))
    generalize put10 w2 A (.int .i64 0) (.int .i64 0) (.int .i64 0) (.int .i64 0) (.int .i64 0) (.int .i64 0) (.string ⟨#[]⟩) (.string ⟨#[]⟩) (.string ⟨#[]⟩) (.slice none 0 0)=w9 at *
    have hz9:=HH.out
    have c0:=cell_at hz9 0 _ rfl
    have c1:=cell_at hz9 1 _ rfl
    have c2:=cell_at hz9 2 _ rfl
    have c3:=cell_at hz9 3 _ rfl
    have c4:=cell_at hz9 4 _ rfl
    have c5:=cell_at hz9 5 _ rfl
    have c6:=cell_at hz9 6 _ rfl
    have c7:=cell_at hz9 7 _ rfl
    have c8:=cell_at hz9 8 _ rfl
    have c9:=cell_at hz9 9 _ rfl
    have hbb:Below W.heap.size W w9:=HB2.out.trans (HBM.out.to_below _ HB2.out.size (fun k e=>by rw [e,HAA.out]; exact Nat.le_refl _))
    refine bodyPost_ret (v:=.tuple #[.int .i64 0,.agg #[.int .i64 0,.int .i64 0,.int .i64 0,.int .i64 0,.int .i64 0,.int .i64 0,.string ⟨#[]⟩,.string ⟨#[]⟩,.string ⟨#[]⟩,.slice none 0 0],.bool false]) ?_ rfl ⟨rfl,hbb⟩
    clear hz9
    simp [results,Tryz.results189,go_sem,c0,c1,c2,c3,c4,c5,c6,c7,c8,c9]
  | true =>
    obtain ⟨id,m,hm,hnx,hle⟩:=HSPP.out hok
    rw [hnx] at HN
    obtain ⟨l1,l2,l3⟩:=HLI.out id m hm
    have hk2:m.kind≠2:=HK.out (id,m) hm
    have hidp:(0:Int)≤(id:Int):=by omega
    have HAX:Hid (wr.heap[A]?=some (.cells #[.int .i64 0,.int .i64 0,.int .i64 0,.int .i64 0,.int .i64 0,.int .i64 0,.string ⟨#[]⟩,.string ⟨#[]⟩,.string ⟨#[]⟩,.slice none 0 0] 53 (0,0))):=(HR.out.block A (by have:=HS1.out; omega)).trans HX1.out
    clear HSPP hok hnx
    by_cases hsd:sy≤id
    ·
     have hsd':(sy:Int)≤(id:Int):=by omega
     clear hk2
     go_wp2_with fail
     refine HN.out.mono ?_
     rintro e w2 ⟨rfl,hdr⟩
     have HB2:Hid (Below W.heap.size W w2):=HBR.out.trans (hdr.below _)
     have d0:=HB.out w2 HB2.out
     have HSY2:=Lib.hid (HSY.out w2 HB2.out)
     have hA2:w2.heap[A]?=some (.cells #[.int .i64 0,.int .i64 0,.int .i64 0,.int .i64 0,.int .i64 0,.int .i64 0,.string ⟨#[]⟩,.string ⟨#[]⟩,.string ⟨#[]⟩,.slice none 0 0] 53 (0,0)):=heap_drawn hdr HAX.out
     clear hdr HN c0
     go_wp2_with fail
     refine HSY2.out.mono ?_
     rintro e w2' ⟨rfl,he2⟩
     obtain rfl:=he2.symm
     clear HSY2
     have HA2:=Lib.hid hA2
     have HH:=Lib.hid (put10_heap rfl hA2 (.int .i64 0) (.int .i64 0) (.int .i64 0) (.int .i64 0) (.int .i64 0) (.int .i64 0) (.string ⟨#[]⟩) (.string ⟨#[]⟩) (.string ⟨#[]⟩) (.slice none 0 0))
     have HBM:=Lib.hid (put10_mod w2 A (.int .i64 0) (.int .i64 0) (.int .i64 0) (.int .i64 0) (.int .i64 0) (.int .i64 0) (.string ⟨#[]⟩) (.string ⟨#[]⟩) (.string ⟨#[]⟩) (.slice none 0 0))
     clear d0
     have y0:=cell_at hA2 0 _ rfl
     have z0:=frozen_at hA2 0
     have y1:=cell_at hA2 1 _ rfl
     have z1:=frozen_at hA2 1
     have y2:=cell_at hA2 2 _ rfl
     have z2:=frozen_at hA2 2
     have y3:=cell_at hA2 3 _ rfl
     have z3:=frozen_at hA2 3
     have y4:=cell_at hA2 4 _ rfl
     have z4:=frozen_at hA2 4
     have y5:=cell_at hA2 5 _ rfl
     have z5:=frozen_at hA2 5
     have y6:=cell_at hA2 6 _ rfl
     have z6:=frozen_at hA2 6
     have y7:=cell_at hA2 7 _ rfl
     have z7:=frozen_at hA2 7
     have y8:=cell_at hA2 8 _ rfl
     have z8:=frozen_at hA2 8
     have y9:=cell_at hA2 9 _ rfl
     have z9:=frozen_at hA2 9
     clear hA2
     go_wp2_with fail
     clear y0 y1 y2 y3 y4 y5 y6 y7 y8 y9 z0 z1 z2 z3 z4 z5 z6 z7 z8 z9
     change bodyPost _ _ _ _ _ (put10 w2 A (.int .i64 0) (.int .i64 0) (.int .i64 0) (.int .i64 0) (.int .i64 0) (.int .i64 0) (.string ⟨#[]⟩) (.string ⟨#[]⟩) (.string ⟨#[]⟩) (.slice none 0 0))
     generalize put10 w2 A (.int .i64 0) (.int .i64 0) (.int .i64 0) (.int .i64 0) (.int .i64 0) (.int .i64 0) (.string ⟨#[]⟩) (.string ⟨#[]⟩) (.string ⟨#[]⟩) (.slice none 0 0)=w9 at *
     have hz9:=HH.out
     have c0:=cell_at hz9 0 _ rfl
     have c1:=cell_at hz9 1 _ rfl
     have c2:=cell_at hz9 2 _ rfl
     have c3:=cell_at hz9 3 _ rfl
     have c4:=cell_at hz9 4 _ rfl
     have c5:=cell_at hz9 5 _ rfl
     have c6:=cell_at hz9 6 _ rfl
     have c7:=cell_at hz9 7 _ rfl
     have c8:=cell_at hz9 8 _ rfl
     have c9:=cell_at hz9 9 _ rfl
     have hbb:Below W.heap.size W w9:=HB2.out.trans (HBM.out.to_below _ HB2.out.size (fun k e=>by rw [e,HAA.out]; exact Nat.le_refl _))
     refine bodyPost_ret (v:=.tuple #[.int .i64 0,.agg #[.int .i64 0,.int .i64 0,.int .i64 0,.int .i64 0,.int .i64 0,.int .i64 0,.string ⟨#[]⟩,.string ⟨#[]⟩,.string ⟨#[]⟩,.slice none 0 0],.bool false]) ?_ rfl ⟨rfl,hbb⟩
     clear hz9
     simp [results,Tryz.results189,go_sem,c0,c1,c2,c3,c4,c5,c6,c7,c8,c9]
    ·
     have hsd':(id:Int) < (sy:Int):=by omega
     go_wp2_with fail
     refine HN.out.mono ?_
     rintro e w2 ⟨rfl,hdr⟩
     have HB2:Hid (Below W.heap.size W w2):=HBR.out.trans (hdr.below _)
     have HR2:Hid (Below w1.heap.size w1 w2):=HR.out.trans (hdr.below _)
     have d0:=HB.out w2 HB2.out
     have HSY2:=Lib.hid (HSY.out w2 HB2.out)
     have HRD2:=Lib.hid (HRD.out id m w2 hm HB2.out)
     clear hdr HN c0
     go_wp2_with fail
     refine HSY2.out.mono ?_
     rintro e w2' ⟨rfl,he2⟩
     obtain rfl:=he2.symm
     clear HSY2
     go_wp2_with fail
     refine HRD2.out.mono ?_
     rintro e w3 ⟨a,c,rfl,hb3⟩
     have HR3:Hid (Below w1.heap.size w1 w3):=HR2.out.trans (hb3.mono HR2.out.size)
     rw [show cellsM m a c=#[.int .i64 m.kind,.int .i64 m.queue,.int .i64 m.due,.int .i64 m.retry,.int .i64 m.ref,.int .i64 m.born,.string (S m.topic),.string (S m.tag),.string (S m.body),.slice a m.keys.length c] from rfl]
     have HB4:Hid (Below W.heap.size W (w3.alloc (.cells #[.int .i64 m.kind,.int .i64 m.queue,.int .i64 m.due,.int .i64 m.retry,.int .i64 m.ref,.int .i64 m.born,.string (S m.topic),.string (S m.tag),.string (S m.body),.slice a m.keys.length c] 53))):=HW1.out.trans ((HR3.out.alloc HR3.out.size _).mono HW1.out.size)
     have HR4:Hid (Below w1.heap.size w1 (w3.alloc (.cells #[.int .i64 m.kind,.int .i64 m.queue,.int .i64 m.due,.int .i64 m.retry,.int .i64 m.ref,.int .i64 m.born,.string (S m.topic),.string (S m.tag),.string (S m.body),.slice a m.keys.length c] 53))):=HR3.out.alloc HR3.out.size _
     have d1:=HB.out _ HB4.out
     have HSI4:=Lib.hid (HSI.out id m _ hm HB4.out)
     clear HRD2 hb3 d0
     go_wp2_with fail
     refine HSI4.out.mono ?_
     rintro e w5 ⟨rfl,he2⟩
     obtain rfl:=he2.symm
     clear HSI4
     go_wp2_with fail
     go_roundw
     case rel=>exact ⟨(id:Int)+((recL m).length:Int),by omega,by omega,rfl,HR4.out⟩
     case measure=>simp [intOf]; omega
theorem estep_none {base B:Nat} {T:TapeD} (q x:Value) (cs4:Value) (d:Int) (W:World) (h:TapeAt base W T) (hT:TabB base W) (hbase:base≤W.heap.size) (hup:T.D.down=false)
 (hB:W.heap[B]?=some (.cells #[.pointer (some ⟨T.O.blk,0,none⟩),q,x,.int .i64 d,cs4] 229 (0,0))) (hl:T.O.recs.length≤1073741824) (hk:∀ p∈T.O.recs,p.2.kind≠2) (hd:0≤d∧d≤200000000) :
 Calls Tryz.prog 131 #[.pointer (some ⟨B,0,none⟩)] W fun e w'=>e=.returned (.tuple #[.bool false,.int .i64 0])∧Below W.heap.size W w':=by
 have HN:=Lib.hid (enext_none q x cs4 d d W h hT hbase hup hB hl hk hd)
 have c3:=cell_at hB 3 _ rfl
 clear h hT hbase hup hB hl hk
 go_enter Tryz.func131,Tryz.ntmps131
 go_wp2_with fail
 refine HN.out.mono ?_
 rintro e w2 ⟨rfl,hb⟩
 have HB:Hid (Below W.heap.size W (w2.alloc (.cells #[.int .i64 0,.int .i64 0,.int .i64 0,.int .i64 0,.int .i64 0,.int .i64 0,.string ⟨#[]⟩,.string ⟨#[]⟩,.string ⟨#[]⟩,.slice none 0 0] 53))):=hb.alloc hb.size _
 clear hb HN c3
 go_wp2_with fail
 go_ret2
 exact ⟨rfl,HB.out⟩
theorem eall_none {base B:Nat} {T:TapeD} (q x:Value) (cs4:Value) (d:Int) (W:World) (h:TapeAt base W T) (hT:TabB base W) (hbase:base≤W.heap.size) (hup:T.D.down=false)
 (hB:W.heap[B]?=some (.cells #[.pointer (some ⟨T.O.blk,0,none⟩),q,x,.int .i64 d,cs4] 229 (0,0))) (hl:T.O.recs.length≤1073741824) (hk:∀ p∈T.O.recs,p.2.kind≠2) (hd:0≤d∧d≤200000000) :
 Calls Tryz.prog 75 #[.pointer (some ⟨B,0,none⟩)] W fun e w'=>e=.returned (.tuple #[.int .i64 0,.int .i64 0])∧Below W.heap.size W w' :=
 eall_any (Q:=fun w=>Below W.heap.size W w) 0 (by omega) W (estep_none q x cs4 d W h hT hbase hup hB hl hk hd)
theorem dall_none {base B:Nat} {T:OwnD} {q x:Value} {d:Int} (W:World) (h:OwnAt base W T) (hB:W.heap[B]?=some (.cells #[.pointer (some ⟨T.blk,0,none⟩),q,x,.int .i64 d] 164 (0,0))) (hs:(T.recs.map (·.1)).Pairwise (· < ·)) (hl:T.recs.length≤1073741824) (hn:(nextL T.recs d).2=false) :
 Calls Tryz.prog 18 #[.pointer (some ⟨B,0,none⟩)] W fun e w'=>e=.returned (.tuple #[.int .i64 0,.int .i64 0])∧Drawn W w' :=
 dall_any (Q:=fun w=>Drawn W w) 0 (by omega) W (dstep_none W h hB hs hl hn)
end Go.Proofs.YtnoehodmmkioaaaGreatDoor.StoW
namespace Go.Proofs.YtnoehodmmkioaaaGreatDoor.TopW
open Go.RowKit OctMath DskW
theorem load_none {base:Nat} {D:DiskD} (nm:List UInt8) (w:World) (h:DiskAt base w D) (hup:D.down=false) (hn:D.find nm=none) :
 Calls Tryz.prog 115 #[.pointer (some ⟨D.blk,0,none⟩),.string (S nm)] w fun e w'=>e=.returned (.tuple #[.string (S []),.bool false,.int .i64 0])∧Below w.heap.size w w':=by
 have HA:=Lib.hid (all_any nm w h)
 have hb:D.bars [nm]=9:=by rw [bars_one,hup,hn]; rfl
 have ht:D.allT nm=[]:=by unfold DiskD.allT; rw [hb]; rfl
 rw [hb,ht] at HA
 have hnil:S []=⟨#[]⟩:=rfl
 clear h hup hn hb ht
 go_enter Tryz.func115,Tryz.ntmps115
 go_wp2_with fail
 refine HA.out.mono ?_
 rintro e w1 ⟨rfl,hb1⟩
 have HB1:=Lib.hid hb1
 clear hb1 HA
 go_wp2_with fail
 go_ret3
 exact ⟨rfl,HB1.out⟩
def topicsN:List UInt8:=[116,111,112,105,99,115]
def groupsN:List UInt8:=[103,114,111,117,112,115]
def baseN:List UInt8:=[98,97,115,101]
theorem topics_none {base:Nat} {D:DiskD} (w:World) (h:DiskAt base w D) (hup:D.down=false) (hn:D.find topicsN=none) :
 Calls Tryz.prog 62 #[.pointer (some ⟨D.blk,0,none⟩)] w fun e w'=>∃ b,e=.returned (.tuple #[.pointer (some ⟨b,0,none⟩),.int .i64 0])∧Below w.heap.size w w'∧w.heap.size≤b∧w'.heap[b]?=some (.cells #[.pointer (some ⟨D.blk,0,none⟩),.slice none 0 0] 106 (0,0)):=by
 have HL:=Lib.hid (load_none topicsN w h hup hn)
 clear h hup hn
 go_enter Tryz.func62,Tryz.ntmps62
 go_wp2_with fail
 refine HL.out.mono ?_
 rintro e w1 ⟨rfl,hb1⟩
 have HB1:=Lib.hid hb1
 clear hb1 HL
 go_wp2_with fail
 go_ret2
 exact ⟨w1.heap.size,rfl,HB1.out.alloc HB1.out.size _,HB1.out.size,heap_alloc_new w1 _⟩
theorem groups_none {base:Nat} {D:DiskD} (w:World) (h:DiskAt base w D) (hup:D.down=false) (hn:D.find groupsN=none) :
 Calls Tryz.prog 63 #[.pointer (some ⟨D.blk,0,none⟩)] w fun e w'=>∃ b,e=.returned (.tuple #[.pointer (some ⟨b,0,none⟩),.int .i64 0])∧Below w.heap.size w w'∧w.heap.size≤b∧w'.heap[b]?=some (.cells #[.pointer (some ⟨D.blk,0,none⟩),.slice none 0 0] 209 (0,0)):=by
 have HL:=Lib.hid (load_none groupsN w h hup hn)
 clear h hup hn
 go_enter Tryz.func63,Tryz.ntmps63
 go_wp2_with fail
 refine HL.out.mono ?_
 rintro e w1 ⟨rfl,hb1⟩
 have HB1:=Lib.hid hb1
 clear hb1 HL
 go_wp2_with fail
 go_ret2
 exact ⟨w1.heap.size,rfl,HB1.out.alloc HB1.out.size _,HB1.out.size,heap_alloc_new w1 _⟩
theorem loaded_none {base:Nat} {D:DiskD} (w:World) (h:DiskAt base w D) (hup:D.down=false) (hn:D.find baseN=none) :
 Calls Tryz.prog 64 #[.pointer (some ⟨D.blk,0,none⟩)] w fun e w'=>e=.returned (.tuple #[.agg #[.int .i64 0,.slice none 0 0],.bool false,.int .i64 0])∧Below w.heap.size w w':=by
 have HL:=Lib.hid (fun (w2:World) (hb:Below w.heap.size w w2)=>load_none baseN w2 (h.below hb) hup hn)
 clear h hup hn
 go_enter Tryz.func64,Tryz.ntmps64
 go_wp2_with fail
 refine (HL.out _ ((Below.refl _ _).alloc (Nat.le_refl _) _)).mono ?_
 rintro e w1 ⟨rfl,hb1⟩
 have g:w1.heap[w.heap.size]?=some (.cells #[.int .i64 0,.slice none 0 0] 140 (0,0)):=by
  have h1:=hb1.block w.heap.size (by rw [World.size_alloc]; omega)
  rw [h1]; exact heap_alloc_new w _
 have HB1:=Lib.hid (((Below.refl w.heap.size w).alloc (Nat.le_refl _) (.cells #[.int .i64 0,.slice none 0 0] 140)).trans (hb1.mono (by rw [World.size_alloc]; omega)))
 have a0:w1.cell? ⟨w.heap.size,0,none⟩=some (.int .i64 0):=by rw [Lib.cell_of_heap g]; rfl
 have a1:w1.cell? ⟨w.heap.size,1,none⟩=some (.slice none 0 0):=by rw [Lib.cell_of_heap g]; rfl
 have b0:w1.frozen? ⟨w.heap.size,0,none⟩=false:=Lib.frozen_of_heap g 0
 have b1:w1.frozen? ⟨w.heap.size,1,none⟩=false:=Lib.frozen_of_heap g 1
 clear hb1 HL
 go_wp2_with fail
 refine bodyPost_ret (v:=.tuple #[.agg #[.int .i64 0,.slice none 0 0],.bool false,.int .i64 0]) ?_ rfl ⟨rfl,?_⟩
 · simp [results,Tryz.results64,go_sem,a0,a1]
 · exact (HB1.out.setCell (p:=⟨w.heap.size,0,none⟩) (Nat.le_refl _) _).setCell (p:=⟨w.heap.size,1,none⟩) (Nat.le_refl _) _
end Go.Proofs.YtnoehodmmkioaaaGreatDoor.TopW
namespace Go.Proofs.YtnoehodmmkioaaaGreatDoor.CacheW
open Go.RowKit OctMath DskW SegW
structure Grows (D D':DiskD) (ns:List (List UInt8)) (sz wt:Nat):Prop where
 quiet:Quiet D'
 blk:D'.blk=D.blk
 cap:D'.cap=D.cap
 names:D'.files.map (·.1)=D.files.map (·.1)++ns
 size:D'.size=D.size+sz
 waits:D'.waits.length=D.waits.length+wt
theorem Grows.trans {D D1 D2:DiskD} {a b:List (List UInt8)} {s t m n:Nat} (h:Grows D D1 a s m) (k:Grows D1 D2 b t n):Grows D D2 (a++b) (s+t) (m+n) :=
 ⟨k.quiet,k.blk.trans h.blk,k.cap.trans h.cap,by rw [k.names,h.names,List.append_assoc],by rw [k.size,h.size,Nat.add_assoc],by rw [k.waits,h.waits,Nat.add_assoc]⟩
theorem Grows.refl {D:DiskD} (h:Quiet D):Grows D D [] 0 0:=⟨h,rfl,rfl,by rw [List.append_nil],rfl,rfl⟩
theorem Grows.room {D D':DiskD} {a:List (List UInt8)} {s n:Nat} (h:Grows D D' a s n):D'.room=D.room - (s:Int):=by
 unfold DiskD.room; rw [h.cap,h.size]; omega
theorem find_not {D:DiskD} {n:List UInt8}:D.find n=none↔n∉D.files.map (·.1):=by
 rw [← find_isSome]
 cases D.find n <;> simp
theorem create_q {base:Nat} {D:DiskD} (n:List UInt8) (w:World) (h:DiskAt base w D) (hq:Quiet D) (hn:n∉D.files.map (·.1)) (hbase:base≤w.heap.size) :
 Calls Tryz.prog 125 #[.pointer (some ⟨D.blk,0,none⟩),.string (S n)] w fun e w'=>e=.returned (.int .i64 0)∧∃ D',DiskAt base w' D'∧Grows D D' [n] 0 0∧Mod D.foot w w'∧(∀ k,D'.foot k→D.foot k∨w.heap.size≤k)∧(∃ f,D'.find n=some f∧f.now=[])∧∀ m,m≠n→D'.find m=D.find m:=by
 have hf:=find_not.2 hn
 refine (create_any n w h hbase).mono ?_
 rintro e w' ⟨b,hb,rfl,hd,hm⟩
 refine ⟨by rw [hq.createE hf],D.create n b,hd,?_,hm,fun k hk=>?_,?_,fun m hm=>?_⟩
 ·
  rw [hq.create hf]
  refine ⟨⟨hq.left,hq.up⟩,rfl,rfl,by rw [List.map_append]; rfl,?_,rfl⟩
  show sizeL (D.files++[(n,(⟨b,[],[]⟩:FileD))])=sizeL D.files+0
  rw [sizeL_append]; rfl
 · rcases create_foot hk with h1 | h1
   · exact .inl h1
   · right; omega
 · exact ⟨⟨b,[],[]⟩,by rw [find_create hq hf,if_pos rfl],rfl⟩
 · rw [find_create hq hf,if_neg hm]
theorem write_q {base:Nat} {D:DiskD} (n:List UInt8) (f:FileD) (t:List UInt8) (w:World) (h:DiskAt base w D) (hq:Quiet D) (hf:D.find n=some f) (o:Nat) (ho:o=f.now.length) (ht:t≠[]) (htl:t.length≤1048576) (hr:(t.length:Int)≤D.room) (hwl:D.waits.length≤1048576) (hbase:base≤w.heap.size) :
 Calls Tryz.prog 126 #[.pointer (some ⟨D.blk,0,none⟩),.string (S n),.int .i64 (o:Int),.string (S t)] w fun e w'=>e=.returned (.int .i64 0)∧∃ D',DiskAt base w' D'∧Grows D D' [] t.length 1∧Mod D.foot w w'∧(∀ k,D'.foot k→D.foot k∨w.heap.size≤k)∧(∃ f',D'.find n=some f'∧f'.now=f.now++t)∧∀ m,m≠n→D'.find m=D.find m:=by
 have hnow:=h.small n
 have hnl:f.now.length≤16777216:=by
  unfold DiskD.bytes at hnow; rw [hf] at hnow; exact hnow
 refine (write_any n (o:Int) (by omega) t (by omega) hwl w h hbase).mono ?_
 rintro e w' ⟨wv,rfl,hd,hm,hk⟩
 obtain ⟨h1,h2⟩:=hq.write h.names hf (o:=(o:Int)) (by rw [ho]) ht hr wv
 have hmem:=find_some hf
 refine ⟨by rw [h1],D.write n (o:Int) t wv,hd,?_,hm,hk,?_,fun m hmn=>?_⟩
 ·
  rw [h2]
  refine ⟨⟨hq.left,hq.up⟩,rfl,rfl,by rw [List.append_nil]; exact setNow_fst _ _ _,?_,by simp⟩
  have:=sizeL_set D.files n (f.now++t) f h.names hmem
  rw [List.length_append] at this
  show sizeL (setNow D.files n (f.now++t))=sizeL D.files+t.length
  omega
 ·
  rw [h2]
  have:=find_setNow D.files n (f.now++t) n
  rw [if_pos rfl] at this
  refine ⟨{ f with now:=f.now++t },?_,rfl⟩
  have hf2:(D.files.find? fun p=>p.1 == n).map (·.2)=some f:=hf
  show (((setNow D.files n (f.now++t)).find? fun p=>p.1 == n).map (·.2))=_
  rw [this,hf2]; rfl
 ·
  rw [h2]
  have:=find_setNow D.files n (f.now++t) m
  rw [if_neg hmn] at this
  exact this
theorem list_nil {D:DiskD} {hd:List UInt8} (h:∀ x∈D.files.map (·.1),Lib.hasPrefix x hd=false):D.list hd=[]:=by
 cases hl:D.list hd with
 | nil=>rfl
 | cons x l =>
   have hx:x∈D.list hd:=by rw [hl]; exact .head _
   have:=mem_list.1 hx
   rw [h x this.2] at this
   exact absurd this.1 (by decide)
theorem list_q {base:Nat} {D:DiskD} (hd:List UInt8) (w:World) (h:DiskAt base w D) (hfl:D.files.length≤1048576) (hnl:∀ p∈D.files,p.1.length≤maxLen) (hno:∀ x∈D.files.map (·.1),Lib.hasPrefix x hd=false) :
 Calls Tryz.prog 88 #[.pointer (some ⟨D.blk,0,none⟩),.string (S hd)] w fun e w'=>(∃ a c,e=.returned (.slice a 0 c))∧Below w.heap.size w w':=by
 refine (list_any hd w h hfl hnl).mono ?_
 rintro e w' ⟨v,rfl,hown,hb⟩
 rw [list_nil hno] at hown
 obtain ⟨a,c,rfl,-⟩:=Row1.of_own hown
 exact ⟨⟨a,c,rfl⟩,hb⟩
open MapG
structure QueD where
 topic:List UInt8
 q:Int
 blk:Nat
 R:SegD
 b0:Nat
 least:Nat
structure CqD where
 blk:Nat
 db:Nat
 mB:Nat
 qs:List QueD
def QueD.key (x:QueD):Value:=.agg #[.string (S x.topic),.int .i64 x.q]
def QueD.cells (x:QueD):Array Value:=#[.pointer (some ⟨x.R.blk,0,none⟩),.int .i64 (x.b0:Int),.int .i64 (x.least:Int)]
structure CqAt (base:Nat) (w:World) (C:CqD):Prop where
 cells:w.heap[C.blk]?=some (.cells #[.pointer (some ⟨C.db,0,none⟩),.map (some C.mB)] 168 (0,0))
 map:PairsAt w C.mB (C.qs.map fun x=>(x.key,.pointer (some ⟨x.blk,0,none⟩)))
 que:∀ x∈C.qs,w.heap[x.blk]?=some (.cells x.cells 110 (0,0))∧SegAt base w x.R∧x.R.db=C.db
 low:base≤C.blk∧base≤C.mB∧∀ x∈C.qs,base≤x.blk
 away:∀ x∈C.qs,x.blk≠C.mB∧x.blk≠C.blk∧∀ k,x.R.foot k→k≠C.mB∧k≠C.blk∧k≠x.blk
 sep:C.qs.Pairwise fun x y=>∀ k,(k=x.blk∨x.R.foot k)→¬ (k=y.blk∨y.R.foot k)
def CqD.foot (C:CqD) (k:Nat):Prop:=k=C.blk∨k=C.mB∨∃ x∈C.qs,k=x.blk∨x.R.foot k
theorem CqAt.lt {base:Nat} {w:World} {C:CqD} (h:CqAt base w C) {k:Nat} (hk:C.foot k):k < w.heap.size:=by
 rcases hk with hk | hk | ⟨x,hx,hk | hk⟩
 · rw [hk]; exact (Array.getElem?_eq_some_iff.1 h.cells).1
 · rw [hk]; exact h.map.lt
 · rw [hk]; exact (Array.getElem?_eq_some_iff.1 (h.que x hx).1).1
 · exact (h.que x hx).2.1.lt hk
theorem CqAt.mod {base:Nat} {w w':World} {C:CqD} {M:Nat→Prop} (h:CqAt base w C) (hm:Mod M w w') (hM:∀ k,C.foot k→¬ M k):CqAt base w' C :=
 ⟨(hm.block _ (h.lt (.inl rfl)) (hM _ (.inl rfl))).trans h.cells,h.map.mod hm (hM _ (.inr (.inl rfl))),
  fun x hx=>⟨(hm.block _ (h.lt (.inr (.inr ⟨x,hx,.inl rfl⟩))) (hM _ (.inr (.inr ⟨x,hx,.inl rfl⟩)))).trans (h.que x hx).1,(h.que x hx).2.1.mod hm (fun k hk=>hM k (.inr (.inr ⟨x,hx,.inr hk⟩))),(h.que x hx).2.2⟩,h.low,h.away,h.sep⟩
theorem CqAt.below {base:Nat} {w w':World} {C:CqD} (h:CqAt base w C) (hb:Below w.heap.size w w'):CqAt base w' C :=
 h.mod (M:=fun _=>False) (Mod.of_below hb) (fun _ _ h=>h)
theorem cqnew_q {base:Nat} {D:DiskD} (w:World) (h:DiskAt base w D) (hfl:D.files.length≤1048576) (hnl:∀ p∈D.files,p.1.length≤maxLen) (hno:∀ x∈D.files.map (·.1),Lib.hasPrefix x [113,45]=false) (hbase:base≤w.heap.size) :
 Calls Tryz.prog 67 #[.pointer (some ⟨D.blk,0,none⟩)] w fun e w'=>∃ C,e=.returned (.tuple #[.pointer (some ⟨C.blk,0,none⟩),.int .i64 0])∧CqAt base w' C∧C.qs=[]∧C.db=D.blk∧Below w.heap.size w w'∧∀ k,C.foot k→w.heap.size≤k:=by
 have HL:=Lib.hid (list_q [113,45] w h hfl hnl hno)
 have HBS:=Lib.hid hbase
 clear h hfl hnl hno hbase
 have hmk:∀ w:World,(Instr.makeMap 166 none).run Tryz.prog w=.ok (.map (some w.heap.size)) (w.alloc (.map #[] 0)):=fun _=>rfl
 go_enter Tryz.func67,Tryz.ntmps67
 go_wp2_with fail
 refine HL.out.mono ?_
 rintro e w1 ⟨⟨a,c,rfl⟩,hb⟩
 have HB:=Lib.hid hb
 clear hb HL
 go_wp2_with fail
 go_ret2
 have hb1:=HB.out
 have hz:=hb1.size
 have hbs:=HBS.out
 refine ⟨⟨w1.heap.size+1,D.blk,w1.heap.size,[]⟩,by first | rfl | (rw [World.size_alloc]),⟨?_,?_,fun x hx=>absurd hx List.not_mem_nil,⟨by show base≤w1.heap.size+1; omega,by show base≤w1.heap.size; omega,fun x hx=>absurd hx List.not_mem_nil⟩,(fun x hx=>absurd hx List.not_mem_nil),List.Pairwise.nil⟩,rfl,rfl,?_,fun k hk=>?_⟩
 · have:=heap_alloc_new (w1.alloc (.map #[] 0)) (.cells #[.pointer (some ⟨D.blk,0,none⟩),.map (some w1.heap.size)] 168)
   rw [World.size_alloc] at this; exact this
 · exact (PairsAt.new w1).below ((Below.refl _ _).alloc (Nat.le_refl _) _)
 · exact (hb1.alloc hz _).alloc (by rw [World.size_alloc]; omega) _
 ·
  rcases hk with hk | hk | ⟨x,hx,_⟩
  · have:k=w1.heap.size+1:=hk
    omega
  · have:k=w1.heap.size:=hk
    omega
  · exact absurd hx List.not_mem_nil
def xlinks:List UInt8:=[120,45,108,105,110,107,115]
def xslots:List UInt8:=[120,45,115,108,111,116,115]
def wslots:List UInt8:=[119,45,115,108,111,116,115]
def wmarks:List UInt8:=[119,45,109,97,114,107,115]
def zeroL (n:Nat):List UInt8:=List.replicate n 0
theorem zero_str (n:Nat) (hn:n≤1048576) (w:World):(Instr.makeSlice 218 (.int .i64 (n:Int)) (.int .i64 (n:Int))).run Tryz.prog w=.ok (.slice (some ⟨w.heap.size,0,none⟩) n n) (w.alloc (.cells (zeros n) 5)) ∧
 (convert 218 9 (.slice (some ⟨w.heap.size,0,none⟩) n n)).run Tryz.prog (w.alloc (.cells (zeros n) 5))=.ok (.string (S (zeroL n))) (w.alloc (.cells (zeros n) 5)):=by
 obtain ⟨i0,hi,hz0,hz1,hz2⟩:=info_parts (show (Tryz.prog.info? 5).map (fun i=>(i.zero,i.size,i.bytes))=some (some (.int .u8 0),1,1) by kernel_rfl)
 refine ⟨run_make_bytes (P:=Tryz.prog) w 218 5 i0 Tryz.underlying218 hi hz0 hz1 hz2 n hn,?_⟩
 exact row_string (P:=Tryz.prog) (row_zeros w 5 n) 218 5 9 Tryz.underlying218 Tryz.underlying5 Tryz.underlying9 n n (by simp)
theorem not_pre {ns:List (List UInt8)} {hd n:List UInt8} (h:∀ x∈ns,Lib.hasPrefix x hd=false) (hn:Lib.hasPrefix n hd=true):n∉ns:=fun hm=>by
 rw [h n hm] at hn; cases hn
theorem wheelnew_q {base:Nat} {D:DiskD} (p:Nat) (hp:p≤1099511627776) (w:World) (h:DiskAt base w D) (hq:Quiet D) (hfl:D.files.length≤1000) (hnl:∀ p∈D.files,p.1.length≤maxLen) (hno:∀ x∈D.files.map (·.1),Lib.hasPrefix x [119,45]=false) (hr:96≤D.room) (hwl:D.waits.length≤1000) (hbase:base≤w.heap.size) :
 Calls Tryz.prog 127 #[.pointer (some ⟨D.blk,0,none⟩),.int .i64 (p:Int)] w fun e w'=>∃ b,e=.returned (.tuple #[.pointer (some ⟨b,0,none⟩),.int .i64 0])∧w'.heap[b]?=some (.cells #[.pointer (some ⟨D.blk,0,none⟩),.int .i64 (p:Int)] 285 (0,0))∧w.heap.size≤b ∧
  ∃ D',DiskAt base w' D'∧Grows D D' [wslots] 96 1∧Mod D.foot w w'∧(∀ k,D'.foot k→(D.foot k∨w.heap.size≤k)∧k≠b)∧∀ m,m≠wslots→D'.find m=D.find m:=by
 have HL:=Lib.hid (list_q [119,45] w h (by omega) hnl hno)
 have HC:=Lib.hid (fun (w2:World) (hb:Below w.heap.size w w2)=>create_q wslots w2 (h.below hb) hq (not_pre hno rfl) (Nat.le_trans hbase hb.size))
 have HZ:=Lib.hid (fun (w:World)=>zero_str 96 (by omega) w)
 have HR:=Lib.hid hr
 have HWL:=Lib.hid hwl
 have HBS:=Lib.hid hbase
 have HZ1:Hid (∀ w:World,(Instr.makeSlice 218 (.int .i64 96) (.int .i64 96)).run Tryz.prog w=.ok (.slice (some ⟨w.heap.size,0,none⟩) 96 96) (w.alloc (.cells (zeros 96) 5))):=fun w=>(HZ.out w).1
 have HZ2:Hid (∀ w:World,(convert 218 9 (.slice (some ⟨w.heap.size,0,none⟩) 96 96)).run Tryz.prog (w.alloc (.cells (zeros 96) 5))=.ok (.string (S (zeroL 96))) (w.alloc (.cells (zeros 96) 5))):=fun w=>(HZ.out w).2
 clear h hq hfl hnl hno hr hwl hbase HZ
 go_enter Tryz.func127,Tryz.ntmps127
 go_wp2_with fail
 refine HL.out.mono ?_
 rintro e w1 ⟨⟨a,c,rfl⟩,hb⟩
 have HB1:=Lib.hid hb
 clear hb HL
 go_wp2_with fail
 refine (HC.out w1 HB1.out).mono ?_
 rintro e w2 ⟨rfl,D1,hd1,hg1,hm1,hf1,⟨f,hff,hfn⟩,ho1⟩
 have HD1:=Lib.hid hd1
 have HG1:=Lib.hid hg1
 have HM1:=Lib.hid hm1
 have HF1:=Lib.hid hf1
 have HFF:=Lib.hid hff
 have HFN:=Lib.hid hfn
 have HO1:=Lib.hid ho1
 have hz1:=HZ1.out w2
 have hz2:=HZ2.out w2
 have HW:=Lib.hid (fun (w3:World) (hb:Below w2.heap.size w2 w3)=>write_q wslots f (zeroL 96) w3 (hd1.below hb) hg1.quiet hff 0 (by rw [hfn]; rfl) (by unfold zeroL; simp) (by unfold zeroL; simp) (by rw [hg1.room]; unfold zeroL; have:=HR.out; simp; omega) (by rw [hg1.waits]; have:=HWL.out; omega) (by have h1:=HBS.out; have h2:=HB1.out.size; have h3:=hm1.size; have h4:=hb.size; omega))
 rw [hg1.blk] at HW
 clear hd1 hg1 hm1 hf1 hff hfn ho1 HC
 go_wp2_with fail
 refine (HW.out _ ((Below.refl _ _).alloc (Nat.le_refl _) _)).mono ?_
 rintro e w3 ⟨rfl,D2,hd2,hg2,hm2,hf2,-,ho2⟩
 have HD2:=Lib.hid hd2
 have HG2:=Lib.hid hg2
 have HM2:=Lib.hid hm2
 have HF2:=Lib.hid hf2
 have HO2:=Lib.hid ho2
 clear hd2 hg2 hm2 hf2 ho2 HW hz1 hz2
 go_wp2_with fail
 go_ret2
 have hs1:=HB1.out.size
 have hs2:=HM1.out.size
 have hs3:=HM2.out.size
 rw [World.size_alloc] at hs3
 have hba:∀ o,Below w3.heap.size w3 (w3.alloc o):=fun o=>(Below.refl _ _).alloc (Nat.le_refl _) _
 have hfo:∀ k,D2.foot k→D.foot k∨w.heap.size≤k:=fun k hk=>by
  rcases HF2.out k hk with h | h
  · rcases HF1.out k h with h | h
    · exact .inl h
    · right; omega
  · rw [World.size_alloc] at h; right; omega
 have hm:Mod D.foot w w3:=by
  have h1:Mod D.foot w w2:=(Mod.of_below HB1.out).trans HM1.out
  have h2:Mod D1.foot w2 w3:=(Mod.of_below ((Below.refl _ _).alloc (Nat.le_refl _) _)).trans HM2.out
  exact mod_over h1 h2 (fun k hk=>(HF1.out k hk).imp_right fun h=>by omega)
 refine ⟨w3.heap.size,rfl,heap_alloc_new w3 _,by omega,D2,HD2.out.below (hba _),?_,hm.trans (Mod.of_below (hba _)),fun k hk=>⟨hfo k hk,fun e=>by have:=HD2.out.lt hk; omega⟩,fun m hne=>(HO2.out m hne).trans (HO1.out m hne)⟩
 have:=HG1.out.trans HG2.out
 simpa [zeroL] using this
theorem tlognew_q {base:Nat} {D:DiskD} (p:Nat) (hp:p≤1099511627776) (w:World) (h:DiskAt base w D) (hq:Quiet D) (hfl:D.files.length≤1000) (hnl:∀ p∈D.files,p.1.length≤maxLen) (hno:∀ x∈D.files.map (·.1),Lib.hasPrefix x [119,45]=false) (hr:96≤D.room) (hwl:D.waits.length≤1000) (hbase:base≤w.heap.size) :
 Calls Tryz.prog 69 #[.pointer (some ⟨D.blk,0,none⟩),.int .i64 (p:Int)] w fun e w'=>∃ b wb,e=.returned (.tuple #[.pointer (some ⟨b,0,none⟩),.int .i64 0])∧w'.heap[b]?=some (.cells #[.pointer (some ⟨wb,0,none⟩),.int .i64 0] 223 (0,0)) ∧
  w'.heap[wb]?=some (.cells #[.pointer (some ⟨D.blk,0,none⟩),.int .i64 (p:Int)] 285 (0,0))∧w.heap.size≤b∧w.heap.size≤wb∧b≠wb ∧
  ∃ D',DiskAt base w' D'∧Grows D D' [wslots,wmarks] 96 1∧Mod D.foot w w'∧(∀ k,D'.foot k→(D.foot k∨w.heap.size≤k)∧k≠b∧k≠wb)∧∀ m,m≠wslots→m≠wmarks→D'.find m=D.find m:=by
 have HWN:=Lib.hid (wheelnew_q p hp w h hq hfl hnl hno hr hwl hbase)
 have hnm:wmarks∉D.files.map (·.1):=not_pre hno rfl
 have HNM:=Lib.hid hnm
 have HBS:=Lib.hid hbase
 have HLT:Hid (∀ k,D.foot k→k < w.heap.size):=fun k hk=>h.lt hk
 clear h hq hfl hnl hno hr hwl hbase hnm
 go_enter Tryz.func69,Tryz.ntmps69
 go_wp2_with fail
 refine HWN.out.mono ?_
 rintro e w1 ⟨wb,rfl,hwb,hle,D1,hd1,hg1,hm1,hf1,ho1⟩
 have hdb:∀ k,D1.foot k→k≠wb:=fun k hk=>(hf1 k hk).2
 have HD1:=Lib.hid hd1
 have HG1:=Lib.hid hg1
 have HM1:=Lib.hid hm1
 have HF1:=Lib.hid hf1
 have HO1:=Lib.hid ho1
 have HWB:=Lib.hid hwb
 have HLE:=Lib.hid hle
 have HDB:=Lib.hid hdb
 have HC:=Lib.hid (create_q wmarks w1 hd1 hg1.quiet (by rw [hg1.names]; intro hm; rcases List.mem_append.1 hm with h | h; exact HNM.out h; revert h; decide) (by have:=HBS.out; have:=hm1.size; omega))
 rw [hg1.blk] at HC
 clear hd1 hg1 hm1 hf1 ho1 hwb hle hdb HWN
 go_wp2_with fail
 refine HC.out.mono ?_
 rintro e w2 ⟨rfl,D2,hd2,hg2,hm2,hf2,-,ho2⟩
 have HD2:=Lib.hid hd2
 have HG2:=Lib.hid hg2
 have HM2:=Lib.hid hm2
 have HF2:=Lib.hid hf2
 have HO2:=Lib.hid ho2
 clear hd2 hg2 hm2 hf2 ho2 HC
 go_wp2_with fail
 go_ret2
 have hs1:=HM1.out.size
 have hs2:=HM2.out.size
 have hle:=HLE.out
 have hwl:wb < w1.heap.size:=(Array.getElem?_eq_some_iff.1 HWB.out).1
 have hba:∀ o,Below w2.heap.size w2 (w2.alloc o):=fun o=>(Below.refl _ _).alloc (Nat.le_refl _) _
 have hwb2:w2.heap[wb]?=_:=(HM2.out.block wb hwl (fun h=>HDB.out wb h rfl)).trans HWB.out
 have hm:Mod D.foot w w2:=mod_over HM1.out HM2.out (fun k hk=>(HF1.out k hk).1)
 refine ⟨w2.heap.size,wb,rfl,heap_alloc_new w2 _,((hba _).block wb (by omega)).trans hwb2,by omega,hle,by omega,D2,HD2.out.below (hba _),?_,hm.trans (Mod.of_below (hba _)),fun k hk=>⟨?_,?_,fun e=>?_⟩,fun m h1 h2=>(HO2.out m h2).trans (HO1.out m h1)⟩
 · have:=HG1.out.trans HG2.out
   simpa using this
 · rcases HF2.out k hk with h | h
   · exact (HF1.out k h).1
   · right; omega
 · have:=HD2.out.lt hk; omega
 · rcases HF2.out k hk with h | h
   · exact HDB.out k h e
   · omega
structure Made (base:Nat) (D:DiskD) (w1 wr:World) (k:Nat) (Dk:DiskD):Prop where
 dsk:DiskAt base wr Dk
 grows:Grows D Dk (([xlinks,xslots]:List (List UInt8)).take k) 0 0
 mod:Mod D.foot w1 wr
 foot:∀ j,Dk.foot j→D.foot j∨w1.heap.size≤j
 find:k=2→∃ f,Dk.find xslots=some f∧f.now=[]
 findL:1≤k→∃ f,Dk.find xlinks=some f∧f.now=[]
 other:∀ m,m≠xlinks→m≠xslots→Dk.find m=D.find m
theorem keyxnew_q {base:Nat} {D:DiskD} (w:World) (h:DiskAt base w D) (hq:Quiet D) (hfl:D.files.length≤1000) (hnl:∀ p∈D.files,p.1.length≤maxLen) (hno:∀ x∈D.files.map (·.1),Lib.hasPrefix x [120,45]=false) (hr:24≤D.room) (hwl:D.waits.length≤1000) (hbase:base≤w.heap.size) :
 Calls Tryz.prog 68 #[.pointer (some ⟨D.blk,0,none⟩)] w fun e w'=>∃ b,e=.returned (.tuple #[.pointer (some ⟨b,0,none⟩),.int .i64 0])∧w'.heap[b]?=some (.cells #[.pointer (some ⟨D.blk,0,none⟩),.int .i64 0] 215 (0,0))∧w.heap.size≤b ∧
  ∃ D',DiskAt base w' D'∧Grows D D' [xlinks,xslots] 24 1∧Mod D.foot w w'∧(∀ k,D'.foot k→(D.foot k∨w.heap.size≤k)∧k≠b)∧(∀ m,m≠xlinks→m≠xslots→D'.find m=D.find m)∧(∃ f,D'.find xslots=some f∧f.now.length=24)∧∃ f,D'.find xlinks=some f∧f.now.length=0:=by
 have HL:=Lib.hid (list_q [120,45] w h (by omega) hnl hno)
 have hn1:xlinks∉D.files.map (·.1):=not_pre hno rfl
 have hn2:xslots∉D.files.map (·.1):=not_pre hno rfl
 have HN1:=Lib.hid hn1
 have HN2:=Lib.hid hn2
 have HZ:=Lib.hid (fun (w:World)=>zero_str 24 (by omega) w)
 have HR:=Lib.hid hr
 have HWL:=Lib.hid hwl
 have HBS:=Lib.hid hbase
 have HQ:=Lib.hid hq
 have HD:=Lib.hid h
 have HZ1:Hid (∀ w:World,(Instr.makeSlice 218 (.int .i64 24) (.int .i64 24)).run Tryz.prog w=.ok (.slice (some ⟨w.heap.size,0,none⟩) 24 24) (w.alloc (.cells (zeros 24) 5))):=fun w=>(HZ.out w).1
 have HZ2:Hid (∀ w:World,(convert 218 9 (.slice (some ⟨w.heap.size,0,none⟩) 24 24)).run Tryz.prog (w.alloc (.cells (zeros 24) 5))=.ok (.string (S (zeroL 24))) (w.alloc (.cells (zeros 24) 5))):=fun w=>(HZ.out w).2
 clear h hq hfl hnl hno hr hwl hbase HZ hn1 hn2
 go_enter Tryz.func68,Tryz.ntmps68
 go_wp2_with fail
 refine HL.out.mono ?_
 rintro e w1 ⟨⟨a,c,rfl⟩,hb⟩
 have HB1:=Lib.hid hb
 clear hb HL
 go_wp2_with fail
 have hb2:Below w1.heap.size w1 ((w1.alloc (.cells #[.pointer (some ⟨D.blk,0,none⟩),.int .i64 0] 215)).alloc (.cells #[.string ⟨#[120,45,108,105,110,107,115]⟩,.string ⟨#[120,45,115,108,111,116,115]⟩] 9)):=((Below.refl _ _).alloc (Nat.le_refl _) _).alloc (by rw [World.size_alloc]; omega) _
 have hi2:((w1.alloc (.cells #[.pointer (some ⟨D.blk,0,none⟩),.int .i64 0] 215)).alloc (.cells #[.string ⟨#[120,45,108,105,110,107,115]⟩,.string ⟨#[120,45,115,108,111,116,115]⟩] 9)).heap[w1.heap.size]?=some (.cells #[.pointer (some ⟨D.blk,0,none⟩),.int .i64 0] 215 (0,0)):=by
  rw [((Below.refl (w1.alloc (.cells #[.pointer (some ⟨D.blk,0,none⟩),.int .i64 0] 215)).heap.size _).alloc (Nat.le_refl _) _).block _ (by rw [World.size_alloc]; omega)]
  exact heap_alloc_new w1 _
 have hn2:((w1.alloc (.cells #[.pointer (some ⟨D.blk,0,none⟩),.int .i64 0] 215)).alloc (.cells #[.string ⟨#[120,45,108,105,110,107,115]⟩,.string ⟨#[120,45,115,108,111,116,115]⟩] 9)).heap[w1.heap.size+1]?=some (.cells #[.string ⟨#[120,45,108,105,110,107,115]⟩,.string ⟨#[120,45,115,108,111,116,115]⟩] 9 (0,0)):=by
  have:=heap_alloc_new (w1.alloc (.cells #[.pointer (some ⟨D.blk,0,none⟩),.int .i64 0] 215)) (.cells #[.string ⟨#[120,45,108,105,110,107,115]⟩,.string ⟨#[120,45,115,108,111,116,115]⟩] 9)
  rw [World.size_alloc] at this; exact this
 generalize (w1.alloc (.cells #[.pointer (some ⟨D.blk,0,none⟩),.int .i64 0] 215)).alloc (.cells #[.string ⟨#[120,45,108,105,110,107,115]⟩,.string ⟨#[120,45,115,108,111,116,115]⟩] 9)=w2 at *
 have hd2:DiskAt base w2 D:=(HD.out.below HB1.out).below hb2
 have hlt:∀ k,D.foot k→k < w1.heap.size:=fun k hk=>(HD.out.below HB1.out).lt hk
 have HLT:=Lib.hid hlt
 have HB2:=Lib.hid hb2
 have HI2:=Lib.hid hi2
 have HN2':=Lib.hid hn2
 have S0:Hid (∃ Dk,Made base D w2 w2 0 Dk):=⟨D,hd2,Grows.refl HQ.out,Mod.refl _ _,fun j hj=>.inl hj,fun h=>absurd h (by decide),fun h=>absurd h (by decide),fun _ _ _=>rfl⟩
 obtain ⟨gi,hgi⟩:∃ g,w1.heap.size=g:=⟨_,rfl⟩
 obtain ⟨gn,hgn⟩:∃ g,w1.heap.size+1=g:=⟨_,rfl⟩
 have HG:Hid (w1.heap.size=gi∧w1.heap.size+1=gn):=⟨hgi,hgn⟩
 rw [hgn,hgi]
 clear hb2 hi2 hn2 hd2 hlt hgi hgn
 go_loopw [29] (fun i wr=>∃ k:Nat,k≤2∧i=.int .i64 (k:Int)∧Hid (∃ Dk,Made base D w2 wr k Dk)) (fun i _=>2 - (intOf i).toNat)
 case atStart=>exact ⟨0,by omega,rfl,S0⟩
 case round =>
  clear S0
  obtain ⟨k,hk,rfl,HM⟩:=hrel
  obtain ⟨Dk,hM⟩:=HM.out
  have hgn:=HG.out.2
  have hnm:wr.heap[gn]?=some (.cells #[.string ⟨#[120,45,108,105,110,107,115]⟩,.string ⟨#[120,45,115,108,111,116,115]⟩] 9 (0,0)):=by
   rw [← hgn,hM.mod.block _ (Array.getElem?_eq_some_iff.1 HN2'.out).1 (fun h=>by have:=HLT.out _ h; omega)]; exact HN2'.out
  clear hgn HM
  have n0:wr.cell? ⟨gn,0,none⟩=some (.string (S xlinks)):=by rw [Lib.cell_of_heap hnm]; rfl
  have n1:wr.cell? ⟨gn,1,none⟩=some (.string (S xslots)):=by rw [Lib.cell_of_heap hnm]; rfl
  have hbl:=hM.grows.blk
  have hbw:base≤wr.heap.size:=by have h1:=HBS.out; have h2:=HB1.out.size; have h3:=HB2.out.size; have h4:=hM.mod.size; omega
  have hk3:k=0∨k=1∨k=2:=by omega
  rcases hk3 with rfl | rfl | rfl
  ·
   have hnk:xlinks∉Dk.files.map (·.1):=by rw [hM.grows.names]; simpa using HN1.out
   have HC:=Lib.hid (create_q xlinks wr hM.dsk hM.grows.quiet hnk hbw)
   rw [hbl] at HC
   have HMM:=Lib.hid hM
   clear hM hnm n1 hbl hbw hnk hk
   go_wp2_with fail
   refine HC.out.mono ?_
   rintro e w3 ⟨rfl,D',hd,hg,hm,hf,hfl0,ho⟩
   have HH:=Lib.hid (And.intro hd (And.intro hg (And.intro hm (And.intro hf (And.intro hfl0 ho)))))
   clear hd hg hm hf hfl0 ho HC n0
   go_wp2_with fail
   go_roundw
   case rel =>
    obtain ⟨hd,hg,hm,hf,hfl0,ho⟩:=HH.out
    have hM:=HMM.out
    have hs:=hM.mod.size
    refine ⟨1,by omega,rfl,D',hd,hM.grows.trans hg,mod_over hM.mod hm hM.foot,fun j hj=>(hf j hj).elim (hM.foot j) fun h=>.inr (by omega),fun h=>absurd h (by decide),fun _=>hfl0,fun m h1 h2=>(ho m h1).trans (hM.other m h1 h2)⟩
   case measure=>simp [intOf]
  ·
   have hnk:xslots∉Dk.files.map (·.1):=by
    rw [hM.grows.names]
    intro h
    rcases List.mem_append.1 h with h | h
    · exact HN2.out h
    · revert h; decide
   have HC:=Lib.hid (create_q xslots wr hM.dsk hM.grows.quiet hnk hbw)
   rw [hbl] at HC
   have HMM:=Lib.hid hM
   clear hM hnm n0 hbl hbw hnk hk
   go_wp2_with fail
   refine HC.out.mono ?_
   rintro e w3 ⟨rfl,D',hd,hg,hm,hf,hfi,ho⟩
   have HH:=Lib.hid (And.intro hd (And.intro hg (And.intro hm (And.intro hf (And.intro hfi ho)))))
   clear hd hg hm hf ho hfi HC n1
   go_wp2_with fail
   go_roundw
   case rel =>
    obtain ⟨hd,hg,hm,hf,hfi,ho⟩:=HH.out
    have hM:=HMM.out
    have hs:=hM.mod.size
    refine ⟨2,by omega,rfl,D',hd,hM.grows.trans hg,mod_over hM.mod hm hM.foot,fun j hj=>(hf j hj).elim (hM.foot j) fun h=>.inr (by omega),fun _=>hfi,fun _=>by rw [ho xlinks (by decide)]; exact hM.findL (by omega),fun m h1 h2=>(ho m h2).trans (hM.other m h1 h2)⟩
   case measure=>simp [intOf]
  ·
   obtain ⟨f,hff,hfn⟩:=hM.find rfl
   have hz1:=HZ1.out wr
   have hz2:=HZ2.out wr
   have hgw:=hM.grows.waits
   have hgr:=hM.grows.room
   have HW:=Lib.hid (fun (w3:World) (hb:Below wr.heap.size wr w3)=>write_q xslots f (zeroL 24) w3 (hM.dsk.below hb) hM.grows.quiet hff 0 (by rw [hfn]; rfl) (by unfold zeroL; simp) (by unfold zeroL; simp) (by rw [hgr]; unfold zeroL; have:=HR.out; simp; omega) (by rw [hgw]; have:=HWL.out; omega) (by have h4:=hb.size; omega))
   rw [hbl] at HW
   have HMM:=Lib.hid hM
   have hfn0:=hfn
   clear hM hnm n0 n1 hbl hk hff hfn hgw hgr
   go_wp2_with fail
   refine (HW.out _ ((Below.refl _ _).alloc (Nat.le_refl _) _)).mono ?_
   rintro e w3 ⟨rfl,D2,hd2,hg2,hm2,hf2,hfs2,ho2⟩
   have HFS:Hid (∃ f':FileD,D2.find xslots=some f'∧f'.now.length=24):=by
    obtain ⟨f',a1,a2⟩:=hfs2
    exact ⟨f',a1,by rw [a2,hfn0]; unfold zeroL; simp⟩
   have HH:=Lib.hid (And.intro hd2 (And.intro hg2 (And.intro hm2 (And.intro hf2 ho2))))
   clear hd2 hg2 hm2 hf2 hfs2 ho2 HW hz1 hz2
   go_wp2_with fail
   go_ret2
   obtain ⟨hd,hg,hm,hf,ho⟩:=HH.out
   have hM:=HMM.out
   have hs:=hM.mod.size
   have hgi:=HG.out.1
   have hs1:=HB1.out.size
   have hs2:=HB2.out.size
   have hs3:=hm.size
   rw [World.size_alloc] at hs3
   have hi:gi < w2.heap.size:=by rw [← hgi]; exact (Array.getElem?_eq_some_iff.1 HI2.out).1
   have hmr:Mod D.foot w2 w3:=mod_over hM.mod ((Mod.of_below (M:=Dk.foot) ((Below.refl _ _).alloc (Nat.le_refl _) _)).trans hm) hM.foot
   have hdi:¬ D.foot gi:=fun h=>by have:=HLT.out _ h; omega
   have hfi:∀ j,D2.foot j→(D.foot j∨w.heap.size≤j)∧j≠gi:=fun j hj=>by
    rcases hf j hj with h | h
    · rcases hM.foot j h with h2 | h2
      · exact ⟨.inl h2,fun e=>hdi (e ▸ h2)⟩
      · exact ⟨.inr (by omega),fun e=>by omega⟩
    · rw [World.size_alloc] at h
      exact ⟨.inr (by omega),fun e=>by omega⟩
   refine ⟨gi,rfl,?_,by omega,D2,hd,?_,?_,hfi,fun m h1 h2=>(ho m h2).trans (hM.other m h1 h2),HFS.out,?_⟩
   · rw [hmr.block gi hi hdi,← hgi]; exact HI2.out
   · have:=hM.grows.trans hg
     simpa [zeroL] using this
   · exact (Mod.of_below (HB1.out.trans (HB2.out.mono HB1.out.size))).trans hmr
   · obtain ⟨g,g1,g2⟩:=hM.findL (by omega)
     exact ⟨g,by rw [ho xlinks (by decide)]; exact g1,by rw [g2]; rfl⟩
end Go.Proofs.YtnoehodmmkioaaaGreatDoor.CacheW
namespace Go.Proofs.YtnoehodmmkioaaaGreatDoor.TopW
open Go.RowKit Go.MapKept OctMath DskW NameMath NameW
def RowT (w:World) (a:Option Addr) (l:List (List UInt8×Nat)):Prop:=∀ (k:Nat) (h:k < l.length),∃ g,a=some ⟨g,0,none⟩∧g < w.heap.size∧w.cell? ⟨g,k * 2,none⟩=some (.string (S l[k].1))∧w.cell? ⟨g,k * 2+1,none⟩=some (.int .i64 (l[k].2:Int))
theorem RowT.below {w w':World} {a:Option Addr} {l:List (List UInt8×Nat)} (h:RowT w a l) (hb:Below w.heap.size w w'):RowT w' a l:=by
 intro k hk
 obtain ⟨g,e,hl,h1,h2⟩:=h k hk
 exact ⟨g,e,Nat.lt_of_lt_of_le hl hb.size,by rw [hb.cell hl]; exact h1,by rw [hb.cell hl]; exact h2⟩
theorem there_any (x n:List UInt8) (q:Nat) (bx:Nat) (w:World) (hc:w.cell? ⟨bx,0,none⟩=some (.string (S n))) :
 Calls Tryz.prog 84 #[.agg #[.string (S x),.int .i64 (q:Int)],.pointer (some ⟨bx,0,none⟩)] w fun e w'=>e=.returned (.bool (decide (x=n)))∧Below w.heap.size w w':=by
 have hb:Hid (Below w.heap.size w (w.alloc (.cells #[.string (S x),.int .i64 (q:Int)] 66))):=(Below.refl _ _).alloc (Nat.le_refl _) _
 have hc2:(w.alloc (.cells #[.string (S x),.int .i64 (q:Int)] 66)).cell? ⟨bx,0,none⟩=some (.string (S n)):=by rw [hb.out.cell (cell_lt hc)]; exact hc
 have HE:Hid (((S x).toList == (S n).toList)=decide (x=n)):=by
  show _=_
  rw [DskW.S_toList,DskW.S_toList]
  by_cases h:x=n <;> simp [h]
 clear hc
 go_enter Tryz.func84,Tryz.ntmps84
 go_wp2_with fail
 go_ret
 rw [← HE.out]
 exact ⟨rfl,hb.out⟩
def idxT (n:List UInt8):List (List UInt8×Nat)→Nat→Int
 | [],_ => -1
 | x :: l,i=>if x.1=n then (i:Int) else idxT n l (i+1)
theorem idxT_hit (n:List UInt8):∀ (l:List (List UInt8×Nat)) (k i:Nat) (h:k < l.length),(∀ j (hj:j < k),(l[j]'(by omega)).1≠n)→l[k].1=n→idxT n l i=((i+k:Nat):Int)
 | x :: l,0,i,h,_,he=>by show (if x.1=n then (i:Int) else _)=_; rw [if_pos (show x.1=n from he)]; rfl
 | x :: l,k+1,i,h,hn,he=>by
   show (if x.1=n then (i:Int) else idxT n l (i+1))=_
   rw [if_neg (show ¬ x.1=n from hn 0 (by omega)),idxT_hit n l k (i+1) (by simpa using h) (fun j hj=>hn (j+1) (by omega)) he]
   congr 1; omega
theorem idxT_none (n:List UInt8):∀ (l:List (List UInt8×Nat)) (i:Nat),(∀ x∈l,x.1≠n)→idxT n l i = -1
 | [],_,_=>rfl
 | x :: l,i,h=>by show (if x.1=n then (i:Int) else idxT n l (i+1))=_; rw [if_neg (h x (.head _)),idxT_none n l (i+1) (fun y hy=>h y (.tail _ hy))]
theorem index_t (a:Option Addr) (cp:Nat) (l:List (List UInt8×Nat)) (hx:l.length≤1048576) (bx:Nat) (n:List UInt8) (w:World) (hr:RowT w a l) (hs:w.cell? ⟨bx,0,none⟩=some (.string (S n))) :
 Calls Tryz.prog 144 #[.slice a l.length cp,.func (.func 84) #[] #[.pointer (some ⟨bx,0,none⟩)]] w fun e w'=>e=.returned (.int .i64 (idxT n l 0))∧Below w.heap.size w w':=by
 have HR:=Lib.hid hr
 have HS:=Lib.hid hs
 clear hr hs
 go_enter Tryz.func144,Tryz.ntmps144
 go_wp2_with fail
 go_loopw [8] (fun i wr=>∃ k:Nat,k≤l.length∧i=.int .i64 (k:Int)∧Hid (∀ x∈l.take k,x.1≠n)∧Hid (Below w.heap.size w wr)) (fun i _=>l.length+1 - (intOf i).toNat)
 case atStart=>exact ⟨0,by omega,rfl,fun x hx=>by simp at hx,Below.refl _ _⟩
 case round =>
  obtain ⟨k,hk,rfl,HA,HB⟩:=hrel
  by_cases hlt:k < l.length
  ·
   obtain ⟨g,rfl,hgl,h1,h2⟩:=(HR.out.below HB.out) k hlt
   have HCL:=Lib.hid (there_any l[k].1 n l[k].2 bx wr (by rw [HB.out.cell (cell_lt HS.out)]; exact HS.out))
   have hst:l.take (k+1)=l.take k++[l[k]]:=List.take_succ_eq_append_getElem hlt
   by_cases he:l[k].1=n
   ·
    have HT:Hid (idxT n l 0=(k:Int)):=by
     show _=_
     rw [idxT_hit n l k 0 hlt (fun j hj=>HA.out _ (List.mem_take_iff_getElem.2 ⟨j,by omega,rfl⟩)) he,Nat.zero_add]
    rw [decide_eq_true he] at HCL
    clear hst he
    go_wp2_with fail
    refine HCL.out.mono ?_
    rintro e w2 ⟨rfl,hb⟩
    have HB2:=Lib.hid (HB.out.trans (hb.mono HB.out.size))
    clear hb HCL h1 h2
    go_wp2_with fail
    go_ret
    rw [HT.out]
    exact ⟨rfl,HB2.out⟩
   ·
    have HA2:Hid (∀ x∈l.take (k+1),x.1≠n):=by
     show ∀ x∈l.take (k+1),x.1≠n
     rw [hst]
     intro x hx
     rcases List.mem_append.1 hx with h | h
     · exact HA.out x h
     · rw [List.mem_singleton] at h; subst h; exact he
    rw [decide_eq_false he] at HCL
    clear hst he
    go_wp2_with fail
    refine HCL.out.mono ?_
    rintro e w2 ⟨rfl,hb⟩
    have HB2:=Lib.hid (HB.out.trans (hb.mono HB.out.size))
    clear hb HCL h1 h2
    go_wp2_with fail
    go_roundw
    case rel=>exact ⟨k+1,by omega,by go_num,HA2,HB2⟩
    case measure=>simp [intOf]; omega
  ·
   obtain rfl:k=l.length:=by omega
   have HT:Hid (idxT n l 0 = -1):=by
    show _=_
    have:=HA.out
    rw [List.take_length] at this
    exact idxT_none n l 0 this
   go_wp2_with fail
   go_ret
   rw [HT.out]
   exact ⟨rfl,HB.out⟩
theorem idxT_ge (n:List UInt8):∀ (l:List (List UInt8×Nat)) (i:Nat),decide (0≤idxT n l i)=l.any fun x=>decide (x.1=n)
 | [],_=>rfl
 | x :: l,i=>by
   show decide (0≤if x.1=n then (i:Int) else idxT n l (i+1))=(decide (x.1=n) || _)
   by_cases h:x.1=n
   · rw [if_pos h,decide_eq_true h,Bool.true_or]; exact decide_eq_true (by omega)
   · rw [if_neg h,decide_eq_false h,Bool.false_or]; exact idxT_ge n l (i+1)
theorem contains_t (a:Option Addr) (cp:Nat) (l:List (List UInt8×Nat)) (hx:l.length≤1048576) (bx:Nat) (n:List UInt8) (w:World) (hr:RowT w a l) (hs:w.cell? ⟨bx,0,none⟩=some (.string (S n))) :
 Calls Tryz.prog 86 #[.slice a l.length cp,.func (.func 84) #[] #[.pointer (some ⟨bx,0,none⟩)]] w fun e w'=>e=.returned (.bool (l.any fun x=>decide (x.1=n)))∧Below w.heap.size w w':=by
 have HI:=Lib.hid (index_t a cp l hx bx n w hr hs)
 have HG:=Lib.hid (idxT_ge n l 0)
 generalize idxT n l 0=r at *
 clear hr hs
 go_enter Tryz.func86,Tryz.ntmps86
 go_wp2_with fail
 refine HI.out.mono ?_
 rintro e w2 ⟨rfl,hb⟩
 have HB:=Lib.hid hb
 clear hb HI
 go_wp2_with fail
 go_ret
 rw [← HG.out]
 exact ⟨rfl,HB.out⟩
def rightT (l:List (List UInt8×Nat)) (n:List UInt8) (q:Int):Int:=if plainL n=false then 11 else if q < 1∨3 < q then 1 else if (l.any fun x=>decide (x.1=n))=true then 10 else if 6≤l.length then 6 else 0
theorem right_any (a:Option Addr) (cp:Nat) (l:List (List UInt8×Nat)) (hx:l.length≤1048576) (n:List UInt8) (hn:n.length≤1099511627776) (q:Int) (w:World) (hr:RowT w a l) :
 Calls Tryz.prog 43 #[.slice a l.length cp,.agg #[.string (S n),.int .i64 q]] w fun e w'=>e=.returned (.int .i64 (rightT l n q))∧Below w.heap.size w w':=by
 have HB0:Hid (Below w.heap.size w (w.alloc (.cells #[.string (S n),.int .i64 q] 66))):=(Below.refl _ _).alloc (Nat.le_refl _) _
 have HT:Hid (rightT l n q=if plainL n=false then 11 else if q < 1∨3 < q then 1 else if (l.any fun x=>decide (x.1=n))=true then 10 else if 6≤l.length then 6 else 0):=rfl
 have HP:=Lib.hid (fun w=>plain_any n hn w)
 have hh:=heap_alloc_new w (.cells #[.string (S n),.int .i64 q] 66)
 have HHW:=Lib.hid hh
 have HRW:=Lib.hid (hr.below HB0.out)
 generalize plainL n=pl at *
 clear hr hh
 go_enter Tryz.func43,Tryz.ntmps43
 go_upto_region 1 with fail
 generalize w.alloc (.cells #[.string (S n),.int .i64 q] 66)=w1 at *
 obtain ⟨A,hA⟩:∃ A,w.heap.size=A:=⟨_,rfl⟩
 rw [hA] at HHW ⊢
 have HAA:=Lib.hid hA
 clear hA
 have c0:w1.cell? ⟨A,0,none⟩=some (.string (S n)):=by rw [Lib.cell_of_heap HHW.out]; rfl
 go_wp2_with fail
 refine (HP.out w1).mono ?_
 rintro e w2 ⟨rfl,hb⟩
 have HB2:=Lib.hid (HB0.out.trans (hb.mono HB0.out.size))
 have hh2:w2.heap[A]?=_:=(hb.block A (Array.getElem?_eq_some_iff.1 HHW.out).1).trans HHW.out
 have HH2:=Lib.hid hh2
 have HR2:=Lib.hid (HRW.out.below hb)
 have d1:w2.cell? ⟨A,1,none⟩=some (.int .i64 q):=by rw [Lib.cell_of_heap hh2]; rfl
 clear hb hh2 HP c0 HHW HB0
 cases pl
 ·
  go_wp2_with fail
  go_ret
  rw [HT.out,← HAA.out]
  exact ⟨rfl,HB2.out⟩
 by_cases hq1:q < 1
 ·
  have hd:decide (q < 1)=true:=decide_eq_true hq1
  have HQ:Hid (rightT l n q=1):=by show _=_; rw [HT.out,if_neg (by decide),if_pos (.inl hq1)]
  clear hq1
  go_wp2_with fail
  go_ret
  rw [HQ.out,← HAA.out]
  exact ⟨rfl,HB2.out⟩
 have hd1:decide (q < 1)=false:=decide_eq_false hq1
 by_cases hq3:3 < q
 ·
  have hd:decide (3 < q)=true:=decide_eq_true hq3
  have HQ:Hid (rightT l n q=1):=by show _=_; rw [HT.out,if_neg (by decide),if_pos (.inr hq3)]
  clear hq1 hq3
  go_wp2_with fail
  go_ret
  rw [HQ.out,← HAA.out]
  exact ⟨rfl,HB2.out⟩
 have hd3:decide (3 < q)=false:=decide_eq_false hq3
 have HQ:Hid (rightT l n q=if (l.any fun x=>decide (x.1=n))=true then 10 else if 6≤l.length then 6 else 0):=by
  show _=_
  rw [HT.out,if_neg (by decide),if_neg (by omega)]
 have HC:=Lib.hid (contains_t a cp l hx A n w2 HR2.out (by rw [Lib.cell_of_heap HH2.out]; rfl))
 clear hq1 hq3
 generalize (l.any fun x=>decide (x.1=n))=an at *
 go_wp2_with fail
 refine HC.out.mono ?_
 rintro e w3 ⟨rfl,hb⟩
 have HB3:=Lib.hid (HB2.out.trans (hb.mono HB2.out.size))
 clear hb HC
 cases an
 ·
  by_cases h6:6≤l.length
  ·
   have hd6:decide ((6:Int)≤(l.length:Int))=true:=decide_eq_true (by omega)
   have HQ6:Hid (rightT l n q=6):=by show _=_; rw [HQ.out,if_neg (by decide),if_pos h6]
   clear h6
   go_wp2_with fail
   go_ret
   rw [HQ6.out,← HAA.out]
   exact ⟨rfl,HB3.out⟩
  ·
   have hd6:decide ((6:Int)≤(l.length:Int))=false:=decide_eq_false (by omega)
   have HQ6:Hid (rightT l n q=0):=by show _=_; rw [HQ.out,if_neg (by decide),if_neg h6]
   clear h6
   go_wp2_with fail
   go_ret
   rw [HQ6.out,← HAA.out]
   exact ⟨rfl,HB3.out⟩
 ·
  go_wp2_with fail
  go_ret
  rw [HQ.out,← HAA.out]
  exact ⟨rfl,HB3.out⟩
def cellsT (l:List (List UInt8×Nat)):List Value:=l.flatMap fun x=>[.string (S x.1),.int .i64 (x.2:Int)]
theorem cellsT_len (l:List (List UInt8×Nat)):(cellsT l).length=l.length * 2:=by
 unfold cellsT
 induction l with
 | nil=>rfl
 | cons x l ih=>simp only [List.flatMap_cons,List.length_append,ih,List.length_cons,List.length_nil]; omega
theorem cellsT_get:∀ (l:List (List UInt8×Nat)) (k:Nat) (h:k < l.length),(cellsT l)[k * 2]?=some (.string (S l[k].1))∧(cellsT l)[k * 2+1]?=some (.int .i64 (l[k].2:Int))
 | x :: l,0,_=>⟨rfl,rfl⟩
 | x :: l,k+1,h=>by
   have ih:=cellsT_get l k (by simpa using h)
   have e:cellsT (x :: l)=.string (S x.1) :: .int .i64 (x.2:Int) :: cellsT l:=rfl
   rw [e,show (k+1) * 2=k * 2+2 by omega]
   exact ih
theorem RowT.own {base:Nat} {w:World} {v:Value} {l:List (List UInt8×Nat)} (h:w.ownsRow base 66 2 v l.length (cellsT l)):∃ a cp,v=.slice a l.length cp∧RowT w a l:=by
 rcases h.2 with ⟨rfl,h0⟩ | ⟨g,cap,cur,rfl,hb,hg,hn,hm,hc,ht⟩
 · exact ⟨none,0,by rw [h0],fun k hk=>by omega⟩
 ·
  refine ⟨_,_,rfl,fun k hk=>⟨g,rfl,(Array.getElem?_eq_some_iff.1 hg).1,?_,?_⟩⟩
  all_goals
   rw [Lib.cell_of_heap hg]
  · have h1:=(cellsT_get l k hk).1
    rw [← ht,List.getElem?_take,if_pos (by omega)] at h1
    simpa using h1
  · have h1:=(cellsT_get l k hk).2
    rw [← ht,List.getElem?_take,if_pos (by omega)] at h1
    simpa using h1
theorem append_topic {base:Nat} {w:World} {v:Value} {l:List (List UInt8×Nat)} (h:w.ownsRow base 66 2 v l.length (cellsT l)) (n:List UInt8) (q:Nat) (hl:l.length≤1048576) (hbase:base≤w.heap.size) :
 ∃ v' w8,(Builtin.append_ #[63,63] 63 #[v,.slice (some ⟨w.heap.size,0,none⟩) 1 1]).run Tryz.prog (w.alloc (.cells #[.string (S n),.int .i64 (q:Int)] 66))=.ok v' w8 ∧
  w8.ownsRow base 66 2 v' (l.length+1) (cellsT (l++[(n,q)]))∧(w.alloc (.cells #[.string (S n),.int .i64 (q:Int)] 66)).grownBy w8 v.ownBlock:=by
 have hb7:Below w.heap.size w (w.alloc (.cells #[.string (S n),.int .i64 (q:Int)] 66)):=(Below.refl _ _).alloc (Nat.le_refl _) _
 have hown:(w.alloc (.cells #[.string (S n),.int .i64 (q:Int)] 66)).ownsRow base 66 2 v l.length (cellsT l):=OctW.ownsRow_mod h (Mod.of_below (M:=fun _=>False) hb7) (fun _ x=>x.elim)
 obtain ⟨i0,hi0,hz0,hz1,hz2⟩:∃ i,Tryz.prog.info? 66=some i∧i.zero=some (.agg #[.string ⟨#[]⟩,.int .i64 0])∧i.size=2∧i.bytes=24:=by
  have:=(show (Tryz.prog.info? 66).map (fun i=>(i.zero,i.size,i.bytes))=some (some (.agg #[.string ⟨#[]⟩,.int .i64 0]),2,24) by kernel_rfl)
  cases hh:Tryz.prog.info? 66 with
  | none=>rw [hh] at this; cases this
  | some i=>rw [hh] at this; have h2:=Option.some.inj this; exact ⟨i,rfl,congrArg (·.1) h2,congrArg (·.2.1) h2,congrArg (·.2.2) h2⟩
 obtain ⟨v',w8,hr,hrow,hgb,_,hob⟩:=run_append_own_at (P:=Tryz.prog) _ base 63 63 66 i0 (.agg #[.string ⟨#[]⟩,.int .i64 0]) 2 24 Tryz.underlying63 hi0 hz0 hz1 hz2 rfl (by omega) _ _ _ hown
  ⟨w.heap.size,0,none⟩ 1 1 [.string (S n),.int .i64 (q:Int)] rfl (fun j u hu=>by
   have hadd:(⟨w.heap.size,0,none⟩:Addr).add j=⟨w.heap.size,j,none⟩:=by unfold Addr.add; split <;> simp_all
   rw [hadd,World.cell?_alloc_new]
   match j,hu with
   | 0,hu=>exact hu
   | 1,hu=>exact hu
   | j+2,hu=>cases hu) (fun u hu=>by
   simp only [List.mem_cons,List.not_mem_nil,or_false] at hu
   rcases hu with rfl | rfl <;> rfl) (by unfold maxLen; omega) (by omega) (Nat.le_trans hbase hb7.size)
 have hws:cellsT l++[.string (S n),.int .i64 (q:Int)]=cellsT (l++[(n,q)]):=by unfold cellsT; simp
 exact ⟨v',w8,hr,by rw [← hws]; exact hrow,hgb⟩
open OctW
def getL:Nat→RS→List (List UInt8×Nat)→Option (List (List UInt8×Nat)×RS)
 | 0,r,l=>some (l,r)
 | n+1,r,l=>if (numR 1 (textR 16 r).2).2.e≠0 then none else if rightT l (textR 16 r).1 ((numR 1 (textR 16 r).2).1:Int)≠0 then none else getL n (numR 1 (textR 16 r).2).2 (l++[((textR 16 r).1,(numR 1 (textR 16 r).2).1)])
def getT (s:List UInt8):List (List UInt8×Nat)×Bool:=match getL (numR 1 ⟨s,0⟩).1 (numR 1 ⟨s,0⟩).2 [] with
 | none=>([],false)
 | some x=>(x.1,decide (endR x.2=0))
theorem rightT_room {l:List (List UInt8×Nat)} {n:List UInt8} {q:Int} (h:rightT l n q=0):l.length < 6:=by
 unfold rightT at h
 split at h
 · cases h
 ·
  split at h
  · cases h
  ·
   split at h
   · cases h
   · split at h
     · cases h
     · omega
theorem get_any (s:List UInt8) (hs:s.length≤1073741824) (W:World) :
 Calls Tryz.prog 116 #[.string (S s)] W fun e w'=>∃ v,e=.returned (.tuple #[v,.bool (getT s).2])∧w'.ownsRow W.heap.size 66 2 v (getT s).1.length (cellsT (getT s).1)∧Below W.heap.size W w':=by
 have HG:Hid (getT s=match getL (numR 1 ⟨s,0⟩).1 (numR 1 ⟨s,0⟩).2 [] with
  | none=>([],false)
  | some x=>(x.1,decide (endR x.2=0))):=rfl
 obtain ⟨i0,hi0,hz0,hz1,hz2⟩:∃ i,Tryz.prog.info? 66=some i∧i.zero=some (.agg #[.string ⟨#[]⟩,.int .i64 0])∧i.size=2∧i.bytes=24:=by
  have:=(show (Tryz.prog.info? 66).map (fun i=>(i.zero,i.size,i.bytes))=some (some (.agg #[.string ⟨#[]⟩,.int .i64 0]),2,24) by kernel_rfl)
  cases hh:Tryz.prog.info? 66 with
  | none=>rw [hh] at this; cases this
  | some i=>rw [hh] at this; have h2:=Option.some.inj this; exact ⟨i,rfl,congrArg (·.1) h2,congrArg (·.2.1) h2,congrArg (·.2.2) h2⟩
 go_enter Tryz.func116,Tryz.ntmps116
 go_wp2_with fail
 refine (OctW.new_any s W).mono ?_
 rintro e w1 ⟨rfl,hr1,hb1⟩
 have hlt:=(Array.getElem?_eq_some_iff.1 hr1).1
 obtain ⟨B,hB⟩:∃ B,W.heap.size=B:=⟨_,rfl⟩
 rw [hB] at hr1 hb1 hlt ⊢
 have HBB:=Lib.hid hB
 have HB1:=Lib.hid hb1
 have HLT:Hid (B+1≤w1.heap.size):=hlt
 have HNU:=Lib.hid (OctW.num_any B ⟨s,0⟩ 1 (by omega) (by omega) (by show s.length≤_; omega) w1 hr1)
 have hnl:=numR_len 1 ⟨s,0⟩
 have hnv:(numR 1 ⟨s,0⟩).1 < 256:=by
  unfold numR
  rw [if_neg (by simp),if_neg (by omega)]
  have h:=val_lt (takeR 1 ⟨s,0⟩).1
  have h3:256 ^ (takeR 1 ⟨s,0⟩).1.length≤256 ^ 1:=Nat.pow_le_pow_right (by decide) (OctW.takeR_out 1 ⟨s,0⟩)
  exact Nat.lt_of_lt_of_le h h3
 clear hB hb1 hlt hr1
 generalize (numR 1 ⟨s,0⟩).1=N at *
 generalize (numR 1 ⟨s,0⟩).2=r0 at *
 replace hnl:r0.s.length≤s.length:=hnl
 go_wp2_with fail
 refine HNU.out.mono ?_
 rintro e w2 ⟨rfl,hr2,ho2⟩
 have HM2:Hid (Below B W w2):=HB1.out.trans (ho2.to_below _ (by have:=HLT.out; omega) fun k e=>by omega)
 have HR2:=Lib.hid hr2
 have HL2:Hid (B+1≤w2.heap.size):=Nat.le_trans HLT.out ho2.size
 clear hr2 ho2 HNU HB1 HLT
 go_wp2_with fail
 go_loopw [5,11] (fun v i wr=>∃ (k:Nat) (l:List (List UInt8×Nat)) (r:RS),k≤N∧i=.int .i64 (k:Int)∧l.length≤6∧r.s.length≤s.length∧Hid (getL (N - k) r l=getL N r0 [])∧Hid (wr.ownsRow (B+1) 66 2 v l.length (cellsT l))∧Hid (Rd B r wr)∧Hid (Below B W wr)∧Hid (B+1≤wr.heap.size)) (fun _ i _=>N+1 - (intOf i).toNat)
 case atStart=>exact ⟨0,[],r0,by omega,rfl,by simp,hnl,by simp [Hid],⟨rfl,.inl ⟨rfl,rfl⟩⟩,HR2.out,HM2.out,HL2.out⟩
 case round =>
  clear HR2 HM2 HL2
  obtain ⟨k,l,r,hk,rfl,hl6,hrs,HE,HO,HR,HB,HZ⟩:=hrel
  obtain ⟨a,cp,hv,hrow⟩:=RowT.own HO.out
  subst hv
  have HRW:=Lib.hid hrow
  clear hrow
  by_cases hlt:k < N
  ·
   have hgl:getL (N - k) r l=_:=show getL (N - k) r l=getL (N - (k+1)+1) r l by rw [show N - (k+1)+1=N - k by omega]
   rw [getL] at hgl
   have HTX:=Lib.hid (OctW.text_any B r 16 (by omega) (by omega) (by omega) wr HR.out)
   have htl:=RecW.text_text 16 r
   have hsl:=textR_len 16 r
   generalize (textR 16 r).1=t at *
   generalize (textR 16 r).2=r1 at *
   have HGL:=Lib.hid hgl
   clear hgl
   go_wp2_with fail
   refine HTX.out.mono ?_
   rintro e w3 ⟨rfl,hr3,ho3⟩
   have HNM:=Lib.hid (OctW.num_any B r1 1 (by omega) (by omega) (by omega) w3 hr3)
   have hnl3:=numR_len 1 r1
   generalize (numR 1 r1).1=q at *
   generalize (numR 1 r1).2=r2 at *
   have HB3:Hid (Below B W w3):=HB.out.trans (ho3.to_below _ (by have:=HZ.out; omega) fun k e=>by omega)
   have HZ3:Hid (B+1≤w3.heap.size):=Nat.le_trans HZ.out ho3.size
   have HO3:Hid (w3.ownsRow (B+1) 66 2 (.slice a l.length cp) l.length (cellsT l)):=ownsRow_mod HO.out ho3 (fun g hg=>by omega)
   clear hr3 ho3 HTX HR HO HB HZ HRW
   go_wp2_with fail
   refine HNM.out.mono ?_
   rintro e w4 ⟨rfl,hr4,ho4⟩
   have HB4:Hid (Below B W w4):=HB3.out.trans (ho4.to_below _ (by have:=HZ3.out; omega) fun k e=>by omega)
   have HZ4:Hid (B+1≤w4.heap.size):=Nat.le_trans HZ3.out ho4.size
   have HO4:Hid (w4.ownsRow (B+1) 66 2 (.slice a l.length cp) l.length (cellsT l)):=ownsRow_mod HO3.out ho4 (fun g hg=>by omega)
   have HR4:=Lib.hid hr4
   clear hr4 ho4 HNM HB3 HZ3 HO3
   go_wp2_with fail
   --M1
   have HB5:Hid (Below w4.heap.size w4 (w4.alloc (.cells #[.string (S t),.int .i64 (q:Int)] 66))):=(Below.refl _ _).alloc (Nat.le_refl _) _
   have hc5:=heap_alloc_new w4 (.cells #[.string (S t),.int .i64 (q:Int)] 66)
   obtain ⟨C,hC⟩:∃ C,w4.heap.size=C:=⟨_,rfl⟩
   have HCC:=Lib.hid hC
   have hz5:C+1≤(w4.alloc (.cells #[.string (S t),.int .i64 (q:Int)] 66)).heap.size:=by rw [World.size_alloc,hC]; exact Nat.le_refl _
   rw [hC] at hc5 ⊢
   generalize w4.alloc (.cells #[.string (S t),.int .i64 (q:Int)] 66)=w5 at *
   have HC5:=Lib.hid hc5
   have HZ5:=Lib.hid hz5
   have HR5:Hid (Rd B r2 w5):=(HB5.out.block B (by have:=HZ4.out; omega)).trans HR4.out
   have HO5:Hid (w5.ownsRow (B+1) 66 2 (.slice a l.length cp) l.length (cellsT l)):=ownsRow_mod HO4.out (Mod.of_below (M:=fun _=>False) HB5.out) (fun _ x=>x.elim)
   have HBW:Hid (Below B W w5):=HB4.out.trans (HB5.out.mono (by have:=HZ4.out; omega))
   have hbz:B+1≤C:=by have:=HZ4.out; omega
   have HBZ:=Lib.hid hbz
   have c0:w5.cell? ⟨C,0,none⟩=some (.string (S t)):=by rw [Lib.cell_of_heap hc5]; rfl
   have c1:w5.cell? ⟨C,1,none⟩=some (.int .i64 (q:Int)):=by rw [Lib.cell_of_heap hc5]; rfl
   have hrow:RowT w5 a l:=by
    obtain ⟨a2,cp2,e2,h2⟩:=RowT.own HO5.out
    cases e2
    exact h2
   have HRI:=Lib.hid (right_any a cp l (by omega) t (by omega) (q:Int) w5 hrow)
   clear HB4 HZ4 HO4 HR4 HB5 hC hc5 hz5 hbz hrow
   refine (OctW.err_any B r2 w5 HR5.out).mono ?_
   rintro e w5' ⟨rfl,rfl⟩
   by_cases he:r2.e=0
   ·
    have hb:(((r2.e:Nat):Int) != 0)=false:=by rw [he]; rfl
    have HEE:=Lib.hid he
    by_cases ht:rightT l t (q:Int)=0
    ·
     have HT6:=Lib.hid (rightT_room ht)
     have HN:Hid (getL (N - (k+1)) r2 (l++[(t,q)])=getL N r0 []):=by
      show _=_
      rw [← HE.out,HGL.out,if_neg (by rw [he]; simp),if_neg (by rw [ht]; simp)]
     rw [ht] at HRI
     clear he ht
     go_wp2_with fail
     refine HRI.out.mono ?_
     rintro e w6 ⟨rfl,hb6⟩
     have HB6:Hid (Below B W w6):=HBW.out.trans (hb6.mono (by have:=HZ5.out; have:=HBZ.out; omega))
     have HR6:Hid (Rd B r2 w6):=(hb6.block B (by have:=HZ5.out; have:=HBZ.out; omega)).trans HR5.out
     have HO6:Hid (w6.ownsRow (B+1) 66 2 (.slice a l.length cp) l.length (cellsT l)):=ownsRow_mod HO5.out (Mod.of_below (M:=fun _=>False) hb6) (fun _ x=>x.elim)
     have HZ6:Hid (B+1≤w6.heap.size):=by have h1:=HZ5.out; have h2:=HBZ.out; have h3:=hb6.size; show B+1≤_; omega
     have hc6:=(hb6.block C (by have:=HZ5.out; omega)).trans HC5.out
     have d0:w6.cell? ⟨C,0,none⟩=some (.string (S t)):=by rw [Lib.cell_of_heap hc6]; rfl
     have d1:w6.cell? ⟨C,1,none⟩=some (.int .i64 (q:Int)):=by rw [Lib.cell_of_heap hc6]; rfl
     obtain ⟨v',w8,hr,hown,hg⟩:=append_topic HO6.out t q (by omega) HZ6.out
     have hmg:Mod (fun k=>B+1≤k) (w6.alloc (.cells #[.string (S t),.int .i64 (q:Int)] 66)) w8:=⟨hg.os,hg.tape,hg.output,hg.size,fun k hk hnf=>hg.block k hk (fun e=>hnf (ownsRow_block HO6.out k e.symm))⟩
     have HB7:Hid (Below w6.heap.size w6 (w6.alloc (.cells #[.string (S t),.int .i64 (q:Int)] 66))):=(Below.refl _ _).alloc (Nat.le_refl _) _
     have HB8:Hid (Below B W w8):=(HB6.out.trans (HB7.out.mono (by have:=HZ6.out; omega))).trans (hmg.to_below B (by have h1:=HZ6.out; have h2:=HB7.out.size; omega) fun k hk=>by omega)
     have HR8:Hid (Rd B r2 w8):=(hmg.block B (by have h1:=HZ6.out; have h2:=HB7.out.size; omega) (by omega)).trans ((HB7.out.block B (by have:=HZ6.out; omega)).trans HR6.out)
     have HZ8:Hid (B+1≤w8.heap.size):=by have h1:=HZ6.out; have h2:=HB7.out.size; have h3:=hg.size; show B+1≤_; omega
     have HRN:=Lib.hid hr
     have HO8:=Lib.hid hown
     clear hb6 hc6 HRI HBW HR5 HO5 HZ5 HC5 c0 c1 hr hown hg hmg
     go_wp2_with (at_builtin; refine Lib.wpList_append_run _ rfl (.tmp 27) (.tmp 29) 63 63 rfl _ _ rfl rfl _ _ HRN.out ?_)
     go_roundw
     case rel=>exact ⟨k+1,l++[(t,q)],r2,by omega,by go_num,by have:=HT6.out; rw [List.length_append,List.length_singleton]; omega,by omega,HN.out,by show w8.ownsRow _ _ _ _ (l++[(t,q)]).length _; rw [List.length_append,List.length_singleton]; exact HO8.out,HR8.out,HB8.out,HZ8.out⟩
     case measure=>simp [intOf]; omega
    ·
     have hb2:(rightT l t (q:Int) != 0)=true:=by simp [ht]
     have HF:Hid (getT s=([],false)):=by
      show _=_
      rw [HG.out,← HE.out,HGL.out,if_neg (by rw [he]; simp),if_pos ht]
     clear he ht
     generalize rightT l t (q:Int)=z at *
     go_wp2_with fail
     refine HRI.out.mono ?_
     rintro e w6 ⟨rfl,hb6⟩
     have HB6:=Lib.hid (HBW.out.trans (hb6.mono (by have:=HZ5.out; have:=HBZ.out; omega)))
     clear hb6 HRI
     go_wp2_with fail
     go_ret2
     rw [HF.out,← HBB.out]
     exact ⟨_,rfl,⟨rfl,.inl ⟨rfl,rfl⟩⟩,by rw [HBB.out]; exact HB6.out⟩
   ·
    have hb:(((r2.e:Nat):Int) != 0)=true:=by simp; omega
    have HF:Hid (getT s=([],false)):=by
     show _=_
     rw [HG.out,← HE.out,HGL.out,if_pos he]
    clear he
    go_wp2_with fail
    go_ret2
    rw [HF.out,← HBB.out]
    exact ⟨_,rfl,⟨rfl,.inl ⟨rfl,rfl⟩⟩,by rw [HBB.out]; exact HBW.out⟩
  ·
   obtain rfl:k=N:=by omega
   have HF:Hid (getT s=(l,decide (endR r=0))):=by
    show _=_
    have:=HE.out
    rw [Nat.sub_self] at this
    rw [HG.out,← this]
    rfl
   go_wp2_with fail
   refine (OctW.end_any B r wr HR.out).mono ?_
   rintro e wr' ⟨rfl,rfl⟩
   go_wp2_with fail
   go_ret2
   rw [HF.out,← HBB.out]
   have ho:=HO.out
   refine ⟨_,?_,⟨ho.1,ho.2.imp (fun h=>h) fun ⟨g,cap,cur,e,hb,h⟩=>⟨g,cap,cur,e,by have:=HBB.out; omega,h⟩⟩,by rw [HBB.out]; exact HB.out⟩
   congr 4
   by_cases h:endR r=0 <;> simp [h]
end Go.Proofs.YtnoehodmmkioaaaGreatDoor.TopW
