/- The law's own like; its example. And what follows. -/
import Derived.Test.YtnoehodmmkioaaaGreatDoorS10
import Derived.Test.YtnoehodmmkioaaaGreatDoorS08
import Derived.Maps.AppendAt
import Derived.Test.YtnoehodmmkioaaaGreatDoorS07
import Derived.Test.YtnoehodmmkioaaaGreatDoorS09
import Derived.Test.YtnoehodmmkioaaaGreatDoorS06
set_option maxHeartbeats 25600000
set_option maxRecDepth 100000
set_option linter.unusedVariables false
set_option linter.unusedSimpArgs false
namespace Go.Proofs.YtnoehodmmkioaaaGreatDoor.SndW
open Go.RowKit Go.MapKept Go.Sort OctMath RecMath RecW DskW SegW MapG TapeW TapeMath PendW CacheW StoW TopW NameMath
theorem made_plain:∀ y∈made3,plainL y.1=true∧y.2≤3:=by decide
def wantN:WantD:=⟨[110,111,110,101],0,[],[],[]⟩
def wantA:WantD:=⟨[97],0,[],[],[]⟩
theorem wantN_ok:WantOk wantN:=⟨⟨by decide,by decide⟩,by decide,by decide,by decide,by decide,fun t ht=>by cases ht⟩
theorem wantA_ok:WantOk wantA:=⟨⟨by decide,by decide⟩,by decide,by decide,by decide,by decide,fun t ht=>by cases ht⟩
theorem wantN_c:checkW made3 wantN=12:=by decide
theorem wantA_c:checkW made3 wantA=0:=by decide
theorem MadeI.fits {base:Nat} {W w:World} {D:DiskD} {now used:Int} {S0:StoD} {X:TabD} (h:MadeI base W w D now used S0 X):S0.T.R.e=0∧S0.T.O.recs=[]∧S0.T.D.waits.length=0:=⟨e_zero h.st.sto.tape h.its h.b,recs_zero h.st.sto.tape h.its,by rw [h.wt]; rfl⟩
theorem awake_any (W:World) (hT:Tab W) :
 Calls Tryz.prog 5 #[] W fun e w'=>e=.returned (.bool true)∧Below W.heap.size W w':=by
 have HTB:Hid (∀ w,Below W.heap.size W w→TabB W.heap.size w):=fun w hb=>⟨W,hT,Nat.le_refl _,hb⟩
 have HN1:=Lib.hid (DskW.new_any 10000 W.heap.size W (Nat.le_refl _))
 clear hT
 go_enter Tryz.func5,Tryz.ntmps5
 go_wp2_with fail
 refine HN1.out.mono ?_
 rintro e w3 ⟨D,rfl,hD,hb3,h11,h12,h13,h14,h15,h16,h17,h18⟩
 have hrm:D.room=10000:=room_new h15 (by rw [h18]; rfl)
 have HM:=Lib.hid (made_any 0 w3 hD ⟨h13,h14⟩ h15 h16 hb3.size (HTB.out w3 hb3) (by decide) (by omega))
 rw [show ((0:Nat):Int)=0 from rfl] at HM
 have HB3:=Lib.hid hb3
 have HRM:=Lib.hid hrm
 have HDF:Hid (∀ k,D.foot k→W.heap.size≤k):=fun k hk=>hD.base_le hk
 clear hD hb3 h11 h12 h13 h14 h15 h16 h17 h18 hrm HN1
 go_wp2_with fail
 refine HM.out.mono ?_
 rintro e w4 ⟨S0,X,rfl,hmi,hxl⟩
 have HMI:=Lib.hid hmi
 have HXL:=Lib.hid hxl
 have HB4:Hid (Below W.heap.size W w4):=HB3.out.trans (hmi.mod.to_below _ HB3.out.size HDF.out)
 have HS1:=Lib.hid (send_bad wantN true wantN_ok 12 (by rw [hxl]; exact wantN_c) (by decide) none 0 w4 hmi.st (by rw [hxl]; decide) (fun i hi=>absurd hi (Nat.not_lt_zero _)))
 change Hid (Calls _ _ #[_,.agg #[.string ⟨#[110,111,110,101]⟩,.int .i64 0,.string ⟨#[]⟩,.slice none 0 0,.string ⟨#[]⟩],_] _ _) at HS1
 clear hmi hxl HM
 go_wp2_with fail
 refine HS1.out.mono ?_
 rintro e w5 ⟨rfl,hb5⟩
 have HB5:Hid (Below W.heap.size W w5):=HB4.out.trans (hb5.mono HB4.out.size)
 have hmi:=HMI.out.below hb5
 obtain ⟨f1,f2,f3⟩:=hmi.fits
 have hc:checkW X.l wantA=0:=by rw [HXL.out]; exact wantA_c
 have hr:=checkW_zero (ki:=1) (due:=0) (now:=S0.now) (by rw [HXL.out]; exact made_plain) hc (.inl ⟨rfl,rfl⟩) rfl (by rw [hmi.now]; rfl)
 obtain ⟨g1,g2⟩:=fill_nil hr (by show (1:Int)≠0; decide)
 have hrl:=(rec_len hr (by show (1:Int)≠0; decide)).2
 have HS2:=Lib.hid (send_ok wantA true wantA_ok hc (by rw [HXL.out]; exact made_plain) none 0 w5 hmi.st (by rw [HXL.out]; decide) (fun i hi=>absurd hi (Nat.not_lt_zero _)) hmi.q (HTB.out w5 HB5.out) HB5.out.size (by rw [hmi.now]; rfl)
  (by rw [f1,g1]; have:=hmi.room; have:=HRM.out; show ((0+(recL _).length:Nat):Int)≤_; omega) (by rw [f3]; decide) (by omega) (by rw [f2]; decide))
 change Hid (Calls _ _ #[_,.agg #[.string ⟨#[97]⟩,.int .i64 0,.string ⟨#[]⟩,.slice none 0 0,.string ⟨#[]⟩],_] _ _) at HS2
 have HFT:Hid (∀ k,S0.foot k→W.heap.size≤k):=fun k hk=>(hmi.foot k hk).elim (HDF.out k) fun h=>by have:=HB3.out.size; omega
 generalize ((S0.T.R.e+(fillOf S0.T.R.e (recW wantA 1 0 S0.now)).length:Nat):Int)=idn at *
 clear hb5 hmi f1 f2 f3 hc hr g1 g2 hrl HS1 HMI
 go_wp2_with fail
 refine HS2.out.mono ?_
 rintro e w6 ⟨rfl,S1,hs,hp,hm⟩
 have HB6:Hid (Below W.heap.size W w6):=HB5.out.trans (hm.to_below _ HB5.out.size HFT.out)
 clear hs hp hm HS2
 go_wp2_with fail
 go_ret
 exact ⟨rfl,HB6.out⟩
structure SentI (base:Nat) (W w:World) (sb db ob most k:Nat) (nw:Int) (ws:List WantD) (S0:StoD) (X:TabD):Prop where
 st:StoTab base w S0 X
 quiet:Quiet S0.T.D
 now:S0.now=nw
 blk:S0.blk=sb
 dblk:S0.T.D.blk=db
 oblk:S0.T.O.blk=ob
 room:(((most - k) * 1531:Nat):Int)≤S0.T.D.room
 wl:S0.T.D.waits.length≤2 * k
 e:S0.T.R.e≤1531 * k
 recs:S0.T.O.recs.map (·.2)=(ws.take k).map fun x=>recW x 1 0 nw
 ft:∀ j,S0.foot j→base≤j
 low:Below base W w
theorem SentI.below {base:Nat} {W w w':World} {sb db ob most k:Nat} {now:Int} {ws:List WantD} {S0:StoD} {X:TabD} (h:SentI base W w sb db ob most k now ws S0 X) (hb:Below w.heap.size w w') (hs:base≤w.heap.size):SentI base W w' sb db ob most k now ws S0 X :=
 { h with st:=h.st.below hb,low:=h.low.trans (hb.mono hs) }
theorem SentI.rl {base:Nat} {W w:World} {sb db ob most k:Nat} {now:Int} {ws:List WantD} {S0:StoD} {X:TabD} (h:SentI base W w sb db ob most k now ws S0 X):S0.T.O.recs.length≤k:=by
 have:=congrArg List.length h.recs
 rw [List.length_map,List.length_map,List.length_take] at this
 omega
theorem rec_room {e:Nat} {m:Msg} (hl:3≤roomL e) (hr:rightL m=true) (h0:m.kind≠0):(fillOf e m).length≤1024∧(recL m).length≤507:=by
 obtain ⟨l1,l2⟩:=rec_len hr h0
 have hf:=fillOf_len e m hl
 have hroom:=room_le e
 refine ⟨?_,l2⟩
 rcases hf with ⟨e,_⟩ | ⟨e,_⟩
 · rw [e]; exact Nat.zero_le _
 · omega
theorem SentI.next {base:Nat} {W w w2:World} {sb db ob most k:Nat} {now:Int} {ws:List WantD} {S0 S1:StoD} {X:TabD} {sy:Bool} (h:SentI base W w sb db ob most k now ws S0 X) (hk:k < most) (hkl:k < ws.length) (hr:rightL (recW ws[k] 1 0 S0.now)=true) (hs:base≤w.heap.size)
 (h1:StoTab base w2 S1 X) (hp:Put w.heap.size S0 S1 (recW ws[k] 1 0 S0.now) sy) (hm:Mod S0.foot w w2):SentI base W w2 sb db ob most (k+1) now ws S1 X:=by
 have h0:(recW ws[k] 1 0 S0.now).kind≠0:=by show (1:Int)≠0; decide
 obtain ⟨l1,l2⟩:=rec_room (loose_e h.st.sto.tape) hr h0
 obtain ⟨_,r2,r3⟩:=put_recs h.st.sto h1.sto hp
 have hsn:=put_snoc h.st.sto h1.sto hp
 have hlen:(bytesL (laidOf S0.T.R.e (recW ws[k] 1 0 S0.now))).length=(fillOf S0.T.R.e (recW ws[k] 1 0 S0.now)).length+(recL (recW ws[k] 1 0 S0.now)).length:=by rw [bytes_laid,List.length_append]
 refine ⟨h1,hp.quiet,by rw [hp.same]; exact h.now,by rw [hp.same]; exact h.blk,hp.dblk.trans h.dblk,hp.oblk.trans h.oblk,?_,?_,?_,?_,fun j hj=>(hp.foot j hj).elim (h.ft j) fun h2=>by omega,h.low.trans (hm.to_below _ hs h.ft)⟩
 · rw [hp.room,hlen]; have:=h.room; omega
 · have:=hp.wl; have:=h.wl; omega
 · have:=h.e; omega
 · rw [hsn,List.map_append,h.recs,List.take_succ_eq_append_getElem hkl,List.map_append,h.now]; rfl
theorem SentI.fits {base:Nat} {W w:World} {sb db ob most k:Nat} {now:Int} {ws:List WantD} {S0:StoD} {X:TabD} (h:SentI base W w sb db ob most k now ws S0 X) (hk:k < most) {m:Msg} (hr:rightL m=true) (h0:m.kind≠0):(((fillOf S0.T.R.e m).length+(recL m).length:Nat):Int)≤S0.T.D.room:=by
 obtain ⟨l1,l2⟩:=rec_room (loose_e h.st.sto.tape) hr h0
 have:=h.room
 omega
theorem own_lt {w:World} {base n sz:Nat} {e:TypeId} {v:Value} {xs:List Value} (h:w.ownsRow base e sz v n xs) {k:Nat} (hk:v.ownBlock=some k):k < w.heap.size:=by
 rcases h.2 with ⟨e,_⟩ | ⟨g,cap,cur,e,_,hg,_⟩
 · rw [e] at hk; cases hk
 · rw [e] at hk; cases hk; exact (Array.getElem?_eq_some_iff.1 hg).1
def cellsV (l:List (WantD×Option Addr×Nat)):List Value:=l.flatMap fun p=>(cellsW p.1 p.2.1 p.2.2).toList
theorem cellsV_get:∀ (l:List (WantD×Option Addr×Nat)) (i:Nat) (h:i < l.length) (j:Nat) (v:Value),(cellsW l[i].1 l[i].2.1 l[i].2.2)[j]?=some v→(cellsV l)[i * 5+j]?=some v
 | x :: l,0,_,j,v,h=>by
   have h5:j < 5:=(Array.getElem?_eq_some_iff.1 h).1
   have e:cellsV (x :: l)=(cellsW x.1 x.2.1 x.2.2).toList++cellsV l:=rfl
   rw [e,List.getElem?_append_left (by show 0 * 5+j < 5; omega),show 0 * 5+j=j by omega,Array.getElem?_toList]
   exact h
 | x :: l,i+1,hi,j,v,h=>by
   have ih:=cellsV_get l i (by simpa using hi) j v h
   have e:cellsV (x :: l)=(cellsW x.1 x.2.1 x.2.2).toList++cellsV l:=rfl
   rw [e,List.getElem?_append_right (by show 5≤(i+1) * 5+j; omega),show (i+1) * 5+j - (cellsW x.1 x.2.1 x.2.2).toList.length=i * 5+j by show (i+1) * 5+j - 5=_; omega]
   exact ih
theorem want_row {base:Nat} {w:World} {v:Value} {l:List (WantD×Option Addr×Nat)} (h:w.ownsRow base 33 5 v l.length (cellsV l)) (hs:∀ p∈l,Strs w p.2.1 (p.1.keys.map S)):∃ a cp,v=.slice a l.length cp∧WantRow w a l:=by
 rcases h.2 with ⟨rfl,h0⟩ | ⟨g,cap,cur,rfl,hb,hg,hn,hm,hc,ht⟩
 · exact ⟨none,0,by rw [h0],fun k hk=>by omega⟩
 ·
  refine ⟨_,_,rfl,fun k hk=>⟨g,0,rfl,fun j v hv=>?_,hs _ (List.getElem_mem hk)⟩⟩
  have h1:=cellsV_get l k hk j v hv
  have h5:j < 5:=(Array.getElem?_eq_some_iff.1 hv).1
  rw [Lib.cell_of_heap hg]
  rw [← ht,List.getElem?_take,if_pos (by omega)] at h1
  simpa using h1
theorem info_want:∃ i,Tryz.prog.info? 33=some i∧i.zero=some (.agg #[.string ⟨#[]⟩,.int .i64 0,.string ⟨#[]⟩,.slice none 0 0,.string ⟨#[]⟩])∧i.size=5∧i.bytes=80:=by
 have:=(show (Tryz.prog.info? 33).map (fun i=>(i.zero,i.size,i.bytes))=some (some (.agg #[.string ⟨#[]⟩,.int .i64 0,.string ⟨#[]⟩,.slice none 0 0,.string ⟨#[]⟩]),5,80) by kernel_rfl)
 cases hh:Tryz.prog.info? 33 with
 | none=>rw [hh] at this; cases this
 | some i=>rw [hh] at this; have h2:=Option.some.inj this; exact ⟨i,rfl,congrArg (·.1) h2,congrArg (·.2.1) h2,congrArg (·.2.2) h2⟩
theorem append_want {base:Nat} {w:World} {v:Value} {l:List (WantD×Option Addr×Nat)} (h:w.ownsRow base 33 5 v l.length (cellsV l)) (x:WantD) (a:Option Addr) (c:Nat) (hl:l.length≤1000) (hbase:base≤w.heap.size) :
 ∃ v' w8,(Builtin.append_ #[23,23] 23 #[v,.slice (some ⟨w.heap.size,0,none⟩) 1 1]).run Tryz.prog (w.alloc (.cells (cellsW x a c) 33))=.ok v' w8 ∧
  w8.ownsRow base 33 5 v' (l.length+1) (cellsV (l++[(x,a,c)]))∧Mod (fun k=>v.ownBlock=some k) w w8∧(∃ a cp,v'=.slice a (l.length+1) cp)∧∀ k,v'.ownBlock=some k→v.ownBlock=some k∨w.heap.size≤k:=by
 have hb7:Below w.heap.size w (w.alloc (.cells (cellsW x a c) 33)):=(Below.refl _ _).alloc (Nat.le_refl _) _
 have hd7:=SegW.ownsRow_mod (M:=fun _=>False) h (Mod.of_below hb7) (fun _ _ h=>h)
 obtain ⟨i0,hi0,hz0,hz1,hz2⟩:=info_want
 obtain ⟨v',w8,hr,hrow,hgb,_,hob⟩:=run_append_own_at (P:=Tryz.prog) _ base 23 23 33 i0 (.agg #[.string ⟨#[]⟩,.int .i64 0,.string ⟨#[]⟩,.slice none 0 0,.string ⟨#[]⟩]) 5 80 Tryz.underlying23 hi0 hz0 hz1 hz2 rfl (by omega) _ _ _ hd7
  ⟨w.heap.size,0,none⟩ 1 1 (cellsW x a c).toList rfl (fun j u hu=>by
   have hadd:(⟨w.heap.size,0,none⟩:Addr).add j=⟨w.heap.size,j,none⟩:=by unfold Addr.add; split <;> simp_all
   rw [hadd,World.cell?_alloc_new]
   rw [Array.getElem?_toList] at hu
   exact hu) (fun u hu=>by
   have hu':u∈[Value.string (S x.topic),.int .i64 x.queue,.string (S x.tag),.slice a x.keys.length c,.string (S x.body)]:=hu
   simp only [List.mem_cons,List.not_mem_nil,or_false] at hu'
   rcases hu' with rfl | rfl | rfl | rfl | rfl <;> rfl) (by unfold maxLen; omega) (by omega) (Nat.le_trans hbase hb7.size)
 have hws:cellsV l++(cellsW x a c).toList=cellsV (l++[(x,a,c)]):=by unfold cellsV; simp
 have hsz7:(w.alloc (.cells (cellsW x a c) 33)).heap.size=w.heap.size+1:=World.size_alloc _ _
 refine ⟨v',w8,hr,by rw [← hws]; exact hrow,(Mod.of_below hb7).trans ⟨hgb.os,hgb.tape,hgb.output,hgb.size,fun k hk hnf=>hgb.block k hk (fun e=>hnf e.symm)⟩,?_,fun k hk=>?_⟩
 · rcases hrow.2 with ⟨e,h0⟩ | ⟨g,cap,cur,e,_⟩
   · omega
   · exact ⟨_,_,e⟩
 · rcases hob with e | e
   · exact .inl (e ▸ hk)
   · rw [e] at hk; cases hk; right; omega
def goodW (p:WantD×Option Addr×Nat):Bool:=decide (checkW made3 p.1=0)
def goodL (ws:List (WantD×Option Addr×Nat)):List (WantD×Option Addr×Nat):=ws.filter goodW
def goodN (ws:List (WantD×Option Addr×Nat)) (i:Nat):Nat:=((ws.take i).filter goodW).length
theorem good_take (ws:List (WantD×Option Addr×Nat)) (i:Nat):(goodL ws).take (goodN ws i)=(ws.take i).filter goodW:=by
 have h:goodL ws=(ws.take i).filter goodW++(ws.drop i).filter goodW:=by unfold goodL; rw [← List.filter_append,List.take_append_drop]
 unfold goodN
 rw [h,List.take_left]
theorem goodN_le (ws:List (WantD×Option Addr×Nat)) (i:Nat):goodN ws i≤(goodL ws).length∧goodN ws i≤i∧(goodL ws).length≤ws.length:=by
 have h:goodL ws=(ws.take i).filter goodW++(ws.drop i).filter goodW:=by unfold goodL; rw [← List.filter_append,List.take_append_drop]
 refine ⟨by rw [h,List.length_append]; exact Nat.le_add_right _ _,?_,List.length_filter_le ..⟩
 have h1:goodN ws i≤(ws.take i).length:=List.length_filter_le ..
 rw [List.length_take] at h1
 omega
theorem goodN_no {ws:List (WantD×Option Addr×Nat)} {i:Nat} (hi:i < ws.length) (h:checkW made3 ws[i].1≠0):goodN ws (i+1)=goodN ws i:=by
 unfold goodN
 have hg:¬ goodW ws[i]=true:=by unfold goodW; simpa using h
 rw [List.take_succ_eq_append_getElem hi,List.filter_append,List.filter_cons_of_neg hg,List.filter_nil,List.append_nil]
theorem goodN_yes {ws:List (WantD×Option Addr×Nat)} {i:Nat} (hi:i < ws.length) (h:checkW made3 ws[i].1=0):goodN ws (i+1)=goodN ws i+1∧∃ hk:goodN ws i < (goodL ws).length,(goodL ws)[goodN ws i]=ws[i]:=by
 have hg:goodW ws[i]=true:=by unfold goodW; simpa using h
 have h1:(ws.take (i+1)).filter goodW=(ws.take i).filter goodW++[ws[i]]:=by
  rw [List.take_succ_eq_append_getElem hi,List.filter_append,List.filter_cons_of_pos hg,List.filter_nil]
 have h2:goodN ws (i+1)=goodN ws i+1:=by unfold goodN; rw [h1,List.length_append]; rfl
 have h3:=good_take ws (i+1)
 have hk:goodN ws i < (goodL ws).length:=by have:=(goodN_le ws (i+1)).1; omega
 refine ⟨h2,hk,?_⟩
 rw [h2,h1,List.take_succ_eq_append_getElem hk,good_take] at h3
 exact (List.cons.inj (List.append_cancel_left h3)).1
theorem goodN_all (ws:List (WantD×Option Addr×Nat)):goodN ws ws.length=(goodL ws).length:=by unfold goodN goodL; rw [List.take_length]
def WantC (w:World) (a:Option Addr) (l:List (WantD×Option Addr×Nat)):Prop:=∀ i (h:i < l.length),∃ g,a=some ⟨g,0,none⟩∧∀ (j:Nat) (v:Value),(cellsW l[i].1 l[i].2.1 l[i].2.2)[j]?=some v→w.cell? ⟨g,i * 5+j,none⟩=some v
theorem WantC.below {w w':World} {a:Option Addr} {l:List (WantD×Option Addr×Nat)} (h:WantC w a l) (hb:Below w.heap.size w w'):WantC w' a l:=fun i hi=>by
 obtain ⟨g,h1,h2⟩:=h i hi
 exact ⟨g,h1,fun j v hv=>by rw [hb.cell (cell_lt (h2 j v hv))]; exact h2 j v hv⟩
theorem want_cells {base n:Nat} {w:World} {v:Value} {l:List (WantD×Option Addr×Nat)} (h:w.ownsRow base 33 5 v n (cellsV l)) (hn:n=l.length):∃ a cp,v=.slice a n cp∧WantC w a l:=by
 subst hn
 rcases h.2 with ⟨rfl,h0⟩ | ⟨g,cap,cur,rfl,hb,hg,hn,hm,hc,ht⟩
 · exact ⟨none,0,by rw [h0],fun k hk=>by omega⟩
 ·
  refine ⟨_,_,rfl,fun k hk=>⟨g,rfl,fun j v hv=>?_⟩⟩
  have h1:=cellsV_get l k hk j v hv
  have h5:j < 5:=(Array.getElem?_eq_some_iff.1 hv).1
  rw [Lib.cell_of_heap hg]
  rw [← ht,List.getElem?_take,if_pos (by omega)] at h1
  simpa using h1
theorem ints_row {base n:Nat} {w:World} {v:Value} {l:List (Nat×Msg)} (h:w.ownsRow base 3 1 v n (idsL l)):∃ a c,v=.slice a n c∧OctW.Ints w a (l.map fun p=>(p.1:Int)):=by
 obtain ⟨a,c,hv,hr,hn⟩:=Row1.of_own h
 refine ⟨a,c,hv,fun i hi=>?_⟩
 have hi2:i < l.length:=by rw [List.length_map] at hi; exact hi
 obtain ⟨b,off,e,hc⟩:=hr i (by unfold idsL; rw [List.length_map]; exact hi2)
 refine ⟨b,off,e,?_⟩
 rw [hc]
 simp [idsL]
end Go.Proofs.YtnoehodmmkioaaaGreatDoor.SndW
namespace Go.Proofs.YtnoehodmmkioaaaGreatDoor.EntW
open Go.RowKit OctW OctMath
def numsR:List Nat→RS→List Nat×RS
 | [],r=>([],r)
 | n :: ns,r=>((numR (n:Int) r).1 :: (numsR ns (numR (n:Int) r).2).1,(numsR ns (numR (n:Int) r).2).2)
theorem numsR_append (a b:List Nat):∀ r,numsR (a++b) r=((numsR a r).1++(numsR b (numsR a r).2).1,(numsR b (numsR a r).2).2):=by
 induction a with
 | nil=>intro r; rfl
 | cons n a ih=>intro r; simp only [List.cons_append,numsR,ih]
theorem numsR_take (ns:List Nat) (k:Nat) (h:k < ns.length) (r:RS):numsR (ns.take (k+1)) r=((numsR (ns.take k) r).1++[(numR (ns[k]:Int) (numsR (ns.take k) r).2).1],(numR (ns[k]:Int) (numsR (ns.take k) r).2).2):=by
 rw [List.take_succ_eq_append_getElem h,numsR_append]; rfl
theorem numsR_length (ns:List Nat):∀ r,(numsR ns r).1.length=ns.length:=by
 induction ns with
 | nil=>intro r; rfl
 | cons n ns ih=>intro r; simp [numsR,ih]
theorem numsR_len (ns:List Nat):∀ r,(numsR ns r).2.s.length≤r.s.length:=by
 induction ns with
 | nil=>intro r; exact Nat.le_refl _
 | cons n ns ih=>intro r; exact Nat.le_trans (ih _) (numR_len _ _)
def Wb (g:Nat) (ns xs:List Nat) (w:World):Prop:=∀ i (h:i < ns.length),w.heap[g+i]?=some (.cells #[.int .i64 (ns[i]:Int),.int .i64 (xs.getD i 0:Nat)] 237 (0,0))
theorem Wb.mod {M:Nat→Prop} {g:Nat} {ns xs:List Nat} {w w':World} (h:Wb g ns xs w) (hm:Mod M w w') (hM:∀ i,i < ns.length→¬ M (g+i)):Wb g ns xs w':=fun i hi=>(hm.block _ (Array.getElem?_eq_some_iff.1 (h i hi)).1 (hM i hi)).trans (h i hi)
theorem Wb.cell0 {g:Nat} {ns xs:List Nat} {w:World} (h:Wb g ns xs w) (i:Nat) (hi:i < ns.length):w.cell? ⟨g+i,0,none⟩=some (.int .i64 (ns[i]:Int)):=by unfold World.cell?; rw [show w.heap[(⟨g+i,0,none⟩:Addr).block]?=_ from h i hi]; rfl
theorem Wb.cell1 {g:Nat} {ns xs:List Nat} {w:World} (h:Wb g ns xs w) (i:Nat) (hi:i < ns.length):w.cell? ⟨g+i,1,none⟩=some (.int .i64 (xs.getD i 0:Nat)):=by unfold World.cell?; rw [show w.heap[(⟨g+i,1,none⟩:Addr).block]?=_ from h i hi]; rfl
theorem Wb.free1 {g:Nat} {ns xs:List Nat} {w:World} (h:Wb g ns xs w) (i:Nat) (hi:i < ns.length):w.frozen? ⟨g+i,1,none⟩=false:=by unfold World.frozen?; rw [show w.heap[(⟨g+i,1,none⟩:Addr).block]?=_ from h i hi]; rfl
theorem Wb.lt {g:Nat} {ns xs:List Nat} {w:World} (h:Wb g ns xs w) (i:Nat) (hi:i < ns.length):g+i < w.heap.size:=(Array.getElem?_eq_some_iff.1 (h i hi)).1
theorem Wb.set_ {g:Nat} {ns xs:List Nat} {w:World} (h:Wb g ns xs w) (k x:Nat) (hk:k < ns.length) (hx:xs.length=k):Wb g ns (xs++[x]) (w.setCell ⟨g+k,1,none⟩ (.int .i64 (x:Int))):=by
 intro i hi
 by_cases e:i=k
 · subst e
   rw [heap_setCell_own (h i hi)]
   simp [hx]
 ·
  rw [Below.heap_setCell _ _ _ _ (show g+i≠g+k by omega),h i hi]
  have:(xs++[x]).getD i 0=xs.getD i 0:=by
   by_cases hlt:i < k
   · simp [List.getD,List.getElem?_append_left (show i < xs.length by omega)]
   · simp [List.getD,List.getElem?_append_right (show xs.length≤i by omega),List.getElem?_eq_none (show xs.length≤i by omega),List.getElem?_eq_none (show [x].length≤i - xs.length by simp; omega)]
  rw [this]
theorem mod_then {M N:Nat→Prop} {u v w:World} (h:Mod N u v) (k:Mod M v w) (hM:∀ b,b < u.heap.size→M b→N b):Mod N u w :=
 ⟨k.os.trans h.os,k.tape.trans h.tape,k.output.trans h.output,Nat.le_trans h.size k.size,fun i hi hN=>(k.block i (Nat.lt_of_lt_of_le hi h.size) (fun hm=>hN (hM i hi hm))).trans (h.block i hi hN)⟩
theorem get_any (g p cap:Nat) (ns:List Nat) (hl:ns.length≤16) (hw:∀ n∈ns,1≤n∧n≤7) (l:List UInt8) (hs:l.length≤140737488351232) (W:World) (hS:∀ i,i < ns.length→W.cell? ⟨p,i,none⟩=some (.pointer (some ⟨g+i,0,none⟩))) (hW:Wb g ns [] W) (hp:∀ i,i < ns.length→p≠g+i) :
 Calls Tryz.prog 140 #[.string (S l),.slice (some ⟨p,0,none⟩) ns.length cap] W fun e w'=>e=.returned (.bool (endR (numsR ns ⟨l,0⟩).2 == 0))∧Wb g ns (numsR ns ⟨l,0⟩).1 w'∧Mod (fun b=>g≤b∧b < g+ns.length) W w':=by
 have HS:=Lib.hid hS
 have HW:=Lib.hid hW
 have HP:=Lib.hid hp
 have HN:=Lib.hid hw
 clear hS hW hp hw
 go_enter Tryz.func140,Tryz.ntmps140
 go_wp2_with fail
 refine (new_any l _).mono ?_
 rintro e w1 ⟨rfl,hr1,hb1⟩
 have HR:Hid (Rd W.heap.size (numsR (ns.take 0) ⟨l,0⟩).2 w1):=hr1
 have HM:Hid (Mod (fun b=>g≤b∧b < g+ns.length) W w1):=Mod.of_below hb1
 have HWB:Hid (Wb g ns (numsR (ns.take 0) ⟨l,0⟩).1 w1):=HW.out.mod (M:=fun _=>False) (Mod.of_below hb1) (fun _ _ x=>x)
 clear hr1 hb1
 go_wp2_with fail
 go_loopw [12] (fun i wr=>∃ k:Nat,k≤ns.length∧i=.int .i64 k∧Hid (Rd W.heap.size (numsR (ns.take k) ⟨l,0⟩).2 wr)∧Hid (Wb g ns (numsR (ns.take k) ⟨l,0⟩).1 wr)∧Hid (Mod (fun b=>g≤b∧b < g+ns.length) W wr)) (fun i _=>ns.length - (intOf i).toNat)
 case atStart=>exact ⟨0,by omega,rfl,HR,HWB,HM⟩
 case round =>
  clear HR HWB HM
  obtain ⟨k,hk,rfl,HR,HWB,HM⟩:=hrel
  by_cases hlt:k < ns.length
  ·
   have hc:=HS.out k hlt
   have hpk:=HP.out k hlt
   rw [← HM.out.cell (p:=⟨p,k,none⟩) (cell_lt hc) (fun h=>HP.out (p - g) (by have h1:g≤p:=h.1; have h2:p < g+ns.length:=h.2; omega) (by have h1:g≤p:=h.1; show p=g+(p - g); omega))] at hc
   have h0:=HWB.out.cell0 k hlt
   have hnk:=HN.out ns[k] (by simp)
   have hlen:=numsR_len (ns.take k) ⟨l,0⟩
   have hlast:=HR.out.lt
   have hgl:=HW.out.lt k hlt
   have hstep:=numsR_take ns k hlt ⟨l,0⟩
   have hxl:=numsR_length (ns.take k) ⟨l,0⟩
   rw [List.length_take,Nat.min_eq_left hk] at hxl
   have hkk:k < ns.length:=hlt
   generalize ns[k]=n at *
   obtain ⟨hn1,hn7⟩:=hnk
   generalize numsR (ns.take k) ⟨l,0⟩=q at *
   obtain ⟨xs,r⟩:=q
   simp only at *
   have hcall:=num_any W.heap.size r (n:Int) (by omega) (by omega) (by omega) wr HR.out
   generalize numR (n:Int) r=nr at *
   obtain ⟨x,r'⟩:=nr
   simp only at *
   have HST:=Lib.hid hstep
   have HC:=Lib.hid hcall
   have HXL:=Lib.hid hxl
   clear hstep hcall hxl
   go_wp2_with fail
   refine HC.out.mono ?_
   rintro e w2 ⟨rfl,hr2,hm2⟩
   have HWB2:Hid (Wb g ns xs w2):=HWB.out.mod hm2 (fun i hi h=>by have:=HW.out.lt i hi; omega)
   have HR2:Hid (Rd W.heap.size r' (w2.setCell ⟨g+k,1,none⟩ (.int .i64 (x:Int)))):=hr2.mod ((Mod.refl (fun b=>b=g+k) w2).setCell (a:=⟨g+k,1,none⟩) (Or.inl rfl) _) (fun h=>by omega)
   have HM2:Hid (Mod (fun b=>g≤b∧b < g+ns.length) W (w2.setCell ⟨g+k,1,none⟩ (.int .i64 (x:Int)))) :=
    (mod_then HM.out hm2 (fun b hb h=>by omega)).setCell (a:=⟨g+k,1,none⟩) (Or.inl ⟨by show g≤g+k; omega,by show g+k < _; omega⟩) _
   have HW2:Hid (Wb g ns (xs++[x]) (w2.setCell ⟨g+k,1,none⟩ (.int .i64 (x:Int)))):=HWB2.out.set_ k x hkk HXL.out
   have hc1:=HWB2.out.cell1 k hkk
   have hf1:=HWB2.out.free1 k hkk
   clear hr2 hm2 HWB HWB2 HR HM HC hc h0
   go_wp2_with fail
   go_roundw
   case rel=>exact ⟨k+1,by omega,by go_num,by rw [HST.out]; exact HR2,by rw [HST.out]; exact HW2,HM2⟩
   case measure=>simp [intOf]; omega
  ·
   have ek:k=ns.length:=by omega
   subst ek
   rw [List.take_length] at HR HWB
   go_wp2_with fail
   refine (end_any W.heap.size _ _ HR.out).mono ?_
   rintro e w2 ⟨rfl,rfl⟩
   go_wp2_with fail
   go_ret
   exact ⟨ret_bool (by rw [Bool.eq_iff_iff]; simp),HWB.out,HM.out⟩
theorem heap_at {w:World} {o:Obj} {k:Nat} (h:k=w.heap.size):(w.alloc o).heap[k]?=some o:=by subst h; exact heap_alloc_new w o
theorem heap_old {w:World} {o:Obj} {k:Nat} (h:k < w.heap.size):(w.alloc o).heap[k]?=w.heap[k]?:=Below.heap_alloc w o k h
def getW (ns:List Nat) (l:List UInt8):List Nat×Bool:=if endR (numsR ns ⟨l,0⟩).2=0 then ((numsR ns ⟨l,0⟩).1,true) else ([],false)
theorem getW_eq (ns:List Nat) (l:List UInt8):getW ns l=if endR (numsR ns ⟨l,0⟩).2=0 then ((numsR ns ⟨l,0⟩).1,true) else ([],false):=rfl
def agg4 (xs:List Nat):Value:=.agg #[.int .i64 (xs.getD 0 0:Nat),.int .i64 (xs.getD 1 0:Nat),.int .i64 (xs.getD 2 0:Nat),.int .i64 (xs.getD 3 0:Nat)]
theorem place_get (l:List UInt8) (hs:l.length≤140737488351232) (W:World) :
 Calls Tryz.prog 83 #[.string (S l)] W fun e w'=>e=.returned (.tuple #[agg4 (getW [6,2,5,7] l).1,.bool (getW [6,2,5,7] l).2])∧Below W.heap.size W w':=by
 go_enter Tryz.func83,Tryz.ntmps83
 go_wp2_with fail
 generalize hW6:(((((W.alloc _).alloc _).alloc _).alloc _).alloc _).alloc _=W6
 have hz:W6.heap.size=W.heap.size+6:=by rw [← hW6]; simp
 have hWb:Wb (W.heap.size+1) [6,2,5,7] [] W6:=by
  intro i hi
  have hi:i < 4:=hi
  rw [← hW6]
  match i,hi with
  | 0,_=>exact (heap_old (by simp only [World.size_alloc]; omega)).trans ((heap_old (by simp only [World.size_alloc]; omega)).trans ((heap_old (by simp only [World.size_alloc]; omega)).trans ((heap_old (by simp only [World.size_alloc]; omega)).trans (heap_at (by simp)))))
  | 1,_=>exact (heap_old (by simp only [World.size_alloc]; omega)).trans ((heap_old (by simp only [World.size_alloc]; omega)).trans ((heap_old (by simp only [World.size_alloc]; omega)).trans (heap_at (by simp))))
  | 2,_=>exact (heap_old (by simp only [World.size_alloc]; omega)).trans ((heap_old (by simp only [World.size_alloc]; omega)).trans (heap_at (by simp)))
  | 3,_=>exact (heap_old (by simp only [World.size_alloc]; omega)).trans (heap_at (by simp))
 have hSb:W6.heap[W.heap.size+1+1+1+1+1]?=some (.cells #[.pointer (some ⟨W.heap.size+1,0,none⟩),.pointer (some ⟨W.heap.size+1+1,0,none⟩),.pointer (some ⟨W.heap.size+1+1+1,0,none⟩),.pointer (some ⟨W.heap.size+1+1+1+1,0,none⟩)] 239 (0,0)):=by
  rw [← hW6]; exact heap_at (by simp)
 have hS:∀ i,i < 4→W6.cell? ⟨W.heap.size+1+1+1+1+1,i,none⟩=some (.pointer (some ⟨W.heap.size+1+i,0,none⟩)):=by
  intro i hi
  rw [Lib.cell_of_heap hSb]
  match i,hi with
  | 0,_=>rfl
  | 1,_=>rfl
  | 2,_=>rfl
  | 3,_=>rfl
 have hB0:W6.heap[W.heap.size]?=some (.cells #[.int .i64 0,.int .i64 0,.int .i64 0,.int .i64 0] 68 (0,0)):=by
  rw [← hW6]; exact (heap_old (by simp only [World.size_alloc]; omega)).trans ((heap_old (by simp only [World.size_alloc]; omega)).trans ((heap_old (by simp only [World.size_alloc]; omega)).trans ((heap_old (by simp only [World.size_alloc]; omega)).trans ((heap_old (by simp only [World.size_alloc]; omega)).trans (heap_at (by simp))))))
 have hB:Below W.heap.size W W6:=by
  rw [← hW6]
  refine ((((((Below.refl _ _).alloc (Nat.le_refl _) _).alloc ?_ _).alloc ?_ _).alloc ?_ _).alloc ?_ _).alloc ?_ _ <;> simp <;> omega
 clear hW6
 refine (get_any (W.heap.size+1) (W.heap.size+1+1+1+1+1) 4 [6,2,5,7] (by decide) (by decide) l hs W6 hS hWb (fun i hi=>by have hi:i < 4:=hi; omega)).mono ?_
 rintro e w2 ⟨rfl,hwb2,hm2⟩
 have hG:w2.heap[W.heap.size]?=some (.cells #[.int .i64 0,.int .i64 0,.int .i64 0,.int .i64 0] 68 (0,0)):=(hm2.block _ (by omega) (fun h=>by omega)).trans hB0
 have hB2:Below W.heap.size W w2:=hB.trans (hm2.to_below _ (by omega) (fun k h=>by omega))
 have hxl:=numsR_length [6,2,5,7] ⟨l,0⟩
 have HB2:=Lib.hid hB2
 have HG:=Lib.hid hG
 clear hB hB0 hS hSb hWb hm2 hB2 hG hz
 have hgw:=getW_eq [6,2,5,7] l
 generalize numsR [6,2,5,7] ⟨l,0⟩=q at *
 obtain ⟨xs,r⟩:=q
 simp only at *
 have hc0:=hwb2.cell1 0 (by decide)
 have hc1:=hwb2.cell1 1 (by decide)
 have hc2:=hwb2.cell1 2 (by decide)
 have hc3:=hwb2.cell1 3 (by decide)
 have g0:∀ i,i < 4→w2.cell? ⟨W.heap.size,i,none⟩=some (.int .i64 0):=fun i hi=>by
  rw [Lib.cell_of_heap HG.out]
  match i,hi with
  | 0,_=>rfl
  | 1,_=>rfl
  | 2,_=>rfl
  | 3,_=>rfl
 have f0:=fun i=>Lib.frozen_of_heap HG.out i
 have a0:=g0 0 (by omega)
 have a1:=g0 1 (by omega)
 have a2:=g0 2 (by omega)
 have a3:=g0 3 (by omega)
 have b0:=f0 0
 have b1:=f0 1
 have b2:=f0 2
 have b3:=f0 3
 clear g0 f0 hwb2 hxl
 by_cases he:endR r=0
 ·
  have hb:(endR r == 0)=true:=beq_iff_eq.2 he
  rw [if_pos he] at hgw
  have HGW:=Lib.hid hgw
  clear hgw he
  rw [hb]
  clear hb
  go_wp2_with fail
  refine bodyPost_ret (v:=.tuple #[agg4 xs,.bool true]) ?_ rfl ⟨by rw [HGW.out],?_⟩
  · simp [results,Tryz.results83,go_sem,agg4,a0,a1,a2,a3]
  · exact ((((HB2.out.setCell (p:=⟨W.heap.size,0,none⟩) (Nat.le_refl _) _).setCell (p:=⟨W.heap.size,1,none⟩) (Nat.le_refl _) _).setCell (p:=⟨W.heap.size,2,none⟩) (Nat.le_refl _) _).setCell (p:=⟨W.heap.size,3,none⟩) (Nat.le_refl _) _)
 ·
  have hb:(endR r == 0)=false:=beq_eq_false_iff_ne.2 he
  rw [if_neg he] at hgw
  have HGW:=Lib.hid hgw
  clear hgw he
  rw [hb]
  clear hb
  go_wp2_with fail
  refine bodyPost_ret (v:=.tuple #[agg4 [],.bool false]) ?_ rfl ⟨by rw [HGW.out],?_⟩
  · simp [results,Tryz.results83,go_sem,agg4,a0,a1,a2,a3]
  · exact ((((HB2.out.setCell (p:=⟨W.heap.size,0,none⟩) (Nat.le_refl _) _).setCell (p:=⟨W.heap.size,1,none⟩) (Nat.le_refl _) _).setCell (p:=⟨W.heap.size,2,none⟩) (Nat.le_refl _) _).setCell (p:=⟨W.heap.size,3,none⟩) (Nat.le_refl _) _)
theorem getW_place (a b c d:Nat) (h:widOk (placeWs (a:Int) (b:Int) (c:Int) (d:Int))=true):getW [6,2,5,7] (widW (placeWs (a:Int) (b:Int) (c:Int) (d:Int)))=([a,b,c,d],true):=by
 have hf:=of_decide_eq_true h
 have h1:a < 256 ^ 6:=Int.ofNat_lt.1 (hf (6,(a:Int)) (by simp [placeWs])).2
 have h2:b < 256 ^ 2:=Int.ofNat_lt.1 (hf (2,(b:Int)) (by simp [placeWs])).2
 have h3:c < 256 ^ 5:=Int.ofNat_lt.1 (hf (5,(c:Int)) (by simp [placeWs])).2
 have h4:d < 256 ^ 7:=Int.ofNat_lt.1 (hf (7,(d:Int)) (by simp [placeWs])).2
 have e:widW (placeWs (a:Int) (b:Int) (c:Int) (d:Int))=be 6 a++(be 2 b++(be 5 c++(be 7 d++[]))):=by
  unfold widW
  rw [h,if_pos rfl]
  simp [placeWs,widL]
 have n1:=numR_be 6 a (be 2 b++(be 5 c++(be 7 d++[]))) (by omega) (by omega) h1
 have n2:=numR_be 2 b (be 5 c++(be 7 d++[])) (by omega) (by omega) h2
 have n3:=numR_be 5 c (be 7 d++[]) (by omega) (by omega) h3
 have n4:=numR_be 7 d [] (by omega) (by omega) h4
 have e4:numsR [6,2,5,7] ⟨be 6 a++(be 2 b++(be 5 c++(be 7 d++[]))),0⟩=([a,b,c,d],⟨[],0⟩):=by
  simp only [numsR]
  rw [show ((6:Nat):Int)=(6:Int) from rfl] at *
  simp only [n1,n2,n3,n4]
 unfold getW
 rw [e,e4]
 rfl
end Go.Proofs.YtnoehodmmkioaaaGreatDoor.EntW
namespace Go.Proofs.YtnoehodmmkioaaaGreatDoor.CqW
open Go.RowKit Go.MapKept OctMath RecMath DskW SegW MapG CacheW EntW NameW KxW StoW
theorem qat_any {base:Nat} {D:DiskD} {x:QueD} (p a b c d:Nat) (W:World) (hx:W.heap[x.blk]?=some (.cells x.cells 110 (0,0))) (hR:SegAt base W x.R) (hD:DiskAt base W D) (hdb:x.R.db=D.blk) (hT:TabB base W) (hok:SegOk D x.R) (hup:D.down=false) (hb0:x.b0=0) (hb:x.R.b=0) (hsz:x.R.size=200)
 (hp:20 * p+20≤x.R.txt.length) (hpb:p≤10000000) (hw:widOk (placeWs (a:Int) (b:Int) (c:Int) (d:Int))=true) (htx:(x.R.txt.drop (20 * p)).take 20=widW (placeWs (a:Int) (b:Int) (c:Int) (d:Int))) :
 Calls Tryz.prog 42 #[.pointer (some ⟨x.blk,0,none⟩),.int .i64 (p:Int)] W fun e w'=>e=.returned (.tuple #[.agg #[.int .i64 (a:Int),.int .i64 (b:Int),.int .i64 (c:Int),.int .i64 (d:Int)],.int .i64 0])∧Below W.heap.size W w':=by
 have hrd:x.R.readT D ((20 * p:Nat):Int) 20=widW (placeWs (a:Int) (b:Int) (c:Int) (d:Int))∧x.R.readE D ((20 * p:Nat):Int) 20=0:=by
  have he:x.R.e=x.R.txt.length:=by unfold SegD.e; omega
  have hl:(20:Int)≤x.R.left ((20 * p:Nat):Int):=by
   unfold SegD.left
   rw [if_neg (by rw [hb,he]; omega),hsz,Int.toNat_natCast,he]
   omega
  have hB:x.R.readB ((20 * p:Nat):Int) 20=true:=by
   unfold SegD.readB
   rw [decide_eq_true (by omega),decide_eq_true hl]; rfl
  constructor
  · unfold SegD.readT
    rw [if_pos ⟨hup,hB⟩,hb,Int.toNat_natCast]
    exact htx
  · unfold SegD.readE
    rw [if_neg (by rw [hup]; decide),if_neg (by omega),if_pos hB]
 have HRD:Hid (∀ w2,Below W.heap.size W w2→Calls Tryz.prog 82 #[.pointer (some ⟨x.R.blk,0,none⟩),.int .i64 ((20 * p:Nat):Int),.int .i64 20] w2 fun e w'=>e=.returned (.tuple #[.string (S (widW (placeWs (a:Int) (b:Int) (c:Int) (d:Int)))),.int .i64 0])∧RecW.ExtR w2 w'):=fun w2 hb2=>by
  have h3:=SegW.read_any (D:=D) ((20 * p:Nat):Int) 20 (by omega) (by omega) w2 (hT.below hb2).tab (hR.below hb2) (hD.below hb2) hdb hok
  rw [hrd.1,hrd.2] at h3
  exact h3
 obtain ⟨P,hP⟩:∃ P:Int,P=((20 * p:Nat):Int):=⟨_,rfl⟩
 rw [← hP] at HRD
 have HPE:=Lib.hid hP
 clear hP
 have HC:Hid ((∀ w2,Below W.heap.size W w2→w2.cell? ⟨x.blk,0,none⟩=some (.pointer (some ⟨x.R.blk,0,none⟩)))∧∀ w2,Below W.heap.size W w2→w2.cell? ⟨x.blk,1,none⟩=some (.int .i64 0)):=by
  have g:∀ w2,Below W.heap.size W w2→w2.heap[x.blk]?=some (.cells x.cells 110 (0,0)):=fun w2 h2=>heap_below h2 hx
  exact ⟨fun w2 h2=>cell_at (g w2 h2) 0 _ rfl,fun w2 h2=>cell_at (g w2 h2) 1 _ (by unfold QueD.cells; rw [hb0]; rfl)⟩
 have HPG:=Lib.hid (fun (w2:World)=>place_get (widW (placeWs (a:Int) (b:Int) (c:Int) (d:Int))) (by rw [← htx]; simp; omega) w2)
 rw [getW_place a b c d hw] at HPG
 have HPG:Hid (∀ w2:World,Calls Tryz.prog 83 #[.string (S (widW (placeWs (a:Int) (b:Int) (c:Int) (d:Int))))] w2 fun e w'=>e=.returned (.tuple #[.agg #[.int .i64 (a:Int),.int .i64 (b:Int),.int .i64 (c:Int),.int .i64 (d:Int)],.bool true])∧Below w2.heap.size w2 w'):=HPG
 generalize widW (placeWs (a:Int) (b:Int) (c:Int) (d:Int))=tx at *
 clear hx hR hD hT hok htx hrd hb hsz hp hw
 go_enter Tryz.func42,Tryz.ntmps42
 go_upto_region 1 with fail
 have HB1:Hid (Below W.heap.size W (W.alloc (.cells #[.int .i64 0,.int .i64 0,.int .i64 0,.int .i64 0] 68))):=(Below.refl _ W).alloc (Nat.le_refl _) _
 have HX1:Hid ((W.alloc (.cells #[.int .i64 0,.int .i64 0,.int .i64 0,.int .i64 0] 68)).heap[W.heap.size]?=some (.cells #[.int .i64 0,.int .i64 0,.int .i64 0,.int .i64 0] 68 (0,0))):=heap_alloc_new W _
 generalize W.alloc (.cells #[.int .i64 0,.int .i64 0,.int .i64 0,.int .i64 0] 68)=w1 at *
 obtain ⟨A,hA⟩:∃ A,W.heap.size=A:=⟨_,rfl⟩
 rw [hA] at HX1 ⊢
 have HAA:=Lib.hid hA
 clear hA
 have DR:Hid (∀ w2,RecW.ExtR w1.drew w2→Below W.heap.size W w2):=fun w2 h2=>HB1.out.trans ((((Below.refl w1.heap.size w1).drew).trans h2).mono HB1.out.size)
 refine GrowN.wp_region_n 17 [none,none,none,none,none,none,none,none,none,some (.inl (.int .i64 (p:Int))),some (.inl (.int .i64 P)),some (.inl (.tuple #[.string (S tx),.int .i64 0])),none,none,none,none,none] (RecW.ExtR) (by kernel_rfl) (by kernel_rfl) (by kernel_rfl) (RecW.ExtR.refl) (fun _ _ _=>RecW.ExtR.trans) ?_ ?_
 · exact GrowN.stab0 rfl
 simp only [List.take_succ_cons,List.take_zero,List.drop_succ_cons,List.drop_zero]
 iterate 3
  refine GrowN.g_det rfl ?_
  apply Exists.intro
  refine ⟨fun w hw hF=>?_,?_⟩
  · clear hF
    go_simp
    exact ⟨rfl,RecW.ExtR.refl _⟩
  go_frame
 refine GrowN.g_det rfl ?_
 apply Exists.intro
 refine ⟨fun w hw hF=>?_,?_⟩
 ·
  clear hF
  have c0:=HC.out.1 w (DR.out w hw)
  go_simp
  exact ⟨rfl,RecW.ExtR.refl _⟩
 iterate 4
  go_frame
  refine GrowN.g_det rfl ?_
  apply Exists.intro
  refine ⟨fun w hw hF=>?_,?_⟩
  · clear hF
    go_simp
    exact ⟨rfl,RecW.ExtR.refl _⟩
 go_frame
 refine GrowN.g_det rfl ?_
 apply Exists.intro
 refine ⟨fun w hw hF=>?_,?_⟩
 ·
  clear hF
  have c1:=HC.out.2 w (DR.out w hw)
  go_simp
  exact ⟨rfl,RecW.ExtR.refl _⟩
 go_frame
 refine GrowN.g_con rfl (fun w hw hF=>?_) ?_
 · clear hF
   go_simp
   exact ⟨by rw [IntWalk.i64_in _ (by omega)],RecW.ExtR.refl _⟩
 go_frame
 refine GrowN.g_con rfl (fun w hw hF=>?_) ?_
 ·
  clear hF
  go_simp
  have hP:=HPE.out
  exact ⟨by rw [IntWalk.i64_in _ (by omega),show (p:Int) * 20=P by omega],RecW.ExtR.refl _⟩
 go_frame
 refine GrowN.g_con rfl (fun w hw hF=>?_) ?_
 · clear hF
   go_simp
   exact (HRD.out w (DR.out w hw)).mono fun e w3 h=>⟨_,h.1,rfl,h.2⟩
 iterate 5
  go_frame
  refine GrowN.g_det rfl ?_
  apply Exists.intro
  refine ⟨fun w hw hF=>?_,?_⟩
  · clear hF
    go_simp
    exact ⟨rfl,RecW.ExtR.refl _⟩
 go_frame
 refine GrowN.g_nil fun w2 hw2 hF=>?_
 clear hF
 have HB2:=Lib.hid (DR.out w2 hw2)
 have HX2:Hid (w2.heap[A]?=_):=heap_below (((Below.refl w1.heap.size w1).drew).trans hw2) HX1.out
 clear hw2 DR HX1 HC HRD
 go_wp2_with fail
 refine (HPG.out w2).mono ?_
 rintro e w3 ⟨rfl,hb3⟩
 have HB3:=Lib.hid (HB2.out.trans (hb3.mono HB2.out.size))
 have HX3:Hid (w3.heap[A]?=_):=heap_below hb3 HX2.out
 clear hb3 HPG HB2 HX2
 go_upto_region 3 with fail
 have HB4:Hid (Below W.heap.size W (w3.alloc (.cells #[.int .i64 (a:Int),.int .i64 (b:Int),.int .i64 (c:Int),.int .i64 (d:Int)] 68))):=HB3.out.alloc HB3.out.size _
 have HX4:Hid ((w3.alloc (.cells #[.int .i64 (a:Int),.int .i64 (b:Int),.int .i64 (c:Int),.int .i64 (d:Int)] 68)).heap[A]?=_):=heap_below ((Below.refl _ w3).alloc (Nat.le_refl _) _) HX3.out
 have HY4:Hid ((w3.alloc (.cells #[.int .i64 (a:Int),.int .i64 (b:Int),.int .i64 (c:Int),.int .i64 (d:Int)] 68)).heap[w3.heap.size]?=_):=heap_alloc_new w3 _
 generalize w3.alloc (.cells #[.int .i64 (a:Int),.int .i64 (b:Int),.int .i64 (c:Int),.int .i64 (d:Int)] 68)=w4 at *
 generalize w3.heap.size=G at *
 have hx4:=HX4.out
 have hy4:=HY4.out
 have y0:=cell_at hy4 0 _ rfl
 have y1:=cell_at hy4 1 _ rfl
 have y2:=cell_at hy4 2 _ rfl
 have y3:=cell_at hy4 3 _ rfl
 have f0:=frozen_at hx4 0
 have f1:=frozen_at hx4 1
 have f2:=frozen_at hx4 2
 have f3:=frozen_at hx4 3
 have z0:=cell_at hx4 0 _ rfl
 have z1:=cell_at hx4 1 _ rfl
 have z2:=cell_at hx4 2 _ rfl
 have z3:=cell_at hx4 3 _ rfl
 clear hx4 hy4 HY4
 go_wp2_with fail
 have hfin:=heap_setCell_same _ A 3 _ _ (.int .i64 (d:Int)) (heap_setCell_same _ A 2 _ _ (.int .i64 (c:Int)) (heap_setCell_same _ A 1 _ _ (.int .i64 (b:Int)) (heap_setCell_same w4 A 0 _ _ (.int .i64 (a:Int)) HX4.out)))
 have hAA:W.heap.size≤A:=by rw [HAA.out]; exact Nat.le_refl _
 have hbf:Below W.heap.size W ((((w4.setCell ⟨A,0,none⟩ (.int .i64 (a:Int))).setCell ⟨A,1,none⟩ (.int .i64 (b:Int))).setCell ⟨A,2,none⟩ (.int .i64 (c:Int))).setCell ⟨A,3,none⟩ (.int .i64 (d:Int))):=((((HB4.out.setCell (p:=⟨A,0,none⟩) hAA _).setCell (p:=⟨A,1,none⟩) hAA _).setCell (p:=⟨A,2,none⟩) hAA _).setCell (p:=⟨A,3,none⟩) hAA _)
 generalize (((w4.setCell ⟨A,0,none⟩ (.int .i64 (a:Int))).setCell ⟨A,1,none⟩ (.int .i64 (b:Int))).setCell ⟨A,2,none⟩ (.int .i64 (c:Int))).setCell ⟨A,3,none⟩ (.int .i64 (d:Int))=w5 at *
 have a0:w5.cell? ⟨A,0,none⟩=some (.int .i64 (a:Int)):=cell_at hfin 0 _ rfl
 have a1:w5.cell? ⟨A,1,none⟩=some (.int .i64 (b:Int)):=cell_at hfin 1 _ rfl
 have a2:w5.cell? ⟨A,2,none⟩=some (.int .i64 (c:Int)):=cell_at hfin 2 _ rfl
 have a3:w5.cell? ⟨A,3,none⟩=some (.int .i64 (d:Int)):=cell_at hfin 3 _ rfl
 clear hfin
 refine bodyPost_ret (v:=.tuple #[.agg #[.int .i64 (a:Int),.int .i64 (b:Int),.int .i64 (c:Int),.int .i64 (d:Int)],.int .i64 0]) ?_ rfl ⟨rfl,hbf⟩
 simp [results,Tryz.results42,go_sem,a0,a1,a2,a3]
theorem qsat_any {base:Nat} {C:CqD} {D:DiskD} {x:QueD} (q p a b c d:Nat) (W:World) (h:CqAt base W C) (hx:x∈C.qs) (hq:x.q=(q:Int)) (hk:∀ y∈C.qs,∃ n:Nat,y.q=(n:Int)) (hD:DiskAt base W D) (hdb:C.db=D.blk) (hT:TabB base W) (hok:SegOk D x.R) (hup:D.down=false) (hb0:x.b0=0) (hl0:x.least=0) (hb:x.R.b=0) (hsz:x.R.size=200)
 (hp:20 * p+20≤x.R.txt.length) (hpb:p≤10000000) (hw:widOk (placeWs (a:Int) (b:Int) (c:Int) (d:Int))=true) (htx:(x.R.txt.drop (20 * p)).take 20=widW (placeWs (a:Int) (b:Int) (c:Int) (d:Int))) :
 Calls Tryz.prog 20 #[.pointer (some ⟨C.blk,0,none⟩),.string (S x.topic),.int .i64 (q:Int),.int .i64 (p:Int)] W fun e w'=>e=.returned (.tuple #[.agg #[.int .i64 (a:Int),.int .i64 (b:Int),.int .i64 (c:Int),.int .i64 (d:Int)],.int .i64 0])∧Below W.heap.size W w':=by
 have HO:=Lib.hid (fun (w:World) (hb:Below W.heap.size W w)=>of_any q w (h.below hb) hx hq hk)
 have HN:=Lib.hid (fun (w:World) (hb:Below W.heap.size W w)=>CqW.next_any w ((h.below hb).que x hx).1 ((h.below hb).que x hx).2.1 (by rw [hb0]; omega))
 have HA:=Lib.hid (fun (w:World) (hb2:Below W.heap.size W w)=>qat_any p a b c d w ((h.below hb2).que x hx).1 ((h.below hb2).que x hx).2.1 (hD.below hb2) (((h.que x hx).2.2).trans hdb) (hT.below hb2) hok hup hb0 hb hsz hp hpb hw htx)
 have HX:Hid (W.heap[x.blk]?=some (.cells x.cells 110 (0,0))):=(h.que x hx).1
 have he:x.b0+x.R.e / 20=x.R.txt.length / 20:=by unfold SegD.e; rw [hb0,hb]; omega
 rw [he] at HN
 obtain ⟨n,hn⟩:∃ n,x.R.txt.length / 20=n:=⟨_,rfl⟩
 rw [hn] at HN
 have hpn:decide ((n:Int)≤(p:Int))=false:=decide_eq_false (by omega)
 have hpn2:decide (n≤p)=false:=decide_eq_false (by omega)
 have hpn3:¬ n≤p:=by omega
 have hp0:decide ((p:Int) < 0)=false:=decide_eq_false (by omega)
 have hpl:decide ((p:Int) < 0)=false:=hp0
 have hpz:decide ((0:Int)≤(p:Int))=true:=decide_eq_true (by omega)
 have hcl:x.cells=#[.pointer (some ⟨x.R.blk,0,none⟩),.int .i64 0,.int .i64 0]:=by unfold QueD.cells; rw [hb0,hl0]; rfl
 rw [hcl] at HX
 clear h hx hq hk hD hdb hT hok hup hb0 hl0 hb hsz hp hpb hw htx he hn hcl
 generalize S x.topic=tt at *
 generalize x.blk=xb at *
 go_enter Tryz.func20,Tryz.ntmps20
 go_upto_region 1 with fail
 have HB1:Hid (Below W.heap.size W (W.alloc (.cells #[.int .i64 0,.int .i64 0,.int .i64 0,.int .i64 0] 68))):=(Below.refl _ W).alloc (Nat.le_refl _) _
 have HX1:Hid ((W.alloc (.cells #[.int .i64 0,.int .i64 0,.int .i64 0,.int .i64 0] 68)).heap[W.heap.size]?=some (.cells #[.int .i64 0,.int .i64 0,.int .i64 0,.int .i64 0] 68 (0,0))):=heap_alloc_new W _
 generalize W.alloc (.cells #[.int .i64 0,.int .i64 0,.int .i64 0,.int .i64 0] 68)=w1 at *
 obtain ⟨A,hA⟩:∃ A,W.heap.size=A:=⟨_,rfl⟩
 rw [hA] at HX1 ⊢
 have HAA:=Lib.hid hA
 clear hA
 go_wp2_with fail
 refine (HO.out w1 HB1.out).mono ?_
 rintro e w2 ⟨rfl,he⟩
 obtain rfl:=he.symm
 have HXB:=Lib.hid (heap_below HB1.out HX.out)
 have x0:=cell_at HXB.out 2 _ rfl
 clear HO
 go_wp2_with fail
 refine (HN.out w1 HB1.out).mono ?_
 rintro e w2 ⟨rfl,hd⟩
 have HB2:=Lib.hid (HB1.out.trans ((hd.below w1.heap.size).mono HB1.out.size))
 have HX2:Hid (w2.heap[A]?=_):=heap_below (hd.below w1.heap.size) HX1.out
 clear hd HN x0
 go_wp2_with fail
 refine (HA.out w2 HB2.out).mono ?_
 rintro e w3 ⟨rfl,hb3⟩
 have HB4:=Lib.hid (HB2.out.trans (hb3.mono HB2.out.size))
 have HX4:Hid (w3.heap[A]?=_):=heap_below hb3 HX2.out
 have hx4:=HX4.out
 have f0:=frozen_at hx4 0
 have f1:=frozen_at hx4 1
 have f2:=frozen_at hx4 2
 have f3:=frozen_at hx4 3
 have z0:=cell_at hx4 0 _ rfl
 have z1:=cell_at hx4 1 _ rfl
 have z2:=cell_at hx4 2 _ rfl
 have z3:=cell_at hx4 3 _ rfl
 clear hx4 hb3 HA HB2 HX2 HX1 HB1 HXB HX
 go_wp2_with fail
 have hfin:=heap_setCell_same _ A 3 _ _ (.int .i64 (d:Int)) (heap_setCell_same _ A 2 _ _ (.int .i64 (c:Int)) (heap_setCell_same _ A 1 _ _ (.int .i64 (b:Int)) (heap_setCell_same w3 A 0 _ _ (.int .i64 (a:Int)) HX4.out)))
 have hAA:W.heap.size≤A:=by rw [HAA.out]; exact Nat.le_refl _
 have hbf:Below W.heap.size W ((((w3.setCell ⟨A,0,none⟩ (.int .i64 (a:Int))).setCell ⟨A,1,none⟩ (.int .i64 (b:Int))).setCell ⟨A,2,none⟩ (.int .i64 (c:Int))).setCell ⟨A,3,none⟩ (.int .i64 (d:Int))):=((((HB4.out.setCell (p:=⟨A,0,none⟩) hAA _).setCell (p:=⟨A,1,none⟩) hAA _).setCell (p:=⟨A,2,none⟩) hAA _).setCell (p:=⟨A,3,none⟩) hAA _)
 generalize (((w3.setCell ⟨A,0,none⟩ (.int .i64 (a:Int))).setCell ⟨A,1,none⟩ (.int .i64 (b:Int))).setCell ⟨A,2,none⟩ (.int .i64 (c:Int))).setCell ⟨A,3,none⟩ (.int .i64 (d:Int))=w5 at *
 have a0:w5.cell? ⟨A,0,none⟩=some (.int .i64 (a:Int)):=cell_at hfin 0 _ rfl
 have a1:w5.cell? ⟨A,1,none⟩=some (.int .i64 (b:Int)):=cell_at hfin 1 _ rfl
 have a2:w5.cell? ⟨A,2,none⟩=some (.int .i64 (c:Int)):=cell_at hfin 2 _ rfl
 have a3:w5.cell? ⟨A,3,none⟩=some (.int .i64 (d:Int)):=cell_at hfin 3 _ rfl
 clear hfin
 refine bodyPost_ret (v:=.tuple #[.agg #[.int .i64 (a:Int),.int .i64 (b:Int),.int .i64 (c:Int),.int .i64 (d:Int)],.int .i64 0]) ?_ rfl ⟨rfl,hbf⟩
 simp [results,Tryz.results20,go_sem,a0,a1,a2,a3]
theorem end_nil (w:World):Calls Tryz.prog 23 #[.pointer none] w fun e w'=>e=.returned (.int .i64 0)∧w'=w:=by
 go_enter Tryz.func23,Tryz.ntmps23
 go_wp2_with fail
 go_ret
 exact ⟨rfl,rfl⟩
theorem next_empty (b:Nat) (w:World) (hx:w.heap[b]?=some (.cells #[.pointer none,.int .i64 0,.int .i64 0] 110 (0,0))) :
 Calls Tryz.prog 41 #[.pointer (some ⟨b,0,none⟩)] w fun e w'=>e=.returned (.int .i64 0)∧Drawn w w':=by
 have c0:w.cell? ⟨b,0,none⟩=some (.pointer none):=by rw [Lib.cell_of_heap hx]; rfl
 have c1:w.cell? ⟨b,1,none⟩=some (.int .i64 0):=by rw [Lib.cell_of_heap hx]; rfl
 have HE:=Lib.hid (fun (w2:World)=>end_nil w2)
 clear hx
 go_enter Tryz.func41,Tryz.ntmps41
 go_wp2_with fail
 refine GrowN.wp_region_n 12 [none,none,none,none,none,none,none,none,some (.inl (.int .i64 0)),some (.inl (.int .i64 0)),some (.inl (.int .i64 0)),none] (DrR) (by kernel_rfl) (by kernel_rfl) (by kernel_rfl) (DrR.refl) (fun _ _ _=>DrR.trans) ?_ ?_
 · exact GrowN.stab0 rfl
 simp only [List.take_succ_cons,List.take_zero,List.drop_succ_cons,List.drop_zero]
 iterate 2
  refine GrowN.g_det rfl ?_
  apply Exists.intro
  refine ⟨fun w hw hF=>?_,?_⟩
  · clear hF
    go_simp
    exact ⟨rfl,DrR.refl _⟩
  go_frame
  refine GrowN.g_det rfl ?_
  apply Exists.intro
  refine ⟨fun w hw hF=>?_,?_⟩
  · clear hF
    go_simp
    exact ⟨rfl,DrR.refl _⟩
  go_frame
  refine GrowN.g_det rfl ?_
  apply Exists.intro
  refine ⟨fun w hw hF=>?_,?_⟩
  · clear hF
    go_simp
    exact ⟨rfl,DrR.refl _⟩
  go_frame
  refine GrowN.g_det rfl ?_
  apply Exists.intro
  refine ⟨fun w hw hF=>?_,?_⟩
  · clear hF
    obtain ⟨n,rfl⟩:=hw
    go_simp
    exact ⟨rfl,DrR.refl _⟩
  go_frame
 refine GrowN.g_con rfl (fun w hw hF=>?_) ?_
 ·
  clear hF
  obtain ⟨n,rfl⟩:=hw
  go_simp
  exact (HE.out _).mono fun e w3 h=>⟨_,h.1,rfl,h.2 ▸ DrR.refl _⟩
 iterate 2
  go_frame
  refine GrowN.g_con rfl (fun w hw hF=>?_) ?_
  · clear hF
    go_simp
    exact ⟨by decide,DrR.refl _⟩
 go_frame
 refine GrowN.g_det rfl ?_
 apply Exists.intro
 refine ⟨fun w hw hF=>?_,?_⟩
 · clear hF
   go_simp
   exact ⟨rfl,DrR.refl _⟩
 go_frame
 refine GrowN.g_nil fun w2 hw2 hF=>?_
 clear hF
 have hd:Drawn w w2:=by
  obtain ⟨n,rfl⟩:=hw2
  exact ⟨1+n,by rw [← World.drewN_drewN]; rfl⟩
 have HD:=Lib.hid hd
 clear hd hw2
 go_wp2_with fail
 go_ret
 exact ⟨rfl,HD.out⟩
theorem of_none {base:Nat} {C:CqD} (t:List UInt8) (q:Nat) (w:World) (h:CqAt base w C) (hk:∀ y∈C.qs,∃ n:Nat,y.q=(n:Int)) (hn:∀ x∈C.qs,¬ (x.topic=t∧x.q=(q:Int))) :
 Calls Tryz.prog 40 #[.pointer (some ⟨C.blk,0,none⟩),.string (S t),.int .i64 (q:Int)] w fun e w'=>∃ b,e=.returned (.pointer (some ⟨b,0,none⟩))∧w'.heap[b]?=some (.cells #[.pointer none,.int .i64 0,.int .i64 0] 110 (0,0))∧Below w.heap.size w w':=by
 have hl:(Instr.lookup 166 (.map (some C.mB)) (.agg #[.string (S t),.int .i64 (q:Int)]) false).run Tryz.prog w=.ok (.pointer none) w:=by
  refine lookup_not Tryz.underlying166 keyedW h.map (fun p hp=>?_) (k:=.agg #[.string (S t),.int .i64 (q:Int)]) ⟨t,q,rfl⟩ (fun p hp=>?_) zero_ptr false
  · obtain ⟨y,hy,rfl⟩:=List.mem_map.1 hp
    obtain ⟨n,hn⟩:=hk y hy
    exact ⟨y.topic,n,by show QueD.key y=_; unfold QueD.key; rw [hn]⟩
  · obtain ⟨y,hy,rfl⟩:=List.mem_map.1 hp
    exact key_ne (hn y hy)
 have c1:w.cell? ⟨C.blk,1,none⟩=some (.map (some C.mB)):=cell_at h.cells 1 _ rfl
 have HL:=Lib.hid hl
 clear h hk hn
 generalize S t=tt at *
 go_enter Tryz.func40,Tryz.ntmps40
 go_wp2_with fail
 go_ret
 exact ⟨_,rfl,heap_alloc_new w _,(Below.refl _ w).alloc (Nat.le_refl _) _⟩
theorem qnext_none {base:Nat} {C:CqD} (t:List UInt8) (q:Nat) (w:World) (h:CqAt base w C) (hk:∀ y∈C.qs,∃ n:Nat,y.q=(n:Int)) (hn:∀ x∈C.qs,¬ (x.topic=t∧x.q=(q:Int))) :
 Calls Tryz.prog 21 #[.pointer (some ⟨C.blk,0,none⟩),.string (S t),.int .i64 (q:Int)] w fun e w'=>e=.returned (.int .i64 0)∧Below w.heap.size w w':=by
 have HO:=Lib.hid (of_none t q w h hk hn)
 have HN:=Lib.hid (fun (b:Nat) (w:World)=>next_empty b w)
 clear h hk hn
 generalize S t=tt at *
 go_enter Tryz.func21,Tryz.ntmps21
 go_wp2_with fail
 refine HO.out.mono ?_
 rintro e w2 ⟨b,rfl,hb,hb2⟩
 have HB:=Lib.hid hb2
 have HNX:=Lib.hid (HN.out b w2 hb)
 clear HO hb hb2
 go_wp2_with fail
 refine HNX.out.mono ?_
 rintro e w3 ⟨rfl,hd⟩
 have HB3:=Lib.hid (HB.out.trans ((hd.below w2.heap.size).mono HB.out.size))
 clear hd HNX
 go_wp2_with fail
 go_ret
 exact ⟨rfl,HB3.out⟩
def cntQ (t:List UInt8) (q:Int) (l:List (Nat×Msg)):Nat:=(l.filter (isQ t q)).length
theorem cntQ_take {t:List UInt8} {q:Int} {l:List (Nat×Msg)} {i:Nat} (hi:i < l.length):cntQ t q (l.take (i+1))=cntQ t q (l.take i)+if isQ t q l[i]=true then 1 else 0:=by
 unfold cntQ
 rw [List.take_succ_eq_append_getElem hi,List.filter_append,List.length_append]
 by_cases h:isQ t q l[i]=true
 · rw [if_pos h,List.filter_cons_of_pos h]; rfl
 · rw [if_neg h,List.filter_cons_of_neg h]; rfl
theorem ofQ_at {t:List UInt8} {q:Int} {l:List (Nat×Msg)} (h:∀ p∈l,EntOk p) {i:Nat} (hi:i < l.length) (hm:isQ t q l[i]=true) :
 ((ofQ t q l).drop (20 * cntQ t q (l.take i))).take 20=entL l[i]∧20 * cntQ t q (l.take i)+20≤(ofQ t q l).length:=by
 have hs:l=l.take i++(l[i] :: l.drop (i+1)):=by rw [List.getElem_cons_drop,List.take_append_drop]
 have h1:(ofQ t q (l.take i)).length=20 * cntQ t q (l.take i):=ofQ_len t q _ fun p hp=>h p (List.mem_of_mem_take hp)
 have h2:=(entL_len (h l[i] (List.getElem_mem hi))).2
 have h3:ofQ t q l=ofQ t q (l.take i)++(entL l[i]++ofQ t q (l.drop (i+1))):=by
  have:ofQ t q l=ofQ t q (l.take i++(l[i] :: l.drop (i+1))):=congrArg _ hs
  rw [this]
  unfold ofQ
  rw [List.filter_append,List.filter_cons_of_pos hm,List.flatMap_append,List.flatMap_cons]
 rw [h3]
 constructor
 · rw [← h1,List.drop_left,← h2,List.take_left]
 · rw [List.length_append,List.length_append,h1,h2]; omega
theorem dis_qs {base:Nat} {w:World} {C:CqD} {D:DiskD} {X:KxD} {done:List (Nat×Msg)} {mk:Nat} (h:DisI base w C D X done mk):∀ y∈C.qs,∃ n:Nat,y.q=(n:Int):=fun y hy=>by
 obtain ⟨q,h1,_⟩:=(h.que y hy).q
 exact ⟨q,h1⟩
theorem dis_at {base:Nat} {C:CqD} {D:DiskD} {X:KxD} {l:List (Nat×Msg)} {mk:Nat} (t:List UInt8) (q i:Nat) (w:World) (h:DisI base w C D X l mk) (hT:TabB base w) (hi:i < l.length) (hl:l.length≤100000) (hm:isQ t (q:Int) l[i]=true) :
 Calls Tryz.prog 20 #[.pointer (some ⟨C.blk,0,none⟩),.string (S t),.int .i64 (q:Int),.int .i64 ((cntQ t (q:Int) (l.take i):Nat):Int)] w fun e w'=>e=.returned (.tuple #[.agg #[.int .i64 (l[i].1:Int),.int .i64 (((recL l[i].2).length:Nat):Int),.int .i64 ((hashL [l[i].2.tag]:Nat):Int),.int .i64 ((l[i].2.born.toNat:Nat):Int)],.int .i64 0])∧Below w.heap.size w w':=by
 obtain ⟨h1,h2⟩:=ofQ_at h.ents hi hm
 have hp:=h.ents l[i] (List.getElem_mem hi)
 have hmm:l[i].2.topic=t∧l[i].2.queue=(q:Int):=by unfold isQ at hm; simpa using hm
 obtain ⟨x,hx,e1,e2⟩:=h.has l[i] (List.getElem_mem hi)
 have hxt:x.topic=t:=e1.trans hmm.1
 have hxq:x.q=(q:Int):=e2.trans hmm.2
 have ho:=h.que x hx
 have htx:x.R.txt=ofQ t (q:Int) l:=by rw [ho.txt,hxt,hxq]
 obtain ⟨o1,o2⟩:=entL_len hp
 obtain ⟨d,hdd,hd⟩:∃ d:Nat,l[i].2.born.toNat=d∧l[i].2.born=(d:Int):=⟨l[i].2.born.toNat,rfl,by have:=hp.born; omega⟩
 have he:entL l[i]=widW (placeWs (l[i].1:Int) ((recL l[i].2).length:Int) ((hashL [l[i].2.tag]:Nat):Int) (d:Int)):=by unfold entL; rw [hd]
 rw [hd] at o1
 have hc:cntQ t (q:Int) (l.take i)≤100000:=by
  have h3:cntQ t (q:Int) (l.take i)≤(l.take i).length:=List.length_filter_le ..
  rw [List.length_take] at h3
  omega
 have:=qsat_any (D:=D) q (cntQ t (q:Int) (l.take i)) l[i].1 (recL l[i].2).length (hashL [l[i].2.tag]) d w h.cq hx hxq (dis_qs h) h.dsk h.db hT ho.ok h.quiet.up ho.b0 ho.least ho.b ho.sz (by rw [htx]; exact h2) (by omega) o1 (by rw [htx,h1,he])
 rw [hxt] at this
 rw [hdd]
 exact this
theorem dis_cnt {base:Nat} {C:CqD} {D:DiskD} {X:KxD} {l:List (Nat×Msg)} {mk:Nat} (t:List UInt8) (q:Nat) (w:World) (h:DisI base w C D X l mk) :
 Calls Tryz.prog 21 #[.pointer (some ⟨C.blk,0,none⟩),.string (S t),.int .i64 (q:Int)] w fun e w'=>e=.returned (.int .i64 ((cntQ t (q:Int) l:Nat):Int))∧Below w.heap.size w w':=by
 by_cases hex:∃ x∈C.qs,x.topic=t∧x.q=(q:Int)
 ·
  obtain ⟨x,hx,hxt,hxq⟩:=hex
  have ho:=h.que x hx
  have htx:x.R.txt=ofQ t (q:Int) l:=by rw [ho.txt,hxt,hxq]
  have hn:=qnext_any q w h.cq hx hxq (dis_qs h) (by rw [ho.b0]; omega)
  have he:x.b0+x.R.e / 20=cntQ t (q:Int) l:=by
   unfold SegD.e
   rw [ho.b0,ho.b,htx,ofQ_len t (q:Int) l h.ents]
   show 0+(0+20 * cntQ t (q:Int) l) / 20=_
   omega
  rw [he,hxt] at hn
  exact hn.mono fun e w' ⟨g1,g2⟩=>⟨g1,g2.below _⟩
 ·
  have hno:∀ x∈C.qs,¬ (x.topic=t∧x.q=(q:Int)):=fun x hx e=>hex ⟨x,hx,e⟩
  have hz:cntQ t (q:Int) l=0:=by
   unfold cntQ
   rw [List.length_eq_zero_iff,List.filter_eq_nil_iff]
   intro p hp hm
   have hmm:p.2.topic=t∧p.2.queue=(q:Int):=by unfold isQ at hm; simpa using hm
   obtain ⟨x,hx,e1,e2⟩:=h.has p hp
   exact hno x hx ⟨e1.trans hmm.1,e2.trans hmm.2⟩
  rw [hz]
  exact qnext_none t q w h.cq (dis_qs h) hno
end Go.Proofs.YtnoehodmmkioaaaGreatDoor.CqW
namespace Go.Proofs.YtnoehodmmkioaaaGreatDoor.SndW
open Go.RowKit Go.MapKept Go.Sort OctMath RecMath RecW DskW SegW MapG TapeW TapeMath PendW CacheW StoW TopW NameMath CqW KxW
structure QueI (z:Nat) (W w:World) (sb db ob:Nat) (ws:List (WantD×Option Addr×Nat)) (i:Nat) (S1:StoD) (X:TabD) (C:CqD) (D:DiskD) (Y:KxD) (B:Nat) (v5 v6:Value):Prop where
 si:SentI W.heap.size W w sb db ob 40 (goodN ws i) 0 ((goodL ws).map (·.1)) S1 X
 dis:DisB W.heap.size B (fun k=>W.heap.size≤k) w S1 C D Y [] 0 0 4194184
 syn:S1.T.R.synced=S1.T.R.e
 len:S1.T.O.recs.length=goodN ws i
 r5:w.ownsRow z 33 5 v5 (goodN ws i) (cellsV ((goodL ws).take (goodN ws i)))
 r6:w.ownsRow z 3 1 v6 (goodN ws i) (idsL S1.T.O.recs)
 a5:∀ j,S1.foot j→v5.ownBlock≠some j
 a6:∀ j,S1.foot j→v6.ownBlock≠some j
 a56:∀ j,v5.ownBlock=some j→v6.ownBlock≠some j
 zw:z≤w.heap.size
structure QueZ (z:Nat) (W:World) (X:TabD) (C:CqD) (D:DiskD) (Y:KxD) (B:Nat):Prop where
 xz:∀ k,X.foot k→k < z
 dz:∀ k,DisF C D Y k∨k=B→k < z
 xd:∀ k,X.foot k→¬ DisF C D Y k∧k≠B
 wz:W.heap.size≤z
theorem QueI.below {z:Nat} {W w w':World} {sb db ob:Nat} {ws:List (WantD×Option Addr×Nat)} {i:Nat} {S1:StoD} {X:TabD} {C:CqD} {D:DiskD} {Y:KxD} {B:Nat} {v5 v6:Value} (h:QueI z W w sb db ob ws i S1 X C D Y B v5 v6) (hZ:QueZ z W X C D Y B) (hb:Below w.heap.size w w'):QueI z W w' sb db ob ws i S1 X C D Y B v5 v6 where
 si:=h.si.below hb (Nat.le_trans hZ.wz h.zw)
 dis:=h.dis.next (M:=fun _=>False) (Mod.of_below hb) (fun _ h=>h.elim) rfl rfl rfl rfl (fun _ h=>.inl h)
 syn:=h.syn
 len:=h.len
 r5:=SegW.ownsRow_mod h.r5 (Mod.of_below (M:=fun _=>False) hb) (fun _ _ h=>h)
 r6:=SegW.ownsRow_mod h.r6 (Mod.of_below (M:=fun _=>False) hb) (fun _ _ h=>h)
 a5:=h.a5
 a6:=h.a6
 a56:=h.a56
 zw:=Nat.le_trans h.zw hb.size
theorem QueI.no {z:Nat} {W w:World} {sb db ob:Nat} {ws:List (WantD×Option Addr×Nat)} {i:Nat} {S1:StoD} {X:TabD} {C:CqD} {D:DiskD} {Y:KxD} {B:Nat} {v5 v6:Value} (h:QueI z W w sb db ob ws i S1 X C D Y B v5 v6) (hi:i < ws.length) (hc:checkW made3 ws[i].1≠0):QueI z W w sb db ob ws (i+1) S1 X C D Y B v5 v6:=by
 have hn:=goodN_no hi hc
 exact { h with si:=by rw [hn]; exact h.si,len:=by rw [hn]; exact h.len,r5:=by rw [hn]; exact h.r5,r6:=by rw [hn]; exact h.r6 }
theorem QueI.next {z:Nat} {W w w3:World} {sb db ob:Nat} {ws:List (WantD×Option Addr×Nat)} {i:Nat} {S1 S2:StoD} {X:TabD} {C:CqD} {D:DiskD} {Y:KxD} {B:Nat} {v5 v6:Value} (h:QueI z W w sb db ob ws i S1 X C D Y B v5 v6) (hZ:QueZ z W X C D Y B) (hi:i < ws.length) (hl:ws.length≤40) (x:WantD) (a:Option Addr) (c:Nat) (hx:ws[i]=(x,a,c)) (hc:checkW made3 x=0)
 (hs2:StoTab W.heap.size w3 S2 X) (hp2:Put w.heap.size S1 S2 (recW x 1 0 S1.now) true) (hm2:Mod S1.foot w w3) (idn:Nat) (hid:idn=S1.T.R.e+(fillOf S1.T.R.e (recW x 1 0 S1.now)).length) :
 ∃ v5' w8 v6' w10,(Builtin.append_ #[23,23] 23 #[v5,.slice (some ⟨w3.heap.size,0,none⟩) 1 1]).run Tryz.prog (w3.alloc (.cells (cellsW x a c) 33))=.ok v5' w8 ∧
  (Builtin.append_ #[49,49] 49 #[v6,.slice (some ⟨w8.heap.size,0,none⟩) 1 1]).run Tryz.prog (w8.alloc (.cells #[.int .i64 (idn:Int)] 3))=.ok v6' w10 ∧
  QueI z W w10 sb db ob ws (i+1) S2 X C D Y B v5' v6':=by
 obtain ⟨g1,hk,g2⟩:=goodN_yes hi (by rw [hx]; exact hc)
 have gle:=goodN_le ws i
 have hww:W.heap.size≤w.heap.size:=Nat.le_trans hZ.wz h.zw
 have hkm:goodN ws i < ((goodL ws).map (·.1)).length:=by rw [List.length_map]; exact hk
 have hgm:((goodL ws).map (·.1))[goodN ws i]=x:=by rw [List.getElem_map,g2,hx]
 have hr:rightL (recW x 1 0 S1.now)=true:=checkW_zero made_plain hc (.inl ⟨rfl,rfl⟩) rfl (by rw [h.si.now]; decide)
 have hsn:=put_snoc h.si.st.sto hs2.sto hp2
 rw [← hid] at hsn
 have hsi:=h.si.next (by omega) hkm (by rw [hgm]; exact hr) hww hs2 (by rw [hgm]; exact hp2) hm2
 have hdis:DisB W.heap.size B (fun k=>W.heap.size≤k) w3 S2 C D Y [] 0 0 4194184:=h.dis.next hm2 h.dis.apart (by rw [hp2.same]) (by rw [hp2.same]) (by rw [hp2.same]) hp2.oblk hp2.foot
 have hz3:z≤w3.heap.size:=Nat.le_trans h.zw hm2.size
 have hr5:=SegW.ownsRow_mod h.r5 hm2 (fun j hj h2=>h.a5 j h2 hj)
 have hr6:=SegW.ownsRow_mod h.r6 hm2 (fun j hj h2=>h.a6 j h2 hj)
 have hl5:((goodL ws).take (goodN ws i)).length=goodN ws i:=by rw [List.length_take]; omega
 have hb5:∀ j,S2.foot j→v5.ownBlock≠some j:=fun j hj e=>(hp2.foot j hj).elim (fun h2=>h.a5 j h2 e) fun h2=>by have:=own_lt h.r5 e; omega
 have hb6:∀ j,S2.foot j→v6.ownBlock≠some j:=fun j hj e=>(hp2.foot j hj).elim (fun h2=>h.a6 j h2 e) fun h2=>by have:=own_lt h.r6 e; omega
 have hr5':w3.ownsRow z 33 5 v5 ((goodL ws).take (goodN ws i)).length (cellsV ((goodL ws).take (goodN ws i))):=by rw [hl5]; exact hr5
 obtain ⟨v5',w8,run5,row5,m5,⟨a8,c8,e8⟩,ob5⟩:=append_want (l:=(goodL ws).take (goodN ws i)) hr5' x a c (by omega) hz3
 rw [hl5] at row5
 have hr6':w8.ownsRow z 3 1 v6 (goodN ws i) (idsL S1.T.O.recs):=SegW.ownsRow_mod hr6 m5 (fun j hj h2=>h.a56 j h2 hj)
 obtain ⟨v6',w10,run6,row6,m6,⟨a9,c9,e9⟩,ob6⟩:=append_int hr6' (idn:Int) (by omega) (Nat.le_trans hz3 m5.size)
 have hlo5:∀ j,v5.ownBlock=some j→z≤j:=fun j hj=>ownBlock_of_own hr5 j hj
 have hlo6:∀ j,v6.ownBlock=some j→z≤j:=fun j hj=>ownBlock_of_own hr6 j hj
 have hmm:Mod (fun k=>v5.ownBlock=some k∨v6.ownBlock=some k) w3 w10:=(m5.mono fun k _ e=>.inl e).trans (m6.mono fun k _ e=>.inr e)
 have h56':∀ j,v5'.ownBlock=some j→v6.ownBlock≠some j:=fun j h1 h2=>(ob5 j h1).elim (fun h3=>h.a56 j h3 h2) fun h3=>by have:=own_lt hr6 h2; omega
 have e5:(goodL ws).take (goodN ws i)++[(x,a,c)]=(goodL ws).take (goodN ws (i+1)):=by rw [g1,List.take_succ_eq_append_getElem hk,g2,hx]
 refine ⟨v5',w8,v6',w10,run5,run6,⟨?_,?_,?_,?_,?_,?_,fun j hj e=>?_,fun j hj e=>?_,fun j h1 h2=>?_,Nat.le_trans hz3 hmm.size⟩⟩
 ·
  rw [g1]
  refine { hsi with st:=hsi.st.mod hmm (fun j hj h2=>h2.elim (hb5 j hj) (hb6 j hj)) (fun j hj h2=>?_),low:=hsi.low.trans (hmm.to_below _ (Nat.le_trans hZ.wz hz3) fun k hk2=>?_) }
  · have:=hZ.xz j hj
    rcases h2 with h2 | h2
    · have:=hlo5 j h2; omega
    · have:=hlo6 j h2; omega
  · have:=hZ.wz
    rcases hk2 with h2 | h2
    · have:=hlo5 k h2; omega
    · have:=hlo6 k h2; omega
 · refine hdis.next hmm (fun k hk2=>?_) rfl rfl rfl rfl (fun _ h=>.inl h)
   have hzk:z≤k:=hk2.elim (hlo5 k) (hlo6 k)
   exact ⟨fun h2=>by have:=hZ.dz k (.inl h2); omega,fun h2=>by have:=hZ.dz k (.inr h2); omega⟩
 · exact hp2.waits.2
 · rw [hsn,List.length_append,h.len,g1]; rfl
 · rw [← e5,g1]
   exact SegW.ownsRow_mod row5 m6 (fun j h1 h2=>h56' j h1 h2)
 · rw [hsn,g1]
   have e:idsL (S1.T.O.recs++[(idn,recW x 1 0 S1.now)])=idsL S1.T.O.recs++[.int .i64 (idn:Int)]:=by unfold idsL; simp
   rw [e]; exact row6
 · have hjl:=hsi.st.sto.lt hj
   exact (ob5 j e).elim (hb5 j hj) fun h3=>by omega
 · have hjl:=hsi.st.sto.lt hj
   exact (ob6 j e).elim (hb6 j hj) fun h3=>by have:=m5.size; omega
 · rcases ob6 j h2 with h3 | h3
   · exact h56' j h1 h3
   · have:=own_lt row5 h1; omega
structure QueF (W w:World) (sb:Nat) (gs:List (WantD×Option Addr×Nat)) (l:List (Nat×Msg)) (lt:List (List UInt8×Nat)) (a5 a6 a7:Option Addr) (C:CqD) (D:DiskD) (Y:KxD) (mk:Nat):Prop where
 c:WantC w a5 gs
 i:OctW.Ints w a6 (l.map fun p=>(p.1:Int))
 r:RowT w a7 lt
 d:DisI W.heap.size w C D Y l mk
 t:TabB W.heap.size w
 q:w.cell? ⟨sb,1,none⟩=some (.pointer (some ⟨C.blk,0,none⟩))
 low:Below W.heap.size W w
theorem QueF.below {W w w':World} {sb:Nat} {gs:List (WantD×Option Addr×Nat)} {l:List (Nat×Msg)} {lt:List (List UInt8×Nat)} {a5 a6 a7:Option Addr} {C:CqD} {D:DiskD} {Y:KxD} {mk:Nat} (h:QueF W w sb gs l lt a5 a6 a7 C D Y mk) (hb:Below w.heap.size w w'):QueF W w' sb gs l lt a5 a6 a7 C D Y mk :=
 ⟨h.c.below hb,h.i.below hb,h.r.below hb,h.d.below hb,h.t.below hb,by rw [hb.cell (cell_lt h.q)]; exact h.q,h.low.trans (hb.mono h.low.size)⟩
def SameL (gs:List (WantD×Option Addr×Nat)) (l:List (Nat×Msg)):Prop:=l.length=gs.length∧∀ i (h:i < l.length) (h2:i < gs.length),l[i].2.topic=gs[i].1.topic∧l[i].2.queue=gs[i].1.queue
theorem same_of {gs:List (WantD×Option Addr×Nat)} {l:List (Nat×Msg)} (h:l.map (·.2)=(gs.map (·.1)).map fun x=>recW x 1 0 0):SameL gs l:=by
 have hlen:l.length=gs.length:=by have:=congrArg List.length h; simpa using this
 refine ⟨hlen,fun i h1 h2=>?_⟩
 have h3:(l.map (·.2))[i]'(by rw [List.length_map]; exact h1)=((gs.map (·.1)).map fun x=>recW x 1 0 0)[i]'(by rw [List.length_map,List.length_map]; exact h2):=by
  simp only [h]
 rw [List.getElem_map,List.getElem_map,List.getElem_map] at h3
 rw [h3]
 exact ⟨rfl,rfl⟩
end Go.Proofs.YtnoehodmmkioaaaGreatDoor.SndW
namespace Go.Proofs.YtnoehodmmkioaaaGreatDoor.StoW
open Go.RowKit Go.MapKept OctMath RecMath RecW TapeMath DskW SegW MapG TapeW PendW CacheW CqW KxW
theorem dis_ok {p:Nat×Msg} (h:rightL p.2=true) (hk:p.2.kind=1) (hid:p.1≤99999999):DisOk p:=by
 have h0:p.2.kind≠0:=by omega
 obtain ⟨r1,r2,r3,r4,r5,r6,r7,r8,r9,r10,r11⟩:=right_parts h h0
 have hc:carriesL p.2=true:=by
  unfold rightL at h
  split at h
  · cases h
  · first
    | exact (Bool.and_eq_true_iff.1 (Bool.and_eq_true_iff.1 h).1).1
    | (rw [if_pos hk] at h; exact (Bool.and_eq_true_iff.1 (Bool.and_eq_true_iff.1 h).1).1)
 have hct:NameMath.topicL p.2.topic=true∧p.2.keys.all keyL=true:=by
  unfold carriesL at hc
  simp only [Bool.and_eq_true,decide_eq_true_eq] at hc
  exact ⟨hc.1.1.1.1.1.1.1.1.1,hc.1.1.2⟩
 have hl:=(rec_len h h0).2
 refine ⟨⟨hid,by omega,r3,hct.1,by omega,⟨p.2.queue.toNat,by omega,by omega⟩⟩,.inl hk,fun k hk2=>⟨List.all_eq_true.1 hct.2 k hk2,by have:=r11 k hk2; omega⟩,by omega,by omega⟩
theorem keysN_le:∀ (l:List (Nat×Msg)),(∀ p∈l,p.2.keys.length≤3)→keysN l≤3 * l.length
 | [],_=>Nat.le_refl _
 | p :: l,h=>by
   have ih:=keysN_le l fun x hx=>h x (.tail _ hx)
   have h1:=h p (.head _)
   rw [keysN_cons,List.length_cons]
   omega
theorem dis_msgs {base B:Nat} {L:Nat→Prop} {S0:StoD} {C:CqD} {D:DiskD} {X:KxD} {r:Int} (w:World) (hS:StoAt base w S0) (h:DisB base B L w S0 C D X [] 0 0 r) (hT:TabB base w) (hbase:base≤w.heap.size) (hq:Quiet S0.T.D) (hl:S0.T.O.recs.length≤1000) (hk:∀ p∈S0.T.O.recs,p.2.kind=1) (hsy:S0.T.R.synced=S0.T.R.e) (he:S0.T.R.e≤99999999) (hr:100000≤r) :
 Calls Tryz.prog 18 #[.pointer (some ⟨B,0,none⟩)] w fun e w'=>e=.returned (.tuple #[.int .i64 (S0.T.O.recs.length:Int),.int .i64 0])∧StoAt base w' S0∧(∃ C' D' X' d' mk r',DisB base B (fun k=>L k∨w.heap.size≤k) w' S0 C' D' X' S0.T.O.recs mk d' r')∧Mod (fun k=>DisF C D X k∨k=B) w w':=by
 have hp:∀ p∈S0.T.O.recs,rightL p.2=true∧p.1+(recL p.2).length≤S0.T.R.e:=fun p hp=>by
  obtain ⟨g1,_,_,g4,_⟩:=lies_rec hS.tape (id:=p.1) (m:=p.2) hp
  exact ⟨g1,g4⟩
 have hkn:keysN S0.T.O.recs≤3 * S0.T.O.recs.length:=keysN_le _ fun p hp2=>(right_parts (hp p hp2).1 (by have:=hk p hp2; omega)).2.2.2.2.2.2.2.2.2.1
 refine (dis_sto w hS h hT hbase hq (by omega) (fun p hp2=>⟨dis_ok (hp p hp2).1 (hk p hp2) (by have:=(hp p hp2).2; omega),by have:=(hp p hp2).2; have:=rec_pos p.2; omega⟩) (by omega) (by omega)).mono ?_
 rintro e w' ⟨h1,h2,⟨C',D',X',d',h3⟩,h4⟩
 exact ⟨h1,h2,⟨C',D',X',d',_,_,h3⟩,h4⟩
structure FillG (s:Nat) (Z F:Obj) (u v:World):Prop where
 below:Below s u v
 full:∀ g,s≤g→u.heap[g]?=some F→v.heap[g]?=some F
 any:∀ g,s≤g→u.heap[g]?=some Z→v.heap[g]?=some Z∨v.heap[g]?=some F
theorem FillG.refl (s:Nat) (Z F:Obj) (w:World):FillG s Z F w w:=⟨Below.refl _ _,fun _ _ h=>h,fun _ _ h=>.inl h⟩
theorem FillG.trans {s:Nat} {Z F:Obj} {u v w:World} (h:FillG s Z F u v) (k:FillG s Z F v w):FillG s Z F u w :=
 ⟨h.below.trans k.below,fun g hg e=>k.full g hg (h.full g hg e),fun g hg e=>(h.any g hg e).elim (k.any g hg) fun e2=>.inr (k.full g hg e2)⟩
theorem FillG.of_below {s:Nat} {Z F:Obj} {u v:World} (hb:Below u.heap.size u v) (hs:s≤u.heap.size):FillG s Z F u v :=
 ⟨hb.mono hs,fun g _ e=>heap_below hb e,fun g _ e=>.inl (heap_below hb e)⟩
def InG (s:Nat) (Z F:Obj) (g:Nat) (w:World):Prop:=s≤g∧(w.heap[g]?=some Z∨w.heap[g]?=some F)
theorem InG.keep {s:Nat} {Z F:Obj} {g:Nat} {u v:World} (h:InG s Z F g u) (k:FillG s Z F u v):InG s Z F g v :=
 ⟨h.1,h.2.elim (k.any g h.1) fun e=>.inr (k.full g h.1 e)⟩
theorem FillG.store4 {s g:Nat} {T:TypeId} {z0 z1 z2 z3 x0 x1 x2 x3:Value} {w:World} (h:InG s (.cells #[z0,z1,z2,z3] T (0,0)) (.cells #[x0,x1,x2,x3] T (0,0)) g w) :
 ∃ c0 c1 c2 c3,w.heap[g]?=some (.cells #[c0,c1,c2,c3] T (0,0)) ∧
  ((((w.setCell ⟨g,0,none⟩ x0).setCell ⟨g,1,none⟩ x1).setCell ⟨g,2,none⟩ x2).setCell ⟨g,3,none⟩ x3).heap[g]?=some (.cells #[x0,x1,x2,x3] T (0,0)) ∧
  FillG s (.cells #[z0,z1,z2,z3] T (0,0)) (.cells #[x0,x1,x2,x3] T (0,0)) w ((((w.setCell ⟨g,0,none⟩ x0).setCell ⟨g,1,none⟩ x1).setCell ⟨g,2,none⟩ x2).setCell ⟨g,3,none⟩ x3):=by
 obtain ⟨c0,c1,c2,c3,hc⟩:∃ c0 c1 c2 c3,w.heap[g]?=some (.cells #[c0,c1,c2,c3] T (0,0)):=h.2.elim (fun e=>⟨_,_,_,_,e⟩) fun e=>⟨_,_,_,_,e⟩
 have hfin:=heap_setCell_same _ g 3 _ _ x3 (heap_setCell_same _ g 2 _ _ x2 (heap_setCell_same _ g 1 _ _ x1 (heap_setCell_same w g 0 _ _ x0 hc)))
 have hm:Mod (fun k=>k=g) w ((((w.setCell ⟨g,0,none⟩ x0).setCell ⟨g,1,none⟩ x1).setCell ⟨g,2,none⟩ x2).setCell ⟨g,3,none⟩ x3) :=
  ((((Mod.refl (fun k=>k=g) w).setCell (a:=⟨g,0,none⟩) (.inl rfl) _).setCell (a:=⟨g,1,none⟩) (.inl rfl) _).setCell (a:=⟨g,2,none⟩) (.inl rfl) _).setCell (a:=⟨g,3,none⟩) (.inl rfl) _
 have hlt:g < w.heap.size:=(Array.getElem?_eq_some_iff.1 hc).1
 refine ⟨c0,c1,c2,c3,hc,hfin,hm.to_below _ (by have:=h.1; omega) (fun k e=>e ▸ h.1),fun b hb e=>?_,fun b hb e=>?_⟩
 · by_cases hbg:b=g
   · subst hbg; exact hfin
   · exact heap_mod hm e hbg
 · by_cases hbg:b=g
   · subst hbg; exact .inr hfin
   · exact .inl (heap_mod hm e hbg)
def YZ (s:Nat) (Z F:Obj) (v:Value) (w:World):Prop:=∃ g,v=.pointer (some ⟨g,0,none⟩)∧InG s Z F g w
def YF (s:Nat) (F:Obj) (l:List (Option Value)) (w:World):Prop:=∃ g,l.head?=some (some (.pointer (some ⟨g,0,none⟩)))∧s≤g∧w.heap[g]?=some F
end Go.Proofs.YtnoehodmmkioaaaGreatDoor.StoW
namespace Go.Proofs.YtnoehodmmkioaaaGreatDoor.SndW
open Go.RowKit Go.MapKept Go.Sort OctMath RecMath RecW DskW SegW MapG TapeW TapeMath PendW CacheW StoW TopW NameMath CqW KxW
theorem sendq_any (ws:List (WantD×Option Addr×Nat)) (a0:Option Addr) (c0:Nat) (W:World) (hT:Tab W) (hR:WantRow W a0 ws) (hI:∀ p∈ws,inI p.1.queue) (hcap:∀ p∈ws,p.1.keys.length≤p.2.2) (hl:ws.length≤9223372036854775807)
 (HAW:Hid (Calls Tryz.prog 5 #[] W fun e w'=>e=.returned (.bool true)∧Below W.heap.size W w')) :
 Calls Tryz.prog 4 #[.slice a0 ws.length c0] W fun e w'=>e=.returned (.bool true)∧Below W.heap.size W w':=by
 have HTB:Hid (∀ w,Below W.heap.size W w→TabB W.heap.size w):=fun w hb=>⟨W,hT,Nat.le_refl _,hb⟩
 have HH:=Lib.hid hR
 have HI:=Lib.hid hI
 have HCP:=Lib.hid hcap
 clear hT hR hI hcap
 go_enter Tryz.func4,Tryz.ntmps4
 go_wp2_with fail
 refine HAW.out.mono ?_
 rintro e w1 ⟨rfl,hb1⟩
 have HB1:=Lib.hid hb1
 clear hb1 HAW
 by_cases h20:40 < ws.length
 ·
  have h20':(40:Int) < (ws.length:Int):=by omega
  go_wp2_with fail
  go_ret
  exact ⟨rfl,HB1.out⟩
 have h20':(ws.length:Int)≤(40:Int):=by omega
 have HGR:=Lib.hid (great_any ws a0 c0 w1 (HH.out.below HB1.out) (by omega))
 go_wp2_with fail
 refine HGR.out.mono ?_
 rintro e w2 ⟨rfl,hb2⟩
 have HB2:=Lib.hid (HB1.out.trans (hb2.mono HB1.out.size))
 clear hb2 HGR HB1
 obtain ⟨gr,hgr⟩:∃ gr,gr=ws.any fun p=>greatX p.1:=⟨_,rfl⟩
 rw [← hgr]
 cases gr with
 | true =>
   clear hgr
   go_wp2_with fail
   go_ret
   exact ⟨rfl,HB2.out⟩
 | false =>
 have HNG:Hid (∀ p∈ws,WantOk p.1∧p.1.topic.length≤100∧p.1.body.length≤1000∧p.1.keys.length≤10):=fun p hp=>want_ok (HI.out p hp) (by
  have:=List.any_eq_false.1 hgr.symm p hp
  simpa using this)
 clear hgr
 have HN1:=Lib.hid (DskW.new_any 1048576 W.heap.size w2 HB2.out.size)
 go_wp2_with fail
 refine HN1.out.mono ?_
 rintro e w3 ⟨D,rfl,hD,hb3,h11,h12,h13,h14,h15,h16,h17,h18⟩
 have hrm:D.room=1048576:=room_new h15 (by rw [h18]; rfl)
 have HB3:Hid (Below W.heap.size W w3):=HB2.out.trans (hb3.mono HB2.out.size)
 have HM:=Lib.hid (made_any 0 w3 hD ⟨h13,h14⟩ h15 h16 HB3.out.size (HTB.out w3 HB3.out) (by decide) (by omega))
 rw [show ((0:Nat):Int)=0 from rfl] at HM
 have HRM:=Lib.hid hrm
 have HDF:Hid (∀ k,D.foot k→W.heap.size≤k):=fun k hk=>hD.base_le hk
 clear hD hb3 h11 h12 h13 h14 h15 h16 h17 h18 hrm HN1 HB2
 go_wp2_with fail
 refine HM.out.mono ?_
 rintro e w4 ⟨S0,X,rfl,hmi,hxl⟩
 have HXL:=Lib.hid hxl
 have HB4:Hid (Below W.heap.size W w4):=HB3.out.trans (hmi.mod.to_below _ HB3.out.size HDF.out)
 have hft:∀ k,S0.foot k→W.heap.size≤k:=fun k hk=>(hmi.foot k hk).elim (HDF.out k) fun h=>by have:=HB3.out.size; omega
 obtain ⟨f1,f2,f3⟩:=hmi.fits
 obtain ⟨C,DC,Y,B,hB,hXB⟩:=hmi.dis
 have HZ:Hid (QueZ w4.heap.size W X C DC Y B):=⟨fun k hk=>hmi.st.tab.lt hk,fun k hk=>hk.elim (fun h=>hB.inv.lt h) fun h=>h ▸ (Array.getElem?_eq_some_iff.1 hB.cell).1,hXB,HB4.out.size⟩
 have HS4:Hid (QueI w4.heap.size W w4 S0.blk D.blk S0.T.O.blk ws 0 S0 X C DC Y B (.slice none 0 0) (.slice none 0 0)) :=
  ⟨⟨hmi.st,hmi.q,hmi.now,rfl,hmi.db,rfl,by have:=hmi.room; have:=HRM.out; show ((40 * 1531:Nat):Int)≤_; omega,by rw [f3]; exact Nat.zero_le _,by rw [f1]; exact Nat.zero_le _,by rw [f2]; rfl,hft,HB4.out⟩,hB.mono (fun k hk=>by have:=HB3.out.size; omega),hmi.syn,by rw [f2]; rfl,⟨rfl,.inl ⟨rfl,rfl⟩⟩,⟨by rw [f2]; rfl,.inl ⟨rfl,rfl⟩⟩,fun j _ e=>(by cases e),fun j _ e=>(by cases e),fun j e=>(by cases e),Nat.le_refl _⟩
 clear hmi hxl HM hft f1 f2 f3 HRM HDF HB3 hB hXB
 generalize S0.blk=sb at *
 generalize S0.T.O.blk=ob at *
 generalize D.blk=db at *
 generalize w4.heap.size=z at *
 go_wp2_with fail
 go_loopw [39,5,6] (fun i v5 v6 wr=>∃ k:Nat,k≤ws.length∧i=.int .i64 (k:Int)∧∃ S1,Hid (QueI z W wr sb db ob ws k S1 X C DC Y B v5 v6)) (fun i _ _ _=>ws.length - (intOf i).toNat)
 case atStart=>exact ⟨0,Nat.zero_le _,rfl,S0,HS4⟩
 case round =>
  obtain ⟨k,hk,rfl,S1,HS⟩:=hrel
  obtain ⟨wA,rfl⟩:∃ wA:World,wA=wr:=⟨_,rfl⟩
  by_cases hlt:k < ws.length
  ·
   obtain ⟨g,off,rfl,hcell,hkeys⟩:=(HH.out.below HS.out.si.low) k hlt
   have hwo:=(HNG.out ws[k] (List.getElem_mem hlt)).1
   have hcp:=HCP.out ws[k] (List.getElem_mem hlt)
   obtain ⟨p,hp⟩:∃ p,ws[k]=p:=⟨_,rfl⟩
   have HWK:=Lib.hid hp
   rw [hp] at hcell hkeys hwo hcp
   clear hp
   obtain ⟨x,a,c⟩:=p
   dsimp only at hcell hkeys hwo hcp
   have k0:wA.cell? ⟨g,off+k * 5,none⟩=some (.string (S x.topic)):=hcell 0 _ rfl
   have k1:wA.cell? ⟨g,off+k * 5+1,none⟩=some (.int .i64 x.queue):=hcell 1 _ rfl
   have k2:wA.cell? ⟨g,off+k * 5+2,none⟩=some (.string (S x.tag)):=hcell 2 _ rfl
   have k3:wA.cell? ⟨g,off+k * 5+3,none⟩=some (.slice a x.keys.length c):=hcell 3 _ rfl
   have k4:wA.cell? ⟨g,off+k * 5+4,none⟩=some (.string (S x.body)):=hcell 4 _ rfl
   have hba:Below wA.heap.size wA (wA.alloc (.cells #[.string (S x.topic),.int .i64 x.queue,.string (S x.tag),.slice a x.keys.length c,.string (S x.body)] 33)):=(Below.refl _ wA).alloc (Nat.le_refl _) _
   have hc2:=heap_alloc_new wA (.cells #[.string (S x.topic),.int .i64 x.queue,.string (S x.tag),.slice a x.keys.length c,.string (S x.body)] 33)
   have HQ2:Hid (QueI z W (wA.alloc (.cells #[.string (S x.topic),.int .i64 x.queue,.string (S x.tag),.slice a x.keys.length c,.string (S x.body)] 33)) sb db ob ws k S1 X C DC Y B u5 u6):=HS.out.below HZ.out hba
   have HST:=Lib.hid (Strs.below hkeys hba)
   have HFA:Hid (∀ j,S1.foot j→j < wA.heap.size):=fun j hj=>HS.out.si.st.sto.lt hj
   clear hcell hkeys hba hcp HS
   go_upto_region 13 with fail
   clear k0 k1 k2 k3 k4
   generalize wA.alloc (.cells #[.string (S x.topic),.int .i64 x.queue,.string (S x.tag),.slice a x.keys.length c,.string (S x.body)] 33)=w5 at *
   obtain ⟨A,hA⟩:∃ A,wA.heap.size=A:=⟨_,rfl⟩
   rw [hA] at hc2 HFA ⊢
   have HC2:=Lib.hid hc2
   have k0:w5.cell? ⟨A,0,none⟩=some (.string (S x.topic)):=cell_at hc2 0 _ rfl
   have k1:w5.cell? ⟨A,1,none⟩=some (.int .i64 x.queue):=cell_at hc2 1 _ rfl
   have k2:w5.cell? ⟨A,2,none⟩=some (.string (S x.tag)):=cell_at hc2 2 _ rfl
   have k3:w5.cell? ⟨A,3,none⟩=some (.slice a x.keys.length c):=cell_at hc2 3 _ rfl
   have k4:w5.cell? ⟨A,4,none⟩=some (.string (S x.body)):=cell_at hc2 4 _ rfl
   clear hA hc2
   have hle:=goodN_le ws k
   by_cases hck:checkW made3 x=0
   ·
    have hr:=checkW_zero (ki:=1) (due:=0) (now:=S1.now) made_plain hck (.inl ⟨rfl,rfl⟩) rfl (by rw [HQ2.out.si.now]; decide)
    have HSE:=Lib.hid (send_ok x true hwo (by rw [HXL.out]; exact hck) (by rw [HXL.out]; exact made_plain) a c w5 HQ2.out.si.st (by rw [HXL.out]; decide) HST.out HQ2.out.si.quiet (HTB.out _ HQ2.out.si.low) HQ2.out.si.low.size (by rw [HQ2.out.si.now]; decide)
     (HQ2.out.si.fits (by omega) hr (by show (1:Int)≠0; decide)) (by have:=HQ2.out.si.wl; omega) (by have:=HQ2.out.si.e; omega) (by have:=HQ2.out.si.rl; omega))
    rw [show cellsW x a c=#[.string (S x.topic),.int .i64 x.queue,.string (S x.tag),.slice a x.keys.length c,.string (S x.body)] from rfl,HQ2.out.si.blk] at HSE
    have HNX:=Lib.hid (fun (S2:StoD) (w6:World) (hs2:StoTab W.heap.size w6 S2 X) (hp2:Put w5.heap.size S1 S2 (recW x 1 0 S1.now) true) (hm2:Mod S1.foot w5 w6) (idn:Nat) hid=>HQ2.out.next HZ.out hlt (by omega) x a c HWK.out hck hs2 hp2 hm2 idn hid)
    clear hle hr hwo hck HST
    go_wp2_with fail
    refine HSE.out.mono ?_
    rintro e w6 ⟨rfl,S2,hs2,hp2,hm2⟩
    obtain ⟨idn,hid⟩:∃ idn:Nat,idn=S1.T.R.e+(fillOf S1.T.R.e (recW x 1 0 S1.now)).length:=⟨_,rfl⟩
    rw [← hid]
    obtain ⟨v5',w8,v6',w10,run5,run6,hq'⟩:=HNX.out S2 w6 hs2 hp2 hm2 idn hid
    have hc6:w6.heap[A]?=some (.cells #[.string (S x.topic),.int .i64 x.queue,.string (S x.tag),.slice a x.keys.length c,.string (S x.body)] 33 (0,0)):=(hm2.block A (Array.getElem?_eq_some_iff.1 HC2.out).1 (fun h=>by have:=HFA.out A h; omega)).trans HC2.out
    have q0:w6.cell? ⟨A,0,none⟩=some (.string (S x.topic)):=cell_at hc6 0 _ rfl
    have q1:w6.cell? ⟨A,1,none⟩=some (.int .i64 x.queue):=cell_at hc6 1 _ rfl
    have q2:w6.cell? ⟨A,2,none⟩=some (.string (S x.tag)):=cell_at hc6 2 _ rfl
    have q3:w6.cell? ⟨A,3,none⟩=some (.slice a x.keys.length c):=cell_at hc6 3 _ rfl
    have q4:w6.cell? ⟨A,4,none⟩=some (.string (S x.body)):=cell_at hc6 4 _ rfl
    rw [show cellsW x a c=#[.string (S x.topic),.int .i64 x.queue,.string (S x.tag),.slice a x.keys.length c,.string (S x.body)] from rfl] at run5
    have HR5:=Lib.hid run5
    have HR6:=Lib.hid run6
    have HQ':=Lib.hid hq'
    clear run5 run6 hq' hs2 hp2 hm2 hid hc6 HSE HNX HQ2 HC2 HFA k0 k1 k2 k3 k4
    go_wp2_with (at_builtin; first | (refine wpList_append_run _ rfl (.tmp 51) (.tmp 53) 23 23 rfl _ _ rfl rfl _ _ HR5.out ?_) | (refine wpList_append_run _ rfl (.tmp 55) (.tmp 57) 49 49 rfl _ _ rfl rfl _ _ HR6.out ?_))
    go_roundw
    case rel=>exact ⟨k+1,by omega,by go_num,S2,HQ'.out⟩
    case measure=>simp [intOf]; omega
   ·
    have HSE:=Lib.hid (send_bad x true hwo (checkW made3 x) (by rw [HXL.out]) hck a c w5 HQ2.out.si.st (by rw [HXL.out]; decide) HST.out)
    rw [show cellsW x a c=#[.string (S x.topic),.int .i64 x.queue,.string (S x.tag),.slice a x.keys.length c,.string (S x.body)] from rfl,HQ2.out.si.blk] at HSE
    have HNO:=Lib.hid (HQ2.out.no hlt (by rw [HWK.out]; exact hck))
    have hck2:(checkW made3 x == 0)=false:=beq_eq_false_iff_ne.2 hck
    obtain ⟨r,hr⟩:∃ r,checkW made3 x=r:=⟨_,rfl⟩
    rw [hr] at HSE hck2
    clear hle hwo hck HST HQ2 hr
    go_wp2_with fail
    refine HSE.out.mono ?_
    rintro e w6 ⟨rfl,hb6⟩
    have HQ':=Lib.hid (HNO.out.below HZ.out hb6)
    clear hb6 HSE HNO HC2 HFA k0 k1 k2 k3 k4
    go_wp2_with fail
    go_roundw
    case rel=>exact ⟨k+1,by omega,by go_num,S1,HQ'.out⟩
    case measure=>simp [intOf]; omega
  ·
   obtain rfl:k=ws.length:=by omega
   have hgl:=goodN_le ws ws.length
   have hrl:=HS.out.si.rl
   have hel:=HS.out.si.e
   have hkd:∀ p∈S1.T.O.recs,p.2.kind=1:=fun p hp=>by
    have h1:p.2∈S1.T.O.recs.map (·.2):=List.mem_map.2 ⟨p,hp,rfl⟩
    rw [HS.out.si.recs] at h1
    obtain ⟨x,_,hx⟩:=List.mem_map.1 h1
    rw [← hx]; rfl
   have HDA:=Lib.hid (dis_msgs wA HS.out.si.st.sto HS.out.dis (HTB.out _ HS.out.si.low) HS.out.si.low.size HS.out.si.quiet (by omega) hkd HS.out.syn (by omega) (by decide))
   have c7:wA.cell? ⟨sb,7,none⟩=some (.pointer (some ⟨B,0,none⟩)):=by
    have h1:wA.cell? ⟨S1.blk,7,none⟩=some S1.dp:=HS.out.si.st.sto.cell 7 _ rfl
    rw [HS.out.si.blk,HS.out.dis.dp] at h1
    exact h1
   clear hgl hrl hel hkd
   go_wp2_with fail
   refine HDA.out.mono ?_
   rintro e w6 ⟨rfl,hs6,⟨C',D',Y',d',mk,r',hd6⟩,hm6⟩
   have hzd:∀ k,DisF C DC Y k∨k=B→k < z:=HZ.out.dz
   have ht6:StoTab W.heap.size w6 S1 X:=HS.out.si.st.mod hm6 (fun j hj h=>h.elim (HS.out.dis.apart j hj).1 (HS.out.dis.apart j hj).2) (fun j hj h=>h.elim (HZ.out.xd j hj).1 (HZ.out.xd j hj).2)
   have h5:=SegW.ownsRow_mod HS.out.r5 hm6 (fun j hj h=>by have:=ownBlock_of_own HS.out.r5 j hj; have:=hzd j h; omega)
   have h6:=SegW.ownsRow_mod HS.out.r6 hm6 (fun j hj h=>by have:=ownBlock_of_own HS.out.r6 j hj; have:=hzd j h; omega)
   have hb6:Below W.heap.size W w6:=HS.out.si.low.trans (hm6.to_below _ HS.out.si.low.size fun j hj=>HS.out.dis.low j hj)
   have HT6:=Lib.hid ht6
   have HR5:=Lib.hid h5
   have HR6:=Lib.hid h6
   have HB6:=Lib.hid hb6
   have HD6:=Lib.hid hd6
   have HRC:=Lib.hid HS.out.si.recs
   have HLN:=Lib.hid HS.out.len
   have HSB:=Lib.hid HS.out.si.blk
   clear hs6 hd6 hm6 hzd ht6 h5 h6 hb6 HDA c7 HS HS4 HZ
   have c3:w6.cell? ⟨sb,3,none⟩=some (.pointer (some ⟨X.blk,0,none⟩)):=by rw [← HSB.out]; exact tab_cell HT6.out
   have HAL:=Lib.hid (tall_any w6 HT6.out.tab (by rw [HXL.out]; decide))
   go_wp2_with fail
   refine HAL.out.mono ?_
   rintro e w7 ⟨v',rfl,ho,hb7⟩
   obtain ⟨a7,cp7,hv7,hr7⟩:=RowT.own ho
   subst hv7
   have HR7:=Lib.hid hr7
   have HB7:=Lib.hid (HB6.out.trans (hb7.mono HB6.out.size))
   have HD7:Hid (DisI W.heap.size w7 C' D' Y' S1.T.O.recs mk):=HD6.out.inv.below hb7
   have c1:w7.cell? ⟨sb,1,none⟩=some (.pointer (some ⟨C'.blk,0,none⟩)):=by
    have h1:w7.cell? ⟨S1.blk,1,none⟩=some S1.cq:=(HT6.out.below hb7).sto.cell 1 _ rfl
    rw [HSB.out,HD6.out.cq] at h1
    exact h1
   have hl5:((goodL ws).take (goodN ws ws.length))=goodL ws:=by rw [goodN_all]; exact List.take_length
   have hrc:=HRC.out
   rw [← List.map_take,hl5] at hrc
   have HSM:=Lib.hid (same_of hrc)
   have h5:=HR5.out
   rw [hl5] at h5
   obtain ⟨a5,c5,hv5,hw5⟩:=want_cells h5 (goodN_all ws)
   obtain ⟨a6,c6,hv6,hw6⟩:=ints_row HR6.out
   subst hv5 hv6
   have HF7:Hid (QueF W w7 sb (goodL ws) S1.T.O.recs X.l a5 a6 a7 C' D' Y' mk):=⟨hw5.below hb7,hw6.below hb7,hr7,HD7.out,HTB.out w7 HB7.out,c1,HB7.out⟩
   have hgn:=goodN_all ws
   have hle40:(goodL ws).length≤40:=by have:=(goodN_le ws 0).2.2; omega
   have HXM:Hid (∀ x∈X.l,x.2≤255):=by show ∀ x∈X.l,x.2≤255; rw [HXL.out]; decide
   have hxle:X.l.length≤10:=by rw [HXL.out]; decide
   rw [hgn]
   clear ho hr7 hb7 HAL c3 c1 hl5 hrc h5 hw5 hw6 hgn HT6 HR5 HR6 HB6 HD6 HRC HLN HSB HR7 HB7 HD7 HXL HH HI HCP HNG HB4 HTB
   generalize goodL ws=gs at *
   generalize S1.T.O.recs=l at *
   generalize X.l=lt at *
   go_wp2_with fail
   go_loopw [76] (fun i wr=>∃ k:Nat,k≤lt.length∧i=.int .i64 (k:Int)∧Hid (QueF W wr sb gs l lt a5 a6 a7 C' D' Y' mk)) (fun i _=>lt.length - (intOf i).toNat)
   case atStart=>exact ⟨0,Nat.zero_le _,rfl,HF7⟩
   case round =>
    clear HF7
    obtain ⟨k,hk,rfl,HS⟩:=hrel
    obtain ⟨wB,rfl⟩:∃ wB:World,wB=wr:=⟨_,rfl⟩
    by_cases hlt:k < lt.length
    ·
     obtain ⟨g7,rfl,hgl,r0,r1⟩:=HS.out.r k hlt
     have hx2:=HXM.out lt[k] (List.getElem_mem hlt)
     generalize lt[k]=tp at *
     obtain ⟨tn,tq⟩:=tp
     dsimp only at *
     have hba:Below wB.heap.size wB (wB.alloc (.cells #[.string (S tn),.int .i64 (tq:Int)] 66)):=(Below.refl _ wB).alloc (Nat.le_refl _) _
     have hc2:=heap_alloc_new wB (.cells #[.string (S tn),.int .i64 (tq:Int)] 66)
     have HS2:=Lib.hid (HS.out.below hba)
     clear hba HS hgl
     go_upto_region 23 with fail
     generalize wB.alloc (.cells #[.string (S tn),.int .i64 (tq:Int)] 66)=w8 at *
     obtain ⟨A,hA⟩:∃ A,wB.heap.size=A:=⟨_,rfl⟩
     rw [hA] at hc2 ⊢
     have HE:Hid (∀ w,Below w8.heap.size w8 w→w.cell? ⟨A,0,none⟩=some (.string (S tn))∧w.cell? ⟨A,1,none⟩=some (.int .i64 (tq:Int))):=fun w hb=>by
      have h:=heap_below hb hc2
      exact ⟨cell_at h 0 _ rfl,cell_at h 1 _ rfl⟩
     clear hA hc2 r0 r1
     go_wp2_with fail
     go_loopw [15] (fun i wr=>∃ q:Nat,q≤tq∧i=.int .i64 (q:Int)∧Hid (Below w8.heap.size w8 wr)) (fun i _=>tq - (intOf i).toNat)
     case atStart=>exact ⟨0,Nat.zero_le _,rfl,Below.refl _ _⟩
     case round =>
      obtain ⟨q,hqt,rfl,HBL⟩:=hrel
      obtain ⟨wC,rfl⟩:∃ wC:World,wC=wr:=⟨_,rfl⟩
      obtain ⟨e0,e1⟩:=HE.out wC HBL.out
      by_cases hq2:q < tq
      ·
       go_wp2_with fail
       go_loopw [88,16] (fun i at_ wr=>∃ j:Nat,j≤gs.length∧i=.int .i64 (j:Int)∧at_=.int .i64 ((cntQ tn (q:Int) (l.take j):Nat):Int)∧Hid (Below w8.heap.size w8 wr)) (fun i _ _=>gs.length - (intOf i).toNat)
       case atStart=>exact ⟨0,Nat.zero_le _,rfl,rfl,HBL⟩
       case round =>
        clear HBL e0 e1
        obtain ⟨j,hj,rfl,rfl,HBM⟩:=hrel
        obtain ⟨wD,rfl⟩:∃ wD:World,wD=wr:=⟨_,rfl⟩
        obtain ⟨e0,e1⟩:=HE.out wD HBM.out
        have HFD:=Lib.hid (HS2.out.below HBM.out)
        by_cases hlt3:j < gs.length
        ·
         have hjl:j < l.length:=by rw [HSM.out.1]; exact hlt3
         obtain ⟨g5,hg5,hcell⟩:=HFD.out.c j hlt3
         obtain ⟨htp,hqp⟩:=HSM.out.2 j hjl hlt3
         have hct:=cntQ_take (t:=tn) (q:=(q:Int)) hjl
         generalize gs[j]=p at *
         obtain ⟨x,a,c⟩:=p
         dsimp only at hcell htp hqp
         have k0:wD.cell? ⟨g5,j * 5,none⟩=some (.string (S x.topic)):=hcell 0 _ rfl
         have k1:wD.cell? ⟨g5,j * 5+1,none⟩=some (.int .i64 x.queue):=hcell 1 _ rfl
         have k2:wD.cell? ⟨g5,j * 5+2,none⟩=some (.string (S x.tag)):=hcell 2 _ rfl
         have k3:wD.cell? ⟨g5,j * 5+3,none⟩=some (.slice a x.keys.length c):=hcell 3 _ rfl
         have k4:wD.cell? ⟨g5,j * 5+4,none⟩=some (.string (S x.body)):=hcell 4 _ rfl
         rw [hg5]
         have hba:Below wD.heap.size wD (wD.alloc (.cells #[.string (S x.topic),.int .i64 x.queue,.string (S x.tag),.slice a x.keys.length c,.string (S x.body)] 33)):=(Below.refl _ wD).alloc (Nat.le_refl _) _
         have hc2:=heap_alloc_new wD (.cells #[.string (S x.topic),.int .i64 x.queue,.string (S x.tag),.slice a x.keys.length c,.string (S x.body)] 33)
         have HB9:Hid (Below w8.heap.size w8 (wD.alloc (.cells #[.string (S x.topic),.int .i64 x.queue,.string (S x.tag),.slice a x.keys.length c,.string (S x.body)] 33))):=HBM.out.trans (hba.mono HBM.out.size)
         have HF9:=Lib.hid (HFD.out.below hba)
         clear hcell hba HFD e0 e1
         go_upto_region 30 with fail
         clear k0 k1 k2 k3 k4
         generalize wD.alloc (.cells #[.string (S x.topic),.int .i64 x.queue,.string (S x.tag),.slice a x.keys.length c,.string (S x.body)] 33)=w9 at *
         obtain ⟨A9,hA9⟩:∃ A,wD.heap.size=A:=⟨_,rfl⟩
         rw [hA9] at hc2 ⊢
         have k0:w9.cell? ⟨A9,0,none⟩=some (.string (S x.topic)):=cell_at hc2 0 _ rfl
         have k1:w9.cell? ⟨A9,1,none⟩=some (.int .i64 x.queue):=cell_at hc2 1 _ rfl
         obtain ⟨e0,e1⟩:=HE.out w9 HB9.out
         clear hA9 hc2
         have hself:(S tn != S tn)=false:=by simp [bne,((bytes_beq (S tn) (S tn)).2 rfl)]
         by_cases hm:x.topic=tn∧x.queue=(q:Int)
         ·
          obtain ⟨hm1,hm2⟩:=hm
          rw [hm1] at k0
          rw [hm2] at k1
          have hisq:isQ tn (q:Int) l[j]=true:=by unfold isQ; rw [htp,hqp,hm1,hm2]; simp
          rw [if_pos hisq] at hct
          obtain ⟨b',c',d',hdt⟩:∃ b' c' d':Nat,∀ w,Below w9.heap.size w9 w→Calls Tryz.prog 20 #[.pointer (some ⟨C'.blk,0,none⟩),.string (S tn),.int .i64 (q:Int),.int .i64 ((cntQ tn (q:Int) (l.take j):Nat):Int)] w fun e w'=>e=.returned (.tuple #[.agg #[.int .i64 (l[j].1:Int),.int .i64 (b':Int),.int .i64 (c':Int),.int .i64 (d':Int)],.int .i64 0])∧Below w.heap.size w w' :=
           ⟨_,_,_,fun w hb=>(dis_at tn q j w (HF9.out.below hb).d (HF9.out.below hb).t hjl (by have:=HSM.out.1; omega) hisq)⟩
          have HDT:=Lib.hid hdt
          have HCQ:=Lib.hid (fun (w:World) (hb:Below w8.heap.size w8 w)=>(HS2.out.below hb).q)
          have DQ:Hid (∀ w,FillG w9.heap.size (.cells #[.int .i64 0,.int .i64 0,.int .i64 0,.int .i64 0] 68 (0,0)) (.cells #[.int .i64 (l[j].1:Int),.int .i64 (b':Int),.int .i64 (c':Int),.int .i64 (d':Int)] 68 (0,0)) w9.drew w→Below w9.heap.size w9 w):=fun w hw=>((Below.refl w9.heap.size w9).drew).trans hw.below
          have DR:Hid (∀ w,FillG w9.heap.size (.cells #[.int .i64 0,.int .i64 0,.int .i64 0,.int .i64 0] 68 (0,0)) (.cells #[.int .i64 (l[j].1:Int),.int .i64 (b':Int),.int .i64 (c':Int),.int .i64 (d':Int)] 68 (0,0)) w9.drew w→Below w8.heap.size w8 w):=fun w hw=>HB9.out.trans ((DQ.out w hw).mono HB9.out.size)
          clear hdt
          go_upto_region 31 with fail
          clear k0 k1 e0 e1
          refine GrowN.wp_region_n 15 [none,none,none,none,none,none,none,none,some (.inl (.tuple #[.agg #[.int .i64 (l[j].1:Int),.int .i64 (b':Int),.int .i64 (c':Int),.int .i64 (d':Int)],.int .i64 0])),none,none,none,some (.inr (fun _=>YZ w9.heap.size (.cells #[.int .i64 0,.int .i64 0,.int .i64 0,.int .i64 0] 68 (0,0)) (.cells #[.int .i64 (l[j].1:Int),.int .i64 (b':Int),.int .i64 (c':Int),.int .i64 (d':Int)] 68 (0,0)))),some (.inr (fun lk _=>YF w9.heap.size (.cells #[.int .i64 (l[j].1:Int),.int .i64 (b':Int),.int .i64 (c':Int),.int .i64 (d':Int)] 68 (0,0)) lk)),none] (FillG w9.heap.size (.cells #[.int .i64 0,.int .i64 0,.int .i64 0,.int .i64 0] 68 (0,0)) (.cells #[.int .i64 (l[j].1:Int),.int .i64 (b':Int),.int .i64 (c':Int),.int .i64 (d':Int)] 68 (0,0))) (by kernel_rfl) (by kernel_rfl) (by kernel_rfl) (FillG.refl _ _ _) (fun _ _ _=>FillG.trans) ?_ ?_
          · intro K hK Y hY l v w w' hR h
            simp only [List.mem_cons,List.not_mem_nil,or_false] at hK
            rcases hK with rfl | rfl | rfl | rfl | rfl | rfl | rfl | rfl | rfl | rfl | rfl | rfl | rfl | rfl | rfl <;> simp only [reduceCtorEq,Option.some.injEq,Sum.inr.injEq] at hY
            · subst hY; obtain ⟨g,h1,h2⟩:=h; exact ⟨g,h1,h2.keep hR⟩
            · subst hY; obtain ⟨g,h1,h2,h3⟩:=h; exact ⟨g,h1,h2,hR.full g h2 h3⟩
          simp only [List.take_succ_cons,List.take_zero,List.drop_succ_cons,List.drop_zero]
          iterate 3
           refine GrowN.g_det rfl ?_
           apply Exists.intro
           refine ⟨fun w hw hF=>?_,?_⟩
           · clear hF
             go_simp
             exact ⟨rfl,FillG.refl _ _ _ _⟩
           go_frame
          refine GrowN.g_det rfl ?_
          apply Exists.intro
          refine ⟨fun w hw hF=>?_,?_⟩
          · clear hF
            have c1:=HCQ.out w (DR.out w hw)
            go_simp
            exact ⟨rfl,FillG.refl _ _ _ _⟩
          go_frame
          refine GrowN.g_det rfl ?_
          apply Exists.intro
          refine ⟨fun w hw hF=>?_,?_⟩
          · clear hF
            go_simp
            exact ⟨rfl,FillG.refl _ _ _ _⟩
          go_frame
          refine GrowN.g_det rfl ?_
          apply Exists.intro
          refine ⟨fun w hw hF=>?_,?_⟩
          · clear hF
            have e0:=(HE.out w (DR.out w hw)).1
            go_simp
            exact ⟨rfl,FillG.refl _ _ _ _⟩
          iterate 2
           go_frame
           refine GrowN.g_det rfl ?_
           apply Exists.intro
           refine ⟨fun w hw hF=>?_,?_⟩
           · clear hF
             go_simp
             exact ⟨rfl,FillG.refl _ _ _ _⟩
          go_frame
          refine GrowN.g_con rfl (fun w hw hF=>?_) ?_
          · clear hF
            go_simp
            exact (HDT.out w (DQ.out w hw)).mono fun e w3 h=>⟨_,h.1,rfl,FillG.of_below h.2 hw.below.size⟩
          iterate 3
           go_frame
           refine GrowN.g_det rfl ?_
           apply Exists.intro
           refine ⟨fun w hw hF=>?_,?_⟩
           · clear hF
             go_simp
             exact ⟨rfl,FillG.refl _ _ _ _⟩
          go_frame
          refine GrowN.g_new rfl (fun w hw hF=>?_) (fun v12=>?_)
          · clear hF
            go_simp
            exact ⟨⟨_,rfl,hw.below.size,.inl (heap_alloc_new w _)⟩,FillG.of_below ((Below.refl _ w).alloc (Nat.le_refl _) _) hw.below.size⟩
          go_frame
          refine GrowN.g_new rfl (fun w hw hF=>?_) (fun v13=>?_)
          ·
           skip
           obtain ⟨g,rfl,hG⟩:=hF _ (.head _) (by kernel_rfl)
           clear hF
           obtain ⟨c0,c1,c2,c3,hc,hfin,hst⟩:=FillG.store4 hG
           have z0:=cell_at hc 0 _ rfl
           have z1:=cell_at hc 1 _ rfl
           have z2:=cell_at hc 2 _ rfl
           have z3:=cell_at hc 3 _ rfl
           have f0:=frozen_at hc 0
           have f1:=frozen_at hc 1
           have f2:=frozen_at hc 2
           have f3:=frozen_at hc 3
           have hG1:=hG.1
           clear hc hG
           go_simp
           exact ⟨g,rfl,hG1,hfin⟩
          go_frame
          refine GrowN.g_det rfl ?_
          apply Exists.intro
          refine ⟨fun w hw hF=>?_,?_⟩
          · clear hF
            go_simp
            exact ⟨rfl,FillG.refl _ _ _ _⟩
          go_frame
          refine GrowN.g_nil fun w2 hw2 hF=>?_
          obtain ⟨g,hl13,hg,hh⟩:=hF _ (.head _)
          obtain ⟨g2,hv12,_⟩:=hF _ (.tail _ (.head _))
          clear hF
          subst hv12
          replace hl13:(some (some (Value.pointer (some ⟨g2,0,none⟩))):Option (Option Value))=some (some (.pointer (some ⟨g,0,none⟩))):=hl13
          obtain rfl:g2=g:=by simpa using hl13
          have HB31:=Lib.hid (DR.out w2 hw2)
          have HF31:=Lib.hid (HS2.out.below HB31.out)
          have p0:w2.cell? ⟨g2,0,none⟩=some (.int .i64 (l[j].1:Int)):=cell_at hh 0 _ rfl
          obtain ⟨b6,off6,e6,hci⟩:=HF31.out.i j (by rw [List.length_map]; exact hjl)
          have k6:w2.cell? ⟨b6,off6+j,none⟩=some (.int .i64 (l[j].1:Int)):=by rw [hci]; simp
          rw [e6]
          have hid:((l[j].1:Int) != (l[j].1:Int))=false:=by simp
          have HQ32:Hid (∀ w,RecW.ExtR w2.drew w→w.cell? ⟨g2,0,none⟩=some (.int .i64 (l[j].1:Int))∧w.cell? ⟨b6,off6+j,none⟩=some (.int .i64 (l[j].1:Int))∧Below w2.heap.size w2 w):=fun w hw=>by
           have hb:Below w2.heap.size w2 w:=((Below.refl _ w2).drew).trans hw
           exact ⟨by rw [hb.cell (cell_lt p0)]; exact p0,by rw [hb.cell (cell_lt k6)]; exact k6,hb⟩
          clear hl13 hg hh hw2 DQ DR HDT HCQ HF9 p0 k6 hci HF31
          go_upto_region 32 with fail
          refine GrowN.wp_region_n 11 [none,none,none,none,none,none,none,none,none,none,none] RecW.ExtR (by kernel_rfl) (by kernel_rfl) (by kernel_rfl) RecW.ExtR.refl (fun _ _ _=>RecW.ExtR.trans) ?_ ?_
          · exact GrowN.stab0 rfl
          simp only [List.take_succ_cons,List.take_zero,List.drop_succ_cons,List.drop_zero]
          iterate 11
           refine GrowN.g_det rfl ?_
           apply Exists.intro
           refine ⟨fun w hw hF=>?_,?_⟩
           · clear hF
             obtain ⟨p0,k6,_⟩:=HQ32.out w hw
             go_simp
             exact ⟨rfl,RecW.ExtR.refl _⟩
           go_frame
          refine GrowN.g_nil fun w3 hw1 hF=>?_
          clear hF
          have HB32:Hid (Below w8.heap.size w8 w3):=HB31.out.trans ((HQ32.out w3 hw1).2.2.mono HB31.out.size)
          clear hw1 HQ32
          have hcn:cntQ tn (q:Int) (l.take j)≤1000:=by have h1:cntQ tn (q:Int) (l.take j)≤(l.take j).length:=List.length_filter_le _ _; have h2:=HSM.out.1; rw [List.length_take] at h1; omega
          rw [← e6]
          clear e6
          go_wp2_with fail
          go_roundw
          case rel=>exact ⟨j+1,by omega,by go_num,by rw [hct]; go_num,HB32.out⟩
          case measure=>simp [intOf]; omega
         ·
          have hisq:¬ isQ tn (q:Int) l[j]=true:=fun h=>hm (by unfold isQ at h; rw [htp,hqp] at h; simpa using h)
          rw [if_neg hisq,Nat.add_zero] at hct
          by_cases hm1:x.topic=tn
          · have hqn:(x.queue != (q:Int))=true:=bne_iff_ne.2 fun h=>hm ⟨hm1,h⟩
            rw [hm1] at k0
            clear hm
            go_wp2_with fail
            go_roundw
            case rel=>exact ⟨j+1,by omega,by go_num,by rw [hct]; rfl,HB9.out⟩
            case measure=>simp [intOf]; omega
          · have hsn:(S x.topic != S tn)=true:=by
             cases hh:(S x.topic == S tn) with
             | true=>exact absurd (OctMath.S_inj ((bytes_beq _ _).1 hh)) hm1
             | false=>simp [bne,hh]
            have hsl:¬ (S x.topic).toList=(S tn).toList:=by rw [ByteArray.toList_eq,ByteArray.toList_eq,S_list,S_list]; exact hm1
            clear hm
            go_wp2_with fail
            go_roundw
            case rel=>exact ⟨j+1,by omega,by go_num,by rw [hct]; rfl,HB9.out⟩
            case measure=>simp [intOf]; omega
        ·
         obtain rfl:j=gs.length:=by omega
         have hlt4:l.take gs.length=l:=by rw [← HSM.out.1]; exact List.take_length
         rw [hlt4]
         have HNC:=Lib.hid (fun (w:World) (hb:Below w8.heap.size w8 w)=>dis_cnt tn q w (HS2.out.below hb).d)
         go_upto_region 36 with fail
         have HCQ:=Lib.hid (fun (w:World) (hb:Below w8.heap.size w8 w)=>(HS2.out.below hb).q)
         have DR:Hid (∀ w,RecW.ExtR wD.drew w→Below w8.heap.size w8 w):=fun w hw=>HBM.out.trans ((((Below.refl wD.heap.size wD).drew).trans hw).mono HBM.out.size)
         clear e0 e1 HFD hlt4
         refine GrowN.wp_region_n 10 [none,none,none,none,none,none,none,some (.inl (.int .i64 ((cntQ tn (q:Int) l:Nat):Int))),none,none] (RecW.ExtR) (by kernel_rfl) (by kernel_rfl) (by kernel_rfl) (RecW.ExtR.refl) (fun _ _ _=>RecW.ExtR.trans) ?_ ?_
         · exact GrowN.stab0 rfl
         simp only [List.take_succ_cons,List.take_zero,List.drop_succ_cons,List.drop_zero]
         iterate 3
          refine GrowN.g_det rfl ?_
          apply Exists.intro
          refine ⟨fun w hw hF=>?_,?_⟩
          · clear hF
            go_simp
            exact ⟨rfl,RecW.ExtR.refl _⟩
          go_frame
         refine GrowN.g_det rfl ?_
         apply Exists.intro
         refine ⟨fun w hw hF=>?_,?_⟩
         · clear hF
           have c1:=HCQ.out w (DR.out w hw)
           go_simp
           exact ⟨rfl,RecW.ExtR.refl _⟩
         go_frame
         refine GrowN.g_det rfl ?_
         apply Exists.intro
         refine ⟨fun w hw hF=>?_,?_⟩
         · clear hF
           go_simp
           exact ⟨rfl,RecW.ExtR.refl _⟩
         go_frame
         refine GrowN.g_det rfl ?_
         apply Exists.intro
         refine ⟨fun w hw hF=>?_,?_⟩
         · clear hF
           have e0:=(HE.out w (DR.out w hw)).1
           go_simp
           exact ⟨rfl,RecW.ExtR.refl _⟩
         go_frame
         refine GrowN.g_det rfl ?_
         apply Exists.intro
         refine ⟨fun w hw hF=>?_,?_⟩
         · clear hF
           go_simp
           exact ⟨rfl,RecW.ExtR.refl _⟩
         go_frame
         refine GrowN.g_con rfl (fun w hw hF=>?_) ?_
         · clear hF
           go_simp
           exact (HNC.out w (DR.out w hw)).mono fun e w3 h=>⟨_,h.1,rfl,h.2⟩
         iterate 2
          go_frame
          refine GrowN.g_det rfl ?_
          apply Exists.intro
          refine ⟨fun w hw hF=>?_,?_⟩
          · clear hF
            go_simp
            exact ⟨rfl,RecW.ExtR.refl _⟩
         go_frame
         refine GrowN.g_nil fun w2 hw2 hF=>?_
         clear hF
         have HBN:=Lib.hid (DR.out w2 hw2)
         clear hw2 DR HNC HCQ
         have hne:(((cntQ tn (q:Int) l:Nat):Int) != ((cntQ tn (q:Int) l:Nat):Int))=false:=by simp
         go_wp2_with fail
         go_roundw
         case rel=>exact ⟨q+1,by omega,by go_num,HBN.out⟩
         case measure=>simp [intOf]; omega
      · obtain rfl:q=tq:=by omega
        have HFC:=Lib.hid (HS2.out.below HBL.out)
        go_wp2_with fail
        go_roundw
        case rel=>exact ⟨k+1,by omega,by go_num,HFC⟩
        case measure=>simp [intOf]; omega
    · obtain rfl:k=lt.length:=by omega
      go_wp2_with fail
      go_ret
      exact ⟨rfl,HS.out.low⟩
end Go.Proofs.YtnoehodmmkioaaaGreatDoor.SndW
