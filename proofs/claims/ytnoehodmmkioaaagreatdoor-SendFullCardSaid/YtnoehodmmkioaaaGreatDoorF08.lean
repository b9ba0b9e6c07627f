/- topic: Load of what was saved; Open of a table that was saved. And what follows. -/
import Derived.Test.YtnoehodmmkioaaaGreatDoorF07
import Derived.Test.YtnoehodmmkioaaaGreatDoorF04
import Derived.Test.YtnoehodmmkioaaaGreatDoorF00
import Derived.Deep.DeepCutAuto
import Derived.Test.YtnoehodmmkioaaaGreatDoorF05
set_option maxHeartbeats 25600000
set_option maxRecDepth 100000
set_option linter.unusedVariables false
set_option linter.unusedSimpArgs false
namespace Go.Proofs.YtnoehodmmkioaaaGreatDoor.TopW
open Go.RowKit Go.MapKept OctMath DskW
theorem load_saved {base:Nat} {D:DiskD} (nm t:List UInt8) (f:FileD) (w:World) (h:DiskAt base w D) (hup:D.down=false) (hf:D.find nm=some f) (hs:f.now=CrcMath.sealed t) (ht:t.length≤1048576) :
 Calls Tryz.prog 115 #[.pointer (some ⟨D.blk,0,none⟩),.string (S nm)] w fun e w'=>e=.returned (.tuple #[.string (S t),.bool true,.int .i64 0])∧Below w.heap.size w w':=by
 have HA:=Lib.hid (all_any nm w h)
 have hb:D.bars [nm]=0:=by rw [bars_one,hup,hf]; rfl
 have hat:D.allT nm=CrcMath.sealed t:=by unfold DiskD.allT DiskD.bytes; rw [hb,hf,← hs]; rfl
 rw [hb,hat] at HA
 have hsz:(S (CrcMath.sealed t)).size=4+t.length:=by rw [S_size,CrcMath.sealed_length]
 have hdl:(S (CrcMath.sealed t)).data.toList=CrcMath.sealed t:=S_list _
 have hx:Hid ((S (CrcMath.sealed t)).extract 4 (S (CrcMath.sealed t)).size=S t):=by
  show _=_
  rw [S_drop,CrcMath.sealed_drop]
 have HOP:=Lib.hid (fun (B:Nat) (w:World) (hB:B < w.heap.size) (hT:CrcW.Tabs w B)=>CrcW.open_long B (S (CrcMath.sealed t)) (by omega) (by omega) w hB hT)
 rw [hdl,CrcMath.sealed_drop,if_pos rfl] at HOP
 rw [hx.out] at HOP
 clear h hup hf hb hat hdl hs
 go_enter Tryz.func115,Tryz.ntmps115
 go_wp2_with fail
 refine HA.out.mono ?_
 rintro e w1 ⟨rfl,hb1⟩
 have HB1:=Lib.hid hb1
 clear hb1 HA
 go_wp2_with fail
 refine (CrcW.new_any w1).mono ?_
 rintro e w3 ⟨B,rfl,hla⟩
 have HB3:Hid (Below w.heap.size w w3):=HB1.out.trans (hla.below.mono HB1.out.size)
 have HO:=Lib.hid (HOP.out B w3 hla.size hla.tabs)
 clear hla HB1 HOP
 go_wp2_with fail
 refine HO.out.mono ?_
 rintro e w4 ⟨rfl,hb4⟩
 have HB4:Hid (Below w.heap.size w w4):=HB3.out.trans (hb4.mono HB3.out.size)
 clear hb4 HO HB3
 go_wp2_with fail
 go_ret3
 exact ⟨rfl,HB4.out⟩
structure TopAt (base:Nat) (w:World) (b dk:Nat) (l:List (List UInt8×Nat)):Prop where
 tab:∃ v,w.heap[b]?=some (.cells #[.pointer (some ⟨dk,0,none⟩),v] 106 (0,0))∧w.ownsRow base 66 2 v l.length (cellsT l)
theorem topics_saved {base:Nat} {D:DiskD} (t:List UInt8) (l:List (List UInt8×Nat)) (f:FileD) (w:World) (h:DiskAt base w D) (hup:D.down=false) (hf:D.find topicsN=some f) (hs:f.now=CrcMath.sealed t) (ht:t.length≤1048576) (hl:getT t=(l,true)) :
 Calls Tryz.prog 62 #[.pointer (some ⟨D.blk,0,none⟩)] w fun e w'=>∃ b,e=.returned (.tuple #[.pointer (some ⟨b,0,none⟩),.int .i64 0])∧w.heap.size≤b∧TopAt w.heap.size w' b D.blk l∧Below w.heap.size w w':=by
 have HL:=Lib.hid (load_saved topicsN t f w h hup hf hs ht)
 have HN:Hid (S topicsN=⟨#[116,111,112,105,99,115]⟩):=rfl
 rw [HN.out] at HL
 have HG:=Lib.hid (fun w=>get_any t (by omega) w)
 rw [hl] at HG
 clear h hup hf hs ht hl
 go_enter Tryz.func62,Tryz.ntmps62
 go_wp2_with fail
 refine HL.out.mono ?_
 rintro e w1 ⟨rfl,hb1⟩
 have HB1:=Lib.hid hb1
 clear hb1 HL
 go_wp2_with fail
 have HB2:Hid (Below w1.heap.size w1 (w1.alloc (.cells #[.pointer (some ⟨D.blk,0,none⟩),.slice none 0 0] 106))):=(Below.refl _ _).alloc (Nat.le_refl _) _
 have hc2:=heap_alloc_new w1 (.cells #[.pointer (some ⟨D.blk,0,none⟩),.slice none 0 0] 106)
 have hz2:w1.heap.size+1≤(w1.alloc (.cells #[.pointer (some ⟨D.blk,0,none⟩),.slice none 0 0] 106)).heap.size:=by rw [World.size_alloc]; exact Nat.le_refl _
 generalize w1.alloc (.cells #[.pointer (some ⟨D.blk,0,none⟩),.slice none 0 0] 106)=w2 at *
 obtain ⟨C,hC⟩:∃ C,w1.heap.size=C:=⟨_,rfl⟩
 have HCC:=Lib.hid hC
 rw [hC] at hc2 hz2 HB2 ⊢
 refine (HG.out w2).mono ?_
 rintro e w3 ⟨v,rfl,hown,hb3⟩
 obtain ⟨a,cp,hv,_⟩:=RowT.own hown
 subst hv
 have hc3:=(hb3.block C (by omega)).trans hc2
 have HC3:=Lib.hid hc3
 have HO3:=Lib.hid hown
 have HB3:Hid (Below w.heap.size w w3):=(HB1.out.trans (HB2.out.mono (by rw [← hC]; exact HB1.out.size))).trans (hb3.mono (by have:=HB1.out.size; omega))
 have HWC:Hid (w.heap.size≤C):=by have:=HB1.out.size; show _≤C; omega
 have HZ2:=Lib.hid hz2
 have k1:w3.cell? ⟨C,1,none⟩=some (.slice none 0 0):=by rw [Lib.cell_of_heap hc3]; rfl
 have f1:w3.frozen? ⟨C,1,none⟩=false:=Lib.frozen_of_heap hc3 1
 clear hC hc2 hz2 hc3 hown hb3 HG HB1 HB2
 go_wp2_with fail
 go_ret2
 have hms:Mod (fun k=>k=C) w3 (w3.setCell ⟨C,1,none⟩ (.slice a l.length cp)):=mod_set _ _ _ _
 refine ⟨C,rfl,HWC.out,⟨_,heap_set1 HC3.out _ rfl,?_⟩,HB3.out.trans (hms.to_below _ HB3.out.size fun k e=>e ▸ HWC.out)⟩
 have ho:w3.ownsRow (C+1) 66 2 (.slice a l.length cp) l.length (cellsT l):=⟨HO3.out.1,HO3.out.2.imp (fun h=>h) fun ⟨g,cap,cur,e,hb,h⟩=>⟨g,cap,cur,e,by have:=HZ2.out; omega,h⟩⟩
 have ho2:=OctW.ownsRow_mod ho hms (fun k e=>by omega)
 exact ⟨ho2.1,ho2.2.imp (fun h=>h) fun ⟨g,cap,cur,e,hb,h⟩=>⟨g,cap,cur,e,by have:=HWC.out; omega,h⟩⟩
end Go.Proofs.YtnoehodmmkioaaaGreatDoor.TopW
namespace Go.Proofs.YtnoehodmmkioaaaGreatDoor.StoW
open Go.RowKit Go.MapKept OctMath RecMath RecW TapeMath DskW SegW MapG TapeW PendW
structure Lasts (base B:Nat) (w w':World) (D:DiskD) (its:List TapeMath.Item) (b:Nat) (T:TapeD):Prop where
 tape:TapeAt base w' T
 its:T.its=its
 b:T.R.b=b
 syn:T.R.synced=T.R.e
 waits:T.D.waits=[]
 quiet:Quiet T.D
 dblk:T.D.blk=D.blk
 dfoot:∀ k,T.D.foot k↔D.foot k
 find:∀ n,(T.D.find n).isSome=(D.find n).isSome
 room:T.D.room=D.room
 fresh:∀ k,T.O.foot k∨T.R.foot k→w.heap.size≤k
 mod:Mod (fun k=>D.foot k∨k=B) w w'
 kept:∀ n f,D.find n=some f→∃ f',T.D.find n=some f'∧f'.now=f.now
theorem Lasts.of {base B:Nat} {w w':World} {D:DiskD} {its:List TapeMath.Item} {b:Nat} {T:TapeD} (h:Opened base w w' D its b T):Lasts base B w w' D its b T :=
 { h with mod:=h.mod.mono fun k _ hk=>.inl hk }
theorem Lasts.then {base B:Nat} {w w' w2:World} {D:DiskD} {its:List TapeMath.Item} {b:Nat} {T:TapeD} (h:Lasts base B w w' D its b T) (hm:Mod (fun k=>k=B) w' w2) (hB:B < w.heap.size) (hBD:¬ D.foot B):Lasts base B w w2 D its b T :=
 { h with
  tape:=h.tape.mod hm fun k hk e=>by
   subst e
   rcases hk with h2 | h2 | h2
   · have:=h.fresh _ (.inl h2); omega
   · exact hBD ((h.dfoot _).1 h2)
   · have:=h.fresh _ (.inr h2); omega
  mod:=h.mod.trans (hm.mono fun k _ hk=>.inr hk) }
theorem Lasts.none {base B:Nat} {w w':World} {D:DiskD} {its:List TapeMath.Item} {b:Nat} {T:TapeD} (h:Lasts base B w w' D its b T) {n:List UInt8} (hn:D.find n=none):T.D.find n=none:=by
 have:=h.find n
 rw [hn] at this
 cases hf:T.D.find n with
 | none=>rfl
 | some f=>rw [hf] at this; cases this
theorem heap_mod1 {M:Nat→Prop} {u v:World} (h:Mod M u v) {b:Nat} {o:Obj} (hb:u.heap[b]?=some o) (hM:¬ M b):v.heap[b]?=some o :=
 (h.block b (Array.getElem?_eq_some_iff.1 hb).1 hM).trans hb
theorem Lasts.own {w:World} {n k sz:Nat} {e:TypeId} {v:Value} {xs:List Value} (h:w.ownsRow n e sz v k xs) {g:Nat} (hg:v.ownBlock=some g):n≤g∧∃ cur,w.heap[g]?=some (.cells cur e (0,0)):=by
 rcases h.2 with ⟨rfl,_⟩ | ⟨g',cap,cur,rfl,hb,h,_⟩
 · cases hg
 · injection hg with hg
   subst hg
   exact ⟨hb,cur,h⟩
def TabIn (D:DiskD) (tl:List (List UInt8×Nat)):Prop:=(D.find TopW.topicsN=none∧tl=[])∨∃ t f,D.find TopW.topicsN=some f∧f.now=CrcMath.sealed t∧t.length≤1048576∧TopW.getT t=(tl,true)
theorem topics_any {base:Nat} {D:DiskD} (tl:List (List UInt8×Nat)) (w:World) (h:DiskAt base w D) (hup:D.down=false) (hl:TabIn D tl) :
 Calls Tryz.prog 62 #[.pointer (some ⟨D.blk,0,none⟩)] w fun e w'=>∃ b v,e=.returned (.tuple #[.pointer (some ⟨b,0,none⟩),.int .i64 0])∧Below w.heap.size w w'∧w.heap.size≤b∧w'.heap[b]?=some (.cells #[.pointer (some ⟨D.blk,0,none⟩),v] 106 (0,0))∧w'.ownsRow w.heap.size 66 2 v tl.length (TopW.cellsT tl):=by
 rcases hl with ⟨hn,rfl⟩ | ⟨t,f,h1,h2,h3,h4⟩
 · exact (TopW.topics_none w h hup hn).mono fun e w' ⟨b,k1,k2,k3,k4⟩=>⟨b,_,k1,k2,k3,k4,⟨rfl,.inl ⟨rfl,rfl⟩⟩⟩
 · exact (TopW.topics_saved t tl f w h hup h1 h2 h3 h4).mono fun e w' ⟨b,k1,k2,⟨v,k3,k4⟩,k5⟩=>⟨b,v,k1,k5,k2,k3,k4⟩
theorem Lasts.tab {base B:Nat} {w w':World} {D:DiskD} {its:List TapeMath.Item} {b:Nat} {T:TapeD} (h:Lasts base B w w' D its b T) {tl:List (List UInt8×Nat)} (hl:TabIn D tl):TabIn T.D tl:=by
 rcases hl with ⟨hn,e⟩ | ⟨t,f,h1,h2,h3,h4⟩
 · exact .inl ⟨h.none hn,e⟩
 · obtain ⟨f',k1,k2⟩:=h.kept _ _ h1
   exact .inr ⟨t,f',k1,k2.trans h2,h3,h4⟩
def PB (b3 b4:Nat) (v:Value) (k:Nat):Prop:=k=b3∨k=b4∨v.ownBlock=some k
structure Pair (w:World) (n b3 b4 dk:Nat) (v:Value) (tl:List (List UInt8×Nat)) (T:TapeD):Prop where
 t:w.heap[b3]?=some (.cells #[.pointer (some ⟨dk,0,none⟩),v] 106 (0,0))
 r:w.ownsRow n 66 2 v tl.length (TopW.cellsT tl)
 g:w.heap[b4]?=some (.cells #[.pointer (some ⟨dk,0,none⟩),.slice none 0 0] 209 (0,0))
 lo:n≤b3∧n≤b4∧b3≠b4
 away:∀ k,T.foot k→¬ PB b3 b4 v k
theorem Pair.lo_all {w:World} {n b3 b4 dk:Nat} {v:Value} {tl:List (List UInt8×Nat)} {T:TapeD} (h:Pair w n b3 b4 dk v tl T) {k:Nat} (hk:PB b3 b4 v k):n≤k∧k < w.heap.size:=by
 rcases hk with e | e | e
 · exact ⟨e ▸ h.lo.1,e ▸ (Array.getElem?_eq_some_iff.1 h.t).1⟩
 · exact ⟨e ▸ h.lo.2.1,e ▸ (Array.getElem?_eq_some_iff.1 h.g).1⟩
 · obtain ⟨h1,cur,h2⟩:=Lasts.own h.r e
   exact ⟨h1,(Array.getElem?_eq_some_iff.1 h2).1⟩
theorem Pair.mod {w w':World} {n b3 b4 dk:Nat} {v:Value} {tl:List (List UInt8×Nat)} {T:TapeD} {M:Nat→Prop} (h:Pair w n b3 b4 dk v tl T) (hm:Mod M w w') (hM:∀ k,PB b3 b4 v k→¬ M k):Pair w' n b3 b4 dk v tl T :=
 { h with t:=(hm.block _ (Array.getElem?_eq_some_iff.1 h.t).1 (hM _ (.inl rfl))).trans h.t,g:=(hm.block _ (Array.getElem?_eq_some_iff.1 h.g).1 (hM _ (.inr (.inl rfl)))).trans h.g,r:=SegW.ownsRow_mod h.r hm fun k hk=>hM k (.inr (.inr hk)) }
theorem lasting_any {base B:Nat} {D:DiskD} {R:SegD} {its:List TapeMath.Item} (v1 v2 v5 v6 v7 v8 v9:Value) (now:Int) (w:World) (hB:w.heap[B]?=some (.cells #[.pointer none,v1,v2,.pointer none,.pointer none,v5,v6,v7,v8,v9,.pointer (some ⟨D.blk,0,none⟩),.int .i64 now] 47 (0,0))) (hBD:¬ D.foot B)
 (hL:LaidOn D R) (hD:DiskAt base w D) (hq:Quiet D) (hfl:D.files.length≤1048576) (hnl:∀ p∈D.files,p.1.length≤1073741824) (hbase:base≤w.heap.size) (hT:TabB base w)
 (hh:R.head=tapeH) (hs:R.size=1024) (ht:R.txt=bytesL its) (hf:Fits R.b its) (hil:its.length≤1000000) (hwt:D.waits=[]) {tl:List (List UInt8×Nat)} (hn1:TabIn D tl) (hn2:D.find TopW.groupsN=none) :
 Calls Tryz.prog 34 #[.pointer (some ⟨B,0,none⟩)] w fun e w'=>e=.returned (.int .i64 0)∧∃ T b3 b4 v,Lasts base B w w' D its R.b T∧Pair w' w.heap.size b3 b4 D.blk v tl T ∧
  w'.heap[B]?=some (.cells #[.pointer (some ⟨T.O.blk,0,none⟩),v1,v2,.pointer (some ⟨b3,0,none⟩),.pointer (some ⟨b4,0,none⟩),v5,v6,v7,v8,v9,.pointer (some ⟨D.blk,0,none⟩),.int .i64 now] 47 (0,0)):=by
 have HOP:=Lib.hid (topen_any w hL hD hq hfl hnl hbase hT hh hs ht hf hil hwt)
 have HB:=Lib.hid hB
 have c10:=cell_at hB 10 _ rfl
 have f0:=frozen_at hB 0
 have HD:=Lib.hid hD
 have HBD:=Lib.hid hBD
 have HN1:=Lib.hid hn1
 have HN2:=Lib.hid hn2
 have hBl:=(Array.getElem?_eq_some_iff.1 hB).1
 clear hB hL hD hq hfl hnl hbase hT hh hs ht hf hil hwt hn1 hn2 hBD
 go_enter Tryz.func34,Tryz.ntmps34
 go_wp2_with fail
 refine HOP.out.mono ?_
 rintro e w2 ⟨T,rfl,hop⟩
 have HO:=Lib.hid hop
 have hB2:w2.heap[B]?=_:=(hop.mod.block B hBl HBD.out).trans HB.out
 have HB2:=Lib.hid hB2
 have d0:=cell_at hB2 0 _ rfl
 have d10:=cell_at hB2 10 _ rfl
 have d0f:=frozen_at hB2 0
 have hl3:Lasts base B w (w2.setCell ⟨B,0,none⟩ (.pointer (some ⟨T.O.blk,0,none⟩))) D its R.b T:=(Lasts.of hop).then ((Mod.refl (fun k=>k=B) w2).setCell (.inl rfl) _) hBl HBD.out
 have HL3:=Lib.hid hl3
 have HB3:=Lib.hid (heap_setCell_same w2 B 0 _ _ (.pointer (some ⟨T.O.blk,0,none⟩)) HB2.out)
 have HTP:=Lib.hid (topics_any tl _ hl3.tape.whole.dsk hl3.quiet.up (hl3.tab HN1.out))
 rw [hl3.dblk] at HTP
 clear hop hB2 HOP c10 f0 hl3
 go_wp2_with fail
 refine HTP.out.mono ?_
 rintro e w4 ⟨b3,tv,rfl,hb4,hb3,hc3,hr3⟩
 have hl4:=HL3.out.then (Mod.of_below (M:=fun k=>k=B) hb4) hBl HBD.out
 have HL4:=Lib.hid hl4
 have hB4:w4.heap[B]?=_:=(hb4.block B (Array.getElem?_eq_some_iff.1 HB3.out).1).trans HB3.out
 have HB4:=Lib.hid hB4
 have e3:=cell_at hB4 3 _ rfl
 have e10:=cell_at hB4 10 _ rfl
 have e3f:=frozen_at hB4 3
 have hl5:Lasts base B w (w4.setCell ⟨B,3,none⟩ (.pointer (some ⟨b3,0,none⟩))) D its R.b T:=hl4.then ((Mod.refl (fun k=>k=B) w4).setCell (.inl rfl) _) hBl HBD.out
 have HL5:=Lib.hid hl5
 have HB5:=Lib.hid (heap_setCell_same w4 B 3 _ _ (.pointer (some ⟨b3,0,none⟩)) HB4.out)
 have hlow:w.heap.size≤(w2.setCell ⟨B,0,none⟩ (.pointer (some ⟨T.O.blk,0,none⟩))).heap.size:=HL3.out.mod.size
 have h3B:b3≠B:=by omega
 have HR3:Hid ((w4.setCell ⟨B,3,none⟩ (.pointer (some ⟨b3,0,none⟩))).ownsRow w.heap.size 66 2 tv tl.length (TopW.cellsT tl)∧∀ k,tv.ownBlock=some k→(w2.setCell ⟨B,0,none⟩ (.pointer (some ⟨T.O.blk,0,none⟩))).heap.size≤k):=⟨SegW.ownsRow_mod (ownb hr3 hlow) ((Mod.refl (fun k=>k=B) w4).setCell (a:=⟨B,3,none⟩) (.inl rfl) _) (fun k hk e=>by have:=ownBlock_of_own hr3 k hk; omega),fun k hk=>ownBlock_of_own hr3 k hk⟩
 have HC5:Hid ((w4.setCell ⟨B,3,none⟩ (.pointer (some ⟨b3,0,none⟩))).heap[b3]?=some (.cells #[.pointer (some ⟨D.blk,0,none⟩),tv] 106 (0,0))):=heap_mod1 ((Mod.refl (fun k=>k=B) w4).setCell (.inl rfl) _) hc3 h3B
 have H3:Hid ((∀ k,T.foot k→k < b3)∧w.heap.size≤b3∧b3 < (w4.setCell ⟨B,3,none⟩ (.pointer (some ⟨b3,0,none⟩))).heap.size):=⟨fun k hk=>Nat.lt_of_lt_of_le (HL3.out.tape.lt hk) hb3,by omega,(Array.getElem?_eq_some_iff.1 HC5.out).1⟩
 have HTP2:=Lib.hid (TopW.groups_none _ hl5.tape.whole.dsk hl5.quiet.up (hl5.none HN2.out))
 rw [hl5.dblk] at HTP2
 clear hb4 hl4 hB4 HTP d0 d10 d0f hl5 hb3 hc3 hlow h3B hr3
 go_wp2_with fail
 refine HTP2.out.mono ?_
 rintro e w6 ⟨b4,rfl,hb6,hb4',hc4⟩
 have hl6:=HL5.out.then (Mod.of_below (M:=fun k=>k=B) hb6) hBl HBD.out
 have HL6:=Lib.hid hl6
 have hB6:w6.heap[B]?=_:=(hb6.block B (Array.getElem?_eq_some_iff.1 HB5.out).1).trans HB5.out
 have HB6:=Lib.hid hB6
 have hp3:=HC5.out
 have h3:=H3.out
 have h6:=HL5.out.mod.size
 have h4B:b4≠B:=by omega
 obtain ⟨r3,r3l⟩:=HR3.out
 have ht3:∀ k,T.foot k→k < (w2.setCell ⟨B,0,none⟩ (.pointer (some ⟨T.O.blk,0,none⟩))).heap.size:=fun k hk=>HL3.out.tape.lt hk
 have HP6:Hid (Pair (w6.setCell ⟨B,4,none⟩ (.pointer (some ⟨b4,0,none⟩))) w.heap.size b3 b4 D.blk tv tl T):=Pair.mod (M:=fun k=>k=B) ⟨(hb6.block b3 h3.2.2).trans hp3,SegW.ownsRow_mod r3 (Mod.of_below (M:=fun _=>False) hb6) (fun _ _ h=>h),hc4,⟨h3.2.1,by omega,by omega⟩,fun k hk h=>by
  rcases h with h | h | h
  · have:=h3.1 k hk; omega
  · have:=HL5.out.tape.lt hk; omega
  · have:=ht3 k hk; have:=r3l k h; omega⟩ ((Mod.refl (fun k=>k=B) w6).setCell (.inl rfl) _) (fun k hk e=>by
  rcases hk with h | h | h
  · omega
  · omega
  · have:=ownBlock_of_own r3 k h; omega)
 clear r3 r3l ht3
 clear hp3 h3 h6 h4B hb4' hc4
 have g4:=cell_at hB6 4 _ rfl
 have g4f:=frozen_at hB6 4
 clear hb6 hl6 hB6 HTP2 e3 e10 e3f
 go_wp2_with fail
 go_ret
 exact ⟨rfl,T,b3,b4,tv,HL6.out.then ((Mod.refl (fun k=>k=B) w6).setCell (.inl rfl) _) hBl HBD.out,HP6.out,heap_setCell_same _ B 4 _ _ _ HB6.out⟩
theorem based_none {base B:Nat} {D:DiskD} {cs:Array Value} (w:World) (hB:w.heap[B]?=some (.cells cs 47 (0,0))) (hc:cs[10]?=some (.pointer (some ⟨D.blk,0,none⟩))) (h:DiskAt base w D) (hup:D.down=false) (hn:D.find TopW.baseN=none) :
 Calls Tryz.prog 35 #[.pointer (some ⟨B,0,none⟩)] w fun e w'=>e=.returned (.int .i64 0)∧Below w.heap.size w w':=by
 have HL:=Lib.hid (TopW.loaded_none w h hup hn)
 have c10:=cell_at hB 10 _ hc
 clear hB hc h hup hn
 go_enter Tryz.func35,Tryz.ntmps35
 go_wp2_with fail
 refine HL.out.mono ?_
 rintro e w2 ⟨rfl,hb⟩
 have HB:Hid (Below w.heap.size w (w2.alloc (.cells #[.int .i64 0,.slice none 0 0] 140))):=hb.alloc hb.size _
 clear hb HL c10
 go_wp2_with fail
 go_ret
 exact ⟨rfl,HB.out⟩
end Go.Proofs.YtnoehodmmkioaaaGreatDoor.StoW
namespace Go.Proofs.YtnoehodmmkioaaaGreatDoor.CqW
open Go.RowKit Go.MapKept OctMath DskW SegW MapG CacheW
def KeyW (v:Value):Prop:=∃ (t:List UInt8) (q:Int),v=.agg #[.string (S t),.int .i64 q]
theorem eql_which (s t:List UInt8) (a b:Int) (w:World):(Op.equal 170 (.agg #[.string (S s),.int .i64 a]) (.agg #[.string (S t),.int .i64 b])).run Tryz.prog w=.ok (decide (s=t) && a == b) w:=by
 have hst:Tryz.prog.stoodInHeld 170=false:=by kernel_rfl
 have hq:∀ x y:Int,(Op.equalIn 9999 3 (.int .i64 x) (.int .i64 y)).run Tryz.prog w=.ok (x == y) w:=fun x y=>run_equalIn_int _ 9998 _ _ _ _ _ Tryz.underlying3
 have hqs:∀ x y:ByteArray,(Op.equalIn 9999 9 (.string x) (.string y)).run Tryz.prog w=.ok (x == y) w:=fun x y=>by
  show (Op.equalIn (9998+1) _ _ _).run _ _=_
  unfold Op.equalIn
  simp [run_underlying Tryz.underlying9,Result.andThen]
 have hpr:∀ w,Sem.run Tryz.prog program w=.ok Tryz.prog w:=fun _=>rfl
 have hia:(isAgg 3).run Tryz.prog w=.ok false w:=by kernel_rfl
 have his:(isAgg 9).run Tryz.prog w=.ok false w:=by kernel_rfl
 have hss:(S s == S t)=decide (s=t):=by
  rw [Bool.eq_iff_iff,bytes_beq,decide_eq_true_iff]
  exact ⟨fun h=>OctMath.S_inj h,fun h=>by rw [h]⟩
 unfold Op.equal Op.maxDepth
 show (Op.equalIn (9999+1) _ _ _).run _ _=_
 unfold Op.equalIn
 simp [go_sem,run_underlying Tryz.underlying170,Result.andThen,hpr,hst,hia,his,hq,hqs,hss]
 by_cases h1:s=t <;> by_cases h2:a=b <;> simp [h1,h2,hq,hqs,hss]
theorem keyedW:Keyed Tryz.prog 170 KeyW:=by
 refine Keyed.of_equal Tryz.underlying170 ?_ ?_ ?_ ?_
 · rintro _ _ ⟨s,a,rfl⟩ ⟨t,b,rfl⟩; rfl
 ·
  rintro _ _ ⟨s,a,rfl⟩ ⟨t,b,rfl⟩ w
  refine ⟨_,eql_which s t a b w,?_⟩
  simp only [Bool.and_eq_true,decide_eq_true_eq,beq_iff_eq]
  constructor
  · rintro ⟨rfl,rfl⟩; rfl
  ·
   intro h
   injection h with h
   injection h with h
   injection h with h1 h2
   injection h1 with h1
   injection h2 with h2 _
   injection h2 with _ h2
   exact ⟨OctMath.S_inj h1,h2⟩
 ·
  rintro _ ⟨s,a,rfl⟩ e w
  have c1:(Instr.checkKey e 9999 9 (.string (S s))).run Tryz.prog w=.ok () w:=Go.MapKept.run_checkKey Tryz.underlying9 (k:=.string (S s)) trivial e 9998
  have c2:(Instr.checkKey e 9999 3 (.int .i64 a)).run Tryz.prog w=.ok () w:=Go.MapKept.run_checkKey Tryz.underlying3 (k:=.int .i64 a) rfl e 9998
  have hia:(isAgg 3).run Tryz.prog w=.ok false w:=by kernel_rfl
  have his:(isAgg 9).run Tryz.prog w=.ok false w:=by kernel_rfl
  show (Instr.checkKey e (9999+1) _ _).run _ _=_
  unfold Instr.checkKey
  simp [go_sem,run_underlying Tryz.underlying170,Result.andThen,hia,his,c1,c2]
 ·
  rintro _ ⟨s,a,rfl⟩
  show Instr.sameBits (9999+1) _ _=true
  unfold Instr.sameBits
  have h1:Instr.sameBits 9999 (.string (S s)) (.string (S s))=true:=sameBits_self (d:=.string) (k:=.string (S s)) trivial 9999
  have h2:Instr.sameBits 9999 (.int .i64 a) (.int .i64 a)=true:=sameBits_self (d:=.int .i64) (k:=.int .i64 a) rfl 9999
  simp [h1,h2]
end Go.Proofs.YtnoehodmmkioaaaGreatDoor.CqW
namespace Go.Proofs.YtnoehodmmkioaaaGreatDoor.EntW
open Go.RowKit OctW OctMath
def Wid (w:World) (a:Option Addr) (ws:List (Nat×Int)):Prop:=∀ i (h:i < ws.length),∃ b off,a=some ⟨b,off,none⟩∧w.cell? ⟨b,off+i * 2,none⟩=some (.int .i64 (ws[i].1:Int))∧w.cell? ⟨b,off+i * 2+1,none⟩=some (.int .i64 ws[i].2)
def widL (ws:List (Nat×Int)):List UInt8:=ws.flatMap fun p=>be p.1 p.2.toNat
def widOk (ws:List (Nat×Int)):Bool:=decide (∀ p∈ws,fits p.1 p.2)
def widW (ws:List (Nat×Int)):List UInt8:=if widOk ws then widL ws else []
theorem widL_take (ws:List (Nat×Int)) (k:Nat) (h:k < ws.length):widL (ws.take (k+1))=widL (ws.take k)++be ws[k].1 ws[k].2.toNat:=by
 unfold widL; rw [List.take_succ_eq_append_getElem h,List.flatMap_append]; simp
theorem widL_le:∀ (ws:List (Nat×Int)),(∀ p∈ws,p.1≤7)→(widL ws).length≤7 * ws.length:=by
 intro ws
 induction ws with
 | nil=>intro _; simp [widL]
 | cons p ws ih =>
   intro h
   have h1:=h p (List.mem_cons_self ..)
   have h2:=ih (fun q hq=>h q (List.mem_cons_of_mem _ hq))
   have:widL (p :: ws)=be p.1 p.2.toNat++widL ws:=by simp [widL]
   rw [this,List.length_append,be_length,List.length_cons]; omega
theorem numsW_single (n:Nat) (x:Int) (h1:1≤n) (h7:n≤7):numsW (n:Int) [x]=if fits n x then (be n x.toNat,0) else ([],2):=by
 unfold numsW
 rw [if_neg (by omega)]
 have:(∀ y∈[x],fits ((n:Int)).toNat y)↔fits n x:=by simp
 by_cases h:fits n x
 · rw [if_pos (this.2 h),if_pos h]; simp [numsL]
 · rw [if_neg (fun hh=>h (this.1 hh)),if_neg h]
theorem put_any (a:Option Addr) (cap:Nat) (ws:List (Nat×Int)) (hl:ws.length≤16) (hw:∀ p∈ws,1≤p.1∧p.1≤7) (hx:∀ p∈ws,-9223372036854775808≤p.2∧p.2≤9223372036854775807) (W:World) (h:Wid W a ws) :
 Calls Tryz.prog 226 #[.slice a ws.length cap] W fun e w'=>e=.returned (.tuple #[.string (S (widW ws)),.bool (widOk ws)])∧Below W.heap.size W w':=by
 have HI:=Lib.hid h
 have HW:=Lib.hid hw
 have HX:=Lib.hid hx
 clear h hw hx
 go_enter Tryz.func226,Tryz.ntmps226
 go_wp2_with fail
 go_loopw [4,11] (fun s i wr=>∃ k:Nat,k≤ws.length∧i=.int .i64 k∧s=.string (S (widL (ws.take k)))∧Hid (Below W.heap.size W wr)∧Hid (∀ p∈ws.take k,fits p.1 p.2)) (fun _ i _=>ws.length - (intOf i).toNat)
 case atStart=>exact ⟨0,by omega,rfl,rfl,Below.refl _ _,by simp [Hid]⟩
 case round =>
  obtain ⟨k,hk,rfl,rfl,HB,HA⟩:=hrel
  by_cases hlt:k < ws.length
  ·
   obtain ⟨b,off,rfl,hc0,hc1⟩:=HI.out k hlt
   rw [← HB.out.cell (cell_lt hc0)] at hc0
   rw [← HB.out.cell (cell_lt hc1)] at hc1
   have hwk:=HW.out ws[k] (by simp)
   have hxk:=HX.out ws[k] (by simp)
   have hnl:=widL_take ws k hlt
   have htk:∀ y,y∈ws.take (k+1)↔y∈ws.take k∨y=ws[k]:=by intro y; rw [List.take_succ_eq_append_getElem hlt,List.mem_append,List.mem_singleton]
   have hmem:ws[k]∈ws:=by simp
   have hlk:=widL_le (ws.take k) (fun p hp=>(HW.out p (List.mem_of_mem_take hp)).2)
   rw [List.length_take] at hlk
   generalize ws[k]=p at *
   obtain ⟨n,x⟩:=p
   simp only at *
   obtain ⟨hn1,hn7⟩:=hwk
   obtain ⟨hx0,hx1⟩:=hxk
   have HNL:=Lib.hid hnl
   have HTK:=Lib.hid htk
   have HMEM:=Lib.hid hmem
   clear hnl htk hmem
   go_wp2_with fail
   have hints:Ints ((wr.alloc (.cells #[.int .i64 (n:Int),.int .i64 x] 237)).alloc (.cells #[.int .i64 x] 3)) (some ⟨wr.heap.size+1,0,none⟩) [x]:=by
    intro i hi
    have:i=0:=by simpa using hi
    subst this
    refine ⟨_,_,rfl,?_⟩
    have:=World.cell?_alloc_new (wr.alloc (.cells #[.int .i64 (n:Int),.int .i64 x] 237)) #[.int .i64 x] 3 0
    simp only [World.size_alloc] at this
    rw [this]; rfl
   have HBa:Hid (Below W.heap.size W ((wr.alloc (.cells #[.int .i64 (n:Int),.int .i64 x] 237)).alloc (.cells #[.int .i64 x] 3))):=(HB.out.alloc HB.out.size _).alloc (HB.out.alloc HB.out.size _).size _
   refine (nums_any (n:Int) (by omega) (by omega) _ 1 [x] (by simp) (fun y hy=>by have:y=x:=by simpa using hy
                                                                                  omega) _ hints).mono ?_
   rintro e w3 ⟨rfl,hb3⟩
   have HB3:Hid (Below W.heap.size W w3):=HBa.out.trans (hb3.mono HBa.out.size)
   rw [numsW_single n x hn1 hn7]
   clear hb3 HB HBa hints
   by_cases hf:fits n x
   ·
    rw [if_pos hf]
    have HF:=Lib.hid hf
    have hs1:(S (widL (ws.take k))).size≤200:=by rw [S_size]; omega
    have hs2:(S (be n x.toNat)).size≤7:=by rw [S_size,be_length]; omega
    have hcat:Hid (S (widL (ws.take k))++S (be n x.toNat)=S (widL (ws.take (k+1)))):=by rw [S_append,HNL.out]; rfl
    generalize S (widL (ws.take k))=s1 at *
    generalize S (be n x.toNat)=s2 at *
    clear hf hlk
    go_wp2_with fail
    rw [hcat.out]
    go_wp2_with fail
    go_roundw
    case rel =>
     refine ⟨k+1,by omega,by go_num,rfl,HB3,fun y hy=>?_⟩
     rcases (HTK.out y).1 hy with hy | rfl
     · exact HA.out y hy
     · exact HF.out
    case measure=>simp [intOf]; omega
   ·
    rw [if_neg hf]
    have ho:Hid (widOk ws=false):=decide_eq_false (fun h=>hf (h _ HMEM.out))
    have hw:Hid (widW ws=[]):=by show _=_; unfold widW; rw [ho.out]; rfl
    clear hf hlk
    go_wp2_with fail
    go_ret2
    rw [ho.out,hw.out]
    exact ⟨rfl,HB3.out⟩
  ·
   have ek:k=ws.length:=by omega
   subst ek
   rw [List.take_length] at HA
   rw [List.take_length]
   have ho:Hid (widOk ws=true):=decide_eq_true HA.out
   have hw:Hid (widW ws=widL ws):=by show _=_; unfold widW; rw [ho.out]; rfl
   go_wp2_with fail
   go_ret2
   rw [ho.out,hw.out]
   exact ⟨rfl,HB.out⟩
def placeWs (a b c d:Int):List (Nat×Int):=[(6,a),(2,b),(5,c),(7,d)]
theorem place_put (a b c d:Int) (ha : -9223372036854775808≤a∧a≤9223372036854775807) (hb : -9223372036854775808≤b∧b≤9223372036854775807) (hc : -9223372036854775808≤c∧c≤9223372036854775807) (hd : -9223372036854775808≤d∧d≤9223372036854775807) (W:World) :
 Calls Tryz.prog 191 #[.agg #[.int .i64 a,.int .i64 b,.int .i64 c,.int .i64 d]] W fun e w'=>e=.returned (.tuple #[.string (S (widW (placeWs a b c d))),.bool (widOk (placeWs a b c d))])∧Below W.heap.size W w':=by
 have HX:Hid (∀ p∈placeWs a b c d,-9223372036854775808≤p.2∧p.2≤9223372036854775807):=by
  intro p hp
  simp only [placeWs,List.mem_cons,List.not_mem_nil,or_false] at hp
  rcases hp with rfl | rfl | rfl | rfl <;> assumption
 clear ha hb hc hd
 go_enter Tryz.func191,Tryz.ntmps191
 go_wp2_with fail
 generalize hw1:(W.alloc (.cells #[.int .i64 a,.int .i64 b,.int .i64 c,.int .i64 d] 68))=w1 at *
 have hz:w1.heap.size=W.heap.size+1:=by rw [← hw1]; simp
 have HB:Hid (Below W.heap.size W w1):=by rw [← hw1]; exact (Below.refl _ W).alloc (Nat.le_refl _) _
 clear hw1
 rw [← hz]
 have hwid:Wid (w1.alloc (.cells #[.int .i64 6,.int .i64 a,.int .i64 2,.int .i64 b,.int .i64 5,.int .i64 c,.int .i64 7,.int .i64 d] 237)) (some ⟨w1.heap.size,0,none⟩) (placeWs a b c d):=by
  intro i hi
  have hi:i < 4:=hi
  refine ⟨_,_,rfl,?_,?_⟩
  iterate 2
   ·
    rw [World.cell?_alloc_new]
    match i,hi with
    | 0,_=>rfl
    | 1,_=>rfl
    | 2,_=>rfl
    | 3,_=>rfl
 have HB2:Hid (Below W.heap.size W (w1.alloc (.cells #[.int .i64 6,.int .i64 a,.int .i64 2,.int .i64 b,.int .i64 5,.int .i64 c,.int .i64 7,.int .i64 d] 237))):=HB.out.alloc HB.out.size _
 refine (put_any _ 4 (placeWs a b c d) (by simp [placeWs]) (by intro p hp; simp only [placeWs,List.mem_cons,List.not_mem_nil,or_false] at hp; rcases hp with rfl | rfl | rfl | rfl <;> exact ⟨by simp,by simp⟩) HX.out _ hwid).mono ?_
 clear hwid
 rintro e w2 ⟨rfl,hb2⟩
 have HB3:Hid (Below W.heap.size W w2):=HB2.out.trans (hb2.mono HB2.out.size)
 go_wp2_with fail
 go_ret2
 exact ⟨rfl,HB3.out⟩
def linkWs (a b c d:Int):List (Nat×Int):=[(5,a),(6,b),(6,c),(3,d)]
theorem link_put (a b c d:Int) (ha : -9223372036854775808≤a∧a≤9223372036854775807) (hb : -9223372036854775808≤b∧b≤9223372036854775807) (hc : -9223372036854775808≤c∧c≤9223372036854775807) (hd : -9223372036854775808≤d∧d≤9223372036854775807) (W:World) :
 Calls Tryz.prog 194 #[.agg #[.int .i64 a,.int .i64 b,.int .i64 c,.int .i64 d]] W fun e w'=>e=.returned (.tuple #[.string (S (widW (linkWs a b c d))),.bool (widOk (linkWs a b c d))])∧Below W.heap.size W w':=by
 have HX:Hid (∀ p∈linkWs a b c d,-9223372036854775808≤p.2∧p.2≤9223372036854775807):=by
  intro p hp
  simp only [linkWs,List.mem_cons,List.not_mem_nil,or_false] at hp
  rcases hp with rfl | rfl | rfl | rfl <;> assumption
 clear ha hb hc hd
 go_enter Tryz.func194,Tryz.ntmps194
 go_wp2_with fail
 generalize hw1:(W.alloc (.cells #[.int .i64 a,.int .i64 b,.int .i64 c,.int .i64 d] 294))=w1 at *
 have hz:w1.heap.size=W.heap.size+1:=by rw [← hw1]; simp
 have HB:Hid (Below W.heap.size W w1):=by rw [← hw1]; exact (Below.refl _ W).alloc (Nat.le_refl _) _
 clear hw1
 rw [← hz]
 have hwid:Wid (w1.alloc (.cells #[.int .i64 5,.int .i64 a,.int .i64 6,.int .i64 b,.int .i64 6,.int .i64 c,.int .i64 3,.int .i64 d] 237)) (some ⟨w1.heap.size,0,none⟩) (linkWs a b c d):=by
  intro i hi
  have hi:i < 4:=hi
  refine ⟨_,_,rfl,?_,?_⟩
  iterate 2
   ·
    rw [World.cell?_alloc_new]
    match i,hi with
    | 0,_=>rfl
    | 1,_=>rfl
    | 2,_=>rfl
    | 3,_=>rfl
 have HB2:Hid (Below W.heap.size W (w1.alloc (.cells #[.int .i64 5,.int .i64 a,.int .i64 6,.int .i64 b,.int .i64 6,.int .i64 c,.int .i64 3,.int .i64 d] 237))):=HB.out.alloc HB.out.size _
 refine (put_any _ 4 (linkWs a b c d) (by simp [linkWs]) (by intro p hp; simp only [linkWs,List.mem_cons,List.not_mem_nil,or_false] at hp; rcases hp with rfl | rfl | rfl | rfl <;> exact ⟨by simp,by simp⟩) HX.out _ hwid).mono ?_
 clear hwid
 rintro e w2 ⟨rfl,hb2⟩
 have HB3:Hid (Below W.heap.size W w2):=HB2.out.trans (hb2.mono HB2.out.size)
 go_wp2_with fail
 go_ret2
 exact ⟨rfl,HB3.out⟩
end Go.Proofs.YtnoehodmmkioaaaGreatDoor.EntW
namespace Go.Proofs.YtnoehodmmkioaaaGreatDoor.CqW
open Go.RowKit Go.MapKept OctMath DskW SegW MapG CacheW
theorem right_ok (t:List UInt8) (q:Nat) (ht:NameMath.topicL t=true) (hl:t.length≤1073741824) (hq:q < 3) (w:World) :
 Calls Tryz.prog 128 #[.string (S t),.int .i64 (q:Int)] w fun e w'=>e=.returned (.int .i64 0)∧Below w.heap.size w w':=by
 have HT:=Lib.hid (NameW.topic_any t (by omega) w)
 rw [ht] at HT
 clear ht
 go_enter Tryz.func128,Tryz.ntmps128
 go_wp2_with fail
 refine HT.out.mono ?_
 rintro e w1 ⟨rfl,hb⟩
 have HB:=Lib.hid hb
 clear hb HT
 go_wp2_with fail
 go_ret
 exact ⟨rfl,HB.out⟩
def qHead (t:List UInt8) (q:Nat):List UInt8:=[113,45]++t++[46]++Lib.decDigits q++[45]
def newR (db:Nat) (hd:List UInt8):SegD:=⟨0,db,hd,200,0,0,[],0,.slice none 0 0⟩
theorem newR_laid {D:DiskD} {hd:List UInt8} (hl:hd.length≤1048576) (ho:∀ p,p≤99999999→D.find (nameL hd p)=none):LaidOn D (newR D.blk hd) :=
 ⟨⟨by show 16≤200; decide,by show 200≤4096; decide⟩,fun _=>⟨rfl,rfl⟩,fun h=>absurd h (Nat.lt_irrefl 0),rfl,hl,fun i hi=>absurd hi (Nat.not_lt_zero _),fun p hp _=>ho p hp,rfl⟩
def fT (blk:Nat):Value:=.tuple #[.pointer (some ⟨blk,0,none⟩),.int .i64 0]
def fP (blk:Nat):Value:=.pointer (some ⟨blk,0,none⟩)
def OpenF (base:Nat) (W:World) (D:DiskD) (db:Nat) (hd:List UInt8) (f:Nat→Value) (v:Value) (w:World):Prop:=∃ blk pv,v=f blk∧Whole base w D ((newR db hd).openR blk pv)∧∀ k,((newR db hd).openR blk pv).foot k→W.heap.size≤k
theorem OpenF.below {base:Nat} {W:World} {D:DiskD} {db:Nat} {hd:List UInt8} {f:Nat→Value} {v:Value} {w w':World} (h:OpenF base W D db hd f v w) (hb:Below w.heap.size w w'):OpenF base W D db hd f v w':=by
 obtain ⟨blk,pv,h1,h2,h3⟩:=h
 exact ⟨blk,pv,h1,h2.below hb,h3⟩
theorem begun_any {base:Nat} {D:DiskD} {C:CqD} (t:List UInt8) (q p:Nat) (W:World) (hC:CqAt base W C) (hD:DiskAt base W D) (hdb:C.db=D.blk) (hq:Quiet D) (hfl:D.files.length≤1048576) (hnl:∀ p∈D.files,p.1.length≤1073741824) (hbase:base≤W.heap.size) (hT:TabB base W)
 (hn:∀ x∈C.qs,x.key≠.agg #[.string (S t),.int .i64 (q:Int)]) (htl:t.length≤1000) (hql:q≤1000) (hp:p≤1099511627776) (ho:∀ m,m≤99999999→D.find (nameL (qHead t q) m)=none) (haw:∀ k,C.foot k→¬ D.foot k) :
 Calls Tryz.prog 129 #[.pointer (some ⟨C.blk,0,none⟩),.agg #[.string (S t),.int .i64 (q:Int)],.int .i64 (p:Int)] W fun e w'=>∃ x:QueD,e=.returned (.tuple #[.pointer (some ⟨x.blk,0,none⟩),.int .i64 0])∧x.topic=t∧x.q=(q:Int)∧x.b0=p∧x.least=p ∧
  (∃ blk pv,x.R=(newR C.db (qHead t q)).openR blk pv)∧Whole base w' D x.R∧CqAt base w' { C with qs:=C.qs++[x] }∧Mod (fun k=>k=C.mB) W w'∧W.heap.size≤x.blk∧(∀ k,x.R.foot k→W.heap.size≤k∧k≠x.blk):=by
 have hdl:(Lib.decDigits q).length≤8:=dec_len q (by omega)
 obtain ⟨hd,hhd⟩:∃ hd,hd=qHead t q:=⟨_,rfl⟩
 have hhl:hd.length≤1048576:=by rw [hhd]; unfold qHead; simp only [List.length_append,List.length_cons,List.length_nil]; omega
 rw [← hhd] at ho ⊢
 have HB0:Hid (Below W.heap.size W (W.alloc (.cells #[.string (S t),.int .i64 (q:Int)] 170))):=(Below.refl _ W).alloc (Nat.le_refl _) _
 have HK:Hid ((W.alloc (.cells #[.string (S t),.int .i64 (q:Int)] 170)).heap[W.heap.size]?=some (.cells #[.string (S t),.int .i64 (q:Int)] 170 (0,0))):=heap_alloc_new W _
 have hlaid:LaidOn D (newR C.db hd):=by rw [hdb]; exact newR_laid hhl ho
 have HLG:=Lib.hid hlaid
 have HC:=Lib.hid hC
 have HD:=Lib.hid hD
 have HQ:=Lib.hid hq
 have HFL:=Lib.hid hfl
 have HNL:=Lib.hid hnl
 have HTB:=Lib.hid hT
 have HN:=Lib.hid hn
 have HAW:=Lib.hid haw
 have HDB:=Lib.hid hdb
 have HHD:Hid (S [113,45]++S t++S [46]++S (Lib.decDigits q)++S [45]=S hd):=by
  show _=_
  rw [S_append,S_append,S_append,S_append,hhd]; rfl
 obtain ⟨l6,hl6⟩:∃ l,l=[113,45]++t:=⟨_,rfl⟩
 obtain ⟨l7,hl7⟩:∃ l,l=l6++[46]:=⟨_,rfl⟩
 obtain ⟨l11,hl11⟩:∃ l,l=l7++Lib.decDigits q:=⟨_,rfl⟩
 have HS6:Hid (S [113,45]++S t=S l6):=by show _=_; rw [S_append,hl6]
 have HS7:Hid (S l6++S [46]=S l7):=by show _=_; rw [S_append,hl7]
 have HS11:Hid (S l7++S (Lib.decDigits q)=S l11):=by show _=_; rw [S_append,hl11]
 have HS12:Hid (S l11++S [45]=S hd):=by show _=_; rw [S_append,hhd,hl11,hl7,hl6]; rfl
 have HZT:Hid ((S t).size≤1000):=by show _≤_; rw [S_size]; exact htl
 have HZ6:Hid ((S l6).size≤1010):=by show _≤_; rw [S_size,hl6,List.length_append]; simp; omega
 have HZ7:Hid ((S l7).size+(S (Lib.decDigits q)).size≤1020):=by show _≤_; rw [S_size,S_size,hl7,hl6]; simp; omega
 have HZ11:Hid ((S l11).size≤1030):=by show _≤_; rw [S_size,hl11,hl7,hl6]; simp; omega
 clear hl6 hl7 hl11
 have hz1:(S t).size≤1000:=by rw [S_size]; exact htl
 have hz2:(S (Lib.decDigits q)).size≤8:=by rw [S_size]; exact hdl
 clear hlaid hC hD hdb hq hfl hnl hT hn haw hhd ho hdl htl
 go_enter Tryz.func129,Tryz.ntmps129
 go_upto_region 1 with fail
 generalize W.alloc (.cells #[.string (S t),.int .i64 (q:Int)] 170)=w1 at *
 obtain ⟨A,hA⟩:∃ A,W.heap.size=A:=⟨_,rfl⟩
 rw [hA] at HK ⊢
 have HAA:=Lib.hid hA
 clear hA
 have HK0:Hid (∀ w,Below w1.heap.size w1 w→w.cell? ⟨A,0,none⟩=some (.string (S t))):=fun w hb=>by rw [Lib.cell_of_heap ((hb.block A (Array.getElem?_eq_some_iff.1 HK.out).1).trans HK.out)]; rfl
 have HK1:Hid (∀ w,Below w1.heap.size w1 w→w.cell? ⟨A,1,none⟩=some (.int .i64 (q:Int))):=fun w hb=>by rw [Lib.cell_of_heap ((hb.block A (Array.getElem?_eq_some_iff.1 HK.out).1).trans HK.out)]; rfl
 have HC1:Hid (∀ w,Below w1.heap.size w1 w→CqAt base w C):=fun w hb=>(HC.out.below HB0.out).below hb
 have HC0:Hid (∀ w,Below w1.heap.size w1 w→w.cell? ⟨C.blk,0,none⟩=some (.pointer (some ⟨C.db,0,none⟩))):=fun w hb=>by rw [Lib.cell_of_heap (HC1.out w hb).cells]; rfl
 have HIT:Hid (∀ w,Below w1.heap.size w1 w→Calls Tryz.prog 187 #[.int .i64 (q:Int)] w fun e w'=>e=.returned (.string (S (Lib.decDigits q)))∧Below w.heap.size w w'):=fun w hb=>itoa_any q w ((HTB.out.below HB0.out).below hb).tab (by omega)
 have HOP:Hid (∀ w,Below w1.heap.size w1 w→Calls Tryz.prog 112 #[.pointer (some ⟨C.db,0,none⟩),.string (S hd),.int .i64 200] w fun e w'=>∃ blk pv,e=.returned (.tuple #[.pointer (some ⟨blk,0,none⟩),.int .i64 0])∧Whole base w' D ((newR C.db hd).openR blk pv)∧Below w.heap.size w w'∧∀ k,((newR C.db hd).openR blk pv).foot k→w.heap.size≤k):=fun w hb=>by
  have:=open_any w HLG.out ((HD.out.below HB0.out).below hb) HQ.out HFL.out HNL.out (by have:=HB0.out.size; have:=hb.size; omega)
  rw [← HDB.out] at this; exact this
 refine GrowN.wp_region_n 19 [none,none,none,none,none,none,some (.inl (.string (S l6))),some (.inl (.string (S l7))),none,none,some (.inl (.string (S (Lib.decDigits q)))),some (.inl (.string (S l11))),some (.inl (.string (S hd))),some (.inr (fun _ v w=>OpenF base W D C.db hd fT v w)),some (.inr (fun _ v w=>OpenF base W D C.db hd fT v w)),some (.inr (fun _ v w=>OpenF base W D C.db hd fP v w)),some (.inl (.int .i64 0)),some (.inr (fun _ v w=>OpenF base W D C.db hd fP v w)),some (.inl (.int .i64 0))] (RecW.ExtR) (by kernel_rfl) (by kernel_rfl) (by kernel_rfl) (RecW.ExtR.refl) (fun _ _ _=>RecW.ExtR.trans) ?_ ?_
 ·
  intro K hK Y hY l v w w' hR h
  simp only [List.mem_cons,List.not_mem_nil,or_false] at hK
  rcases hK with rfl | rfl | rfl | rfl | rfl | rfl | rfl | rfl | rfl | rfl | rfl | rfl | rfl | rfl | rfl | rfl | rfl | rfl | rfl <;> simp only [reduceCtorEq,Option.some.injEq,Sum.inr.injEq] at hY
  all_goals (
   subst hY
   exact h.below hR
   )
 simp only [List.take_succ_cons,List.take_zero,List.drop_succ_cons,List.drop_zero]
 iterate 3
  refine GrowN.g_det rfl ?_
  apply Exists.intro
  refine ⟨fun w hw hF=>?_,?_⟩
  · clear hF
    go_simp
    exact ⟨rfl,RecW.ExtR.refl _⟩
  go_frame
 refine GrowN.g_det rfl ?_
 apply Exists.intro
 refine ⟨fun w hw hF=>?_,?_⟩
 ·
  clear hF
  have hb:=(Below.refl w1.heap.size w1).drew.trans hw
  have c0:=HC0.out w hb
  go_simp
  exact ⟨rfl,RecW.ExtR.refl _⟩
 go_frame
 refine GrowN.g_det rfl ?_
 apply Exists.intro
 refine ⟨fun w hw hF=>?_,?_⟩
 · clear hF
   go_simp
   exact ⟨rfl,RecW.ExtR.refl _⟩
 go_frame
 refine GrowN.g_det rfl ?_
 apply Exists.intro
 refine ⟨fun w hw hF=>?_,?_⟩
 ·
  clear hF
  have hb:=(Below.refl w1.heap.size w1).drew.trans hw
  have k0:=HK0.out w hb
  go_simp
  exact ⟨rfl,RecW.ExtR.refl _⟩
 go_frame
 refine GrowN.g_con rfl (fun w hw hF=>?_) ?_
 ·
  clear hF
  have hz:¬ 9223372036854775807 < 2+(S t).size:=by have:=HZT.out; omega
  go_simp
  exact ⟨(by first | exact HS6.out | (rw [← HS6.out]; rfl)),RecW.ExtR.refl _⟩
 go_frame
 refine GrowN.g_con rfl (fun w hw hF=>?_) ?_
 ·
  clear hF
  have hz:¬ 9223372036854775807 < (S l6).size+1:=by have:=HZ6.out; omega
  go_simp
  exact ⟨(by first | exact HS7.out | (rw [← HS7.out]; rfl)),RecW.ExtR.refl _⟩
 go_frame
 refine GrowN.g_det rfl ?_
 apply Exists.intro
 refine ⟨fun w hw hF=>?_,?_⟩
 · clear hF
   go_simp
   exact ⟨rfl,RecW.ExtR.refl _⟩
 go_frame
 refine GrowN.g_det rfl ?_
 apply Exists.intro
 refine ⟨fun w hw hF=>?_,?_⟩
 ·
  clear hF
  have hb:=(Below.refl w1.heap.size w1).drew.trans hw
  have k1:=HK1.out w hb
  go_simp
  exact ⟨rfl,RecW.ExtR.refl _⟩
 go_frame
 refine GrowN.g_con rfl (fun w hw hF=>?_) ?_
 ·
  clear hF
  have hb:=(Below.refl w1.heap.size w1).drew.trans hw
  go_simp
  exact (HIT.out w hb).mono fun e w3 h=>⟨_,h.1,rfl,h.2⟩
 go_frame
 refine GrowN.g_con rfl (fun w hw hF=>?_) ?_
 ·
  clear hF
  have hz:¬ 9223372036854775807 < (S l7).size+(S (Lib.decDigits q)).size:=by have:=HZ7.out; omega
  go_simp
  exact ⟨(by first | exact HS11.out | (rw [← HS11.out]; rfl)),RecW.ExtR.refl _⟩
 go_frame
 refine GrowN.g_con rfl (fun w hw hF=>?_) ?_
 ·
  clear hF
  have hz:¬ 9223372036854775807 < (S l11).size+1:=by have:=HZ11.out; omega
  go_simp
  exact ⟨(by first | exact HS12.out | (rw [← HS12.out]; rfl)),RecW.ExtR.refl _⟩
 go_frame
 refine GrowN.g_new rfl (fun w hw hF=>?_) (fun v13=>?_)
 ·
  clear hF
  have hb:=(Below.refl w1.heap.size w1).drew.trans hw
  go_simp
  exact (HOP.out w hb).mono fun e w3 ⟨blk,pv,h1,h2,h3,h4⟩=>⟨_,h1,⟨blk,pv,rfl,h2,fun k hk=>Nat.le_trans (Nat.le_trans HB0.out.size hb.size) (h4 k hk)⟩,h3⟩
 go_frame
 refine GrowN.g_new rfl (fun w hw hF=>?_) (fun v14=>?_)
 ·
  skip
  obtain ⟨blk,pv,rfl,h2,h3⟩:=hF _ (.head _) (by kernel_rfl)
  clear hF
  go_simp
  exact ⟨⟨blk,pv,rfl,h2,h3⟩,RecW.ExtR.refl _⟩
 go_frame
 refine GrowN.g_new rfl (fun w hw hF=>?_) (fun v15=>?_)
 ·
  skip
  obtain ⟨blk,pv,rfl,h2,h3⟩:=hF _ (.head _) (by kernel_rfl)
  clear hF
  go_simp
  exact ⟨⟨blk,pv,rfl,h2,h3⟩,RecW.ExtR.refl _⟩
 go_frame
 refine GrowN.g_con rfl (fun w hw hF=>?_) ?_
 ·
  obtain ⟨blk,pv,rfl,h2,h3⟩:=hF _ (.tail _ (.head _)) (by kernel_rfl)
  clear hF
  unfold fT
  go_simp
  exact RecW.ExtR.refl _
 go_frame
 refine GrowN.g_new rfl (fun w hw hF=>?_) (fun v17=>?_)
 ·
  skip
  obtain ⟨blk,pv,rfl,h2,h3⟩:=hF _ (.head _) (by kernel_rfl)
  clear hF
  go_simp
  exact ⟨⟨blk,pv,rfl,h2,h3⟩,RecW.ExtR.refl _⟩
 go_frame
 refine GrowN.g_con rfl (fun w hw hF=>?_) ?_
 · clear hF
   go_simp
   exact RecW.ExtR.refl _
 go_frame
 refine GrowN.g_nil fun w2 hw2 hF=>?_
 obtain ⟨rb,pv,rfl,hW2,hfr⟩:=hF _ (.head _)
 clear hF
 have HB2:=Lib.hid ((Below.refl w1.heap.size w1).drew.trans hw2)
 clear hw2
 unfold fP
 have HW2:=Lib.hid hW2
 have HFR:=Lib.hid hfr
 clear hW2 hfr HOP HIT
 go_wp2_with fail
 have hb3:Below w2.heap.size w2 (w2.alloc (.cells #[.pointer (some ⟨rb,0,none⟩),.int .i64 (p:Int),.int .i64 (p:Int)] 110)):=(Below.refl _ _).alloc (Nat.le_refl _) _
 have hx3:(w2.alloc (.cells #[.pointer (some ⟨rb,0,none⟩),.int .i64 (p:Int),.int .i64 (p:Int)] 110)).heap[w2.heap.size]?=some (.cells #[.pointer (some ⟨rb,0,none⟩),.int .i64 (p:Int),.int .i64 (p:Int)] 110 (0,0)):=heap_alloc_new w2 _
 generalize w2.alloc (.cells #[.pointer (some ⟨rb,0,none⟩),.int .i64 (p:Int),.int .i64 (p:Int)] 110)=w3 at *
 obtain ⟨xb,hxb⟩:∃ x,w2.heap.size=x:=⟨_,rfl⟩
 rw [hxb] at hx3 ⊢
 have HB3:=Lib.hid (HB2.out.trans (hb3.mono HB2.out.size))
 have HX3:=Lib.hid hx3
 have HXB:=Lib.hid hxb
 have HW3:=Lib.hid (HW2.out.below hb3)
 clear hb3 hx3 hxb
 have HD1:Hid (∀ w,Below w3.heap.size w3 w→w.cell? ⟨C.blk,1,none⟩=some (.map (some C.mB))):=fun w hb=>by rw [Lib.cell_of_heap (HC1.out w (HB3.out.trans (hb.mono HB3.out.size))).cells]; rfl
 have HD2:Hid (∀ w,Below w3.heap.size w3 w→w.cell? ⟨A,0,none⟩=some (.string (S t))∧w.cell? ⟨A,1,none⟩=some (.int .i64 (q:Int))):=fun w hb=>⟨HK0.out w (HB3.out.trans (hb.mono HB3.out.size)),HK1.out w (HB3.out.trans (hb.mono HB3.out.size))⟩
 refine GrowN.wp_region_n 6 [none,none,none,none,some (.inl (.agg #[.string (S t),.int .i64 (q:Int)])),none] (RecW.ExtR) (by kernel_rfl) (by kernel_rfl) (by kernel_rfl) (RecW.ExtR.refl) (fun _ _ _=>RecW.ExtR.trans) ?_ ?_
 · exact GrowN.stab0 rfl
 simp only [List.take_succ_cons,List.take_zero,List.drop_succ_cons,List.drop_zero]
 iterate 3
  refine GrowN.g_det rfl ?_
  apply Exists.intro
  refine ⟨fun w hw hF=>?_,?_⟩
  · clear hF
    go_simp
    exact ⟨rfl,RecW.ExtR.refl _⟩
  go_frame
 refine GrowN.g_det rfl ?_
 apply Exists.intro
 refine ⟨fun w hw hF=>?_,?_⟩
 ·
  clear hF
  have hb:=(Below.refl w3.heap.size w3).drew.trans hw
  have c1:=HD1.out w hb
  go_simp
  exact ⟨rfl,RecW.ExtR.refl _⟩
 go_frame
 refine GrowN.g_con rfl (fun w hw hF=>?_) ?_
 ·
  clear hF
  have hb:=(Below.refl w3.heap.size w3).drew.trans hw
  obtain ⟨k0,k1⟩:=HD2.out w hb
  go_simp
  exact RecW.ExtR.refl _
 go_frame
 refine GrowN.g_det rfl ?_
 apply Exists.intro
 refine ⟨fun w hw hF=>?_,?_⟩
 · clear hF
   go_simp
   exact ⟨rfl,RecW.ExtR.refl _⟩
 go_frame
 refine GrowN.g_nil fun w4 hw4 hF=>?_
 clear hF
 have HB4:=Lib.hid ((Below.refl w3.heap.size w3).drew.trans hw4)
 clear hw4
 have hC4:=HC1.out w4 (HB3.out.trans (HB4.out.mono HB3.out.size))
 have hx4:w4.heap[xb]?=some (.cells #[.pointer (some ⟨rb,0,none⟩),.int .i64 (p:Int),.int .i64 (p:Int)] 110 (0,0)):=(HB4.out.block xb (Array.getElem?_eq_some_iff.1 HX3.out).1).trans HX3.out
 have hW4:=HW3.out.below HB4.out
 have hkk:∀ x∈C.qs.map (fun x:QueD=>(x.key,Value.pointer (some ⟨x.blk,0,none⟩))),KeyW x.1:=fun x hx=>by
  obtain ⟨y,_,rfl⟩:=List.mem_map.1 hx
  exact ⟨_,_,rfl⟩
 obtain ⟨w5,hup,hp5,hm5⟩:=update_new Tryz.underlying166 keyedW hC4.map hkk (k:=.agg #[.string (S t),.int .i64 (q:Int)]) ⟨t,q,rfl⟩ (fun x hx=>by
  obtain ⟨y,hy,rfl⟩:=List.mem_map.1 hx
  exact HN.out y hy) (.pointer (some ⟨xb,0,none⟩))
 have HUP5:=Lib.hid hp5
 have HM5:=Lib.hid hm5
 have HX4:=Lib.hid hx4
 have HW4:=Lib.hid hW4
 have HC4:=Lib.hid hC4
 clear hp5 hm5 hx4 hW4 hC4 hkk HC0 HC1 HK0 HK1 HD1 HD2
 go_wp2_with fail
 go_ret2
 have hs0:=HB0.out.size
 have hs2:=HB2.out.size
 have hs3:=HB3.out.size
 have hs4:=HB4.out.size
 have haa:=HAA.out
 have hxb:=HXB.out
 have hmb:C.mB < W.heap.size:=HC.out.map.lt
 have hm05:Mod (fun k=>k=C.mB) W w5:=((Mod.of_below (HB0.out.trans (HB3.out.mono HB0.out.size |>.trans (HB4.out.mono (by omega))))).trans HM5.out)
 have hrb:∀ k,((newR C.db hd).openR rb pv).foot k→k≠C.mB∧k < w2.heap.size:=fun k hk=>⟨fun e=>by have:=HFR.out k hk; omega,HW2.out.seg.lt hk⟩
 have hW5:Whole base w5 D ((newR C.db hd).openR rb pv):=HW4.out.mod HM5.out (fun k hk e=>HAW.out C.mB (.inr (.inl rfl)) (e ▸ hk)) (fun k hk e=>(hrb k hk).1 e)
 have hxl:xb < w4.heap.size:=(Array.getElem?_eq_some_iff.1 HX4.out).1
 have hx5:w5.heap[xb]?=_:=(HM5.out.block xb hxl (fun e=>by omega)).trans HX4.out
 have hnq:∀ k,C.foot k→k≠C.mB→w5.heap[k]?=w4.heap[k]?:=fun k hk hne=>HM5.out.block k (HC4.out.lt hk) hne
 refine ⟨⟨t,(q:Int),xb,(newR C.db hd).openR rb pv,p,p⟩,rfl,rfl,rfl,rfl,rfl,⟨rb,pv,rfl⟩,hW5,⟨?_,?_,fun x hx=>?_,⟨HC4.out.low.1,HC4.out.low.2.1,fun x hx=>?_⟩,fun x hx=>?_,?_⟩,hm05,?_,fun k hk=>⟨HFR.out k hk,fun e=>?_⟩⟩
 ·
  exact (hnq C.blk (.inl rfl) (fun e=>by
   obtain ⟨es,c,h1,_⟩:=HC4.out.map
   have h2:=HC4.out.cells
   rw [e,h1] at h2; cases h2)).trans HC4.out.cells
 · show PairsAt w5 C.mB ((C.qs++[_]).map _)
   rw [List.map_append]; exact HUP5.out
 ·
  have hx':x∈C.qs++[(⟨t,(q:Int),xb,(newR C.db hd).openR rb pv,p,p⟩:QueD)]:=hx
  rcases List.mem_append.1 hx' with h | h
  · obtain ⟨a1,a2,a3⟩:=HC4.out.away x h
    obtain ⟨q1,q2,q3⟩:=HC4.out.que x h
    exact ⟨(hnq x.blk (.inr (.inr ⟨x,h,.inl rfl⟩)) a1).trans q1,q2.mod HM5.out (fun k hk e=>(a3 k hk).1 e),q3⟩
  · rw [List.mem_singleton] at h
    subst h
    exact ⟨hx5,hW5.seg,rfl⟩
 ·
  have hx':x∈C.qs++[(⟨t,(q:Int),xb,(newR C.db hd).openR rb pv,p,p⟩:QueD)]:=hx
  rcases List.mem_append.1 hx' with h | h
  · exact HC4.out.low.2.2 x h
  · rw [List.mem_singleton] at h
    subst h
    show base≤xb
    omega
 ·
  have hx':x∈C.qs++[(⟨t,(q:Int),xb,(newR C.db hd).openR rb pv,p,p⟩:QueD)]:=hx
  have hcb:C.blk < W.heap.size:=HC.out.lt (.inl rfl)
  rcases List.mem_append.1 hx' with h | h
  · exact HC4.out.away x h
  ·
   rw [List.mem_singleton] at h
   subst h
   refine ⟨by show xb≠C.mB; omega,by show xb≠C.blk; omega,fun k hk=>?_⟩
   have h1:=HFR.out k hk
   have h2:=(hrb k hk).2
   have h1':W.heap.size≤k:=h1
   have h2':k < w2.heap.size:=h2
   exact (show k≠C.mB∧k≠C.blk∧k≠xb from ⟨by omega,by omega,by omega⟩)
 ·
  show (C.qs++[_]).Pairwise _
  rw [List.pairwise_append]
  refine ⟨HC4.out.sep,List.pairwise_singleton _ _,fun x hx y hy k hk hk2=>?_⟩
  rw [List.mem_singleton] at hy
  subst hy
  have h1:k < W.heap.size:=HC.out.lt (.inr (.inr ⟨x,hx,hk⟩))
  rcases hk2 with h2 | h2
  · have h3:k=xb:=h2
    omega
  · have:=HFR.out k h2
    omega
 · show W.heap.size≤xb
   omega
 · have:=(hrb k hk).2
   have e2:k=xb:=e
   omega
def DrR (u v:World):Prop:=∃ n,v=u.drewN n
theorem DrR.refl (w:World):DrR w w:=⟨0,rfl⟩
theorem DrR.trans {u v w:World} (h:DrR u v) (k:DrR v w):DrR u w:=by obtain ⟨m,rfl⟩:=h; obtain ⟨n,rfl⟩:=k; exact ⟨m+n,World.drewN_drewN ..⟩
theorem next_any {base:Nat} {x:QueD} (w:World) (hx:w.heap[x.blk]?=some (.cells x.cells 110 (0,0))) (hR:SegAt base w x.R) (hb:x.b0≤1099511627776) :
 Calls Tryz.prog 41 #[.pointer (some ⟨x.blk,0,none⟩)] w fun e w'=>e=.returned (.int .i64 ((x.b0+x.R.e / 20:Nat):Int))∧Drawn w w':=by
 have c0:w.cell? ⟨x.blk,0,none⟩=some (.pointer (some ⟨x.R.blk,0,none⟩)):=by rw [Lib.cell_of_heap hx]; rfl
 have c1:w.cell? ⟨x.blk,1,none⟩=some (.int .i64 (x.b0:Int)):=by rw [Lib.cell_of_heap hx]; rfl
 have HE:Hid (∀ w2,Drawn w w2→Calls Tryz.prog 23 #[.pointer (some ⟨x.R.blk,0,none⟩)] w2 fun e w'=>e=.returned (.int .i64 (x.R.e:Int))∧w'=w2):=fun w2 hd=>SegW.end_any w2 (hR.below (hd.below _))
 have hel:=hR.e_le
 clear hx hR
 go_enter Tryz.func41,Tryz.ntmps41
 go_wp2_with fail
 refine GrowN.wp_region_n 12 [none,none,none,none,none,none,none,none,some (.inl (.int .i64 (x.R.e:Int))),some (.inl (.int .i64 ((x.R.e / 20:Nat):Int))),some (.inl (.int .i64 ((x.b0+x.R.e / 20:Nat):Int))),none] (DrR) (by kernel_rfl) (by kernel_rfl) (by kernel_rfl) (DrR.refl) (fun _ _ _=>DrR.trans) ?_ ?_
 · exact GrowN.stab0 rfl
 simp only [List.take_succ_cons,List.take_zero,List.drop_succ_cons,List.drop_zero]
 iterate 2
  refine GrowN.g_det rfl ?_
  apply Exists.intro
  refine ⟨fun w hw hF=>?_,?_⟩
  · clear hF
    go_simp
    exact ⟨rfl,DrR.refl _⟩
  go_frame
  refine GrowN.g_det rfl ?_
  apply Exists.intro
  refine ⟨fun w hw hF=>?_,?_⟩
  · clear hF
    go_simp
    exact ⟨rfl,DrR.refl _⟩
  go_frame
  refine GrowN.g_det rfl ?_
  apply Exists.intro
  refine ⟨fun w hw hF=>?_,?_⟩
  · clear hF
    go_simp
    exact ⟨rfl,DrR.refl _⟩
  go_frame
  refine GrowN.g_det rfl ?_
  apply Exists.intro
  refine ⟨fun w hw hF=>?_,?_⟩
  · clear hF
    obtain ⟨n,rfl⟩:=hw
    go_simp
    exact ⟨rfl,DrR.refl _⟩
  go_frame
 refine GrowN.g_con rfl (fun w hw hF=>?_) ?_
 ·
  clear hF
  obtain ⟨n,rfl⟩:=hw
  go_simp
  exact (HE.out _ ⟨1+n,by first | rfl | (rw [← World.drewN_drewN]; rfl)⟩).mono fun e w3 h=>⟨_,h.1,rfl,h.2 ▸ DrR.refl _⟩
 iterate 2
  go_frame
  refine GrowN.g_con rfl (fun w hw hF=>?_) ?_
  · clear hF
    go_simp
    exact ⟨by rw [IntWalk.i64_in _ (by omega)],DrR.refl _⟩
 go_frame
 refine GrowN.g_det rfl ?_
 apply Exists.intro
 refine ⟨fun w hw hF=>?_,?_⟩
 · clear hF
   go_simp
   exact ⟨rfl,DrR.refl _⟩
 go_frame
 refine GrowN.g_nil fun w2 hw2 hF=>?_
 clear hF
 have hd:Drawn w w2:=by
  obtain ⟨n,rfl⟩:=hw2
  exact ⟨1+n,by rw [← World.drewN_drewN]; rfl⟩
 have HD:=Lib.hid hd
 clear hd hw2
 go_wp2_with fail
 go_ret
 exact ⟨rfl,HD.out⟩
theorem zero_ptr (w:World):(zeroValue 107).run Tryz.prog w=.ok (.pointer none) w:=by kernel_rfl
theorem CqAt.setR {base:Nat} {w w':World} {C:CqD} {D:DiskD} {x:QueD} {R':SegD} {l:List QueD} (h:CqAt base w C) (hl:C.qs=l++[x]) (hm:Mod (fun k=>D.foot k∨x.R.foot k) w w') (haw:∀ k,C.foot k→¬ D.foot k) (hS:SegAt base w' R') (e1:R'.blk=x.R.blk) (e2:R'.db=x.R.db) (hf:∀ k,R'.foot k→x.R.foot k∨w.heap.size≤k) :
 CqAt base w' { C with qs:=l++[{ x with R:=R' }] }:=by
 have hx:x∈C.qs:=by rw [hl]; simp
 have hsep:=h.sep
 rw [hl,List.pairwise_append] at hsep
 obtain ⟨s1,_,s3⟩:=hsep
 have hlm:∀ y∈l,y∈C.qs:=fun y hy=>by rw [hl]; exact List.mem_append_left _ hy
 obtain ⟨a1,a2,a3⟩:=h.away x hx
 have key:∀ k,C.foot k→¬ x.R.foot k→w'.heap[k]?=w.heap[k]?:=fun k hk hn=>hm.block k (h.lt hk) (fun h2=>h2.elim (haw k hk) hn)
 refine ⟨(key C.blk (.inl rfl) (fun h2=>(a3 _ h2).2.1 rfl)).trans h.cells,?_,fun y hy=>?_,⟨h.low.1,h.low.2.1,fun y hy=>?_⟩,fun y hy=>?_,?_⟩
 ·
  have:=h.map.mod hm (fun h2=>h2.elim (haw C.mB (.inr (.inl rfl))) (fun h3=>(a3 _ h3).1 rfl))
  rw [hl,List.map_append] at this
  show PairsAt w' C.mB ((l++[_]).map _)
  rw [List.map_append]; exact this
 ·
  rcases List.mem_append.1 hy with hy | hy
  · obtain ⟨q1,q2,q3⟩:=h.que y (hlm y hy)
    have hn:∀ k,(k=y.blk∨y.R.foot k)→¬ x.R.foot k:=fun k hk hk2=>s3 y hy x (.head _) k hk (.inr hk2)
    refine ⟨(key y.blk (.inr (.inr ⟨y,hlm y hy,.inl rfl⟩)) (hn _ (.inl rfl))).trans q1,q2.mod hm (fun k hk h2=>h2.elim (haw k (.inr (.inr ⟨y,hlm y hy,.inr hk⟩))) (hn k (.inr hk))),q3⟩
  ·
   rw [List.mem_singleton] at hy
   subst hy
   obtain ⟨q1,q2,q3⟩:=h.que x hx
   refine ⟨?_,hS,e2.trans q3⟩
   have:=(key x.blk (.inr (.inr ⟨x,hx,.inl rfl⟩)) (fun h2=>(a3 _ h2).2.2 rfl)).trans q1
   show w'.heap[x.blk]?=some (.cells (QueD.cells { x with R:=R' }) _ _)
   unfold QueD.cells at this ⊢
   rw [e1]; exact this
 ·
  rcases List.mem_append.1 hy with hy | hy
  · exact h.low.2.2 y (hlm y hy)
  · rw [List.mem_singleton] at hy
    subst hy; exact h.low.2.2 x hx
 ·
  rcases List.mem_append.1 hy with hy | hy
  · exact h.away y (hlm y hy)
  ·
   rw [List.mem_singleton] at hy
   subst hy
   have l1:=h.lt (k:=C.mB) (.inr (.inl rfl))
   have l2:=h.lt (k:=C.blk) (.inl rfl)
   have l3:=h.lt (k:=x.blk) (.inr (.inr ⟨x,hx,.inl rfl⟩))
   refine ⟨a1,a2,fun k hk=>?_⟩
   rcases hf k hk with h2 | h2
   · exact a3 k h2
   · exact (show k≠C.mB∧k≠C.blk∧k≠x.blk from ⟨by omega,by omega,by omega⟩)
 ·
  show (l++[_]).Pairwise _
  rw [List.pairwise_append]
  refine ⟨s1,List.pairwise_singleton _ _,fun y hy z hz k hk hk2=>?_⟩
  rw [List.mem_singleton] at hz
  subst hz
  have h1:=h.lt (k:=k) (.inr (.inr ⟨y,hlm y hy,hk⟩))
  rcases hk2 with h2 | h2
  · exact s3 y hy x (.head _) k hk (.inl h2)
  · rcases hf k h2 with h3 | h3
    · exact s3 y hy x (.head _) k hk (.inr h3)
    · omega
structure Added (base:Nat) (W w':World) (C:CqD) (D:DiskD) (t:List UInt8) (q:Nat) (s:List UInt8) (x:QueD) (D':DiskD):Prop where
 cq:CqAt base w' { C with qs:=C.qs++[x] }
 dsk:DiskAt base w' D'
 topic:x.topic=t
 qq:x.q=(q:Int)
 b0:x.b0=0
 least:x.least=0
 b:x.R.b=0
 txt:x.R.txt=s
 quiet:Quiet D'
 dblk:D'.blk=D.blk
 room:D'.room=D.room - (s.length:Int)
 waits:D'.waits.length=D.waits.length+1
 other:∀ n,(∀ p,p≤99999999→n≠nameL (qHead t q) p)→D'.find n=D.find n
 files:D'.files.length≤D.files.length+1
 names:∀ p∈D'.files,p.1.length≤(qHead t q).length+8∨∃ r∈D.files,r.1=p.1
 dfoot:∀ k,D'.foot k→D.foot k∨W.heap.size≤k
 xfoot:∀ k,(k=x.blk∨x.R.foot k)→W.heap.size≤k
 away:∀ k,CqD.foot { C with qs:=C.qs++[x] } k→¬ D'.foot k
 mod:Mod (fun k=>k=C.mB∨D.foot k) W w'
 whole:Whole base w' D' x.R
 hd:x.R.head=qHead t q
 sz:x.R.size=200
theorem add_new {base:Nat} {D:DiskD} {C:CqD} (t:List UInt8) (q:Nat) (a b c d:Int) (W:World) (hC:CqAt base W C) (hD:DiskAt base W D) (hdb:C.db=D.blk) (hq:Quiet D) (hfl:D.files.length≤1048576) (hnl:∀ p∈D.files,p.1.length≤1073741824) (hbase:base≤W.heap.size) (hT:TabB base W)
 (hn:∀ x∈C.qs,x.key≠.agg #[.string (S t),.int .i64 (q:Int)]) (ht:NameMath.topicL t=true) (htl:t.length≤1000) (hql:q < 3) (ho:∀ m,m≤99999999→D.find (nameL (qHead t q) m)=none) (haw:∀ k,C.foot k→¬ D.foot k)
 (s:List UInt8) (hs:s.length=20) (hput:∀ w,Calls Tryz.prog 191 #[.agg #[.int .i64 a,.int .i64 b,.int .i64 c,.int .i64 d]] w fun e w'=>e=.returned (.tuple #[.string (S s),.bool true])∧Below w.heap.size w w') (hroom:20≤D.room) (hwl:D.waits.length≤1000000) :
 Calls Tryz.prog 134 #[.pointer (some ⟨C.blk,0,none⟩),.string (S t),.int .i64 (q:Int),.agg #[.int .i64 a,.int .i64 b,.int .i64 c,.int .i64 d]] W fun e w'=>e=.returned (.tuple #[.int .i64 0,.int .i64 0])∧∃ x D',Added base W w' C D t q s x D':=by
 have HB0:Hid (Below W.heap.size W (W.alloc (.cells #[.int .i64 a,.int .i64 b,.int .i64 c,.int .i64 d] 68))):=(Below.refl _ W).alloc (Nat.le_refl _) _
 have HK0:Hid ((W.alloc (.cells #[.int .i64 a,.int .i64 b,.int .i64 c,.int .i64 d] 68)).heap[W.heap.size]?=some (.cells #[.int .i64 a,.int .i64 b,.int .i64 c,.int .i64 d] 68 (0,0))):=heap_alloc_new W _
 have HRI:=Lib.hid (fun (w:World)=>right_ok t q ht (by omega) hql w)
 have HBG:=Lib.hid (fun (w:World) (hb:Below W.heap.size W w)=>begun_any t q 0 w (hC.below hb) (hD.below hb) hdb hq hfl hnl (Nat.le_trans hbase hb.size) (hT.below hb) hn htl (by omega) (by omega) ho haw)
 have HPU:=Lib.hid hput
 have HC:=Lib.hid hC
 have HD:=Lib.hid hD
 have HQ:=Lib.hid hq
 have HTB:=Lib.hid hT
 have HN:=Lib.hid hn
 have HAW:=Lib.hid haw
 have HDB:=Lib.hid hdb
 have HRM:=Lib.hid hroom
 have HSL:=Lib.hid hs
 have HWL:=Lib.hid hwl
 have HBS:=Lib.hid hbase
 clear hC hD hdb hq hfl hnl hbase hT hn ht htl ho haw hput hroom hs hwl
 go_enter Tryz.func134,Tryz.ntmps134
 go_upto_region 1 with fail
 generalize W.alloc (.cells #[.int .i64 a,.int .i64 b,.int .i64 c,.int .i64 d] 68)=w1 at *
 obtain ⟨A,hA⟩:∃ A,W.heap.size=A:=⟨_,rfl⟩
 rw [hA] at HK0 ⊢
 have HAA:=Lib.hid hA
 clear hA
 go_wp2_with fail
 refine (HRI.out w1).mono ?_
 rintro e w2 ⟨rfl,hb⟩
 have HB2:=Lib.hid (HB0.out.trans (hb.mono HB0.out.size))
 have hk2:w2.heap[A]?=_:=(hb.block A (Array.getElem?_eq_some_iff.1 HK0.out).1).trans HK0.out
 have p0:w2.cell? ⟨A,0,none⟩=some (.int .i64 a):=by rw [Lib.cell_of_heap hk2]; rfl
 have p1:w2.cell? ⟨A,1,none⟩=some (.int .i64 b):=by rw [Lib.cell_of_heap hk2]; rfl
 have p2:w2.cell? ⟨A,2,none⟩=some (.int .i64 c):=by rw [Lib.cell_of_heap hk2]; rfl
 have p3:w2.cell? ⟨A,3,none⟩=some (.int .i64 d):=by rw [Lib.cell_of_heap hk2]; rfl
 clear hb hk2 HRI HK0
 go_wp2_with fail
 refine (HPU.out w2).mono ?_
 rintro e w2' ⟨rfl,hb⟩
 have HB2':=Lib.hid (HB2.out.trans (hb.mono HB2.out.size))
 clear hb p0 p1 p2 p3 HPU
 go_upto_region 10 with fail
 have hb3:Below w2'.heap.size w2' (w2'.alloc (.cells #[.string (S t),.int .i64 (q:Int)] 170)):=(Below.refl _ _).alloc (Nat.le_refl _) _
 have hx3:(w2'.alloc (.cells #[.string (S t),.int .i64 (q:Int)] 170)).heap[w2'.heap.size]?=some (.cells #[.string (S t),.int .i64 (q:Int)] 170 (0,0)):=heap_alloc_new w2' _
 generalize w2'.alloc (.cells #[.string (S t),.int .i64 (q:Int)] 170)=w3 at *
 obtain ⟨G,hG⟩:∃ G,w2'.heap.size=G:=⟨_,rfl⟩
 rw [hG] at hx3 ⊢
 have HB3:=Lib.hid (HB2'.out.trans (hb3.mono HB2'.out.size))
 have HX3:=Lib.hid hx3
 clear hb3 hx3 hG
 have HK:Hid (∀ w,Below w3.heap.size w3 w→w.cell? ⟨G,0,none⟩=some (.string (S t))∧w.cell? ⟨G,1,none⟩=some (.int .i64 (q:Int))):=fun w hb=>by
  have h:=(hb.block G (Array.getElem?_eq_some_iff.1 HX3.out).1).trans HX3.out
  exact ⟨by rw [Lib.cell_of_heap h]; rfl,by rw [Lib.cell_of_heap h]; rfl⟩
 have HC1:Hid (∀ w,Below w3.heap.size w3 w→w.cell? ⟨C.blk,1,none⟩=some (.map (some C.mB))):=fun w hb=>by rw [Lib.cell_of_heap (HC.out.below (HB3.out.trans (hb.mono HB3.out.size))).cells]; rfl
 have HLK:Hid (∀ w,Below w3.heap.size w3 w→(Instr.lookup 166 (.map (some C.mB)) (.agg #[.string (S t),.int .i64 (q:Int)]) false).run Tryz.prog w=.ok (.pointer none) w):=fun w hb=>by
  have hC4:=HC.out.below (HB3.out.trans (hb.mono HB3.out.size))
  exact lookup_not Tryz.underlying166 keyedW hC4.map (fun x hx=>by
   obtain ⟨y,_,rfl⟩:=List.mem_map.1 hx
   exact ⟨_,_,rfl⟩) (k:=.agg #[.string (S t),.int .i64 (q:Int)]) ⟨t,q,rfl⟩ (fun x hx=>by
   obtain ⟨y,hy,rfl⟩:=List.mem_map.1 hx
   exact HN.out y hy) zero_ptr false
 refine GrowN.wp_region_n 7 [none,none,none,none,some (.inl (.agg #[.string (S t),.int .i64 (q:Int)])),some (.inl (.pointer none)),none] (RecW.ExtR) (by kernel_rfl) (by kernel_rfl) (by kernel_rfl) (RecW.ExtR.refl) (fun _ _ _=>RecW.ExtR.trans) ?_ ?_
 · exact GrowN.stab0 rfl
 simp only [List.take_succ_cons,List.take_zero,List.drop_succ_cons,List.drop_zero]
 iterate 3
  refine GrowN.g_det rfl ?_
  apply Exists.intro
  refine ⟨fun w hw hF=>?_,?_⟩
  · clear hF
    go_simp
    exact ⟨rfl,RecW.ExtR.refl _⟩
  go_frame
 refine GrowN.g_det rfl ?_
 apply Exists.intro
 refine ⟨fun w hw hF=>?_,?_⟩
 ·
  clear hF
  have hb:=(Below.refl w3.heap.size w3).drew.trans hw
  have c1:=HC1.out w hb
  go_simp
  exact ⟨rfl,RecW.ExtR.refl _⟩
 go_frame
 refine GrowN.g_con rfl (fun w hw hF=>?_) ?_
 ·
  clear hF
  have hb:=(Below.refl w3.heap.size w3).drew.trans hw
  obtain ⟨k0,k1⟩:=HK.out w hb
  go_simp
  exact RecW.ExtR.refl _
 go_frame
 refine GrowN.g_con rfl (fun w hw hF=>?_) ?_
 ·
  clear hF
  have hb:=(Below.refl w3.heap.size w3).drew.trans hw
  have hl:=HLK.out w hb
  go_simp
  exact RecW.ExtR.refl _
 go_frame
 refine GrowN.g_det rfl ?_
 apply Exists.intro
 refine ⟨fun w hw hF=>?_,?_⟩
 · clear hF
   go_simp
   exact ⟨rfl,RecW.ExtR.refl _⟩
 go_frame
 refine GrowN.g_nil fun w4 hw4 hF=>?_
 clear hF
 have HB4:=Lib.hid ((Below.refl w3.heap.size w3).drew.trans hw4)
 clear hw4 HC1 HLK
 obtain ⟨k0,k1⟩:=HK.out w4 HB4.out
 go_wp2_with fail
 have hb04:Below W.heap.size W w4:=HB3.out.trans (HB4.out.mono HB3.out.size)
 refine (HBG.out w4 hb04).mono ?_
 rintro e w5 ⟨x,rfl,hxt,hxq,hxb,hxl,⟨rb,pv,hxr⟩,hW5,hC5,hm5,hxb2,hxf⟩
 have hx5:=(hC5.que x (by show x∈C.qs++[x]; simp)).1
 have hre:x.R.e=0:=by rw [hxr]; rfl
 have hrr:x.R.room=200:=by rw [hxr]; rfl
 have hrb0:x.R.b=0:=by rw [hxr]; rfl
 have hrt:x.R.txt=[]:=by rw [hxr]; rfl
 have hdbx:x.R.db=C.db:=by rw [hxr]; rfl
 have hsz0:x.R.size=200:=by rw [hxr]; rfl
 have hhd:x.R.head=qHead t q:=by rw [hxr]; rfl
 have hNX:=next_any w5 hx5 hW5.seg (by rw [hxb]; omega)
 rw [hxb,hre] at hNX
 have HNX:Hid (Calls Tryz.prog 41 #[.pointer (some ⟨x.blk,0,none⟩)] w5 fun e w'=>e=.returned (.int .i64 0)∧Drawn w5 w'):=hNX
 have HX5:=Lib.hid hx5
 have HW5:=Lib.hid hW5
 have HC5:=Lib.hid hC5
 have HM5:=Lib.hid hm5
 have HB04:=Lib.hid hb04
 have HXX:Hid (x.topic=t∧x.q=(q:Int)∧x.b0=0∧x.least=0∧x.R.b=0∧x.R.txt=[]∧x.R.db=C.db∧x.R.head=qHead t q∧x.R.e=0∧x.R.size=200):=⟨hxt,hxq,hxb,hxl,hrb0,hrt,hdbx,hhd,hre,hsz0⟩
 have HXF:Hid (w4.heap.size≤x.blk∧∀ k,x.R.foot k→w4.heap.size≤k∧k≠x.blk):=⟨hxb2,hxf⟩
 have hT5:TabB base w5:=(HTB.out.below hb04).mod hm5 (fun k hk=>by rw [hk]; exact HC.out.low.2.1)
 have HAP:=Lib.hid (fun (w:World) (hd:Drawn w5 w)=>append_ok s w (hT5.mod (M:=fun _=>False) (Mod.of_below (hd.below _)) (fun _ h=>h.elim)) (hW5.below (hd.below _)) (by have h1:=HBS.out; have h2:=hb04.size; have h3:=hm5.size; have h4:=hd.heap; rw [h4]; omega) HQ.out (by intro e; have:=HSL.out; rw [e] at this; cases this) (by rw [hrr]; have:=HSL.out; omega) (by have h1:=HRM.out; have h2:=HSL.out; omega) (by have:=HWL.out; omega) (fun _=>by rw [hre]; omega))
 rw [hre] at HAP
 clear hxt hxq hxb hxl hxr hW5 hC5 hm5 hxb2 hxf hx5 hre hrr hrb0 hrt hdbx hhd hsz0 hNX hb04 hT5 HBG k0 k1
 go_wp2_with fail
 refine HNX.out.mono ?_
 rintro e w6 ⟨rfl,hd6⟩
 have c0:w6.cell? ⟨x.blk,0,none⟩=some (.pointer (some ⟨x.R.blk,0,none⟩)):=by
  have h:w6.heap[x.blk]?=_:=(congrArg (fun h=>h[x.blk]?) hd6.heap).trans HX5.out
  rw [Lib.cell_of_heap h]; rfl
 have HD6:=Lib.hid hd6
 clear hd6 HNX
 go_wp2_with fail
 refine (HAP.out w6 HD6.out).mono ?_
 rintro e w7 ⟨rfl,hm7,D',R',hW7,ha,hR',hfd,hfr⟩
 have HM7:=Lib.hid hm7
 have HW7:=Lib.hid hW7
 have HA7:=Lib.hid ha
 have HR7:=Lib.hid hR'
 have HFD:=Lib.hid hfd
 have HFR:=Lib.hid hfr
 clear hm7 hW7 ha hR' hfd hfr HAP c0
 go_wp2_with fail
 go_ret2
 obtain ⟨x1,x2,x3,x4,x5,x6,x7,x8,x9,x10⟩:=HXX.out
 obtain ⟨xf1,xf2⟩:=HXF.out
 have hR:=HR7.out
 have ha:=HA7.out
 have e1:R'.blk=x.R.blk:=by rw [hR]
 have e2:R'.db=x.R.db:=by rw [hR]
 have e3:R'.b=x.R.b:=by rw [hR]
 have e4:R'.txt=x.R.txt++s:=by rw [hR]
 have hb04:=HB04.out.size
 have hs5:=HM5.out.size
 have hs6:w6.heap.size=w5.heap.size:=by rw [HD6.out.heap]
 have hs7:=HM7.out.size
 have hdl:∀ k,D.foot k→k < W.heap.size:=fun k hk=>HD.out.lt hk
 have hcl:∀ k,C.foot k→k < W.heap.size:=fun k hk=>HC.out.lt hk
 have hC6:CqAt base w6 { C with qs:=C.qs++[x] }:=HC5.out.mod (M:=fun _=>False) (Mod.of_below (HD6.out.below _)) (fun _ _ h=>h)
 have hcf:∀ k,CqD.foot { C with qs:=C.qs++[x] } k→C.foot k∨W.heap.size≤k:=fun k hk=>by
  rcases hk with hk | hk | ⟨y,hy,hk⟩
  · exact .inl (.inl hk)
  · exact .inl (.inr (.inl hk))
  ·
   have hy':y∈C.qs++[x]:=hy
   rcases List.mem_append.1 hy' with hy | hy
   · exact .inl (.inr (.inr ⟨y,hy,hk⟩))
   ·
    rw [List.mem_singleton] at hy
    subst hy
    right
    rcases hk with hk | hk
    · rw [hk]; omega
    · have:=(xf2 k hk).1; omega
 have haw6:∀ k,CqD.foot { C with qs:=C.qs++[x] } k→¬ D.foot k:=fun k hk h=>by
  rcases hcf k hk with h2 | h2
  · exact HAW.out k h2 h
  · have:=hdl k h; omega
 have hfin:=CqAt.setR (l:=C.qs) hC6 rfl HM7.out haw6 HW7.out.seg e1 e2 HFR.out
 have hdf:∀ k,D'.foot k→D.foot k∨W.heap.size≤k:=fun k hk=>(HFD.out k hk).imp_right fun h=>by omega
 have hm45:Mod (fun k=>k=C.mB∨D.foot k) W w5:=(Mod.of_below HB04.out).trans (HM5.out.mono fun k _ hk=>.inl hk)
 have hm6:Mod (fun k=>k=C.mB∨D.foot k) W w6:=hm45.drawn HD6.out
 refine ⟨rfl,{ x with R:=R' },D',hfin,HW7.out.dsk,x1,x2,x3,x4,e3.trans x5,by show R'.txt=s; rw [e4,x6]; rfl,ha.quiet,ha.blk,ha.room,?_,fun n hn=>ha.other n (by rw [x8]; exact hn),ha.files,fun p hp=>?_,hdf,fun k hk=>?_,fun k hk h=>?_,?_,HW7.out,by show R'.head=_; rw [hR]; exact x8,by show R'.size=_; rw [hR]; exact x10⟩
 · obtain ⟨f',o,_,hw⟩:=ha.waits
   rw [hw,List.length_append]; rfl
 · have:=ha.names p hp
   rw [x8] at this; exact this
 ·
  rcases hk with hk | hk
  · have:k=x.blk:=hk
    omega
  · rcases HFR.out k hk with h | h
    · have:=(xf2 k h).1; omega
    · omega
 ·
  rcases hk with hk | hk | ⟨y,hy,hk⟩
  · rcases hdf k h with h2 | h2
    · exact HAW.out k (.inl hk) h2
    · have:=hcl k (.inl hk); omega
  · rcases hdf k h with h2 | h2
    · exact HAW.out k (.inr (.inl hk)) h2
    · have:=hcl k (.inr (.inl hk)); omega
  ·
   have hy':y∈C.qs++[{ x with R:=R' }]:=hy
   rcases List.mem_append.1 hy' with hy | hy
   · rcases hdf k h with h2 | h2
     · exact HAW.out k (.inr (.inr ⟨y,hy,hk⟩)) h2
     · have:=hcl k (.inr (.inr ⟨y,hy,hk⟩)); omega
   ·
    rw [List.mem_singleton] at hy
    subst hy
    rcases hk with hk | hk
    · have hk':k=x.blk:=hk
      rcases HFD.out k h with h2 | h2
      · have:=hdl k h2; omega
      · have h3:x.blk < w5.heap.size:=(Array.getElem?_eq_some_iff.1 HX5.out).1
        omega
    · exact HW7.out.ap k h hk
 ·
  refine mod_over hm6 HM7.out (fun k hk=>?_)
  rcases hk with h | h
  · exact .inl (.inr h)
  · right; have:=(xf2 k h).1; omega
theorem CqAt.setAt {base:Nat} {w w':World} {C:CqD} {D:DiskD} {x:QueD} {R':SegD} {l1 l2:List QueD} (h:CqAt base w C) (hl:C.qs=l1++x :: l2) (hm:Mod (fun k=>D.foot k∨x.R.foot k) w w') (haw:∀ k,C.foot k→¬ D.foot k) (hS:SegAt base w' R') (e1:R'.blk=x.R.blk) (e2:R'.db=x.R.db) (hf:∀ k,R'.foot k→x.R.foot k∨w.heap.size≤k) :
 CqAt base w' { C with qs:=l1++{ x with R:=R' } :: l2 }:=by
 have hx:x∈C.qs:=by rw [hl]; simp
 have hin:∀ y∈l1++l2,y∈C.qs:=fun y hy=>by rw [hl]; rcases List.mem_append.1 hy with h | h <;> simp [h]
 have hsep:=h.sep
 rw [hl] at hsep
 have hsx:∀ y∈l1++l2,∀ k,(k=y.blk∨y.R.foot k)→¬ (k=x.blk∨x.R.foot k):=fun y hy k hk hk2=>by
  have hp:=List.pairwise_append.1 hsep
  rcases List.mem_append.1 hy with h1 | h1
  · exact hp.2.2 y h1 x (.head _) k hk hk2
  · exact (List.pairwise_cons.1 hp.2.1).1 y h1 k hk2 hk
 have hold:∀ k,C.foot k→¬ x.R.foot k→w'.heap[k]?=w.heap[k]?:=fun k hk hn=>hm.block k (h.lt hk) (fun h2=>h2.elim (haw k hk) hn)
 have hmem:∀ y,y∈l1++{ x with R:=R' } :: l2→y∈l1++l2∨y={ x with R:=R' }:=fun y hy=>by
  rcases List.mem_append.1 hy with h1 | h1
  · exact .inl (List.mem_append_left _ h1)
  · rcases List.mem_cons.1 h1 with h2 | h2
    · exact .inr h2
    · exact .inl (List.mem_append_right _ h2)
 have hax:=h.away x hx
 refine ⟨?_,?_,fun y hy=>?_,⟨h.low.1,h.low.2.1,fun y hy=>?_⟩,fun y hy=>?_,?_⟩
 · rw [show w'.heap[C.blk]?=w.heap[C.blk]? from hold _ (.inl rfl) (fun h2=>(hax.2.2 _ h2).2.1 rfl)]; exact h.cells
 ·
  have e:(l1++{ x with R:=R' } :: l2).map (fun y=>(y.key,Value.pointer (some ⟨y.blk,0,none⟩)))=C.qs.map fun y=>(y.key,.pointer (some ⟨y.blk,0,none⟩)):=by
   rw [hl]; simp [QueD.key]
  show PairsAt w' C.mB ((l1++{ x with R:=R' } :: l2).map _)
  rw [e]
  exact h.map.mod hm (fun h2=>h2.elim (haw _ (.inr (.inl rfl))) fun h3=>(hax.2.2 _ h3).1 rfl)
 ·
  rcases hmem y hy with h1 | rfl
  · obtain ⟨a1,a2,a3⟩:=h.que y (hin y h1)
    have hyf:∀ k,(k=y.blk∨y.R.foot k)→¬ (D.foot k∨x.R.foot k):=fun k hk h2=>h2.elim (haw k (.inr (.inr ⟨y,hin y h1,hk⟩))) fun h3=>hsx y h1 k hk (.inr h3)
    exact ⟨(hm.block _ (Array.getElem?_eq_some_iff.1 a1).1 (hyf _ (.inl rfl))).trans a1,a2.mod hm (fun k hk=>hyf k (.inr hk)),a3⟩
  ·
   obtain ⟨a1,a2,a3⟩:=h.que x hx
   refine ⟨?_,hS,e2.trans a3⟩
   show w'.heap[x.blk]?=some (.cells (QueD.cells { x with R:=R' }) _ _)
   rw [show w'.heap[x.blk]?=w.heap[x.blk]? from hold _ (.inr (.inr ⟨x,hx,.inl rfl⟩)) (fun h2=>(hax.2.2 _ h2).2.2 rfl),a1]
   unfold QueD.cells
   rw [show ({ x with R:=R' }:QueD).R.blk=x.R.blk from e1]
 · rcases hmem y hy with h1 | rfl
   · exact h.low.2.2 y (hin y h1)
   · exact h.low.2.2 x hx
 ·
  rcases hmem y hy with h1 | rfl
  · exact h.away y (hin y h1)
  ·
   refine ⟨hax.1,hax.2.1,fun k hk=>?_⟩
   rcases hf k hk with h2 | h2
   · exact hax.2.2 k h2
   · have b1:=h.lt (.inl rfl:C.foot C.blk)
     have b2:=h.lt (.inr (.inl rfl):C.foot C.mB)
     have b3:=h.lt (.inr (.inr ⟨x,hx,.inl rfl⟩):C.foot x.blk)
     exact ⟨by show k≠C.mB; omega,by show k≠C.blk; omega,by show k≠x.blk; omega⟩
 ·
  have hnew:∀ y∈l1++l2,∀ k,(k=y.blk∨y.R.foot k)→¬ (k=x.blk∨R'.foot k):=fun y hy k hk hk2=>by
   rcases hk2 with h2 | h2
   · exact hsx y hy k hk (.inl h2)
   · rcases hf k h2 with h3 | h3
     · exact hsx y hy k hk (.inr h3)
     · have:=h.lt (.inr (.inr ⟨y,hin y hy,hk⟩):C.foot k); omega
  have hp:=List.pairwise_append.1 hsep
  have hp2:=List.pairwise_cons.1 hp.2.1
  refine List.pairwise_append.2 ⟨hp.1,List.pairwise_cons.2 ⟨fun y hy k hk hk2=>hnew y (List.mem_append_right _ hy) k hk2 hk,hp2.2⟩,fun y hy z hz k hk hk2=>?_⟩
  rcases List.mem_cons.1 hz with rfl | hz
  · exact hnew y (List.mem_append_left _ hy) k hk hk2
  · exact hp.2.2 y hy z (.tail _ hz) k hk hk2
structure AddedO (base:Nat) (W w':World) (C:CqD) (D:DiskD) (l1 l2:List QueD) (x:QueD) (s:List UInt8) (R':SegD) (D':DiskD):Prop where
 cq:CqAt base w' { C with qs:=l1++{ x with R:=R' } :: l2 }
 whole:Whole base w' D' R'
 app:AppOk D D' x.R R' s
 row:R'={ x.R with n:=R'.n,pv:=R'.pv,txt:=x.R.txt++s }
 dfoot:∀ k,D'.foot k→D.foot k∨W.heap.size≤k
 rfoot:∀ k,R'.foot k→x.R.foot k∨W.heap.size≤k
 mod:Mod (fun k=>D.foot k∨x.R.foot k) W w'
theorem add_old {base:Nat} {D:DiskD} {C:CqD} {l1 l2:List QueD} {x:QueD} (t:List UInt8) (q:Nat) (a b c d:Int) (W:World) (hC:CqAt base W C) (hD:DiskAt base W D) (hdb:C.db=D.blk) (hq:Quiet D) (hbase:base≤W.heap.size) (hT:TabB base W)
 (hl:C.qs=l1++x :: l2) (hx:x.topic=t∧x.q=(q:Int)) (ht:NameMath.topicL t=true) (htl:t.length≤1000) (hql:q < 3) (haw:∀ k,C.foot k→¬ D.foot k) (hok:SegOk D x.R) (hon:SegOnly D x.R) (hsz:x.R.size=200) (hdv:x.R.txt.length % 20=0) (he:x.R.e≤90000000) (hb0:x.b0≤1099511627776)
 (s:List UInt8) (hs:s.length=20) (hput:∀ w,Calls Tryz.prog 191 #[.agg #[.int .i64 a,.int .i64 b,.int .i64 c,.int .i64 d]] w fun e w'=>e=.returned (.tuple #[.string (S s),.bool true])∧Below w.heap.size w w') (hroom:20≤D.room) (hwl:D.waits.length≤1000000) :
 Calls Tryz.prog 134 #[.pointer (some ⟨C.blk,0,none⟩),.string (S t),.int .i64 (q:Int),.agg #[.int .i64 a,.int .i64 b,.int .i64 c,.int .i64 d]] W fun e w'=>e=.returned (.tuple #[.int .i64 ((x.b0+x.R.e / 20:Nat):Int),.int .i64 0])∧∃ R' D',AddedO base W w' C D l1 l2 x s R' D':=by
 have HB0:Hid (Below W.heap.size W (W.alloc (.cells #[.int .i64 a,.int .i64 b,.int .i64 c,.int .i64 d] 68))):=(Below.refl _ W).alloc (Nat.le_refl _) _
 have HK0:Hid ((W.alloc (.cells #[.int .i64 a,.int .i64 b,.int .i64 c,.int .i64 d] 68)).heap[W.heap.size]?=some (.cells #[.int .i64 a,.int .i64 b,.int .i64 c,.int .i64 d] 68 (0,0))):=heap_alloc_new W _
 have HRI:=Lib.hid (fun (w:World)=>right_ok t q ht (by omega) hql w)
 have HPU:=Lib.hid hput
 have HC:=Lib.hid hC
 have HD:=Lib.hid hD
 have HX:=Lib.hid hx
 have HXM:Hid (x∈C.qs):=by show x∈C.qs; rw [hl]; simp
 have HNX:=Lib.hid (fun (w:World) (hb:Below W.heap.size W w)=>next_any w ((hC.below hb).que x HXM.out).1 ((hC.below hb).que x HXM.out).2.1 hb0)
 have hxa:=hC.away x HXM.out
 have hap:∀ k,D.foot k→¬ x.R.foot k:=fun k hk h=>haw k (.inr (.inr ⟨x,HXM.out,.inr h⟩)) hk
 have hsg:=(hC.que x HXM.out).2.1
 have hrm:20≤x.R.room:=by
  unfold SegD.room
  split
  · rename_i h
    have h1:=hsg.long h.1
    rw [hsz] at h1 h ⊢
    omega
  · omega
 have HAP:=Lib.hid (fun (w:World) (hb:Below W.heap.size W w)=>append_ok s w (hT.below hb) ⟨hsg.below hb,hD.below hb,((hC.que x HXM.out).2.2).trans hdb,hap,hok,hon⟩ (Nat.le_trans hbase hb.size) hq (by intro e; rw [e] at hs; cases hs) (by rw [hs]; exact hrm) (by rw [hs]; exact hroom) (by omega) (fun _=>by omega))
 have HAW:=Lib.hid haw
 have HL:=Lib.hid hl
 clear hC hD hdb hq hbase hT hl hx ht htl haw hok hon hput hroom hs hwl hsz hdv hxa hap hsg hrm
 go_enter Tryz.func134,Tryz.ntmps134
 go_upto_region 1 with fail
 generalize W.alloc (.cells #[.int .i64 a,.int .i64 b,.int .i64 c,.int .i64 d] 68)=w1 at *
 obtain ⟨A,hA⟩:∃ A,W.heap.size=A:=⟨_,rfl⟩
 rw [hA] at HK0 ⊢
 have HAA:=Lib.hid hA
 clear hA
 go_wp2_with fail
 refine (HRI.out w1).mono ?_
 rintro e w2 ⟨rfl,hb⟩
 have HB2:=Lib.hid (HB0.out.trans (hb.mono HB0.out.size))
 have hk2:w2.heap[A]?=_:=(hb.block A (Array.getElem?_eq_some_iff.1 HK0.out).1).trans HK0.out
 have p0:w2.cell? ⟨A,0,none⟩=some (.int .i64 a):=by rw [Lib.cell_of_heap hk2]; rfl
 have p1:w2.cell? ⟨A,1,none⟩=some (.int .i64 b):=by rw [Lib.cell_of_heap hk2]; rfl
 have p2:w2.cell? ⟨A,2,none⟩=some (.int .i64 c):=by rw [Lib.cell_of_heap hk2]; rfl
 have p3:w2.cell? ⟨A,3,none⟩=some (.int .i64 d):=by rw [Lib.cell_of_heap hk2]; rfl
 clear hb hk2 HRI HK0
 go_wp2_with fail
 refine (HPU.out w2).mono ?_
 rintro e w2' ⟨rfl,hb⟩
 have HB2':=Lib.hid (HB2.out.trans (hb.mono HB2.out.size))
 clear hb p0 p1 p2 p3 HPU
 go_upto_region 10 with fail
 have hb3:Below w2'.heap.size w2' (w2'.alloc (.cells #[.string (S t),.int .i64 (q:Int)] 170)):=(Below.refl _ _).alloc (Nat.le_refl _) _
 have hx3:(w2'.alloc (.cells #[.string (S t),.int .i64 (q:Int)] 170)).heap[w2'.heap.size]?=some (.cells #[.string (S t),.int .i64 (q:Int)] 170 (0,0)):=heap_alloc_new w2' _
 generalize w2'.alloc (.cells #[.string (S t),.int .i64 (q:Int)] 170)=w3 at *
 obtain ⟨G,hG⟩:∃ G,w2'.heap.size=G:=⟨_,rfl⟩
 rw [hG] at hx3 ⊢
 have HB3:=Lib.hid (HB2'.out.trans (hb3.mono HB2'.out.size))
 have HX3:=Lib.hid hx3
 clear hb3 hx3 hG
 have HK:Hid (∀ w,Below w3.heap.size w3 w→w.cell? ⟨G,0,none⟩=some (.string (S t))∧w.cell? ⟨G,1,none⟩=some (.int .i64 (q:Int))):=fun w hb=>by
  have h:=(hb.block G (Array.getElem?_eq_some_iff.1 HX3.out).1).trans HX3.out
  exact ⟨by rw [Lib.cell_of_heap h]; rfl,by rw [Lib.cell_of_heap h]; rfl⟩
 have HC1:Hid (∀ w,Below w3.heap.size w3 w→w.cell? ⟨C.blk,1,none⟩=some (.map (some C.mB))):=fun w hb=>by rw [Lib.cell_of_heap (HC.out.below (HB3.out.trans (hb.mono HB3.out.size))).cells]; rfl
 have HLK:Hid (∀ w,Below w3.heap.size w3 w→(Instr.lookup 166 (.map (some C.mB)) (.agg #[.string (S t),.int .i64 (q:Int)]) false).run Tryz.prog w=.ok (.pointer (some ⟨x.blk,0,none⟩)) w):=fun w hb=>by
  have hC4:=HC.out.below (HB3.out.trans (hb.mono HB3.out.size))
  exact lookup_has Tryz.underlying166 keyedW hC4.map (fun p hp=>by
   obtain ⟨y,_,rfl⟩:=List.mem_map.1 hp
   exact ⟨_,_,rfl⟩) (k:=.agg #[.string (S t),.int .i64 (q:Int)]) ⟨t,q,rfl⟩ (List.mem_map.2 ⟨x,HXM.out,by unfold QueD.key; rw [HX.out.1,HX.out.2]⟩) false
 refine GrowN.wp_region_n 7 [none,none,none,none,some (.inl (.agg #[.string (S t),.int .i64 (q:Int)])),some (.inl (.pointer (some ⟨x.blk,0,none⟩))),none] (RecW.ExtR) (by kernel_rfl) (by kernel_rfl) (by kernel_rfl) (RecW.ExtR.refl) (fun _ _ _=>RecW.ExtR.trans) ?_ ?_
 · exact GrowN.stab0 rfl
 simp only [List.take_succ_cons,List.take_zero,List.drop_succ_cons,List.drop_zero]
 iterate 3
  refine GrowN.g_det rfl ?_
  apply Exists.intro
  refine ⟨fun w hw hF=>?_,?_⟩
  · clear hF
    go_simp
    exact ⟨rfl,RecW.ExtR.refl _⟩
  go_frame
 refine GrowN.g_det rfl ?_
 apply Exists.intro
 refine ⟨fun w hw hF=>?_,?_⟩
 ·
  clear hF
  have hb:=(Below.refl w3.heap.size w3).drew.trans hw
  have c1:=HC1.out w hb
  go_simp
  exact ⟨rfl,RecW.ExtR.refl _⟩
 go_frame
 refine GrowN.g_con rfl (fun w hw hF=>?_) ?_
 ·
  clear hF
  have hb:=(Below.refl w3.heap.size w3).drew.trans hw
  obtain ⟨k0,k1⟩:=HK.out w hb
  go_simp
  exact RecW.ExtR.refl _
 go_frame
 refine GrowN.g_con rfl (fun w hw hF=>?_) ?_
 ·
  clear hF
  have hb:=(Below.refl w3.heap.size w3).drew.trans hw
  have hl:=HLK.out w hb
  go_simp
  exact RecW.ExtR.refl _
 go_frame
 refine GrowN.g_det rfl ?_
 apply Exists.intro
 refine ⟨fun w hw hF=>?_,?_⟩
 · clear hF
   go_simp
   exact ⟨rfl,RecW.ExtR.refl _⟩
 go_frame
 refine GrowN.g_nil fun w4 hw4 hF=>?_
 clear hF
 have HB4:=Lib.hid ((Below.refl w3.heap.size w3).drew.trans hw4)
 clear hw4 HC1 HLK
 have HB04:Hid (Below W.heap.size W w4):=HB3.out.trans (HB4.out.mono HB3.out.size)
 obtain ⟨nx,hnx⟩:∃ nx:Nat,nx=x.b0+x.R.e / 20:=⟨_,rfl⟩
 have HN4:=Lib.hid (HNX.out w4 HB04.out)
 rw [← hnx] at HN4
 have HNE:=Lib.hid hnx
 clear HNX hnx
 go_wp2_with fail
 refine HN4.out.mono ?_
 rintro e w6 ⟨rfl,hd6⟩
 have HB6:Hid (Below W.heap.size W w6):=HB04.out.trans ((hd6.below _).mono HB04.out.size)
 have c0:w6.cell? ⟨x.blk,0,none⟩=some (.pointer (some ⟨x.R.blk,0,none⟩)):=by
  rw [Lib.cell_of_heap ((HC.out.below HB6.out).que x HXM.out).1]; rfl
 clear hd6 HN4
 go_wp2_with fail
 refine (HAP.out w6 HB6.out).mono ?_
 rintro e w7 ⟨rfl,hm7,D',R',hW7,ha,hR',hfd,hfr⟩
 have HM7:=Lib.hid hm7
 have HW7:=Lib.hid hW7
 have HA7:=Lib.hid ha
 have HR7:=Lib.hid hR'
 have HFD:=Lib.hid hfd
 have HFR:=Lib.hid hfr
 clear hm7 hW7 ha hR' hfd hfr HAP c0
 go_wp2_with fail
 go_ret2
 have h6:=HB6.out.size
 have hR:=HR7.out
 exact ⟨by rw [← HNE.out]; rfl,R',D',CqAt.setAt (HC.out.below HB6.out) HL.out HM7.out HAW.out HW7.out.seg (by rw [hR]) (by rw [hR]) HFR.out,HW7.out,HA7.out,HR7.out,fun k hk=>(HFD.out k hk).imp_right fun h=>by omega,fun k hk=>(HFR.out k hk).imp_right fun h=>by omega,(Mod.of_below HB6.out).trans HM7.out⟩
end Go.Proofs.YtnoehodmmkioaaaGreatDoor.CqW
namespace Go.Proofs.YtnoehodmmkioaaaGreatDoor.NameW
open Go.RowKit OctMath NameMath
def hashB (h:Nat) (c:UInt8):Nat:=(31 * h+c.toNat) % 4294967296
def hashN (h:Nat) (l:List UInt8):Nat:=l.foldl hashB h
def hashL (ls:List (List UInt8)):Nat:=ls.foldl hashN 0
theorem wrap_u32 (x:Nat):IntKind.u32.wrap (x:Int)=((x % 4294967296:Nat):Int):=by
 simp [IntKind.wrap,IntKind.signed,IntKind.bits]
theorem hashN_lt (l:List UInt8):∀ h,h < 4294967296→hashN h l < 4294967296:=by
 induction l with
 | nil=>exact fun h hh=>hh
 | cons c l ih=>exact fun h hh=>ih _ (Nat.mod_lt _ (by decide))
theorem hashL_lt (ls:List (List UInt8)):hashL ls < 4294967296:=by
 have:∀ (ls:List (List UInt8)) h,h < 4294967296→ls.foldl hashN h < 4294967296:=fun ls=>by
  induction ls with
  | nil=>exact fun h hh=>hh
  | cons l ls ih=>exact fun h hh=>ih _ (hashN_lt l h hh)
 exact this ls 0 (by decide)
theorem hash_any (ls:List (List UInt8)) (hls:ls.length≤1048576) (hl:∀ l∈ls,l.length≤1073741824) (a:Option Addr) (cp:Nat) (w:World) (h:Strs w a (ls.map S)) :
 Calls Tryz.prog 133 #[.slice a ls.length cp] w fun e w'=>e=.returned (.int .i64 ((hashL ls:Nat):Int))∧w'=w:=by
 obtain ⟨wo,hwo⟩:∃ wo:World,wo=w:=⟨_,rfl⟩
 have HH:=Lib.hid h
 have HL:=Lib.hid hl
 have HT:=Lib.hid (hashL_lt ls)
 clear h hl
 go_enter Tryz.func133,Tryz.ntmps133
 go_wp2_with fail
 go_loopw [9,3] (fun i s wr=>wr=wo∧∃ k u:Nat,k≤ls.length∧i=.int .i64 (k:Int)∧s=.int .u32 (u:Int)∧Hid (u=hashL (ls.take k))∧u < 4294967296) (fun i _ _=>ls.length+1 - (intOf i).toNat)
 case atStart=>exact ⟨hwo.symm,0,0,by omega,rfl,rfl,by simp [Hid,hashL],by omega⟩
 case round =>
  obtain ⟨rfl,k,u,hk,rfl,rfl,HU,hu⟩:=hrel
  subst hwo
  by_cases hlt:k < ls.length
  ·
   obtain ⟨b,off,rfl,hcell⟩:=HH.out k (by rw [List.length_map]; exact hlt)
   rw [List.getElem_map] at hcell
   have HST:Hid (hashL (ls.take (k+1))=hashN (hashL (ls.take k)) ls[k]):=by
    show _=_
    rw [List.take_succ_eq_append_getElem hlt]
    unfold hashL
    rw [List.foldl_append]
    rfl
   have hlk:=HL.out ls[k] (List.getElem_mem hlt)
   generalize ls[k]=l at *
   have hsz:=S_size l
   go_wp2_with fail
   obtain ⟨wo,hwo⟩:∃ wo2:World,wo2=wr:=⟨_,rfl⟩
   go_loopw [15,3] (fun i s wr2=>wr2=wo∧∃ j v:Nat,j≤l.length∧i=.int .i64 (j:Int)∧s=.int .u32 (v:Int)∧Hid (v=hashN u (l.take j))∧v < 4294967296) (fun i _ _=>l.length+1 - (intOf i).toNat)
   case atStart=>exact ⟨hwo.symm,0,u,by omega,rfl,rfl,by simp [Hid,hashN],hu⟩
   case round =>
    obtain ⟨rfl,j,v,hj,rfl,rfl,HV,hv⟩:=hrel
    subst hwo
    by_cases hjl:j < l.length
    ·
     have hi1:j < (S l).size:=by rw [hsz]; exact hjl
     have hx1:=fun w=>index_at l j (j:Int) rfl hjl .i64 w
     have HSJ:Hid (hashN u (l.take (j+1))=hashB (hashN u (l.take j)) l[j]):=by
      show _=_
      rw [List.take_succ_eq_append_getElem hjl]
      unfold hashN
      rw [List.foldl_append]
      rfl
     generalize l[j]=c at *
     have hc:=c.toNat_lt
     have w1:IntKind.u32.wrap (31 * (v:Int))=((31 * v % 4294967296:Nat):Int):=by rw [show 31 * (v:Int)=((31 * v:Nat):Int) by omega,wrap_u32]
     have hc32:IntKind.u32.wrap (c.toNat:Int)=(c.toNat:Int):=by rw [wrap_u32,Nat.mod_eq_of_lt (by omega)]
     have w2:IntKind.u32.wrap (((31 * v % 4294967296:Nat):Int)+(c.toNat:Int))=((hashB v c:Nat):Int):=by
      rw [show (((31 * v % 4294967296:Nat):Int)+(c.toNat:Int))=((31 * v % 4294967296+c.toNat:Nat):Int) by omega,wrap_u32]
      unfold hashB
      congr 1
      omega
     have HVB:Hid (hashB v c < 4294967296):=Nat.mod_lt _ (by decide)
     have HV2:Hid (hashB v c=hashN u (l.take (j+1))):=by show _=_; rw [HSJ.out,← HV.out]
     clear HSJ
     generalize hashB v c=v2 at *
     generalize ((31 * v % 4294967296:Nat):Int)=z at *
     go_wp2_with fail
     go_roundw
     case rel=>exact ⟨trivial,j+1,v2,by omega,by go_num,rfl,HV2,HVB.out⟩
     case measure=>simp [intOf]; omega
    ·
     obtain rfl:j=l.length:=by omega
     have HU2:Hid (v=hashL (ls.take (k+1))):=by
      show _=_
      rw [HST.out,← HU.out,HV.out,List.take_length]
     clear HV HST
     go_wp2_with fail
     go_roundw
     case rel=>exact ⟨trivial,k+1,v,by omega,by go_num,rfl,HU2,hv⟩
     case measure=>simp [intOf]; omega
  ·
   obtain rfl:k=ls.length:=by omega
   rw [List.take_length] at HU
   go_wp2_with fail
   go_ret
   exact ⟨by rw [← HU.out]; rfl,rfl⟩
end Go.Proofs.YtnoehodmmkioaaaGreatDoor.NameW
namespace Go.Proofs.YtnoehodmmkioaaaGreatDoor.KxW
open Go.RowKit OctMath DskW SegW MapG CacheW NameW
structure KxD where
 blk:Nat
 many:Nat
structure KxAt (base:Nat) (w:World) (X:KxD) (D:DiskD):Prop where
 cells:w.heap[X.blk]?=some (.cells #[.pointer (some ⟨D.blk,0,none⟩),.int .i64 (X.many:Int)] 215 (0,0))
 slots:∃ f,D.find xslots=some f∧f.now.length=24
 links:∃ f,D.find xlinks=some f∧f.now.length=20 * X.many
 low:base≤X.blk
 away:¬ D.foot X.blk
theorem KxAt.below {base:Nat} {w w':World} {X:KxD} {D:DiskD} (h:KxAt base w X D) (hb:Below w.heap.size w w'):KxAt base w' X D :=
 { h with cells:=(hb.block _ (Array.getElem?_eq_some_iff.1 h.cells).1).trans h.cells }
def numberL (t k:List UInt8):Nat:=hashL [t,[35],k]
theorem numberL_lt (t k:List UInt8):numberL t k < 4294967296:=hashL_lt _
theorem number_any (t k:List UInt8) (ht:t.length≤1073741824) (hk:k.length≤1073741824) (w:World) :
 Calls Tryz.prog 192 #[.string (S t),.string (S k)] w fun e w'=>e=.returned (.int .i64 ((numberL t k:Nat):Int))∧Below w.heap.size w w':=by
 have HB:Hid (Below w.heap.size w (w.alloc (.cells #[.string (S t),.string ⟨#[35]⟩,.string (S k)] 9))):=(Below.refl _ w).alloc (Nat.le_refl _) _
 have HH:=Lib.hid (hash_any [t,[35],k] (by simp) (fun l hl=>by
  simp only [List.mem_cons,List.not_mem_nil,or_false] at hl
  rcases hl with rfl | rfl | rfl
  · exact ht
  · decide
  · exact hk) (some ⟨w.heap.size,0,none⟩) 3 (w.alloc (.cells #[.string (S t),.string ⟨#[35]⟩,.string (S k)] 9)) (fun i hi=>by
  have hi3:i < 3:=hi
  refine ⟨w.heap.size,0,rfl,?_⟩
  rw [World.cell?_alloc_new]
  rcases (show i=0∨i=1∨i=2 by omega) with rfl | rfl | rfl <;> rfl))
 rw [show ([t,[35],k]:List (List UInt8)).length=3 from rfl,show hashL [t,[35],k]=numberL t k from rfl] at HH
 go_enter Tryz.func192,Tryz.ntmps192
 go_wp2_with fail
 refine HH.out.mono ?_
 rintro e w2 ⟨rfl,he⟩
 obtain rfl:=he.symm
 go_wp2_with fail
 go_ret
 exact ⟨rfl,HB.out⟩
theorem num3_lt (s:List UInt8):(numR 3 ⟨s,0⟩).1 < 16777216:=by
 unfold numR
 rw [if_neg (by simp),if_neg (by omega)]
 have h:=val_lt (takeR 3 ⟨s,0⟩).1
 have h2:=OctW.takeR_out 3 ⟨s,0⟩
 have h3:256 ^ (takeR 3 ⟨s,0⟩).1.length≤256 ^ 3:=Nat.pow_le_pow_right (by decide) h2
 exact Nat.lt_of_lt_of_le h h3
theorem read_ok {D:DiskD} {n:List UInt8} {f:FileD} (hq:Quiet D) (hf:D.find n=some f) (o k:Nat) (h:o+k≤f.now.length):D.readE n (o:Int) (k:Int)=0∧D.readT n (o:Int) (k:Int)=(f.now.drop o).take k:=by
 have hb:D.bars [n]=0:=by unfold DiskD.bars; rw [hq.up]; simp [hf]
 have hby:D.bytes n=f.now:=by unfold DiskD.bytes; rw [hf]; rfl
 have hr:D.readOk n (o:Int) (k:Int)=true:=by
  unfold DiskD.readOk
  rw [hby]
  simp
  omega
 unfold DiskD.readE DiskD.readT
 rw [if_pos hb,if_pos hr,if_pos ⟨hb,hr⟩,hby]
 exact ⟨rfl,rfl⟩
theorem last_any {base:Nat} {X:KxD} {D:DiskD} (b:Nat) (hb:b < 8) (w:World) (h:KxAt base w X D) (hD:DiskAt base w D) (hq:Quiet D) :
 Calls Tryz.prog 193 #[.pointer (some ⟨X.blk,0,none⟩),.int .i64 (b:Int)] w fun e w'=>∃ u:Nat,e=.returned (.tuple #[.int .i64 (u:Int),.int .i64 0])∧u < 16777216∧Below w.heap.size w w':=by
 obtain ⟨f,hf,hfl⟩:=h.slots
 obtain ⟨r1,r2⟩:=read_ok hq hf (3 * b) 3 (by omega)
 have HR:=Lib.hid (DskW.read_any xslots ((3 * b:Nat):Int) ((3:Nat):Int) (by omega) (by omega) w hD)
 rw [r1,r2] at HR
 rw [show ((3 * b:Nat):Int)=3 * (b:Int) by omega,show ((3:Nat):Int)=3 from rfl] at HR
 have c0:w.cell? ⟨X.blk,0,none⟩=some (.pointer (some ⟨D.blk,0,none⟩)):=by rw [Lib.cell_of_heap h.cells]; rfl
 have HS:Hid (S xslots=⟨#[120,45,115,108,111,116,115]⟩):=rfl
 rw [HS.out] at HR
 have hw3:IntKind.i64.wrap (3 * (b:Int))=3 * (b:Int):=IntWalk.i64_in _ (by omega)
 clear h hD hq hf hfl r1 r2
 have hsl:((f.now.drop (3 * b)).take 3).length≤3:=List.length_take_le ..
 generalize (f.now.drop (3 * b)).take 3=s at *
 go_enter Tryz.func193,Tryz.ntmps193
 go_wp2_with fail
 refine HR.out.mono ?_
 rintro e w2 ⟨rfl,hb2⟩
 have HB2:=Lib.hid hb2
 clear hb2 HR c0
 go_wp2_with fail
 refine (OctW.new_any s w2).mono ?_
 rintro e w3 ⟨rfl,hr3,hb3⟩
 have HN:=Lib.hid (OctW.num_any w2.heap.size ⟨s,0⟩ 3 (by omega) (by omega) (by show s.length≤_; omega) w3 hr3)
 have HB3:=Lib.hid (HB2.out.trans (hb3.mono HB2.out.size))
 go_wp2_with fail
 refine HN.out.mono ?_
 rintro e w4 ⟨rfl,_,ho⟩
 go_wp2_with fail
 go_ret2
 exact ⟨_,rfl,num3_lt s,HB3.out.trans (ho.to_below _ HB3.out.size fun k e=>e ▸ HB2.out.size)⟩
end Go.Proofs.YtnoehodmmkioaaaGreatDoor.KxW
namespace Go.Proofs.YtnoehodmmkioaaaGreatDoor.StoW
open Go.RowKit Go.MapKept OctMath RecMath RecW TapeMath DskW SegW MapG TapeW PendW CacheW CqW KxW
structure Derivd (base B kb:Nat) (w w':World) (D D':DiskD) (C:CqD):Prop where
 cq:CqAt base w' C
 qs:C.qs=[]
 db:C.db=D.blk
 dsk:DiskAt base w' D'
 grow:Grows D D' [xlinks,xslots,wslots,wmarks] 120 2
 cnew:∀ k,C.foot k→w.heap.size≤k
 dnew:∀ k,D'.foot k→D.foot k∨w.heap.size≤k
 away:∀ k,C.foot k→¬ D'.foot k
 mod:Mod (fun k=>D.foot k∨k=B) w w'
 kx:KxAt base w' ⟨kb,0⟩ D'
 knew:w.heap.size≤kb
 kaway:¬ C.foot kb
theorem derived_q {base B:Nat} {D:DiskD} (v0 v1 v2 v3 v4 v5 v6 v7 v8 v9 v10:Value) (now:Nat) (hnow:now≤1099511627776) (w:World) (hB:w.heap[B]?=some (.cells #[v0,v1,v2,v3,v4,v5,v6,v7,v8,v9,v10,.int .i64 (now:Int)] 47 (0,0))) (hBD:¬ D.foot B)
 (h:DiskAt base w D) (hq:Quiet D) (hf:D.files=[]) (hr:120≤D.room) (hwl:D.waits=[]) (hbase:base≤w.heap.size) :
 Calls Tryz.prog 36 #[.pointer (some ⟨B,0,none⟩),.pointer (some ⟨D.blk,0,none⟩)] w fun e w'=>e=.returned (.int .i64 0)∧∃ C D' kb tb,Derivd base B kb w w' D D' C ∧
  w'.heap[B]?=some (.cells #[v0,.pointer (some ⟨C.blk,0,none⟩),.pointer (some ⟨kb,0,none⟩),v3,v4,.pointer (some ⟨tb,0,none⟩),v6,v7,v8,v9,v10,.int .i64 (now:Int)] 47 (0,0)):=by
 have HCN:=Lib.hid (cqnew_q w h (by rw [hf]; simp) (by rw [hf]; intro p hp; cases hp) (by rw [hf]; intro p hp; cases hp) hbase)
 have HB:=Lib.hid hB
 have HBD:=Lib.hid hBD
 have HD:=Lib.hid h
 have HQ:=Lib.hid hq
 have HF:=Lib.hid hf
 have HRM:=Lib.hid hr
 have HWL:=Lib.hid hwl
 have HBS:=Lib.hid hbase
 have HNW:=Lib.hid hnow
 have hBl:=(Array.getElem?_eq_some_iff.1 hB).1
 clear hB hBD h hq hf hr hwl hbase hnow
 go_enter Tryz.func36,Tryz.ntmps36
 go_wp2_with fail
 refine HCN.out.mono ?_
 rintro e w2 ⟨C,rfl,hC,hqs,hdb,hb2,hcn⟩
 have hB2:w2.heap[B]?=_:=(hb2.block B hBl).trans HB.out
 have f1:=frozen_at hB2 1
 have d1:=cell_at hB2 1 _ rfl
 have hm3:Mod (fun k=>k=B) w2 (w2.setCell ⟨B,1,none⟩ (.pointer (some ⟨C.blk,0,none⟩))):=(Mod.refl (fun k=>k=B) w2).setCell (.inl rfl) _
 have hB3:=heap_setCell_same w2 B 1 _ _ (.pointer (some ⟨C.blk,0,none⟩)) hB2
 have HM3:=Lib.hid hm3
 have HB3:=Lib.hid hB3
 have HB2:=Lib.hid hb2
 have HCNEW:=Lib.hid hcn
 have hC3:CqAt base (w2.setCell ⟨B,1,none⟩ (.pointer (some ⟨C.blk,0,none⟩))) C:=hC.mod hm3 (fun k hk e=>by have:=hcn k hk; omega)
 have HC3:=Lib.hid hC3
 have hD3:DiskAt base (w2.setCell ⟨B,1,none⟩ (.pointer (some ⟨C.blk,0,none⟩))) D:=(HD.out.below hb2).mod hm3 (fun k hk e=>HBD.out (e ▸ hk))
 have HD3:=Lib.hid hD3
 have HQS:=Lib.hid hqs
 have HDB:=Lib.hid hdb
 have HKX:=Lib.hid (keyxnew_q _ hD3 HQ.out (by rw [HF.out]; simp) (by rw [HF.out]; intro p hp; cases hp) (by rw [HF.out]; intro p hp; cases hp) (by have:=HRM.out; omega) (by rw [HWL.out]; simp) (Nat.le_trans HBS.out (Nat.le_trans hb2.size hm3.size)))
 have hs3:w2.heap.size≤(w2.setCell ⟨B,1,none⟩ (.pointer (some ⟨C.blk,0,none⟩))).heap.size:=hm3.size
 have HS3:=Lib.hid hs3
 clear hC hqs hdb hb2 hcn hB2 hm3 hB3 hC3 hD3 hs3 HCN
 go_wp2_with fail
 generalize w2.setCell ⟨B,1,none⟩ (.pointer (some ⟨C.blk,0,none⟩))=w3 at *
 refine HKX.out.mono ?_
 rintro e w4 ⟨kb,rfl,hkb,hkn,D1,hD4,hg4,hm4,hf4,hfind4,hks4,hkl4⟩
 have hB4:w4.heap[B]?=_:=(hm4.block B (Array.getElem?_eq_some_iff.1 HB3.out).1 HBD.out).trans HB3.out
 have f2:=frozen_at hB4 2
 have d2:=cell_at hB4 2 _ rfl
 have hm5:Mod (fun k=>k=B) w4 (w4.setCell ⟨B,2,none⟩ (.pointer (some ⟨kb,0,none⟩))):=(Mod.refl (fun k=>k=B) w4).setCell (.inl rfl) _
 have hB5:=heap_setCell_same w4 B 2 _ _ (.pointer (some ⟨kb,0,none⟩)) hB4
 have e11:=cell_at hB5 11 _ rfl
 have hBw3:B < w3.heap.size:=(Array.getElem?_eq_some_iff.1 HB3.out).1
 have hCD:∀ k,C.foot k→¬ D.foot k:=fun k hk h2=>by have:=HCNEW.out k hk; have:=HD.out.lt h2; omega
 have hCB:∀ k,C.foot k→k≠B:=fun k hk e=>by have:=HCNEW.out k hk; omega
 have HCD:=Lib.hid hCD
 have HCB:=Lib.hid hCB
 have hC5:CqAt base (w4.setCell ⟨B,2,none⟩ (.pointer (some ⟨kb,0,none⟩))) C:=(HC3.out.mod hm4 hCD).mod hm5 hCB
 have hBD1:¬ D1.foot B:=fun h2=>by
  rcases (hf4 B h2).1 with h3 | h3
  · exact HBD.out h3
  · omega
 have hD5:DiskAt base (w4.setCell ⟨B,2,none⟩ (.pointer (some ⟨kb,0,none⟩))) D1:=hD4.mod hm5 (fun k hk e=>hBD1 (e ▸ hk))
 have hnm:D1.files.map (·.1)=[xlinks,xslots]:=by rw [hg4.names,HF.out]; rfl
 have hfl:D1.files.length=2:=by have:=congrArg List.length hnm; rw [List.length_map] at this; exact this
 have hwl1:D1.waits.length=1:=by rw [hg4.waits,HWL.out]; rfl
 have HTL:=Lib.hid (tlognew_q now HNW.out _ hD5 hg4.quiet (by omega) (fun p hp=>by
  have:p.1∈D1.files.map (·.1):=List.mem_map.2 ⟨p,hp,rfl⟩
  rw [hnm] at this
  rcases List.mem_cons.1 this with e | h2
  · rw [e]; decide
  · rcases List.mem_cons.1 h2 with e | h2
    · rw [e]; decide
    · cases h2) (fun x hx=>by
  rw [hnm] at hx
  rcases List.mem_cons.1 hx with e | h2
  · rw [e]; rfl
  · rcases List.mem_cons.1 h2 with e | h2
    · rw [e]; rfl
    · cases h2) (by rw [hg4.room]; have:=HRM.out; omega) (by omega) (Nat.le_trans HBS.out (Nat.le_trans HB2.out.size (Nat.le_trans HS3.out (Nat.le_trans hm4.size hm5.size)))))
 rw [hg4.blk] at HTL
 have HB5:=Lib.hid hB5
 have HC5:=Lib.hid hC5
 have HD5:=Lib.hid hD5
 have HG4:=Lib.hid hg4
 have HBD1:=Lib.hid hBD1
 have HM4:=Lib.hid hm4
 have HM5:=Lib.hid hm5
 have HF4:=Lib.hid hf4
 have HKB:=Lib.hid (show w3.heap.size≤kb∧(w4.setCell ⟨B,2,none⟩ (.pointer (some ⟨kb,0,none⟩))).heap[kb]?=some (.cells #[.pointer (some ⟨D.blk,0,none⟩),.int .i64 0] 215 (0,0))∧(∃ f,D1.find xslots=some f∧f.now.length=24)∧∃ f,D1.find xlinks=some f∧f.now.length=0 from ⟨hkn,(hm5.block kb (Array.getElem?_eq_some_iff.1 hkb).1 (fun e=>by omega)).trans hkb,hks4,hkl4⟩)
 clear hB4 hm5 hB5 hCD hCB hC5 hBD1 hD5 hnm hfl hwl1 hD4 hg4 hm4 hf4 hfind4 hkb hkn hks4 hkl4 HKX f1 d1 hBw3
 go_wp2_with fail
 generalize w4.setCell ⟨B,2,none⟩ (.pointer (some ⟨kb,0,none⟩))=w5 at *
 refine HTL.out.mono ?_
 rintro e w6 ⟨tb,wb,rfl,htb,hwb,htn,hwn,htw,D2,hD6,hg6,hm6,hf6,hfind6⟩
 have hB6:w6.heap[B]?=_:=(hm6.block B (Array.getElem?_eq_some_iff.1 HB5.out).1 HBD1.out).trans HB5.out
 have f5:=frozen_at hB6 5
 have d5:=cell_at hB6 5 _ rfl
 have HB6:=Lib.hid hB6
 have HM6:=Lib.hid hm6
 have HF6:=Lib.hid hf6
 have HG6:=Lib.hid hg6
 have HD6:=Lib.hid hD6
 have HFI6:=Lib.hid hfind6
 clear htb hwb htn hwn htw hD6 hg6 hm6 hf6 hfind6 hB6 HTL f2 d2 e11
 go_wp2_with fail
 go_ret
 have hm7:Mod (fun k=>k=B) w6 (w6.setCell ⟨B,5,none⟩ (.pointer (some ⟨tb,0,none⟩))):=(Mod.refl (fun k=>k=B) w6).setCell (.inl rfl) _
 have g1:∀ k,D1.foot k→D.foot k∨w3.heap.size≤k:=fun k hk=>(HF4.out k hk).1
 have g2:∀ k,D2.foot k→D.foot k∨w3.heap.size≤k:=fun k hk=>by
  rcases (HF6.out k hk).1 with h2 | h2
  · exact g1 k h2
  · have:=HM4.out.size; have:=HM5.out.size; exact .inr (by omega)
 have hCl:∀ k,C.foot k→k < w3.heap.size:=fun k hk=>HC3.out.lt hk
 have g3:∀ k,C.foot k→¬ D1.foot k:=fun k hk h2=>by
  rcases g1 k h2 with h3 | h3
  · exact HCD.out k hk h3
  · have:=hCl k hk; omega
 have g4:∀ k,C.foot k→¬ D2.foot k:=fun k hk h2=>by
  rcases g2 k h2 with h3 | h3
  · exact HCD.out k hk h3
  · have:=hCl k hk; omega
 have hsz3:w.heap.size≤w3.heap.size:=Nat.le_trans HB2.out.size HS3.out
 obtain ⟨k1,k2,k3,k4⟩:=HKB.out
 have hkl:kb < w5.heap.size:=(Array.getElem?_eq_some_iff.1 k2).1
 have hk1:¬ D1.foot kb:=fun h2=>(HF4.out kb h2).2 rfl
 have hBl3:B < w3.heap.size:=(Array.getElem?_eq_some_iff.1 HB3.out).1
 have hM:Mod (fun k=>(D.foot k∨k=B)∨w.heap.size≤k) w w3:=(Mod.of_below (M:=fun k=>(D.foot k∨k=B)∨w.heap.size≤k) HB2.out).trans (HM3.out.mono fun k _ e=>.inl (.inr e))
 have hM2:Mod (fun k=>(D.foot k∨k=B)∨w.heap.size≤k) w3 w6:=((HM4.out.mono fun k _ e=>.inl (.inl e)).trans (HM5.out.mono fun k _ e=>.inl (.inr e))).trans (HM6.out.mono fun k _ e=>(g1 k e).elim (fun h=>.inl (.inl h)) fun h=>.inr (by omega))
 have hM3:Mod (fun k=>D.foot k∨k=B) w (w6.setCell ⟨B,5,none⟩ (.pointer (some ⟨tb,0,none⟩))):=((hM.trans hM2).trans (hm7.mono fun k _ e=>.inl (.inr e))).mono fun k hk e=>e.elim (fun h=>h) fun h=>by omega
 refine ⟨rfl,C,D2,kb,tb,⟨(HC5.out.mod HM6.out g3).mod hm7 HCB.out,HQS.out,HDB.out,HD6.out.mod hm7 (fun k hk e=>?_),HG4.out.trans HG6.out,HCNEW.out,fun k hk=>(g2 k hk).imp (fun h=>h) fun h=>by omega,g4,hM3,⟨?_,?_,?_,?_,?_⟩,by omega,fun h=>by have:=hCl kb h; omega⟩,heap_setCell_same _ B 5 _ _ _ HB6.out⟩
 ·
  subst e
  rcases g2 _ hk with h3 | h3
  · exact HBD.out h3
  · have:=(Array.getElem?_eq_some_iff.1 HB3.out).1; omega
 · show (w6.setCell ⟨B,5,none⟩ (.pointer (some ⟨tb,0,none⟩))).heap[kb]?=some (.cells #[.pointer (some ⟨D2.blk,0,none⟩),.int .i64 0] 215 (0,0))
   rw [(HG4.out.trans HG6.out).blk]
   exact (hm7.block kb (Nat.lt_of_lt_of_le hkl HM6.out.size) (fun e=>by omega)).trans ((HM6.out.block kb hkl hk1).trans k2)
 · rw [HFI6.out xslots (by decide) (by decide)]; exact k3
 · rw [HFI6.out xlinks (by decide) (by decide)]; exact k4
 · have:=HBS.out; show base≤kb; omega
 · exact fun h2=>(HF6.out kb h2).1.elim hk1 fun h=>by omega
end Go.Proofs.YtnoehodmmkioaaaGreatDoor.StoW
