/- tape: laid. And what follows. -/
import Derived.Test.YtnoehodmmkioaaaGreatDoorF05
import Derived.Test.YtnoehodmmkioaaaGreatDoorF01
import Derived.MapKept
set_option maxHeartbeats 25600000
set_option maxRecDepth 100000
set_option linter.unusedVariables false
set_option linter.unusedSimpArgs false
namespace Go.Proofs.YtnoehodmmkioaaaGreatDoor.TapeW
open Go.RowKit Go.MapKept OctMath RecMath RecW TapeMath DskW SegW MapG
theorem put_ok {m:Msg} (h:rightL m=true) (h0:m.kind≠0):putL m=(recL m,0):=by unfold putL; rw [if_neg (by rw [h]; decide),if_neg h0]
def fillOf (e:Nat) (m:Msg):List UInt8:=if roomL e=(recL m).length∨(recL m).length+3≤roomL e then [] else fillL ((roomL e:Nat):Int)
theorem laid_ok {base:Nat} {T:TapeD} (m:Msg) (hm:MsgOk m) (hr:rightL m=true) (h0:m.kind≠0) (a:Option Addr) (c:Nat) (W:World) (h:TapeAt base W T) (hS:Strs W a (m.keys.map S)) :
 Calls Tryz.prog 26 #[.pointer (some ⟨T.O.blk,0,none⟩),.agg (cellsM m a c)] W fun e w'=>e=.returned (.tuple #[.string (S (fillOf T.R.e m)),.string (S (recL m)),.bool true])∧Below W.heap.size W w':=by
 have HB0:Hid (Below W.heap.size W (W.alloc (.cells (cellsM m a c) 53))):=(Below.refl _ W).alloc (Nat.le_refl _) _
 have HX0:Hid (RecW.Boxed (W.alloc (.cells (cellsM m a c) 53)) W.heap.size (cellsM m a c)):=RecW.Boxed.new W _ _
 have HT0:=Lib.hid (h.below HB0.out)
 have HS0:=Lib.hid (Strs.below hS HB0.out)
 have hrm:=room_eq h.whole.seg h.size
 have hcu:(cellsM m a c).size=10:=rfl
 have hpl:=put_ok hr h0
 have HM:=Lib.hid hm
 obtain ⟨hl1,hl2⟩:=rec_len hr h0
 have hsz:=S_size
 have htl:=RecW.S_toList
 have HFO:Hid (fillOf T.R.e m=if roomL T.R.e=(recL m).length∨(recL m).length+3≤roomL T.R.e then [] else fillL ((roomL T.R.e:Nat):Int)):=rfl
 have hrl:=room_le T.R.e
 have hlo:=loose_of h.fits (by have:=h.whole.seg.mult; rw [h.size] at this; exact this)
 rw [← h.txt] at hlo
 have hlo:3≤roomL T.R.e:=hlo
 clear hl1
 clear h hS hm
 go_enter Tryz.func26,Tryz.ntmps26
 go_upto_region 1 with fail
 generalize W.alloc (.cells (cellsM m a c) 53)=w1 at *
 clear hcu
 obtain ⟨A,hA⟩:∃ A,W.heap.size=A:=⟨_,rfl⟩
 rw [hA] at HX0 ⊢
 have HX:Hid (∀ w,Below w1.heap.size w1 w→∀ (i:Nat) (v:Value),(cellsM m a c)[i]?=some v→w.cell? ⟨A,i,none⟩=some v):=fun w hb i v hv=>(HX0.out.below hb) i v hv
 have HC1:Hid (∀ w,Below w1.heap.size w1 w→w.cell? ⟨T.O.blk,1,none⟩=some (.pointer (some ⟨T.O.sums,0,none⟩))):=fun w hb=>(HT0.out.below hb).own.cell 1 _ rfl
 have HP:Hid (∀ w,Below w1.heap.size w1 w→Calls Tryz.prog 47 #[.pointer (some ⟨T.O.sums,0,none⟩),.agg (cellsM m a c)] w fun e w'=>e=.returned (.tuple #[.string (S (putL m).1),.int .i64 (putL m).2])∧Below w.heap.size w w'):=fun w hb =>
  put_any T.O.sums m HM.out a c w (HT0.out.below hb).own.low.1 (HT0.out.below hb).own.tabs (Strs.below HS0.out hb)
 have HAA:=Lib.hid hA
 clear hA HX0
 unfold cellsM at HX HP ⊢
 rw [hpl] at HP
 simp only at HP
 clear hpl
 generalize hpl:recL m=pl at *
 have HPL:=Lib.hid hpl
 have HK0:Hid (∀ w,Below w1.heap.size w1 w→w.cell? ⟨A,0,none⟩=some (.int .i64 m.kind)):=fun w hb=>HX.out w hb 0 _ rfl
 refine GrowN.wp_region_n 11 [none,none,none,none,some (.inl (.agg #[.int .i64 m.kind,.int .i64 m.queue,.int .i64 m.due,.int .i64 m.retry,.int .i64 m.ref,.int .i64 m.born,.string (S m.topic),.string (S m.tag),.string (S m.body),.slice a m.keys.length c])),some (.inl (.tuple #[.string (S pl),.int .i64 0])),none,none,none,none,none] (RecW.ExtR) (by kernel_rfl) (by kernel_rfl) (by kernel_rfl) (RecW.ExtR.refl) (fun _ _ _=>RecW.ExtR.trans) ?_ ?_
 · exact GrowN.stab0 rfl
 simp only [List.take_succ_cons,List.take_zero,List.drop_succ_cons,List.drop_zero]
 iterate 3
  refine GrowN.g_det rfl ?_
  apply Exists.intro
  refine ⟨fun w hw hF=>?_,?_⟩
  · clear hF
    go_simp
    exact ⟨rfl,RecW.ExtR.refl _⟩
  go_frame
 refine GrowN.g_det rfl ?_
 apply Exists.intro
 refine ⟨fun w hw hF=>?_,?_⟩
 ·
  clear hF
  have hb:=(Below.refl w1.heap.size w1).drew.trans hw
  have c1:=HC1.out w hb
  go_simp
  exact ⟨rfl,RecW.ExtR.refl _⟩
 go_frame
 refine GrowN.g_con rfl (fun w hw hF=>?_) ?_
 ·
  clear hF
  have hb:=(Below.refl w1.heap.size w1).drew.trans hw
  have k0:=HX.out w hb 0 _ rfl
  have k1:=HX.out w hb 1 _ rfl
  have k2:=HX.out w hb 2 _ rfl
  have k3:=HX.out w hb 3 _ rfl
  have k4:=HX.out w hb 4 _ rfl
  have k5:=HX.out w hb 5 _ rfl
  have k6:=HX.out w hb 6 _ rfl
  have k7:=HX.out w hb 7 _ rfl
  have k8:=HX.out w hb 8 _ rfl
  have k9:=HX.out w hb 9 _ rfl
  go_simp
  exact RecW.ExtR.refl _
 go_frame
 refine GrowN.g_con rfl (fun w hw hF=>?_) ?_
 ·
  clear hF
  have hb:=(Below.refl w1.heap.size w1).drew.trans hw
  go_simp
  exact (HP.out w hb).mono fun e w3 h=>⟨_,h.1,rfl,h.2⟩
 iterate 5
  go_frame
  refine GrowN.g_det rfl ?_
  apply Exists.intro
  refine ⟨fun w hw hF=>?_,?_⟩
  · clear hF
    go_simp
    exact ⟨rfl,RecW.ExtR.refl _⟩
 go_frame
 refine GrowN.g_nil fun w2 hw2 hF=>?_
 clear hF
 have HB2:=Lib.hid ((Below.refl w1.heap.size w1).drew.trans hw2)
 clear hw2 HX HC1
 have k0:w2.cell? ⟨A,0,none⟩=some (.int .i64 m.kind):=HK0.out w2 HB2.out
 have c0:w2.cell? ⟨T.O.blk,0,none⟩=some (.pointer (some ⟨T.R.blk,0,none⟩)):=(HT0.out.below HB2.out).c0
 have HRM:=Lib.hid (SegW.room_any w2 (HT0.out.below HB2.out).whole.seg)
 rw [hrm] at HRM
 have HFI:=Lib.hid (fun (w:World)=>fill_any ((roomL T.R.e:Nat):Int) (by omega) (by omega) w)
 rw [decide_eq_true (by omega)] at HFI
 generalize roomL T.R.e=rm at *
 clear hrm hpl HP
 go_wp2_with fail
 refine HRM.out.mono ?_
 rintro e w3 ⟨rfl,hd⟩
 have HB3:=Lib.hid (HB2.out.trans (hd.below _))
 clear hd HRM
 by_cases h1:rm=pl.length
 ·
  have HF:Hid (fillOf T.R.e m=[]):=by show _=_; rw [HFO.out,if_pos (.inl h1)]
  clear HFO
  subst h1
  go_wp2_with fail
  go_ret3
  refine ⟨by rw [HF.out,HPL.out]; rfl,?_⟩
  exact HB0.out.trans (HB3.out.mono (by have:=HB0.out.size; have:=HAA.out; omega))
 ·
  by_cases h2:pl.length+3≤rm
  ·
   have HF:Hid (fillOf T.R.e m=[]):=by show _=_; rw [HFO.out,if_pos (.inr h2)]
   clear HFO
   have h1i:¬ ((rm:Int) - (pl.length:Int)=0):=by omega
   have h2i:(3:Int)≤(rm:Int) - (pl.length:Int):=by omega
   go_wp2_with fail
   go_ret3
   refine ⟨by rw [HF.out,HPL.out]; rfl,?_⟩
   exact HB0.out.trans (HB3.out.mono (by have:=HB0.out.size; have:=HAA.out; omega))
  ·
   have HF:Hid (fillOf T.R.e m=fillL (rm:Int)):=by show _=_; rw [HFO.out,if_neg (fun h=>h.elim h1 h2)]
   clear HFO
   have h1i:¬ ((rm:Int) - (pl.length:Int)=0):=by omega
   have h2i:¬ (3:Int)≤(rm:Int) - (pl.length:Int):=by omega
   go_wp2_with fail
   · exfalso
     rename_i hc
     rcases hc with hc | hc
     · exact h1i (eq_of_beq hc)
     · omega
   refine (HFI.out w3).mono ?_
   rintro e w4 ⟨rfl,hb⟩
   have HB4:=Lib.hid (HB3.out.trans (hb.mono HB3.out.size))
   clear hb
   go_wp2_with fail
   go_ret3
   refine ⟨by rw [HF.out,HPL.out]; rfl,?_⟩
   exact HB0.out.trans (HB4.out.mono (by have:=HB0.out.size; have:=HAA.out; omega))
theorem put_bad {m:Msg} (h:rightL m=false∨m.kind=0):(putL m).2≠0∨m.kind=0:=by
 rcases h with h | h
 · left; unfold putL; rw [if_pos h]; decide
 · exact .inr h
theorem laid_arg {base:Nat} {T:TapeD} (m:Msg) (hm:MsgOk m) (hr:rightL m=false∨m.kind=0) (a:Option Addr) (c:Nat) (W:World) (h:TapeAt base W T) (hS:Strs W a (m.keys.map S)) :
 Calls Tryz.prog 26 #[.pointer (some ⟨T.O.blk,0,none⟩),.agg (cellsM m a c)] W fun e w'=>e=.returned (.tuple #[.string (S []),.string (S []),.bool false])∧Below W.heap.size W w':=by
 have HB0:Hid (Below W.heap.size W (W.alloc (.cells (cellsM m a c) 53))):=(Below.refl _ W).alloc (Nat.le_refl _) _
 have HX0:Hid (RecW.Boxed (W.alloc (.cells (cellsM m a c) 53)) W.heap.size (cellsM m a c)):=RecW.Boxed.new W _ _
 have HT0:=Lib.hid (h.below HB0.out)
 have HS0:=Lib.hid (Strs.below hS HB0.out)
 have hcu:(cellsM m a c).size=10:=rfl
 have hpl:=put_bad hr
 have HM:=Lib.hid hm
 clear h hS hm hr
 go_enter Tryz.func26,Tryz.ntmps26
 go_upto_region 1 with fail
 generalize W.alloc (.cells (cellsM m a c) 53)=w1 at *
 clear hcu
 obtain ⟨A,hA⟩:∃ A,W.heap.size=A:=⟨_,rfl⟩
 rw [hA] at HX0 ⊢
 have HX:Hid (∀ w,Below w1.heap.size w1 w→∀ (i:Nat) (v:Value),(cellsM m a c)[i]?=some v→w.cell? ⟨A,i,none⟩=some v):=fun w hb i v hv=>(HX0.out.below hb) i v hv
 have HC1:Hid (∀ w,Below w1.heap.size w1 w→w.cell? ⟨T.O.blk,1,none⟩=some (.pointer (some ⟨T.O.sums,0,none⟩))):=fun w hb=>(HT0.out.below hb).own.cell 1 _ rfl
 have HP:Hid (∀ w,Below w1.heap.size w1 w→Calls Tryz.prog 47 #[.pointer (some ⟨T.O.sums,0,none⟩),.agg (cellsM m a c)] w fun e w'=>e=.returned (.tuple #[.string (S (putL m).1),.int .i64 (putL m).2])∧Below w.heap.size w w'):=fun w hb =>
  put_any T.O.sums m HM.out a c w (HT0.out.below hb).own.low.1 (HT0.out.below hb).own.tabs (Strs.below HS0.out hb)
 have HAA:=Lib.hid hA
 clear hA HX0
 unfold cellsM at HX HP ⊢
 generalize (putL m).1=pl at *
 generalize (putL m).2=pe at *
 have HK0:Hid (∀ w,Below w1.heap.size w1 w→w.cell? ⟨A,0,none⟩=some (.int .i64 m.kind)):=fun w hb=>HX.out w hb 0 _ rfl
 refine GrowN.wp_region_n 11 [none,none,none,none,some (.inl (.agg #[.int .i64 m.kind,.int .i64 m.queue,.int .i64 m.due,.int .i64 m.retry,.int .i64 m.ref,.int .i64 m.born,.string (S m.topic),.string (S m.tag),.string (S m.body),.slice a m.keys.length c])),some (.inl (.tuple #[.string (S pl),.int .i64 pe])),none,none,none,none,none] (RecW.ExtR) (by kernel_rfl) (by kernel_rfl) (by kernel_rfl) (RecW.ExtR.refl) (fun _ _ _=>RecW.ExtR.trans) ?_ ?_
 · exact GrowN.stab0 rfl
 simp only [List.take_succ_cons,List.take_zero,List.drop_succ_cons,List.drop_zero]
 iterate 3
  refine GrowN.g_det rfl ?_
  apply Exists.intro
  refine ⟨fun w hw hF=>?_,?_⟩
  · clear hF
    go_simp
    exact ⟨rfl,RecW.ExtR.refl _⟩
  go_frame
 refine GrowN.g_det rfl ?_
 apply Exists.intro
 refine ⟨fun w hw hF=>?_,?_⟩
 ·
  clear hF
  have hb:=(Below.refl w1.heap.size w1).drew.trans hw
  have c1:=HC1.out w hb
  go_simp
  exact ⟨rfl,RecW.ExtR.refl _⟩
 go_frame
 refine GrowN.g_con rfl (fun w hw hF=>?_) ?_
 ·
  clear hF
  have hb:=(Below.refl w1.heap.size w1).drew.trans hw
  have k0:=HX.out w hb 0 _ rfl
  have k1:=HX.out w hb 1 _ rfl
  have k2:=HX.out w hb 2 _ rfl
  have k3:=HX.out w hb 3 _ rfl
  have k4:=HX.out w hb 4 _ rfl
  have k5:=HX.out w hb 5 _ rfl
  have k6:=HX.out w hb 6 _ rfl
  have k7:=HX.out w hb 7 _ rfl
  have k8:=HX.out w hb 8 _ rfl
  have k9:=HX.out w hb 9 _ rfl
  go_simp
  exact RecW.ExtR.refl _
 go_frame
 refine GrowN.g_con rfl (fun w hw hF=>?_) ?_
 ·
  clear hF
  have hb:=(Below.refl w1.heap.size w1).drew.trans hw
  go_simp
  exact (HP.out w hb).mono fun e w3 h=>⟨_,h.1,rfl,h.2⟩
 iterate 5
  go_frame
  refine GrowN.g_det rfl ?_
  apply Exists.intro
  refine ⟨fun w hw hF=>?_,?_⟩
  · clear hF
    go_simp
    exact ⟨rfl,RecW.ExtR.refl _⟩
 go_frame
 refine GrowN.g_nil fun w2 hw2 hF=>?_
 clear hF
 have HB2:=Lib.hid ((Below.refl w1.heap.size w1).drew.trans hw2)
 clear hw2 HX HC1
 have k0:w2.cell? ⟨A,0,none⟩=some (.int .i64 m.kind):=HK0.out w2 HB2.out
 have hfin:Below W.heap.size W w2:=HB0.out.trans (HB2.out.mono (by have:=HB0.out.size; have:=HAA.out; omega))
 have HFIN:=Lib.hid hfin
 clear hfin HP
 by_cases hpe:pe=0
 ·
  have hk:m.kind=0:=hpl.elim (fun h=>absurd hpe h) id
  rw [hk] at k0
  subst hpe
  clear hpl hk
  go_wp2_with fail
  go_ret3
  exact ⟨rfl,HFIN.out⟩
 ·
  clear hpl
  go_wp2_with fail
  go_ret3
  exact ⟨rfl,HFIN.out⟩
def Few (D0 D:DiskD):Prop:=D.files.length+D0.waits.length≤D0.files.length+D.waits.length∧(∀ p∈D.files,p.1.length≤tapeH.length+8∨∃ q∈D0.files,q.1=p.1)∧D.cap=D0.cap
theorem Few.refl (D:DiskD):Few D D:=⟨Nat.le_refl _,fun p hp=>.inr ⟨p,hp,rfl⟩,rfl⟩
theorem Few.app {D0 D D':DiskD} (h:Few D0 D) (k:Few D D'):Few D0 D' :=
 ⟨by have h1:=h.1; have h2:=k.1; omega,fun p hp=>(k.2.1 p hp).elim .inl fun ⟨q,hq,e⟩=>e ▸ h.2.1 q hq,k.2.2.trans h.2.2⟩
structure Half (base B:Nat) (w:World) (T:TapeD) (f:List UInt8) (D:DiskD) (R:SegD):Prop where
 own:OwnAt base w T.O
 whole:Whole base w D R
 wait:Waiting D R
 quiet:Quiet D
 away:∀ k,T.O.foot k→¬ D.foot k∧¬ R.foot k
 tab:TabB base w
 big:B≤w.heap.size∧base≤B
 rblk:R.blk=T.R.blk
 dblk:D.blk=T.D.blk
 b:R.b=T.R.b
 syn:R.synced=T.R.synced
 head:R.head=tapeH
 size:R.size=1024
 txt:R.txt=T.R.txt++f
 room:D.room=T.D.room - (f.length:Int)
 foot:∀ k,D.foot k∨R.foot k→T.D.foot k∨T.R.foot k∨B≤k
 lts:∀ k,T.O.foot k→k < B
 other:∀ n,(∀ p,p≤99999999→n≠nameL tapeH p)→D.find n=T.D.find n
 few:Few T.D D
theorem Half.e {base B:Nat} {w:World} {T:TapeD} {f:List UInt8} {D:DiskD} {R:SegD} (h:Half base B w T f D R):R.e=T.R.e+f.length:=by
 unfold SegD.e; rw [h.b,h.txt,List.length_append]; omega
theorem Half.start {base:Nat} {w:World} {T:TapeD} (h:TapeAt base w T) (hq:Quiet T.D) (hT:TabB base w) (hb:base≤w.heap.size):Half base w.heap.size w T [] T.D T.R :=
 ⟨h.own,h.whole,h.wait,hq,h.away,hT,⟨Nat.le_refl _,hb⟩,rfl,rfl,rfl,rfl,h.head,h.size,(List.append_nil _).symm,by simp,fun k hk=>hk.elim .inl (fun h=>.inr (.inl h)),fun k hk=>h.own.lt hk,fun _ _=>rfl,Few.refl _⟩
theorem half_append {base B:Nat} {w:World} {T:TapeD} {f:List UInt8} {D:DiskD} {R:SegD} (h:Half base B w T f D R) (s:List UInt8) (h0:s≠[]) (hr:s.length≤roomL (T.R.e+f.length)) (hf:(s.length:Int)≤D.room) (hwl:D.waits.length≤1048576) (he:T.R.e+f.length≤99999999) :
 Calls Tryz.prog 108 #[.pointer (some ⟨T.R.blk,0,none⟩),.string (S s)] w fun e w'=>e=.returned (.tuple #[.int .i64 ((T.R.e+f.length:Nat):Int),.int .i64 0]) ∧
  ∃ D' R',Half base B w' T (f++s) D' R'∧Mod (fun k=>T.D.foot k∨T.R.foot k∨B≤k) w w'∧D'.waits.length=D.waits.length+1:=by
 have hre:=h.e
 have hrm:=room_eq h.whole.seg h.size
 have hA:=append_ok s w h.tab h.whole (Nat.le_trans h.big.2 h.big.1) h.quiet h0 (by rw [hrm,hre]; exact hr) hf hwl (fun _=>by omega)
 rw [← h.rblk,← hre]
 refine hA.mono ?_
 rintro e w' ⟨rfl,hm,D',R',hW,ha,hR,hfd,hfr⟩
 have e1:R'.b=R.b:=by rw [hR]
 have e2:R'.size=R.size:=by rw [hR]
 have e3:R'.head=R.head:=by rw [hR]
 have e4:R'.synced=R.synced:=by rw [hR]
 have e5:R'.txt=R.txt++s:=by rw [hR]
 have e6:R'.blk=R.blk:=by rw [hR]
 have hpos:0 < R'.n:=by
  rcases Nat.eq_zero_or_pos R'.n with hz | hp
  · exfalso
    have:=(hW.seg.empty hz).2
    rw [e5] at this
    exact h0 (List.append_eq_nil_iff.1 this).2
  · exact hp
 have hmod:Mod (fun k=>T.D.foot k∨T.R.foot k∨B≤k) w w':=hm.mono (fun k _ hk=>h.foot k hk)
 refine ⟨rfl,D',R',⟨?_,hW,h.wait.app h.whole.seg hW.seg ha h0 hR hpos,ha.quiet,?_,?_,⟨Nat.le_trans h.big.1 hm.size,h.big.2⟩,e6.trans h.rblk,ha.blk.trans h.dblk,e1.trans h.b,e4.trans h.syn,e3.trans h.head,e2.trans h.size,?_,?_,?_,h.lts,?_,?_⟩,hmod,?_⟩
 ·
  refine h.own.mod hm (fun k hk hk2=>?_)
  have:=h.away k hk
  rcases hk2 with h2 | h2
  · exact this.1 h2
  · exact this.2 h2
 ·
  intro k hk
  have h1:=h.away k hk
  have h2:=h.lts k hk
  have h3:=h.big.1
  refine ⟨fun hd=>?_,fun hd=>?_⟩
  · rcases hfd k hd with h4 | h4
    · exact h1.1 h4
    · omega
  · rcases hfr k hd with h4 | h4
    · exact h1.2 h4
    · omega
 ·
  refine h.tab.mod hm (fun k hk=>?_)
  rcases hk with h1 | h1
  · exact h.whole.dsk.base_le h1
  · rcases h1 with h1 | h1
    · rw [h1]; exact h.whole.seg.above
    · exact ownBlock_of_own h.whole.seg.row k h1
 · rw [e5,h.txt,List.append_assoc]
 · rw [ha.room,h.room,List.length_append]; omega
 ·
  intro k hk
  rcases hk with h1 | h1
  · rcases hfd k h1 with h2 | h2
    · exact h.foot k (.inl h2)
    · right; right; have:=h.big.1; omega
  · rcases hfr k h1 with h2 | h2
    · exact h.foot k (.inr h2)
    · right; right; have:=h.big.1; omega
 · intro n hn
   rw [ha.other n (by rw [h.head]; exact hn)]
   exact h.other n hn
 ·
  refine h.few.app ⟨?_,fun p hp=>by have:=ha.names p hp; rw [h.head] at this; exact this,ha.cap⟩
  obtain ⟨f',o,_,hw⟩:=ha.waits
  have:=ha.files
  rw [hw,List.length_append]
  show _≤D.files.length+(D.waits.length+1)
  omega
 · obtain ⟨f',o,_,hw⟩:=ha.waits
   rw [hw,List.length_append]; rfl
structure Next (T T':TapeD) (x:List TapeMath.Item):Prop where
 blk:T'.O.blk=T.O.blk
 sums:T'.O.sums=T.O.sums
 dblk:T'.D.blk=T.D.blk
 b:T'.R.b=T.R.b
 syn:T'.R.synced=T.R.synced
 its:T'.its=T.its++x
 quiet:Quiet T'.D
 room:T'.D.room=T.D.room - ((bytesL x).length:Int)
 waits:T'.D.waits≠[]
 wl:T'.D.waits.length≤T.D.waits.length+2
 other:∀ n,(∀ p,p≤99999999→n≠nameL tapeH p)→T'.D.find n=T.D.find n
 few:Few T.D T'.D
theorem bytes_laid (e:Nat) (m:Msg):bytesL (laidOf e m)=fillOf e m++recL m:=by
 unfold laidOf fillOf
 split
 · simp [bytesL,TapeMath.Item.bytes]
 · simp [bytesL,TapeMath.Item.bytes]
theorem recs_laid (e:Nat) (m:Msg):recsOf e (laidOf e m)=[(e+(fillOf e m).length,m)]:=by
 unfold laidOf fillOf
 split
 · rfl
 · rfl
theorem fillOf_len (e:Nat) (m:Msg) (h:3≤roomL e):(fillOf e m=[]∧((recL m).length≤roomL e))∨((fillOf e m).length=roomL e∧fillOf e m≠[]∧roomL (e+(fillOf e m).length)=1024):=by
 unfold fillOf
 have hl:=room_le e
 split
 · rename_i h1; exact .inl ⟨rfl,by omega⟩
 ·
  right
  have hf:=fill_len h (hl.2)
  refine ⟨hf,fun h=>?_,?_⟩
  · rw [h] at hf; simp at hf; omega
  · rw [hf]; unfold roomL; omega
theorem loose_e {base:Nat} {w:World} {T:TapeD} (h:TapeAt base w T):3≤roomL T.R.e:=by
 have hlo:=loose_of h.fits (by have:=h.whole.seg.mult; rw [h.size] at this; exact this)
 rw [← h.txt] at hlo
 exact hlo
theorem bytes_e {base:Nat} {w:World} {T:TapeD} (h:TapeAt base w T):T.R.e=T.R.b+(bytesL T.its).length:=by unfold SegD.e; rw [h.txt]
theorem Half.done {base B:Nat} {w w':World} {T:TapeD} {D:DiskD} {R:SegD} {idv:Value} {m:Msg} (h0:TapeAt base w T) (hr:rightL m=true) (hk:m.kind≠0) (h:Half base B w' T (fillOf T.R.e m++recL m) D R)
 {w2:World} (ho:OwnAt base w2 (T.O.add idv (T.R.e+(fillOf T.R.e m).length) m)) (hm:Mod T.O.foot w' w2) (hi:∀ k,idv.ownBlock=some k→T.O.foot k∨w'.heap.size≤k) :
 TapeAt base w2 ⟨T.O.add idv (T.R.e+(fillOf T.R.e m).length) m,D,R,T.its++laidOf T.R.e m⟩∧∀ k,TapeD.foot ⟨T.O.add idv (T.R.e+(fillOf T.R.e m).length) m,D,R,T.its++laidOf T.R.e m⟩ k→T.foot k∨B≤k:=by
 have he:=bytes_e h0
 have hfoot:∀ k,(T.O.add idv (T.R.e+(fillOf T.R.e m).length) m).foot k→T.O.foot k∨w'.heap.size≤k:=fun k hk=>by
  rcases hk with hk | hk | hk | hk
  · exact .inl (.inl hk)
  · exact .inl (.inr (.inl hk))
  · exact .inl (.inr (.inr (.inl hk)))
  · exact hi k hk
 refine ⟨⟨ho,h0.rb.trans h.rblk.symm,?_,fun k hk=>?_,h.whole.mod hm (fun k hk hk2=>(h.away k hk2).1 hk) (fun k hk hk2=>(h.away k hk2).2 hk),h.head,h.size,?_,?_,?_,h.wait⟩,fun k hk=>?_⟩
 · show T.O.recs++[_]=recsOf R.b (T.its++laidOf T.R.e m)
   rw [h.b,recs_app,← he,recs_laid,h0.recs]
 · rcases hfoot k hk with h1 | h1
   · exact h.away k h1
   · exact ⟨fun h2=>by have:=h.whole.dsk.lt h2; omega,fun h2=>by have:=h.whole.seg.lt h2; omega⟩
 · show R.txt=bytesL (T.its++laidOf T.R.e m)
   rw [h.txt,bytesL_app,bytes_laid,h0.txt]
 · show Fits R.b (T.its++laidOf T.R.e m)
   rw [h.b,he]
   exact laid_fits h0.fits (by have:=h0.whole.seg.mult; rw [h0.size] at this; exact this) hr hk
 ·
  intro p hp
  have e:(T.O.recs++[(T.R.e+(fillOf T.R.e m).length,m)]).getLast?=some p:=hp
  rw [List.getLast?_append] at e
  simp at e
  rw [← e]; rfl
 ·
  rcases hk with h1 | h1 | h1
  · rcases hfoot k h1 with h2 | h2
    · exact .inl (.inl h2)
    · right; have:=h.big.1; omega
  · rcases h.foot k (.inl h1) with h2 | h2 | h2
    · exact .inl (.inr (.inl h2))
    · exact .inl (.inr (.inr h2))
    · exact .inr h2
  · rcases h.foot k (.inr h1) with h2 | h2 | h2
    · exact .inl (.inr (.inl h2))
    · exact .inl (.inr (.inr h2))
    · exact .inr h2
theorem new_id {base:Nat} {w:World} {T:TapeD} (h:TapeAt base w T) (n:Nat):∀ p∈T.O.recs,p.1≠T.R.e+n:=by
 intro p hp e
 rw [h.recs] at hp
 obtain ⟨id,m⟩:=p
 obtain ⟨a,c,h1,h2⟩:=recs_mem h.fits hp
 have h3:=recs_lt h.fits hp
 have h4:=bytes_e h
 have hl:0 < (recL m).length:=by unfold recL; rw [List.cons_append,List.length_cons]; omega
 simp only at e
 omega
theorem append_ok {base:Nat} {T:TapeD} (m:Msg) (hm:MsgOk m) (hr:rightL m=true) (h0:m.kind≠0) (a:Option Addr) (c:Nat) (W:World) (h:TapeAt base W T) (hS:Strs W a (m.keys.map S)) (hq:Quiet T.D) (hT:TabB base W) (hbase:base≤W.heap.size)
 (hroom:(((fillOf T.R.e m).length+(recL m).length:Nat):Int)≤T.D.room) (hwl:T.D.waits.length≤1000000) (hfar:T.R.e≤90000000) (hrl:T.O.recs.length≤1000000) :
 Calls Tryz.prog 56 #[.pointer (some ⟨T.O.blk,0,none⟩),.agg (cellsM m a c)] W fun e w'=>e=.returned (.tuple #[.int .i64 ((T.R.e+(fillOf T.R.e m).length:Nat):Int),.int .i64 0]) ∧
  ∃ T',TapeAt base w' T'∧Next T T' (laidOf T.R.e m)∧Mod T.foot W w'∧∀ k,T'.foot k→T.foot k∨W.heap.size≤k:=by
 have HB0:Hid (Below W.heap.size W (W.alloc (.cells (cellsM m a c) 53))):=(Below.refl _ W).alloc (Nat.le_refl _) _
 have HX0:Hid (RecW.Boxed (W.alloc (.cells (cellsM m a c) 53)) W.heap.size (cellsM m a c)):=RecW.Boxed.new W _ _
 have hA1:W.heap.size < (W.alloc (.cells (cellsM m a c) 53)).heap.size:=by rw [World.size_alloc]; omega
 have HT0:=Lib.hid (h.below HB0.out)
 have HS0:=Lib.hid (Strs.below hS HB0.out)
 have HTB0:=Lib.hid (hT.below HB0.out)
 have HLT:Hid (∀ k,T.foot k→k < W.heap.size):=fun k hk=>h.lt hk
 have hcu:(cellsM m a c).size=10:=rfl
 have hlo:=loose_e h
 obtain ⟨hl1,hl2⟩:=rec_len hr h0
 have hfl:=fillOf_len T.R.e m hlo
 have hrml:=room_le T.R.e
 have HNI:=Lib.hid (new_id h (fillOf T.R.e m).length)
 have HM:=Lib.hid hm
 have HR:=Lib.hid hr
 have H0:=Lib.hid h0
 have HH:=Lib.hid h
 have HQ:=Lib.hid hq
 have hsz:=S_size
 have htl:=RecW.S_toList
 have hls:recL m≠[]:=fun e=>by rw [e] at hl1; simp at hl1; omega
 have hlsb:(recL m).isEmpty=false:=by cases hh:recL m with | nil=>exact absurd hh hls | cons _ _=>rfl
 clear h hS hm hT hr h0 hq hl1 hlo
 go_enter Tryz.func56,Tryz.ntmps56
 go_upto_region 1 with fail
 generalize W.alloc (.cells (cellsM m a c) 53)=w1 at *
 clear hcu
 obtain ⟨A,hA⟩:∃ A,W.heap.size=A:=⟨_,rfl⟩
 rw [hA] at HX0 hA1 ⊢
 have HAA:=Lib.hid hA
 have HLD:=Lib.hid (laid_ok m HM.out HR.out H0.out a c w1 HT0.out HS0.out)
 have HCM:Hid (cellsM m a c=#[.int .i64 m.kind,.int .i64 m.queue,.int .i64 m.due,.int .i64 m.retry,.int .i64 m.ref,.int .i64 m.born,.string (S m.topic),.string (S m.tag),.string (S m.body),.slice a m.keys.length c]):=rfl
 rw [HCM.out] at HLD
 obtain ⟨k0,k1,k2,k3,k4,k5,k6,k7,k8,k9⟩:=RecW.ten_cells HX0.out
 clear hA
 go_wp2_with fail
 refine HLD.out.mono ?_
 rintro e w2 ⟨rfl,hb⟩
 have HB2:=Lib.hid hb
 have HT2:=Lib.hid (HT0.out.below hb)
 have c0:w2.cell? ⟨T.O.blk,0,none⟩=some (.pointer (some ⟨T.R.blk,0,none⟩)):=HT2.out.c0
 have s0:w2.cell? ⟨T.R.blk,0,none⟩=some (.pointer (some ⟨T.D.blk,0,none⟩)):=HT2.out.whole.seg.cell 0 _ (by rw [← HT2.out.whole.db]; rfl)
 have HDD:=Lib.hid (down_any w2 HT2.out.whole.dsk)
 rw [HQ.out.up] at HDD
 have HDR:=Lib.hid (DskW.room_any w2 HT2.out.whole.dsk)
 clear hb HLD k0 k1 k2 k3 k4 k5 k6 k7 k8 k9
 generalize hpl:recL m=pl at *
 generalize hfo:fillOf T.R.e m=fo at *
 have hri:¬ T.D.room < (fo.length:Int)+(pl.length:Int):=by omega
 have HRI:=Lib.hid hri
 have HROOM:=Lib.hid hroom
 generalize hdr:T.D.room=dr at *
 have HDRm:=Lib.hid hdr
 clear hdr hroom HRI
 go_wp2_with fail
 refine HDD.out.mono ?_
 rintro e w2' ⟨rfl,rfl⟩
 go_wp2_with fail
 refine HDR.out.mono ?_
 rintro e w3 ⟨rfl,hb⟩
 have HB3:=Lib.hid (HB2.out.trans (hb.mono HB2.out.size))
 have HT3:=Lib.hid (HT2.out.below hb)
 have HTB3:=Lib.hid (HTB0.out.below HB3.out)
 have hA3:A < w3.heap.size:=by have:=HB3.out.size; omega
 have HX3:Hid (RecW.Boxed w3 A (cellsM m a c)):=HX0.out.below HB3.out
 have HHF:=Lib.hid (Half.start HT3.out HQ.out HTB3.out (by have:=HB3.out.size; have:=HB0.out.size; omega))
 have c03:w3.cell? ⟨T.O.blk,0,none⟩=some (.pointer (some ⟨T.R.blk,0,none⟩)):=HT3.out.c0
 clear hb HDD HDR HB2 HT2 HT0 HX0 c0 s0 HTB0
 have hfl1:fo.length≤1024:=by
  rcases hfl with ⟨hz,_⟩ | ⟨hz,_⟩
  · rw [hz]; exact Nat.zero_le _
  · omega
 have HNA:Hid (¬ (T.D.foot A∨T.R.foot A∨w3.heap.size≤A)):=fun hk=>by
  have h1:=HLT.out A
  have h2:=HAA.out
  rcases hk with hk | hk | hk
  · have:=h1 (.inr (.inl hk)); omega
  · have:=h1 (.inr (.inr hk)); omega
  · omega
 rcases hfl with ⟨hfe,hfit⟩ | ⟨hf1,hf2,hf3⟩
 ·
  have hfob:fo.isEmpty=true:=by rw [hfe]; rfl
  have HHA:Hid (Calls Tryz.prog 108 #[.pointer (some ⟨T.R.blk,0,none⟩),.string (S pl)] w3 fun e w'=>e=.returned (.tuple #[.int .i64 ((T.R.e:Nat):Int),.int .i64 0]) ∧
   ∃ D' R',Half base w3.heap.size w' T pl D' R'∧Mod (fun k=>T.D.foot k∨T.R.foot k∨w3.heap.size≤k) w3 w'∧D'.waits.length=T.D.waits.length+1) :=
   half_append HHF.out pl hls (by simpa using hfit) (by rw [HDRm.out]; have:=HROOM.out; omega) (by omega) (by simp; omega)
  have HFE:=Lib.hid hfe
  have HPL:=Lib.hid hpl
  have HFO:=Lib.hid hfo
  clear hfe hpl hfo hrml hwl hfit
  go_wp2_with fail
  any_goals (exfalso; rename_i hcc; rw [IntWalk.wrap64_in _ (by omega)] at hcc; omega)
  refine HHA.out.mono ?_
  rintro e w4 ⟨rfl,D',R',hh,hm4,hw4⟩
  have hx4:∀ (i:Nat) (v:Value),(cellsM m a c)[i]?=some v→w4.cell? ⟨A,i,none⟩=some v:=fun i v hv=>by
   rw [hm4.cell (p:=⟨A,i,none⟩) hA3 (fun hk=>HNA.out hk)]
   exact HX3.out i v hv
  obtain ⟨m0,m1,m2,m3,m4,m5,m6,m7,m8,m9⟩:=RecW.ten_cells hx4
  have HNO:=Lib.hid (note_one T.R.e m a c w4 hh.own H0.out (by have:=HNI.out; rw [HFE.out] at this; exact this) (by omega) (Nat.le_trans hh.big.2 hh.big.1))
  rw [HCM.out,HPL.out] at HNO
  have HH4:=Lib.hid hh
  have HM4:=Lib.hid hm4
  have HW4:=Lib.hid hw4
  clear hh hm4 hw4 hx4 HHA
  go_wp2_with fail
  refine HNO.out.mono ?_
  rintro e w5 ⟨rfl,idv,ho,hm5,hi⟩
  have HO5:=Lib.hid ho
  have HM5:=Lib.hid hm5
  have HI5:=Lib.hid hi
  clear ho hm5 hi HNO m0 m1 m2 m3 m4 m5 m6 m7 m8 m9
  go_wp2_with fail
  go_ret2
  refine ⟨by rw [HFO.out,HFE.out]; rfl,?_⟩
  have hh:Half base w3.heap.size w4 T (fillOf T.R.e m++recL m) D' R':=by rw [HFO.out,HFE.out,HPL.out]; exact HH4.out
  have ho:OwnAt base w5 (T.O.add idv (T.R.e+(fillOf T.R.e m).length) m):=by rw [HFO.out,HFE.out]; exact HO5.out
  obtain ⟨q1,q2⟩:=Half.done HH.out HR.out H0.out hh ho HM5.out HI5.out
  have hs3:W.heap.size≤w3.heap.size:=by have h1:=HB0.out.size; have h2:=HB3.out.size; omega
  have hm3:Mod T.foot W w3:=Mod.of_below (HB0.out.trans (HB3.out.mono HB0.out.size))
  refine ⟨_,q1,⟨rfl,rfl,hh.dblk,hh.b,hh.syn,rfl,hh.quiet,by rw [bytes_laid]; exact hh.room,fun e=>?_,?_,hh.other,hh.few⟩,?_,fun k hk=>(q2 k hk).imp_right fun h=>by omega⟩
  · have h1:=HW4.out
    have h2:D'.waits=[]:=e
    rw [h2] at h1; simp at h1
  · have h1:=HW4.out
    show D'.waits.length≤_
    omega
  · refine mod_over (mod_over hm3 HM4.out (fun k hk=>hk.elim (fun h=>.inl (.inr (.inl h))) fun h=>h.elim (fun h=>.inl (.inr (.inr h))) fun h=>.inr (by omega))) HM5.out (fun k hk=>.inl (.inl hk))
 ·
  have hfob:fo.isEmpty=false:=by cases hh:fo with | nil=>exact absurd hh hf2 | cons _ _=>rfl
  have HHA:Hid (Calls Tryz.prog 108 #[.pointer (some ⟨T.R.blk,0,none⟩),.string (S fo)] w3 fun e w'=>e=.returned (.tuple #[.int .i64 ((T.R.e:Nat):Int),.int .i64 0]) ∧
   ∃ D' R',Half base w3.heap.size w' T fo D' R'∧Mod (fun k=>T.D.foot k∨T.R.foot k∨w3.heap.size≤k) w3 w'∧D'.waits.length=T.D.waits.length+1) :=
   half_append HHF.out fo hf2 (by show fo.length≤roomL T.R.e; omega) (by rw [HDRm.out]; have:=HROOM.out; omega) (by omega) (by simp; omega)
  have HPL:=Lib.hid hpl
  have HFO:=Lib.hid hfo
  have HF3:=Lib.hid hf3
  have HWL:=Lib.hid hwl
  clear hpl hfo hrml hf1 hf2 hf3 hwl
  go_wp2_with fail
  any_goals (exfalso; rename_i hcc; rw [IntWalk.wrap64_in _ (by omega)] at hcc; omega)
  refine HHA.out.mono ?_
  rintro e w4 ⟨rfl,D1,R1,hh,hm4,hw4⟩
  have hxa:∀ (i:Nat) (v:Value),(cellsM m a c)[i]?=some v→w4.cell? ⟨A,i,none⟩=some v:=fun i v hv=>by
   rw [hm4.cell (p:=⟨A,i,none⟩) hA3 (fun hk=>HNA.out hk)]
   exact HX3.out i v hv
  have HXA:=Lib.hid hxa
  have HS4:Hid (A < w4.heap.size):=Nat.lt_of_lt_of_le hA3 hm4.size
  have c04:w4.cell? ⟨T.O.blk,0,none⟩=some (.pointer (some ⟨T.R.blk,0,none⟩)):=hh.own.cell 0 _ (by rw [← HH.out.rb]; rfl)
  have HHB:=Lib.hid (half_append hh pl hls (by rw [HF3.out]; omega) (by rw [hh.room,HDRm.out]; have:=HROOM.out; omega) (by have:=HWL.out; omega) (by omega))
  have HM4:=Lib.hid hm4
  have HW4:=Lib.hid hw4
  clear hh hm4 hw4 hxa HHA c03
  generalize hee:T.R.e+fo.length=ee at *
  have HEE:=Lib.hid hee
  clear hee
  go_wp2_with fail
  refine HHB.out.mono ?_
  rintro e w5 ⟨rfl,D',R',hh,hm5,hw5⟩
  have hx5:∀ (i:Nat) (v:Value),(cellsM m a c)[i]?=some v→w5.cell? ⟨A,i,none⟩=some v:=fun i v hv=>by
   rw [hm5.cell (p:=⟨A,i,none⟩) HS4.out (fun hk=>HNA.out hk)]
   exact HXA.out i v hv
  obtain ⟨m0,m1,m2,m3,m4,m5,m6,m7,m8,m9⟩:=RecW.ten_cells hx5
  have HNO:=Lib.hid (note_one ee m a c w5 hh.own H0.out HNI.out (by omega) (Nat.le_trans hh.big.2 hh.big.1))
  rw [HCM.out,HPL.out] at HNO
  have HH5:=Lib.hid hh
  have HM5:=Lib.hid hm5
  have HW5:=Lib.hid hw5
  clear hh hm5 hw5 hx5 HHB c04
  go_wp2_with fail
  refine HNO.out.mono ?_
  rintro e w6 ⟨rfl,idv,ho,hm6,hi⟩
  have HO6:=Lib.hid ho
  have HM6:=Lib.hid hm6
  have HI6:=Lib.hid hi
  clear ho hm6 hi HNO m0 m1 m2 m3 m4 m5 m6 m7 m8 m9
  go_wp2_with fail
  go_ret2
  refine ⟨by rw [HFO.out,HEE.out]; rfl,?_⟩
  have hh:Half base w3.heap.size w5 T (fillOf T.R.e m++recL m) D' R':=by rw [HFO.out,HPL.out]; exact HH5.out
  have ho:OwnAt base w6 (T.O.add idv (T.R.e+(fillOf T.R.e m).length) m):=by rw [HFO.out,HEE.out]; exact HO6.out
  obtain ⟨q1,q2⟩:=Half.done HH.out HR.out H0.out hh ho HM6.out HI6.out
  have hs3:W.heap.size≤w3.heap.size:=by have h1:=HB0.out.size; have h2:=HB3.out.size; omega
  have hm3:Mod T.foot W w3:=Mod.of_below (HB0.out.trans (HB3.out.mono HB0.out.size))
  refine ⟨_,q1,⟨rfl,rfl,hh.dblk,hh.b,hh.syn,rfl,hh.quiet,by rw [bytes_laid]; exact hh.room,fun e=>?_,?_,hh.other,hh.few⟩,?_,fun k hk=>(q2 k hk).imp_right fun h=>by omega⟩
  · have h1:=HW5.out
    have h2:D'.waits=[]:=e
    rw [h2] at h1; simp at h1
  · have h1:=HW5.out
    have h3:=HW4.out
    show D'.waits.length≤_
    omega
  · refine mod_over (mod_over (mod_over hm3 HM4.out (fun k hk=>hk.elim (fun h=>.inl (.inr (.inl h))) fun h=>h.elim (fun h=>.inl (.inr (.inr h))) fun h=>.inr (by omega))) HM5.out (fun k hk=>hk.elim (fun h=>.inl (.inr (.inl h))) fun h=>h.elim (fun h=>.inl (.inr (.inr h))) fun h=>.inr (by omega))) HM6.out (fun k hk=>.inl (.inl hk))
theorem sync_any {base:Nat} {T:TapeD} (w:World) (h:TapeAt base w T) (hq:Quiet T.D) (hT:TabB base w) (hbase:base≤w.heap.size) (hwl:T.D.waits.length≤1048576) (hn:T.R.n≤1048576) :
 Calls Tryz.prog 58 #[.pointer (some ⟨T.O.blk,0,none⟩)] w fun e w'=>e=.returned (.int .i64 0)∧∃ wv,TapeAt base w' { T with D:=T.R.syncD T.D wv,R:={ T.R with synced:=T.R.e } }∧Mod T.foot w w'∧(T.R.syncD T.D wv).waits=[]∧Quiet (T.R.syncD T.D wv)∧(∀ k,(T.R.syncD T.D wv).foot k↔T.D.foot k):=by
 have HS:=Lib.hid (SegW.sync_any w hT h.whole hq hbase hwl hn)
 have c0:=h.c0
 have HH:=Lib.hid h
 have HQ:=Lib.hid hq
 clear h hq hT
 go_enter Tryz.func58,Tryz.ntmps58
 go_wp2_with fail
 refine HS.out.mono ?_
 rintro e w' ⟨rfl,wv,hwv,hW,hm⟩
 have HW:=Lib.hid hW
 have HM:=Lib.hid hm
 have HWV:=Lib.hid hwv
 clear hW hm hwv HS
 go_wp2_with fail
 go_ret
 have h:=HH.out
 have hft:∀ k,(T.R.syncD T.D wv).foot k↔T.D.foot k:=fun k=>by
  unfold SegD.syncD
  split
  · exact Iff.rfl
  · exact lasts_foot HWV.out k
 have hwn:=h.wait.sync h.whole.seg h.whole.dsk wv
 have hqq:Quiet (T.R.syncD T.D wv):=by
  unfold SegD.syncD
  split
  · exact HQ.out
  · exact ⟨HQ.out.left,HQ.out.up⟩
 refine ⟨rfl,wv,⟨h.own.mod HM.out (fun k hk hk2=>?_),h.rb,h.recs,fun k hk=>⟨fun h2=>(h.away k hk).1 ((hft k).1 h2),fun h2=>(h.away k hk).2 h2⟩,HW.out,h.head,h.size,h.txt,h.fits,h.last,Waiting.none hwn⟩,HM.out.mono (fun k _ hk=>.inr hk),hwn,hqq,hft⟩
 have:=h.away k hk
 rcases hk2 with h2 | h2
 · exact this.1 h2
 · exact this.2 h2
theorem rec_pos (m:Msg):1≤(recL m).length:=by unfold recL; rw [List.cons_append,List.length_cons]; omega
theorem lies_rec {base:Nat} {w:World} {T:TapeD} (h:TapeAt base w T) {id:Nat} {m:Msg} (hm:(id,m)∈T.O.recs):rightL m=true∧m.kind≠0∧T.R.b≤id∧id+(recL m).length≤T.R.e∧id % 1024+(recL m).length≤1024∧((T.R.txt.drop (id - T.R.b)).take (recL m).length)=recL m:=by
 rw [h.recs] at hm
 obtain ⟨a,c,h1,h2⟩:=recs_mem h.fits hm
 have hf:=h.fits
 rw [h1] at hf
 have hl:=hf.at
 rw [← h2] at hl
 obtain ⟨l1,l2,l3⟩:=hl
 have h3:=recs_lt h.fits hm
 have h4:=bytes_e h
 refine ⟨l1.1,l1.2,h3.2,by omega,l2,?_⟩
 have h5:=read_item (a:=a) (c:=c) (x:=TapeMath.Item.one m) (recL m).length (Nat.le_refl _)
 rw [h.txt,h1,show id - T.R.b=(bytesL a).length by omega,h5]
 show recL m++(bytesL c).take ((recL m).length - (recL m).length)=recL m
 simp
theorem read_rec {base:Nat} {w:World} {T:TapeD} (h:TapeAt base w T) (hup:T.D.down=false) {id:Nat} {m:Msg} (hm:(id,m)∈T.O.recs):T.R.readT T.D (id:Int) ((recL m).length:Int)=recL m∧T.R.readE T.D (id:Int) ((recL m).length:Int)=0:=by
 obtain ⟨h1,h2,h3,h4,h5,h6⟩:=lies_rec h hm
 have hp:=rec_pos m
 have hl:((recL m).length:Int)≤T.R.left (id:Int):=by
  unfold SegD.left
  rw [h.size,if_neg (by omega),Int.toNat_natCast]
  have:id / 1024 * 1024+1024=id - id % 1024+1024:=by omega
  omega
 have hb:T.R.readB (id:Int) ((recL m).length:Int)=true:=by
  unfold SegD.readB
  rw [decide_eq_true (by omega),decide_eq_true hl]; rfl
 constructor
 · unfold SegD.readT
   rw [if_pos ⟨hup,hb⟩,Int.toNat_natCast,Int.toNat_natCast]
   exact h6
 · unfold SegD.readE
   rw [if_neg (by rw [hup]; decide),if_neg (by omega),if_pos hb]
theorem size_rec {l:List (Nat×Msg)} (hn:(l.map (·.1)).Nodup) {id:Nat} {m:Msg} (hm:(id,m)∈l):sizeR l (id:Int)=((recL m).length:Int):=by
 unfold sizeR
 cases hf:l.find? (fun p=>decide ((p.1:Int)=(id:Int))) with
 | none=>exact absurd (List.find?_eq_none.1 hf _ hm) (by simp)
 | some q =>
   obtain ⟨h1,a,b,h2,h3⟩:=List.find?_eq_some_iff_append.1 hf
   have hq:q.1=id:=by have:(q.1:Int)=(id:Int):=by simpa using h1
                      omega
   have:q=(id,m):=by
    subst h2
    rcases List.mem_append.1 hm with hx | hx
    · have:=h3 _ hx; simp at this
    · rcases List.mem_cons.1 hx with hx | hx
      · exact hx.symm
      · rw [List.map_append,List.map_cons] at hn
        have:=(List.nodup_cons.1 (List.nodup_append.1 hn).2.1).1
        exact absurd (List.mem_map.2 ⟨_,hx,rfl⟩) (by rw [hq] at this; exact this)
   rw [this]; rfl
theorem recs_nodup {base:Nat} {w:World} {T:TapeD} (h:TapeAt base w T):(T.O.recs.map (·.1)).Nodup:=by
 rw [h.recs]
 exact (recs_sorted h.fits).2.imp (fun h=>Nat.ne_of_lt h)
theorem append_no {base:Nat} {T:TapeD} (m:Msg) (hm:MsgOk m) (hr:rightL m=true) (h0:m.kind≠0) (a:Option Addr) (c:Nat) (W:World) (h:TapeAt base W T) (hS:Strs W a (m.keys.map S)) (hup:T.D.down=false)
 (hroom:T.D.room < (((fillOf T.R.e m).length+(recL m).length:Nat):Int)) :
 Calls Tryz.prog 56 #[.pointer (some ⟨T.O.blk,0,none⟩),.agg (cellsM m a c)] W fun e w'=>e=.returned (.tuple #[.int .i64 0,.int .i64 7])∧Below W.heap.size W w':=by
 have HB0:Hid (Below W.heap.size W (W.alloc (.cells (cellsM m a c) 53))):=(Below.refl _ W).alloc (Nat.le_refl _) _
 have HX0:Hid (RecW.Boxed (W.alloc (.cells (cellsM m a c) 53)) W.heap.size (cellsM m a c)):=RecW.Boxed.new W _ _
 have HT0:=Lib.hid (h.below HB0.out)
 have HS0:=Lib.hid (Strs.below hS HB0.out)
 have hcu:(cellsM m a c).size=10:=rfl
 have hsm:(fillOf T.R.e m).length+(recL m).length≤1000000:=by
  have h1:=fillOf_len T.R.e m (loose_e h)
  have h2:=rec_len hr h0
  have h3:=room_le T.R.e
  rcases h1 with ⟨e,_⟩ | ⟨e,_⟩
  · rw [e]; simp; omega
  · omega
 have HM:=Lib.hid hm
 have HR:=Lib.hid hr
 have H0:=Lib.hid h0
 have HUP:=Lib.hid hup
 have hsz:=S_size
 have htl:=RecW.S_toList
 clear h hS hm hr h0 hup
 go_enter Tryz.func56,Tryz.ntmps56
 go_upto_region 1 with fail
 generalize W.alloc (.cells (cellsM m a c) 53)=w1 at *
 clear hcu
 obtain ⟨A,hA⟩:∃ A,W.heap.size=A:=⟨_,rfl⟩
 rw [hA] at HX0 ⊢
 have HAA:=Lib.hid hA
 have HLD:=Lib.hid (laid_ok m HM.out HR.out H0.out a c w1 HT0.out HS0.out)
 have HCM:Hid (cellsM m a c=#[.int .i64 m.kind,.int .i64 m.queue,.int .i64 m.due,.int .i64 m.retry,.int .i64 m.ref,.int .i64 m.born,.string (S m.topic),.string (S m.tag),.string (S m.body),.slice a m.keys.length c]):=rfl
 rw [HCM.out] at HLD
 obtain ⟨k0,k1,k2,k3,k4,k5,k6,k7,k8,k9⟩:=RecW.ten_cells HX0.out
 clear hA
 go_wp2_with fail
 refine HLD.out.mono ?_
 rintro e w2 ⟨rfl,hb⟩
 have HB2:=Lib.hid (HB0.out.trans (hb.mono HB0.out.size))
 have HT2:=Lib.hid (HT0.out.below hb)
 have c0:w2.cell? ⟨T.O.blk,0,none⟩=some (.pointer (some ⟨T.R.blk,0,none⟩)):=HT2.out.c0
 have s0:w2.cell? ⟨T.R.blk,0,none⟩=some (.pointer (some ⟨T.D.blk,0,none⟩)):=HT2.out.whole.seg.cell 0 _ (by rw [← HT2.out.whole.db]; rfl)
 have HDD:=Lib.hid (down_any w2 HT2.out.whole.dsk)
 rw [HUP.out] at HDD
 have HDR:=Lib.hid (DskW.room_any w2 HT2.out.whole.dsk)
 clear hb HLD k0 k1 k2 k3 k4 k5 k6 k7 k8 k9
 generalize hpl:recL m=pl at *
 generalize hfo:fillOf T.R.e m=fo at *
 generalize T.D.room=dr at *
 have hri:dr < (fo.length:Int)+(pl.length:Int):=by omega
 have hsm2:(fo.length:Int)+(pl.length:Int)≤1000000:=by omega
 clear hroom
 go_wp2_with fail
 refine HDD.out.mono ?_
 rintro e w2' ⟨rfl,rfl⟩
 go_wp2_with fail
 refine HDR.out.mono ?_
 rintro e w3 ⟨rfl,hb⟩
 have HB3:=Lib.hid (HB2.out.trans (hb.mono HB2.out.size))
 clear hb HDR HDD
 go_wp2_with fail
 go_ret2
 exact ⟨rfl,HB3.out⟩
def costL (e:Nat) (m:Msg):Nat:=if rightL m=true∧m.kind≠0 then (fillOf e m).length+(recL m).length else 0
theorem cost_any {base:Nat} {T:TapeD} (m:Msg) (hm:MsgOk m) (a:Option Addr) (c:Nat) (W:World) (h:TapeAt base W T) (hS:Strs W a (m.keys.map S)) :
 Calls Tryz.prog 12 #[.pointer (some ⟨T.O.blk,0,none⟩),.agg (cellsM m a c)] W fun e w'=>e=.returned (.int .i64 (costL T.R.e m:Int))∧Below W.heap.size W w':=by
 have HB0:Hid (Below W.heap.size W (W.alloc (.cells (cellsM m a c) 53))):=(Below.refl _ W).alloc (Nat.le_refl _) _
 have HX0:Hid (RecW.Boxed (W.alloc (.cells (cellsM m a c) 53)) W.heap.size (cellsM m a c)):=RecW.Boxed.new W _ _
 have HT0:=Lib.hid (h.below HB0.out)
 have HS0:=Lib.hid (Strs.below hS HB0.out)
 have hcu:(cellsM m a c).size=10:=rfl
 have hsz:=S_size
 have HCM:Hid (cellsM m a c=#[.int .i64 m.kind,.int .i64 m.queue,.int .i64 m.due,.int .i64 m.retry,.int .i64 m.ref,.int .i64 m.born,.string (S m.topic),.string (S m.tag),.string (S m.body),.slice a m.keys.length c]):=rfl
 obtain ⟨f,s,b,hcost,hb1,HLD⟩:∃ (f s:List UInt8) (b:Bool),costL T.R.e m=f.length+s.length∧f.length+s.length≤1000000∧Hid (∀ w,TapeAt base w T→Strs w a (m.keys.map S)→Calls Tryz.prog 26 #[.pointer (some ⟨T.O.blk,0,none⟩),.agg (cellsM m a c)] w fun e w'=>e=.returned (.tuple #[.string (S f),.string (S s),.bool b])∧Below w.heap.size w w'):=by
  by_cases hr:rightL m=true∧m.kind≠0
  ·
   have h1:=fillOf_len T.R.e m (loose_e h)
   have h2:=rec_len hr.1 hr.2
   have h3:=room_le T.R.e
   refine ⟨fillOf T.R.e m,recL m,true,by unfold costL; rw [if_pos hr],?_,fun w h1 h2=>laid_ok m hm hr.1 hr.2 a c w h1 h2⟩
   rcases h1 with ⟨e,_⟩ | ⟨e,_⟩
   · rw [e]; simp; omega
   · omega
  · refine ⟨[],[],false,by unfold costL; rw [if_neg hr]; rfl,by simp,fun w h1 h2=>laid_arg m hm ?_ a c w h1 h2⟩
    by_cases h1:rightL m=true
    · exact .inr (Decidable.byContradiction fun h2=>hr ⟨h1,h2⟩)
    · exact .inl (by simpa using h1)
 rw [hcost]
 rw [HCM.out] at HLD
 have hb2:(f.length:Int)+(s.length:Int)≤1000000:=by omega
 clear h hS hm hcost
 go_enter Tryz.func12,Tryz.ntmps12
 go_upto_region 1 with fail
 generalize W.alloc (.cells (cellsM m a c) 53)=w1 at *
 clear hcu
 obtain ⟨A,hA⟩:∃ A,W.heap.size=A:=⟨_,rfl⟩
 rw [hA] at HX0 ⊢
 have HAA:=Lib.hid hA
 obtain ⟨k0,k1,k2,k3,k4,k5,k6,k7,k8,k9⟩:=RecW.ten_cells HX0.out
 clear hA
 go_wp2_with fail
 refine (HLD.out w1 HT0.out HS0.out).mono ?_
 rintro e w2 ⟨rfl,hb⟩
 have HB2:=Lib.hid (HB0.out.trans (hb.mono HB0.out.size))
 clear hb HLD k0 k1 k2 k3 k4 k5 k6 k7 k8 k9
 go_wp2_with fail
 go_ret
 exact ⟨by simp,HB2.out⟩
end Go.Proofs.YtnoehodmmkioaaaGreatDoor.TapeW
namespace Go.Proofs.YtnoehodmmkioaaaGreatDoor.GrowM
open Go
open Go.Proofs.YtnoehodmmkioaaaGreatDoor.Grow (detUpon growUpon detAt growAt bound bound_spec chk1 chk2 chk3 inB look_congr L D slot Agree Agree.same getD_set put_slot put_get_ne put_slot_ne put_size put_defs left left_far left_set left_none left_some mem_ready' wp_of_det wp_of_grow)
open Go.Proofs.YtnoehodmmkioaaaGreatDoor.GrowN (Kind rv val depF wpG)
abbrev look:=@GrowN.look
def chkW (ops:Array Oper) (m n:Nat):Bool:=n == ops.size || (List.range n).all fun h=>decide (h < m) || (List.range (n+1)).any fun j=>decide (h < j) && ((ops[j]?).map fun o=>bound o h).getD false
def chkS (ops:Array Oper) (n:Nat):Bool:=(List.range ops.size).all fun t=>decide (t≤n) || ((ops[t]?).map fun o=>(List.range t).any fun j=>decide (n≤j) && bound o j).getD false
def gM (ops:Array Oper) (m n:Nat):Bool:=Region.noSelect ops && decide (n≤ops.size) && decide (m≤n) && chk1 ops && chk2 ops n && chk3 ops n && chkW ops m n && chkS ops n
structure Chk (ops:Array Oper) (m n:Nat):Prop where
 sel:∀ (j:Nat) (o:Oper) cs b,ops[j]?=some o→o.op≠.select cs b
 le:n≤ops.size
 mn:m≤n
 low:∀ i o,ops[i]?=some o→∀ e∈o.after,Region.binds .any e=true→e.on < i
 uniq:∀ i j d,i < n→j < n→D ops i=some d→D ops j=some d→i=j
 looks:∀ i o s k,i < n→ops[i]?=some o→s∈o.looksAt ops→k < n→D ops k=some s→i=k∨bound o k=true∨∃ p,ops[k]?=some p∧bound p i=true
 waits:n=ops.size∨∀ h,m≤h→h < n→∃ j o,h < j∧j≤n∧ops[j]?=some o∧bound o h=true
 seq:∀ t o,n < t→ops[t]?=some o→∃ j,n≤j∧j < t∧bound o j=true
theorem Chk.of {ops:Array Oper} {m n:Nat} (h:gM ops m n=true):Chk ops m n:=by
 unfold gM at h
 simp only [Bool.and_eq_true,decide_eq_true_eq] at h
 obtain ⟨⟨⟨⟨⟨⟨⟨h0,hle⟩,hmn⟩,h1⟩,h2⟩,h3⟩,h4⟩,h5⟩:=h
 refine ⟨Region.noSelect_spec h0,hle,hmn,?_,?_,?_,?_,?_⟩
 ·
  intro i o ho e he hb
  have hi:i < ops.size:=(Array.getElem?_eq_some_iff.1 ho).1
  have:=List.all_eq_true.1 h1 i (List.mem_range.2 hi)
  simp only [ho,Option.map_some,Option.getD_some] at this
  have:=Array.all_eq_true_iff_forall_mem.1 this e he
  simpa [hb] using this
 ·
  intro i j d hi hj hdi hdj
  have:=List.all_eq_true.1 h2 i (List.mem_range.2 hi)
  have:=List.all_eq_true.1 this j (List.mem_range.2 hj)
  unfold D at hdi hdj
  simpa [hdi,hdj] using this
 ·
  intro i o s k hi ho hs hk hd
  have:=List.all_eq_true.1 h3 i (List.mem_range.2 hi)
  simp only [ho,Option.map_some,Option.getD_some] at this
  have:=List.all_eq_true.1 this s hs
  have:=List.all_eq_true.1 this k (List.mem_range.2 hk)
  unfold D at hd
  cases hk2:ops[k]? with
  | none=>simp [hk2] at hd
  | some q =>
    simp only [hk2,Option.bind_some] at hd
    simp only [hk2,Option.bind_some,hd,Option.map_some,Option.getD_some,Bool.or_eq_true,beq_iff_eq,bne_self_eq_false,Bool.false_eq_true,false_or] at this
    rcases this with (h | h) | h
    · exact .inl h
    · exact .inr (.inl h)
    · exact .inr (.inr ⟨q,rfl,h⟩)
 ·
  unfold chkW at h4
  simp only [Bool.or_eq_true,beq_iff_eq] at h4
  rcases h4 with h4 | h4
  · exact .inl h4
  ·
   refine .inr fun h hm hh=>?_
   have:=List.all_eq_true.1 h4 h (List.mem_range.2 hh)
   rw [Bool.or_eq_true,decide_eq_true_eq] at this
   obtain ⟨j,hj,hb⟩:=List.any_eq_true.1 (this.resolve_left (by omega))
   simp only [Bool.and_eq_true,decide_eq_true_eq] at hb
   cases ho:ops[j]? with
   | none=>simp [ho] at hb
   | some o=>exact ⟨j,o,hb.1,by have:=List.mem_range.1 hj; omega,ho,by simpa [ho] using hb.2⟩
 ·
  intro t o ht ho
  have hi:t < ops.size:=(Array.getElem?_eq_some_iff.1 ho).1
  have:=List.all_eq_true.1 h5 t (List.mem_range.2 hi)
  rw [Bool.or_eq_true,decide_eq_true_eq] at this
  have:=this.resolve_left (by omega)
  rw [ho] at this
  obtain ⟨j,hj,hb⟩:=List.any_eq_true.1 (show ((List.range t).any fun j=>decide (n≤j) && bound o j)=true from this)
  rw [Bool.and_eq_true,decide_eq_true_eq] at hb
  exact ⟨j,hb.1,List.mem_range.1 hj,hb.2⟩
section
variable {P:Program} {ops:Array Oper} {R:World→World→Prop} {w1:World}
section
variable (P:Program) (ops:Array Oper) (R:World→World→Prop) (w1:World) (a0:Act) (m n:Nat) (kind:Nat→Kind)
def GoodF (a:Act) (k:Nat) (o:Oper) (F:List (Nat×(World→Prop))):Prop:=∀ p∈F,bound o p.1=true →
 ∃ oj Y bj,(m≤p.1∧p.1 < k)∧ops[p.1]?=some oj∧kind p.1=some (.inr Y)∧Agree ops a0 a bj p.1 oj∧Region.wanted oj (yielded ops bj.tmps)=true∧p.2=Y (look ops bj oj) (val a oj)
def Holds (a:Act) (w:World) (k:Nat) (o:Oper) (b:Act):Prop :=
 if Region.wanted o (yielded ops b.tmps)=true then
  match kind k with
  | none=>∀ v F,GoodF ops a0 m kind a k o F→(∀ w',R w1 w'→depF F o w'→detAt P R o b w' v)→∀ d,o.dst=some d→slot a d=v
  | some (.inl c)=>∀ d,o.dst=some d→slot a d=c
  | some (.inr Y)=>Y (look ops b o) (val a o) w
 else ∀ d,o.dst=some d→slot a d=undef
structure Inv (listed:Array Bool) (a:Act) (w:World):Prop where
 size:listed.size=ops.size
 reach:R w1 w
 defs:a.defers=a0.defers
 tsz:a.tmps.size=a0.tmps.size
 closed:∀ k o,ops[k]?=some o→L listed k→∀ e∈o.after,Region.binds .any e=true→L listed e.on
 slots:∀ s,(∀ k,m≤k→L listed k→D ops k≠some s)→a.tmps[s]?=a0.tmps[s]?
 head:∀ k,L listed k→k < n
 vals:∀ k o,ops[k]?=some o→m≤k→L listed k→∀ b,Agree ops a0 a b k o→Holds P ops R w1 a0 m kind a w k o b
 lowL:∀ k,k < m→L listed k
end
variable {a0:Act} {m n:Nat} {kind:Nat→Kind}
theorem bound_lt (C:Chk ops m n) {i k:Nat} {o:Oper} (ho:ops[i]?=some o) (h:bound o k=true):k < i:=by
 obtain ⟨e,he,hb,rfl⟩:=bound_spec h
 exact C.low i o ho e he hb
theorem dep_listed (C:Chk ops m n) {listed:Array Bool} {k j:Nat} {o:Oper} {s:Tmp} (hk:k < n) (ho:ops[k]?=some o)
 (hall:∀ e∈o.after,Region.binds .any e=true→L listed e.on) (hs:s∈o.looksAt ops) (hj:j < k) (hd:D ops j=some s):L listed j:=by
 rcases C.looks k o s j hk ho hs (by omega) hd with h | h | ⟨p,hp,h⟩
 · omega
 · obtain ⟨e,he,hb,rfl⟩:=bound_spec h
   exact hall e he hb
 · have:=bound_lt C hp h; omega
theorem depF_of {listed:Array Bool} {a:Act} {w:World} (I:Inv P ops R w1 a0 m n kind listed a w) {k:Nat} {o:Oper}
 (hall:∀ e∈o.after,Region.binds .any e=true→L listed e.on) {F:List (Nat×(World→Prop))} (hF:GoodF ops a0 m kind a k o F):depF F o w:=by
 intro p hp hl
 obtain ⟨oj,Y,bj,hj,hoj,hk',hb,hw,he⟩:=hF p hp hl
 obtain ⟨e,hem,heb,heo⟩:=bound_spec hl
 have hlj:L listed p.1:=heo ▸ hall e hem heb
 have:=I.vals p.1 oj hoj hj.1 hlj bj hb
 unfold Holds at this
 rw [if_pos hw,hk'] at this
 rw [he]; exact this
theorem val_put {a:Act} {o ok:Oper} {v:Value} (h:∀ d,ok.dst=some d→o.dst≠some d):val (a.put o.dst v) ok=val a ok:=by
 unfold val
 cases hd:ok.dst with
 | none=>rfl
 | some d=>exact put_slot_ne (h d hd)
theorem Inv.step (C:Chk ops m n) (htr:∀ u v w:World,R u v→R v w→R u w) (hstab:∀ k Y,kind k=some (.inr Y)→∀ l v w w',R w w'→Y l v w→Y l v w')
 {listed:Array Bool} {a:Act} {w w':World} (I:Inv P ops R w1 a0 m n kind listed a w) {i:Nat} {o:Oper} (hin:i < n) (ho:ops[i]?=some o) (hun:¬ L listed i)
 (hall:∀ e∈o.after,Region.binds .any e=true→L listed e.on) {v:Value} (hR:R w w')
 (hv:∀ b,Agree ops a0 (a.put o.dst v) b i o→Holds P ops R w1 a0 m kind (a.put o.dst v) w' i o b) :
 Inv P ops R w1 a0 m n kind (listed.setIfInBounds i true) (a.put o.dst v) w':=by
 have hi:i < listed.size:=by rw [I.size]; exact (Array.getElem?_eq_some_iff.1 ho).1
 have hDi:D ops i=o.dst:=by simp [D,ho]
 have keep:∀ k ok,ops[k]?=some ok→L listed k→∀ s∈ok.looksAt ops,∀ j,j < k→D ops j=some s→o.dst≠some s:=by
  intro k ok hok hk s hs j hj hd he
  have hkn:=I.head k hk
  have:j=i:=C.uniq j i s (by omega) hin hd (by rw [hDi,he])
  subst this
  exact hun (dep_listed C hkn hok (I.closed k ok hok hk) hs hj hd)
 have agr:∀ k ok,ops[k]?=some ok→L listed k→∀ b,Agree ops a0 (a.put o.dst v) b k ok↔Agree ops a0 a b k ok:=by
  intro k ok hok hk b
  constructor
  iterate 2
   · intro h; exact ⟨fun s hs j hj hd=>by rw [h.1 s hs j hj hd,put_get_ne (keep k ok hok hk s hs j hj hd)],h.2⟩
 have hmi:m≤i:=Nat.le_of_not_lt fun h=>hun (I.lowL i h)
 refine ⟨by simpa using I.size,htr _ _ _ I.reach hR,put_defs.trans I.defs,put_size.trans I.tsz,?_,?_,?_,?_,fun k hk=>(getD_set hi).2 (.inr (I.lowL k hk))⟩
 ·
  intro k ok hok hk e he hb
  rcases (getD_set hi).1 hk with rfl | hk
  · rw [ho] at hok; cases hok; exact (getD_set hi).2 (.inr (hall e he hb))
  · exact (getD_set hi).2 (.inr (I.closed k ok hok hk e he hb))
 · intro s hs
   rw [put_get_ne (by rw [← hDi]; exact hs i hmi ((getD_set hi).2 (.inl rfl)))]
   exact I.slots s fun k hmk hk=>hs k hmk ((getD_set hi).2 (.inr hk))
 ·
  intro k hk
  rcases (getD_set hi).1 hk with rfl | hk
  · exact hin
  · exact I.head k hk
 ·
  intro k ok hok hmk hk b hb
  rcases (getD_set hi).1 hk with rfl | hk
  · rw [ho] at hok; cases hok; exact hv b hb
  ·
   have hki:k≠i:=fun e=>hun (e ▸ hk)
   have ne:∀ k' ok',ops[k']?=some ok'→L listed k'→∀ d,ok'.dst=some d→o.dst≠some d:=fun k' ok' hok' hk' d hd e =>
    (fun (e2:k'=i)=>hun (e2 ▸ hk')) (C.uniq k' i d (I.head k' hk') hin (by simp [D,hok',hd]) (by rw [hDi,e]))
   have h:=I.vals k ok hok hmk hk b ((agr k ok hok hk b).1 hb)
   unfold Holds at h ⊢
   split
   ·
    rename_i hw
    rw [if_pos hw] at h
    cases hkd:kind k with
    | none =>
      rw [hkd] at h
      intro v' F hF hspec d hd
      rw [put_slot_ne (ne k ok hok hk d hd)]
      refine h v' F (fun p hp hl=>?_) hspec d hd
      obtain ⟨oj,Y,bj,hj,hoj,hkj,hbj,hwj,he⟩:=hF p hp hl
      obtain ⟨e,hem,heb,heo⟩:=bound_spec hl
      have hlj:L listed p.1:=heo ▸ I.closed k ok hok hk e hem heb
      exact ⟨oj,Y,bj,hj,hoj,hkj,(agr p.1 oj hoj hlj bj).1 hbj,hwj,by rw [he,val_put (ne p.1 oj hoj hlj)]⟩
    | some x =>
      rw [hkd] at h
      cases x with
      | inl c=>exact fun d hd=>by rw [put_slot_ne (ne k ok hok hk d hd)]; exact h d hd
      | inr Y =>
        show Y _ (val _ ok) w'
        rw [val_put (ne k ok hok hk)]
        exact hstab k Y hkd _ _ _ _ hR h
   · rename_i hw
     rw [if_neg hw] at h
     exact fun d hd=>by rw [put_slot_ne (ne k ok hok hk d hd)]; exact h d hd
section
variable (P:Program) (ops:Array Oper) (R:World→World→Prop) (w1:World) (a0:Act) (m n:Nat) (kind:Nat→Kind)
structure Path (listed:Array Bool) (a:Act) (k:Nat) (b:Act) (F:List (Nat×(World→Prop))):Prop where
 defs:b.defers=a0.defers
 tsz:b.tmps.size=a0.tmps.size
 other:∀ s,(∀ j,m≤j→j < k→D ops j≠some s)→b.tmps[s]?=a0.tmps[s]?
 same:∀ j,j < k→L listed j→∀ d,D ops j=some d→b.tmps[d]?=a.tmps[d]?
 facts:∀ p∈F,∃ oj Y v bj,(m≤p.1∧p.1 < k)∧ops[p.1]?=some oj∧kind p.1=some (.inr Y)∧p.2=Y (look ops bj oj) v ∧
  (L listed p.1→v=val a oj∧Agree ops a0 a bj p.1 oj∧Region.wanted oj (yielded ops bj.tmps)=true)
def Spec (a:Act) (i:Nat) (o:Oper):Prop:=∃ b F,Agree ops a0 a b i o∧GoodF ops a0 m kind a i o F∧(Region.wanted o (yielded ops b.tmps)=true →
 match kind i with
 | none=>∃ v,∀ w',R w1 w'→depF F o w'→detAt P R o b w' v
 | some (.inl c)=>∀ w',R w1 w'→depF F o w'→growAt P R o b w' fun u _=>u=c
 | some (.inr Y)=>∀ w',R w1 w'→depF F o w'→growAt P R o b w' fun u=>Y (look ops b o) (rv o u))
end
theorem Path.agree (C:Chk ops m n) {listed:Array Bool} {a b:Act} {F:List (Nat×(World→Prop))} {k:Nat} {o:Oper} (hp:Path ops a0 m kind listed a k b F) (hk:k < n) (ho:ops[k]?=some o)
 (hall:∀ e∈o.after,Region.binds .any e=true→L listed e.on):Agree ops a0 a b k o∧GoodF ops a0 m kind a k o F:=by
 refine ⟨⟨fun s hs j hj hd=>hp.same j hj (dep_listed C hk ho hall hs hj hd) s hd,fun s _ hn=>hp.other s fun j _ hj=>hn j hj⟩,fun p hpF hl=>?_⟩
 obtain ⟨oj,Y,v,bj,hj,hoj,hkj,he,hL⟩:=hp.facts p hpF
 obtain ⟨e,hem,heb,heo⟩:=bound_spec hl
 obtain ⟨hv,hbj,hw⟩:=hL (heo ▸ hall e hem heb)
 exact ⟨oj,Y,bj,hj,hoj,hkj,hbj,hw,by rw [he,hv]⟩
theorem Path.step (C:Chk ops m n) {listed:Array Bool} {a b:Act} {w:World} {F:List (Nat×(World→Prop))} {k:Nat} {o:Oper} (I:Inv P ops R w1 a0 m n kind listed a w)
 (hin:∀ o d,o∈ops→o.dst=some d→d < a0.tmps.size) (hp:Path ops a0 m kind listed a k b F) (hmk:m≤k) (hk:k < n) (ho:ops[k]?=some o) (v:Value)
 (hv:L listed k→∀ d,o.dst=some d→v=slot a d):Path ops a0 m kind listed a (k+1) (b.put o.dst v) F:=by
 have hDk:D ops k=o.dst:=by simp [D,ho]
 refine ⟨put_defs.trans hp.defs,put_size.trans hp.tsz,fun s hs=>?_,fun j hj hL d hd=>?_,fun p hpF=>?_⟩
 · rw [put_get_ne (by rw [← hDk]; exact hs k hmk (by omega))]
   exact hp.other s fun j hmj hj=>hs j hmj (by omega)
 ·
  by_cases e:j=k
  ·
   subst e
   rw [hDk] at hd
   have hd1:=hin o d (Array.mem_of_getElem? ho) hd
   have:=hv hL d hd
   rw [hd]
   have h1:d < b.tmps.size:=by rw [hp.tsz]; exact hd1
   have h2:d < a.tmps.size:=by rw [I.tsz]; exact hd1
   simp only [Act.put,Array.getElem?_setIfInBounds_self_of_lt h1,this,slot]
   simp [h2]
  · rw [put_get_ne fun e'=>e (C.uniq j k d (I.head j hL) hk hd (by rw [hDk,e']))]
    exact hp.same j (by omega) hL d hd
 · obtain ⟨oj,Y,v,bj,hj,h⟩:=hp.facts p hpF
   exact ⟨oj,Y,v,bj,by omega,h⟩
theorem Path.fact {listed:Array Bool} {a b b':Act} {F:List (Nat×(World→Prop))} {k:Nat} {o:Oper} (hp:Path ops a0 m kind listed a (k+1) b' F) (hmk:m≤k) (ho:ops[k]?=some o) {Y:List (Option Value)→Value→World→Prop}
 (hY:kind k=some (.inr Y)) (v:Value) (hv:L listed k→v=val a o∧Agree ops a0 a b k o∧Region.wanted o (yielded ops b.tmps)=true) :
 Path ops a0 m kind listed a (k+1) b' ((k,Y (look ops b o) v) :: F):=by
 refine ⟨hp.defs,hp.tsz,hp.other,hp.same,fun p hpF=>?_⟩
 rcases List.mem_cons.1 hpF with rfl | hpF
 · exact ⟨o,Y,v,b,⟨hmk,by show k < k+1; omega⟩,ho,hY,rfl,hv⟩
 · exact hp.facts p hpF
theorem descend (C:Chk ops m n) (hin:∀ o d,o∈ops→o.dst=some d→d < a0.tmps.size) {Fin:Act→World→Prop} {listed:Array Bool} {a:Act} {w:World} (I:Inv P ops R w1 a0 m n kind listed a w) :
 ∀ (l:List Oper) (k:Nat) (Ks:List Kind) (F:List (Nat×(World→Prop))) (b:Act),k+l.length=n→m≤k→(∀ j,j < l.length→l[j]?=ops[k+j]?)→(∀ j,Ks.getD j none=kind (k+j)) →
  Path ops a0 m kind listed a k b F→wpG P ops R w1 Fin k l Ks F b →
  (∀ i o,k≤i→i < n→ops[i]?=some o→(∀ e∈o.after,Region.binds .any e=true→L listed e.on)→Spec P ops R w1 a0 m kind a i o) ∧
  (∃ b F,Path ops a0 m kind listed a n b F∧∀ w,R w1 w→(∀ p∈F,p.2 w)→Fin b w)
 | [],k,Ks,F,b,hn,_,_,_,hp,h=>by
   have:k=n:=by simpa using hn
   subst this
   exact ⟨fun i o h1 h2=>by omega,b,F,hp,by unfold wpG at h; exact h⟩
 | o :: l,k,Ks,F,b,hn,hmk,hl,hK,hp,h=>by
   simp only [List.length_cons] at hn
   have ho:ops[k]?=some o:=by have:=hl 0 (by simp); simpa using this.symm
   have hk:k < n:=by omega
   have hl':∀ j,j < l.length→l[j]?=ops[(k+1)+j]?:=fun j hj=>by
    have:=hl (j+1) (by simp; omega)
    rw [show k+1+j=k+(j+1) by omega,← this]; rfl
   have hK':∀ j,Ks.tail.getD j none=kind ((k+1)+j):=fun j=>by
    have:=hK (j+1)
    rw [show k+1+j=k+(j+1) by omega,← this]
    cases Ks <;> simp
   have hK0:Ks.headD none=kind k:=by
    have:=hK 0
    rw [Nat.add_zero] at this
    rw [← this]
    cases Ks <;> simp
   have hall:L listed k→∀ e∈o.after,Region.binds .any e=true→L listed e.on:=fun hL=>I.closed k o ho hL
   have key:∃ b' F',Path ops a0 m kind listed a (k+1) b' F'∧wpG P ops R w1 Fin (k+1) l Ks.tail F' b' ∧
    (Region.wanted o (yielded ops b.tmps)=true→match kind k with
     | none=>∃ v,∀ w',R w1 w'→depF F o w'→detAt P R o b w' v
     | some (.inl c)=>∀ w',R w1 w'→depF F o w'→growAt P R o b w' fun u _=>u=c
     | some (.inr Y)=>∀ w',R w1 w'→depF F o w'→growAt P R o b w' fun u=>Y (look ops b o) (rv o u)):=by
    unfold wpG at h
    split at h
    ·
     rename_i hw
     rw [hK0] at h
     cases hkd:kind k with
     | none =>
       rw [hkd] at h
       obtain ⟨v,hs,h⟩:=h
       refine ⟨_,F,hp.step C I hin hmk hk ho v fun hL d hd=>?_,h,fun _=>⟨v,hs⟩⟩
       obtain ⟨hA,hG⟩:=hp.agree C hk ho (hall hL)
       have:=I.vals k o ho hmk hL b hA
       unfold Holds at this
       rw [if_pos hw,hkd] at this
       exact (this v F hG hs d hd).symm
     | some x =>
       rw [hkd] at h
       cases x with
       | inl c =>
         obtain ⟨hs,h⟩:=h
         refine ⟨_,F,hp.step C I hin hmk hk ho c fun hL d hd=>?_,h,fun _=>hs⟩
         obtain ⟨hA,hG⟩:=hp.agree C hk ho (hall hL)
         have:=I.vals k o ho hmk hL b hA
         unfold Holds at this
         rw [if_pos hw,hkd] at this
         exact (this d hd).symm
       | inr Y =>
         obtain ⟨hs,h⟩:=h
         have hv:L listed k→∀ d,o.dst=some d→val a o=slot a d:=fun _ d hd=>by simp [val,hd]
         exact ⟨_,_,(hp.step C I hin hmk hk ho _ hv).fact hmk ho hkd _ fun hL=>⟨rfl,(hp.agree C hk ho (hall hL)).1,hw⟩,h _,fun _=>hs⟩
    · rename_i hw
      refine ⟨_,F,hp.step C I hin hmk hk ho undef fun hL d hd=>?_,h,fun hw'=>absurd hw' hw⟩
      have:=I.vals k o ho hmk hL b (hp.agree C hk ho (hall hL)).1
      unfold Holds at this
      rw [if_neg hw] at this
      exact (this d hd).symm
   obtain ⟨b',F',hp',h',hs⟩:=key
   obtain ⟨r1,r2⟩:=descend C hin I l (k+1) Ks.tail F' b' (by omega) (by omega) hl' hK' hp' h'
   refine ⟨fun i oi h1 h2 hoi hai=>?_,r2⟩
   by_cases e:i=k
   · subst e
     rw [ho] at hoi; cases hoi
     exact ⟨b,F,(hp.agree C h2 ho hai).1,(hp.agree C h2 ho hai).2,hs⟩
   · exact r1 i oi (by omega) h2 hoi hai
theorem Inv.settle {listed:Array Bool} {a:Act} {w:World} (I:Inv P ops R w1 a0 m n kind listed a w) (hall:∀ k,k < n→L listed k)
 {b:Act} {F:List (Nat×(World→Prop))} (hp:Path ops a0 m kind listed a n b F):b=a∧∀ p∈F,p.2 w:=by
 constructor
 ·
  have ht:b.tmps=a.tmps:=by
   apply Array.ext_getElem?
   intro s
   by_cases hj:∃ j,j < n∧D ops j=some s
   · obtain ⟨j,hj,hd⟩:=hj
     exact hp.same j hj (hall j hj) s hd
   · have hn:∀ j,j < n→D ops j≠some s:=fun j hj' hd=>hj ⟨j,hj',hd⟩
     rw [hp.other s (fun j _ hj=>hn j hj),I.slots s fun k _ hk=>hn k (I.head k hk)]
  have hd:b.defers=a.defers:=hp.defs.trans I.defs.symm
  cases a; cases b; simp_all
 ·
  intro p hpF
  obtain ⟨oj,Y,v,bj,hj,hoj,hkj,he,hL⟩:=hp.facts p hpF
  obtain ⟨hv,hbj,hw⟩:=hL (hall p.1 hj.2)
  have:=I.vals p.1 oj hoj hj.1 (hall p.1 hj.2) bj hbj
  unfold Holds at this
  rw [if_pos hw,hkj] at this
  rw [he,hv]; exact this
theorem left_low {listed:Array Bool} {m:Nat} (h:∀ k,L listed k↔k < m):∀ n,left listed n=n - m
 | 0=>by simp [left]
 | n+1=>by
   unfold left
   rw [left_low h n]
   by_cases hn:n < m
   · have:listed.getD n false=true:=(h n).2 hn
     rw [this]; simp; omega
   · have:¬ listed.getD n false=true:=fun h2=>hn ((h n).1 h2)
     rw [if_neg this]; omega
def St (P:Program) (ops:Array Oper) (Q:Exit→Act→World→Prop) (m:Nat) (a:Act) (w:World):Prop :=
 ∀ listed:Array Bool,listed.size=ops.size→(∀ k,L listed k↔k < m)→wpAny P .any ops Q (ops.size - m) listed a w
theorem wpAny_of_m (C:Chk ops m n) (hrf:∀ w:World,R w w) (htr:∀ u v w:World,R u v→R v w→R u w) (hstab:∀ k Y,kind k=some (.inr Y)→∀ l v w w',R w w'→Y l v w→Y l v w')
 (hin:∀ o d,o∈ops→o.dst=some d→d < a0.tmps.size) {Q:Exit→Act→World→Prop} {l:List Oper} (hll:m+l.length=n) (hl:∀ j,j < l.length→l[j]?=ops[m+j]?) {Ks:List Kind} (hK:∀ j,Ks.getD j none=kind (m+j))
 (h:wpG P ops R w1 (St P ops Q n) m l Ks [] a0) :
 ∀ (fuel:Nat) (listed:Array Bool) (a:Act) (w:World),fuel=left listed n+(ops.size - n)→Inv P ops R w1 a0 m n kind listed a w→wpAny P .any ops Q fuel listed a w:=by
 have first:∀ (listed:Array Bool) (a:Act) (w:World),Inv P ops R w1 a0 m n kind listed a w→Path ops a0 m kind listed a m a0 []:=fun listed a w I =>
  ⟨rfl,rfl,fun _ _=>rfl,fun j hj hL d hd=>(I.slots d fun k hk hLk hdk=>(by have:=C.uniq j k d (by have:=C.mn; omega) (I.head k hLk) hd hdk; omega)).symm,fun p hp=>by cases hp⟩
 have last:∀ (listed:Array Bool) (a:Act) (w:World),Inv P ops R w1 a0 m n kind listed a w→left listed n=0→wpAny P .any ops Q (ops.size - n) listed a w:=by
  intro listed a w I hz
  have hall:=left_none n hz
  obtain ⟨b,F,hp,hfin⟩:=(descend C hin I l m Ks [] a0 hll (Nat.le_refl _) hl hK (first _ _ _ I) h).2
  obtain ⟨rfl,hF⟩:=I.settle hall hp
  exact hfin w I.reach hF listed I.size fun k=>⟨I.head k,hall k⟩
 intro fuel
 induction fuel with
 | zero =>
   intro listed a w hf I
   have:=last listed a w I (by omega)
   rw [show ops.size - n=0 by omega] at this
   exact this
 | succ fuel ih =>
   intro listed a w hf I
   obtain ⟨hsp,b,F,hp,hfin⟩:=descend C hin I l m Ks [] a0 hll (Nat.le_refl _) hl hK (first _ _ _ I) h
   by_cases hz:left listed n=0
   · have:=last listed a w I hz
     rw [show ops.size - n=fuel+1 by omega] at this
     exact this
   ·
    obtain ⟨k,hkn,hkun,hklow⟩:=left_some n (by omega:0 < left listed n)
    have hks:k < ops.size:=by have:=C.le; omega
    refine ⟨fun hr=>?_,fun i hi=>?_⟩
    · have:k∈Region.ready .any ops listed:=(mem_ready' I.size).2 ⟨hkun,ops[k],Array.getElem?_eq_getElem hks,fun e he hb=>hklow _ (C.low k _ (Array.getElem?_eq_getElem hks) e he hb)⟩
      rw [hr] at this; cases this
    ·
     obtain ⟨hiun,o,ho,hall⟩:=(mem_ready' I.size).1 hi
     have his:=(Array.getElem?_eq_some_iff.1 ho).1
     have hmi:m≤i:=Nat.le_of_not_lt fun h=>hiun (I.lowL i h)
     have hin':i < n:=by
      by_cases hlt:i < n
      · exact hlt
      ·
       -- one of the first n is still to come: it is waited for, by the n-th at the furthest
       rcases C.waits with hw | hw
       · omega
       ·
        have top:∀ d h,h < n→n - h≤d→L listed h∨(∃ h',h≤h'∧h' < n∧¬ L listed h'∧∃ o,ops[n]?=some o∧bound o h'=true):=by
         intro d
         induction d with
         | zero=>intro h h1 h2; omega
         | succ d ihd =>
           intro h h1 h2
           by_cases hLh:L listed h
           · exact .inl hLh
           · have hmh:m≤h:=Nat.le_of_not_lt fun h3=>hLh (I.lowL h h3)
             obtain ⟨j,oj,h3,h4,hoj,hb⟩:=hw h hmh h1
             by_cases hjn:j=n
             · exact .inr ⟨h,Nat.le_refl _,h1,hLh,oj,hjn ▸ hoj,hb⟩
             · rcases ihd j (by omega) (by omega) with h5 | ⟨h',a1,a2,a3,a4⟩
               · obtain ⟨e,he,hbe,hon⟩:=bound_spec hb
                 exact absurd (hon ▸ I.closed j oj hoj h5 e he hbe) hLh
               · exact .inr ⟨h',by omega,a2,a3,a4⟩
        rcases top (n - k) k hkn (Nat.le_refl _) with h5 | ⟨h',_,a2,a3,on,hon,hb⟩
        · exact absurd h5 hkun
        · by_cases hie:i=n
          · subst hie
            rw [ho] at hon; cases hon
            obtain ⟨e,he,hbe,hon⟩:=bound_spec hb
            exact absurd (hon ▸ hall e he hbe) a3
          · obtain ⟨j,h6,h7,h8⟩:=C.seq i o (by omega) ho
            obtain ⟨e,he,hbe,hon2⟩:=bound_spec h8
            have:=I.head j (hon2 ▸ hall e he hbe)
            omega
     obtain ⟨b',F',hA,hG,hspec⟩:=hsp i o (by omega) hin' ho hall
     have hsel:=fun cs c=>C.sel i o cs c ho
     have hab:∀ s∈o.looksAt ops,a.tmps[s]?=b'.tmps[s]?:=by
      intro s hs
      by_cases hj:∃ j,j < i∧D ops j=some s
      · obtain ⟨j,hj,hd⟩:=hj
        exact (hA.1 s hs j hj hd).symm
      · have hn':∀ j,j < i→D ops j≠some s:=fun j hj' hd=>hj ⟨j,hj',hd⟩
        rw [hA.2 s hs hn']
        refine I.slots s fun j _ hLj hd=>?_
        rcases C.looks i o s j hin' ho hs (I.head j hLj) hd with hij | hij | ⟨q,hq,hij⟩
        · subst hij; exact hiun hLj
        · exact hn' j (bound_lt C ho hij) hd
        · obtain ⟨e,he,hb,rfl⟩:=bound_spec hij
          exact hiun (I.closed j q hq hLj e he hb)
     obtain ⟨hex,hwa⟩:=look_congr (ops:=ops) hsel hab
     have hdep:=depF_of I hall hG
     have hfuel:fuel=left (listed.setIfInBounds i true) n+(ops.size - n):=by
      have:=left_set (listed:=listed) (by rw [I.size]; exact his) hiun n hin'; omega
     have same:∀ (v:Value) b,Agree ops a0 (a.put o.dst v) b i o→execOp b.eval o=execOp b'.eval o∧Region.wanted o (yielded ops b.tmps)=Region.wanted o (yielded ops b'.tmps)∧look ops b o=look ops b' o:=by
      intro v b hb
      have hb2:Agree ops a0 a b i o:=by
       refine ⟨fun s hs j hj hd=>?_,hb.2⟩
       rw [hb.1 s hs j hj hd]
       refine put_get_ne fun e=>?_
       have:j=i:=C.uniq j i s (by omega) hin' hd (by simp [D,ho,e])
       omega
      obtain ⟨q1,q2⟩:=look_congr hsel (hb2.same hA)
      exact ⟨q1,q2,List.map_congr_left (hb2.same hA)⟩
     have good:∀ (v:Value) F,GoodF ops a0 m kind (a.put o.dst v) i o F→GoodF ops a0 m kind a i o F:=by
      intro v F hF p hp hl
      obtain ⟨oj,Y,bj,hj,hoj,hkj,hbj,hwj,he⟩:=hF p hp hl
      have hne:∀ d,oj.dst=some d→o.dst≠some d:=fun d hd e=>by
       have:p.1=i:=C.uniq p.1 i d (by omega) hin' (by simp [D,hoj,hd]) (by simp [D,ho,e])
       omega
      refine ⟨oj,Y,bj,hj,hoj,hkj,⟨fun s hs j' hj' hd'=>?_,hbj.2⟩,hwj,by rw [he,val_put hne]⟩
      rw [hbj.1 s hs j' hj' hd']
      refine put_get_ne fun e=>?_
      have:j'=i:=C.uniq j' i s (by omega) hin' hd' (by simp [D,ho,e])
      subst this
      omega
     have hd1:∀ d,o.dst=some d→d < a.tmps.size:=fun d hd=>by rw [I.tsz]; exact hin o d (Array.mem_of_getElem? ho) hd
     unfold wpOp
     simp only [ho]
     split
     ·
      rename_i hw
      have hwb:Region.wanted o (yielded ops b'.tmps)=true:=by rw [← hwa]; exact hw
      have hspec:=hspec hwb
      refine .inl ?_
      cases hkd:kind i with
      | none =>
        rw [hkd] at hspec
        obtain ⟨v,hs⟩:=hspec
        have hd:detAt P R o a w v:=by unfold detAt; rw [hex]; exact hs w I.reach hdep
        refine wp_of_det hd fun w' hR=>ih _ _ _ hfuel (I.step C htr hstab hin' ho hiun hall hR fun b hb=>?_)
        obtain ⟨e1,e2,_⟩:=same v b hb
        unfold Holds
        rw [if_pos (by rw [e2]; exact hwb),hkd]
        intro v' F2 hF2 hs2 d hdd
        have h1:=hs w I.reach hdep
        have h2:=hs2 w I.reach (depF_of I hall (good v F2 hF2))
        unfold detAt at h1 h2
        rw [e1] at h2
        rw [hdd,put_slot (hd1 d hdd)]
        generalize (execOp b'.eval o).run P w=r at h1 h2
        cases r with
        | ok x w'' =>
          cases x <;> simp only [detUpon] at h1 h2
          case value u=>rw [← h1.1,h2.1]
          case skip=>rw [← h1.1,h2.1]
        | halt x w''=>simp only [detUpon] at h1
      | some x =>
        rw [hkd] at hspec
        cases x with
        | inl c =>
          have hg:growAt P R o a w fun u _=>u=c:=by unfold growAt; rw [hex]; exact hspec w I.reach hdep
          refine wp_of_grow hg fun v w' hv hR=>ih _ _ _ hfuel (I.step C htr hstab hin' ho hiun hall hR fun b hb=>?_)
          obtain ⟨e1,e2,_⟩:=same v b hb
          unfold Holds
          rw [if_pos (by rw [e2]; exact hwb),hkd]
          intro d hdd
          rw [hdd,put_slot (hd1 d hdd)]; exact hv
        | inr Y =>
          have hg:growAt P R o a w fun u=>Y (look ops b' o) (rv o u):=by unfold growAt; rw [hex]; exact hspec w I.reach hdep
          refine wp_of_grow hg fun v w' hv hR=>ih _ _ _ hfuel (I.step C htr hstab hin' ho hiun hall hR fun b hb=>?_)
          obtain ⟨e1,e2,_⟩:=same v b hb
          unfold Holds
          rw [if_pos (by rw [e2]; exact hwb),hkd]
          show Y (look ops b o) (val _ o) w'
          rw [(same v b hb).2.2]
          have hvv:val (a.put o.dst v) o=rv o v:=by
           unfold val rv
           cases hdd:o.dst with
           | none=>rfl
           | some d=>exact put_slot (hd1 d hdd)
          rw [hvv]; exact hv
     ·
      rename_i hw
      have hwb:¬ Region.wanted o (yielded ops b'.tmps)=true:=by rw [← hwa]; exact hw
      refine ih _ _ _ hfuel (I.step C htr hstab hin' ho hiun hall (hrf w) fun b hb=>?_)
      obtain ⟨e1,e2,_⟩:=same undef b hb
      unfold Holds
      rw [if_neg (by rw [e2]; exact hwb)]
      intro d hdd
      rw [hdd,put_slot (hd1 d hdd)]
variable {Q:Exit→Act→World→Prop}
theorem st_grow {a:Act} {w:World} (n:Nat) (Ks:List Kind) (R:World→World→Prop) {l:List Oper} {m:Nat}
 (hB:gM l.toArray m n=true) (hin:inB l.toArray a=true) (hrf:∀ w:World,R w w) (htr:∀ u v w:World,R u v→R v w→R u w)
 (hstab:∀ K∈Ks,∀ Y,K=some (.inr Y)→∀ l v w w',R w w'→Y l v w→Y l v w')
 (h:wpG P l.toArray R w (St P l.toArray Q n) m ((l.drop m).take (n - m)) Ks [] a):St P l.toArray Q m a w:=by
 have C:=Chk.of hB
 have hle:n≤l.length:=by have:=C.le; simpa using this
 have hmn:=C.mn
 have hin':∀ o d,o∈l.toArray→o.dst=some d→d < a.tmps.size:=by
  intro o d ho hd
  unfold inB at hin
  have:=Array.all_eq_true_iff_forall_mem.1 hin o ho
  simpa [hd] using this
 intro listed hs hL
 refine wpAny_of_m (R:=R) (w1:=w) (a0:=a) (m:=m) (n:=n) (kind:=fun k=>if m≤k then Ks.getD (k - m) none else none) C hrf htr (fun k Y hk l v w w' hR hY=>?_) hin' (l:=(l.drop m).take (n - m)) (Ks:=Ks)
  (by simp; omega) (fun j hj=>?_) (fun j=>by simp) h _ _ _ _ ?_ ?_
 ·
  split at hk
  ·
   have hlt:k - m < Ks.length:=by
    rcases Nat.lt_or_ge (k - m) Ks.length with h | h
    · exact h
    · simp [List.getD,List.getElem?_eq_none h] at hk
   have hmem:(some (.inr Y):Kind)∈Ks:=by
    rw [← hk,List.getD_eq_getElem?_getD,List.getElem?_eq_getElem hlt]; exact List.getElem_mem hlt
   exact hstab _ hmem Y rfl l v w w' hR hY
  · cases hk
 · have:j < n - m:=by simp at hj; omega
   simp [this]
 · rw [left_low hL n]
   have:l.toArray.size=l.length:=rfl
   omega
 · exact ⟨hs,hrf _,rfl,rfl,fun k o ho hk e he hb=>(hL _).2 (by have:=C.low k o ho e he hb; have:=(hL k).1 hk; omega),fun _ _=>rfl,fun k hk=>by have:=(hL k).1 hk; omega,
    fun k o ho hmk hk=>by have:=(hL k).1 hk; omega,fun k hk=>(hL k).2 hk⟩
theorem st_call {a:Act} {w:World} {l:List Oper} {m:Nat} {o:Oper} (Y:Value→World→Prop) (hB:(chk1 l.toArray && chkS l.toArray m)=true) (ho:l[m]?=some o) (hw:Region.wanted o (yielded l.toArray a.tmps)=true)
 (h:growAt P (fun _ _=>True) o a w Y) (hK:∀ v w',Y v w'→St P l.toArray Q (m+1) (a.put o.dst v) w'):St P l.toArray Q m a w:=by
 rw [Bool.and_eq_true] at hB
 intro listed hs hL
 have hml:m < l.length:=(List.getElem?_eq_some_iff.1 ho).1
 have ho':l.toArray[m]?=some o:=by simpa using ho
 obtain ⟨f,hf⟩:∃ f,l.toArray.size - m=f+1:=⟨l.length - m - 1,by simp; omega⟩
 rw [hf]
 have hlow:∀ e∈o.after,Region.binds .any e=true→e.on < m:=by
  intro e he hb
  have:=List.all_eq_true.1 hB.1 m (List.mem_range.2 (by simpa using hml))
  simp only [ho',Option.map_some,Option.getD_some] at this
  have:=Array.all_eq_true_iff_forall_mem.1 this e he
  simpa [hb] using this
 have hmr:m∈Region.ready .any l.toArray listed:=(mem_ready' hs).2 ⟨fun h=>by have:=(hL m).1 h; omega,o,ho',fun e he hb=>(hL _).2 (hlow e he hb)⟩
 refine ⟨fun h0=>(by rw [h0] at hmr; cases hmr),fun i hi=>?_⟩
 obtain ⟨h0,oi,hoi,hall⟩:=(mem_ready' hs).1 hi
 have hilt:=(Array.getElem?_eq_some_iff.1 hoi).1
 have him:i=m:=by
  by_cases e:i=m
  · exact e
  ·
   have hge:¬ i < m:=fun h=>h0 ((hL i).2 h)
   have:=List.all_eq_true.1 hB.2 i (List.mem_range.2 hilt)
   rw [Bool.or_eq_true,decide_eq_true_eq] at this
   have:=this.resolve_left (by omega)
   rw [hoi] at this
   obtain ⟨j,hj,hb⟩:=List.any_eq_true.1 (show ((List.range i).any fun j=>decide (m≤j) && bound oi j)=true from this)
   rw [Bool.and_eq_true,decide_eq_true_eq] at hb
   obtain ⟨e',he,hb2,hon⟩:=bound_spec hb.2
   have:=(hL j).1 (hon ▸ hall e' he hb2)
   omega
 subst him
 unfold wpOp
 simp only [ho',hw,if_true]
 refine .inl (wp_of_grow h fun v w' hv _=>?_)
 have:=hK v w' hv (listed.setIfInBounds i true) (by simpa using hs) fun k=>by
  rw [getD_set (by rw [hs]; simpa using hml),hL k]; omega
 rw [show l.toArray.size - (i+1)=f by omega] at this
 exact this
theorem st_end {a:Act} {w:World} {l:List Oper} {m:Nat} (hm:m=l.length) (h:wpList P l.toArray Q [] a w):St P l.toArray Q m a w:=by
 subst hm
 intro listed hs hL
 rw [show l.toArray.size - l.length=0 by simp]
 refine ⟨List.eq_nil_iff_forall_not_mem.2 fun j hj=>?_,h⟩
 obtain ⟨h0,o,ho,_⟩:=(mem_ready' hs).1 hj
 exact h0 ((hL j).2 (by have:=(Array.getElem?_eq_some_iff.1 ho).1; simpa using this))
theorem wp_region_s {id:Nat} {l:List Oper} {a:Act} {w:World} (hm:P.follows .mixedOrders=true) (h:St P l.toArray Q 0 a w.drew):(Code.region id l.toArray true).wp P Q a w:=by
 refine wp_region_any hm ?_
 refine h _ (by simp) fun k=>⟨fun hk=>?_,fun hk=>by omega⟩
 unfold L at hk
 simp only [Array.getD_eq_getD_getElem?,Array.getElem?_replicate] at hk
 split at hk <;> simp at hk
end
end Go.Proofs.YtnoehodmmkioaaaGreatDoor.GrowM
namespace Go.Proofs.YtnoehodmmkioaaaGreatDoor.TapeW
open Go.RowKit Go.MapKept OctMath RecMath RecW TapeMath DskW SegW MapG
theorem tread_any {base:Nat} {T:TapeD} (id:Nat) (m:Msg) (W:World) (h:TapeAt base W T) (hup:T.D.down=false) (hT:TabB base W) (hbase:base≤W.heap.size) (hm:(id,m)∈T.O.recs) :
 Calls Tryz.prog 71 #[.pointer (some ⟨T.O.blk,0,none⟩),.int .i64 (id:Int)] W fun e w'=>∃ a c,e=.returned (.tuple #[.agg (cellsM m a c),.int .i64 0])∧Strs w' a (m.keys.map S)∧Below W.heap.size W w'∧∀ ad,a=some ad→W.heap.size≤ad.block:=by
 obtain ⟨r1,r2⟩:=read_rec h hup hm
 obtain ⟨g1,g2,g3,g4,g5,g6⟩:=lies_rec h hm
 obtain ⟨hl1,hl2⟩:=rec_len g1 g2
 have hp:=rec_pos m
 have hsr:=size_rec (recs_nodup h) hm
 have hel:=h.whole.seg.e_le
 obtain ⟨w1,hw1⟩:∃ w1:World,w1=W.alloc (.cells #[.int .i64 0,.int .i64 0,.int .i64 0,.int .i64 0,.int .i64 0,.int .i64 0,.string ⟨#[]⟩,.string ⟨#[]⟩,.string ⟨#[]⟩,.slice none 0 0] 53):=⟨_,rfl⟩
 have hb1:Below W.heap.size W w1:=by rw [hw1]; exact (Below.refl _ _).alloc (Nat.le_refl _) _
 have HT1:=Lib.hid (h.below hb1)
 have HTB:=Lib.hid (hT.below hb1)
 have HZ1:Hid (w1.heap[W.heap.size]?=some (.cells (cellsM noMsg none 0) 53 (0,0))):=by rw [hw1]; exact heap_alloc_new W _
 have HBW:Hid (Below W.heap.size W w1):=hb1
 have HBE:=Lib.hid (SegW.begin_any w1 HT1.out.whole.seg)
 have c0:w1.cell? ⟨T.O.blk,0,none⟩=some (.pointer (some ⟨T.R.blk,0,none⟩)):=HT1.out.c0
 have c3:w1.cell? ⟨T.O.blk,3,none⟩=some (.map (some T.O.mB)):=HT1.out.own.cell 3 _ rfl
 have hlk:=lookupS HT1.out.own (id:Int)
 rw [hsr] at hlk
 have HC0:Hid (∀ w,Below w1.heap.size w1 w→w.cell? ⟨T.O.blk,0,none⟩=some (.pointer (some ⟨T.R.blk,0,none⟩))):=fun w hb=>(HT1.out.below hb).c0
 have HC1:Hid (∀ w,Below w1.heap.size w1 w→w.cell? ⟨T.O.blk,1,none⟩=some (.pointer (some ⟨T.O.sums,0,none⟩))):=fun w hb=>(HT1.out.below hb).own.cell 1 _ rfl
 have HC3:Hid (∀ w,Below w1.heap.size w1 w→w.cell? ⟨T.O.blk,3,none⟩=some (.map (some T.O.mB))):=fun w hb=>(HT1.out.below hb).own.cell 3 _ rfl
 have HLK:Hid (∀ w,Below w1.heap.size w1 w→(Instr.lookup 82 (.map (some T.O.mB)) (.int .i64 (id:Int)) false).run Tryz.prog w=.ok (.int .i64 ((recL m).length:Int)) w):=fun w hb=>by
  have:=lookupS (HT1.out.below hb).own (id:Int)
  rw [hsr] at this; exact this
 have HRD:Hid (∀ w,Below w1.heap.size w1 w→Calls Tryz.prog 82 #[.pointer (some ⟨T.R.blk,0,none⟩),.int .i64 (id:Int),.int .i64 ((recL m).length:Int)] w fun e w'=>e=.returned (.tuple #[.string (S (recL m)),.int .i64 0])∧Below w.heap.size w w'):=fun w hb=>by
  have:=SegW.read_any (id:Int) ((recL m).length:Int) (by omega) (by omega) w (HTB.out.below hb).tab (HT1.out.below hb).whole.seg (HT1.out.below hb).whole.dsk h.whole.db h.whole.ok
  rw [r1,r2] at this; exact this
 have HGE:Hid (∀ w,Below w1.heap.size w1 w→Calls Tryz.prog 130 #[.pointer (some ⟨T.O.sums,0,none⟩),.string (S (recL m))] w fun e w'=>∃ a c,e=.returned (.tuple #[.agg #[.int .i64 m.kind,.int .i64 m.queue,.int .i64 m.due,.int .i64 m.retry,.int .i64 m.ref,.int .i64 m.born,.string (S m.topic),.string (S m.tag),.string (S m.body),.slice a m.keys.length c],.int .i64 ((recL m).length:Int),.int .i64 0])∧Strs w' a (m.keys.map S)∧Below w.heap.size w w'∧∀ ad,a=some ad→w.heap.size≤ad.block):=fun w hb=>by
  have:=get_one T.O.sums m g1 g2 [] (by simp) w (HT1.out.below hb).own.low.1 (HT1.out.below hb).own.tabs
  rw [List.append_nil] at this; exact this
 have hbi:¬ (id:Int) < (T.R.b:Int):=by omega
 have hli:¬ ((recL m).length:Int)=0:=by omega
 clear h hT hm r1 r2 g1 g2 g4 g5 g6 hl1 hsr hb1 hl2 hup
 generalize hpl:recL m=pl at *
 clear hpl
 go_enter Tryz.func71,Tryz.ntmps71
 go_upto_region 1 with fail
 rw [← hw1]
 obtain ⟨Bt,hBt⟩:∃ B,W.heap.size=B:=⟨_,rfl⟩
 rw [hBt] at HZ1 ⊢
 have HBT:=Lib.hid hBt
 clear hw1 hBt
 go_wp2_with fail
 refine HBE.out.mono ?_
 rintro e w1 ⟨rfl,rfl⟩
 clear HBE
 go_wp2_with fail
 refine GrowN.wp_region_n 17 [none,none,none,none,none,none,none,none,none,none,none,some (.inl (.tuple #[.string (S pl),.int .i64 0])),none,none,none,none,none] (RecW.ExtR) (by kernel_rfl) (by kernel_rfl) (by kernel_rfl) (RecW.ExtR.refl) (fun _ _ _=>RecW.ExtR.trans) ?_ ?_
 · exact GrowN.stab0 rfl
 simp only [List.take_succ_cons,List.take_zero,List.drop_succ_cons,List.drop_zero]
 iterate 3
  refine GrowN.g_det rfl ?_
  apply Exists.intro
  refine ⟨fun w hw hF=>?_,?_⟩
  · clear hF
    go_simp
    exact ⟨rfl,RecW.ExtR.refl _⟩
  go_frame
 refine GrowN.g_det rfl ?_
 apply Exists.intro
 refine ⟨fun w hw hF=>?_,?_⟩
 ·
  clear hF
  have hb:=(Below.refl w1.heap.size w1).drew.trans hw
  have c0:=HC0.out w hb
  go_simp
  exact ⟨rfl,RecW.ExtR.refl _⟩
 iterate 4
  go_frame
  refine GrowN.g_det rfl ?_
  apply Exists.intro
  refine ⟨fun w hw hF=>?_,?_⟩
  · clear hF
    go_simp
    exact ⟨rfl,RecW.ExtR.refl _⟩
 go_frame
 refine GrowN.g_det rfl ?_
 apply Exists.intro
 refine ⟨fun w hw hF=>?_,?_⟩
 ·
  clear hF
  have hb:=(Below.refl w1.heap.size w1).drew.trans hw
  have c3:=HC3.out w hb
  go_simp
  exact ⟨rfl,RecW.ExtR.refl _⟩
 go_frame
 refine GrowN.g_det rfl ?_
 apply Exists.intro
 refine ⟨fun w hw hF=>?_,?_⟩
 · clear hF
   go_simp
   exact ⟨rfl,RecW.ExtR.refl _⟩
 go_frame
 refine GrowN.g_det rfl ?_
 apply Exists.intro
 refine ⟨fun w hw hF=>?_,?_⟩
 ·
  clear hF
  have hb:=(Below.refl w1.heap.size w1).drew.trans hw
  have hl:=HLK.out w hb
  go_simp
  exact ⟨rfl,RecW.ExtR.refl _⟩
 go_frame
 refine GrowN.g_con rfl (fun w hw hF=>?_) ?_
 ·
  clear hF
  have hb:=(Below.refl w1.heap.size w1).drew.trans hw
  go_simp
  exact (HRD.out w hb).mono fun e w3 h=>⟨_,h.1,rfl,h.2⟩
 iterate 5
  go_frame
  refine GrowN.g_det rfl ?_
  apply Exists.intro
  refine ⟨fun w hw hF=>?_,?_⟩
  · clear hF
    go_simp
    exact ⟨rfl,RecW.ExtR.refl _⟩
 go_frame
 refine GrowN.g_nil fun w2 hw2 hF=>?_
 clear hF
 have HB2:=Lib.hid ((Below.refl w1.heap.size w1).drew.trans hw2)
 clear hw2 HC0 HC3 HLK HRD
 have c1:=HC1.out w2 HB2.out
 go_wp2_with fail
 refine (HGE.out w2 HB2.out).mono ?_
 rintro e w7 ⟨a,c,rfl,hst,hb,had⟩
 have HB7:=Lib.hid (HB2.out.trans (hb.mono HB2.out.size))
 have HST:=Lib.hid hst
 have HAD:Hid (∀ ad,a=some ad→w1.heap.size≤ad.block):=fun ad e=>Nat.le_trans HB2.out.size (had ad e)
 clear hb hst had HGE c1 HB2 c0 c3
 go_upto_region 11 with fail
 have HB8:Hid (Below w7.heap.size w7 (w7.alloc (.cells #[.int .i64 m.kind,.int .i64 m.queue,.int .i64 m.due,.int .i64 m.retry,.int .i64 m.ref,.int .i64 m.born,.string (S m.topic),.string (S m.tag),.string (S m.body),.slice a m.keys.length c] 53))):=(Below.refl w7.heap.size w7).alloc (Nat.le_refl _) _
 have HW8:Hid ((w7.alloc (.cells #[.int .i64 m.kind,.int .i64 m.queue,.int .i64 m.due,.int .i64 m.retry,.int .i64 m.ref,.int .i64 m.born,.string (S m.topic),.string (S m.tag),.string (S m.body),.slice a m.keys.length c] 53)).heap[Bt]?=some (.cells (cellsM noMsg none 0) 53 (0,0))):=by
  show _=_
  have h1:=HB7.out.block Bt (Array.getElem?_eq_some_iff.1 HZ1.out).1
  rw [HB8.out.block Bt (by have:=(Array.getElem?_eq_some_iff.1 HZ1.out).1; have:=HB7.out.size; omega),h1]; exact HZ1.out
 have HN8:Hid ((w7.alloc (.cells #[.int .i64 m.kind,.int .i64 m.queue,.int .i64 m.due,.int .i64 m.retry,.int .i64 m.ref,.int .i64 m.born,.string (S m.topic),.string (S m.tag),.string (S m.body),.slice a m.keys.length c] 53)).heap[w7.heap.size]?=some (.cells #[.int .i64 m.kind,.int .i64 m.queue,.int .i64 m.due,.int .i64 m.retry,.int .i64 m.ref,.int .i64 m.born,.string (S m.topic),.string (S m.tag),.string (S m.body),.slice a m.keys.length c] 53 (0,0))):=heap_alloc_new w7 _
 have HS8:=Lib.hid (Strs.below HST.out HB8.out)
 have HBB:Hid (Below W.heap.size W (w7.alloc (.cells #[.int .i64 m.kind,.int .i64 m.queue,.int .i64 m.due,.int .i64 m.retry,.int .i64 m.ref,.int .i64 m.born,.string (S m.topic),.string (S m.tag),.string (S m.body),.slice a m.keys.length c] 53))):=HBW.out.trans ((HB7.out.trans (HB8.out.mono HB7.out.size)).mono HBW.out.size)
 generalize hw8:w7.alloc (.cells #[.int .i64 m.kind,.int .i64 m.queue,.int .i64 m.due,.int .i64 m.retry,.int .i64 m.ref,.int .i64 m.born,.string (S m.topic),.string (S m.tag),.string (S m.body),.slice a m.keys.length c] 53)=w8 at *
 obtain ⟨Bn,hBn⟩:∃ B,w7.heap.size=B:=⟨_,rfl⟩
 rw [hBn] at HN8 ⊢
 clear hBn hw8 HST HB8
 have k0:w8.cell? ⟨Bt,0,none⟩=some (.int .i64 0):=by rw [Lib.cell_of_heap HW8.out]; rfl
 have k1:w8.cell? ⟨Bt,1,none⟩=some (.int .i64 0):=by rw [Lib.cell_of_heap HW8.out]; rfl
 have k2:w8.cell? ⟨Bt,2,none⟩=some (.int .i64 0):=by rw [Lib.cell_of_heap HW8.out]; rfl
 have k3:w8.cell? ⟨Bt,3,none⟩=some (.int .i64 0):=by rw [Lib.cell_of_heap HW8.out]; rfl
 have k4:w8.cell? ⟨Bt,4,none⟩=some (.int .i64 0):=by rw [Lib.cell_of_heap HW8.out]; rfl
 have k5:w8.cell? ⟨Bt,5,none⟩=some (.int .i64 0):=by rw [Lib.cell_of_heap HW8.out]; rfl
 have k6:w8.cell? ⟨Bt,6,none⟩=some (.string ⟨#[]⟩):=by rw [Lib.cell_of_heap HW8.out]; rfl
 have k7:w8.cell? ⟨Bt,7,none⟩=some (.string ⟨#[]⟩):=by rw [Lib.cell_of_heap HW8.out]; rfl
 have k8:w8.cell? ⟨Bt,8,none⟩=some (.string ⟨#[]⟩):=by rw [Lib.cell_of_heap HW8.out]; rfl
 have k9:w8.cell? ⟨Bt,9,none⟩=some (.slice none 0 0):=by rw [Lib.cell_of_heap HW8.out]; rfl
 have n0:w8.cell? ⟨Bn,0,none⟩=some (.int .i64 m.kind):=by rw [Lib.cell_of_heap HN8.out]; rfl
 have n1:w8.cell? ⟨Bn,1,none⟩=some (.int .i64 m.queue):=by rw [Lib.cell_of_heap HN8.out]; rfl
 have n2:w8.cell? ⟨Bn,2,none⟩=some (.int .i64 m.due):=by rw [Lib.cell_of_heap HN8.out]; rfl
 have n3:w8.cell? ⟨Bn,3,none⟩=some (.int .i64 m.retry):=by rw [Lib.cell_of_heap HN8.out]; rfl
 have n4:w8.cell? ⟨Bn,4,none⟩=some (.int .i64 m.ref):=by rw [Lib.cell_of_heap HN8.out]; rfl
 have n5:w8.cell? ⟨Bn,5,none⟩=some (.int .i64 m.born):=by rw [Lib.cell_of_heap HN8.out]; rfl
 have n6:w8.cell? ⟨Bn,6,none⟩=some (.string (S m.topic)):=by rw [Lib.cell_of_heap HN8.out]; rfl
 have n7:w8.cell? ⟨Bn,7,none⟩=some (.string (S m.tag)):=by rw [Lib.cell_of_heap HN8.out]; rfl
 have n8:w8.cell? ⟨Bn,8,none⟩=some (.string (S m.body)):=by rw [Lib.cell_of_heap HN8.out]; rfl
 have n9:w8.cell? ⟨Bn,9,none⟩=some (.slice a m.keys.length c):=by rw [Lib.cell_of_heap HN8.out]; rfl
 have hfr:∀ j,w8.frozen? ⟨Bt,j,none⟩=false:=fun j=>Lib.frozen_of_heap HW8.out j
 have HH:=Lib.hid (put10_heap (z:=cellsM noMsg none 0) rfl HW8.out (.int .i64 m.kind) (.int .i64 m.queue) (.int .i64 m.due) (.int .i64 m.retry) (.int .i64 m.ref) (.int .i64 m.born) (.string (S m.topic)) (.string (S m.tag)) (.string (S m.body)) (.slice a m.keys.length c))
 have HBM:=Lib.hid (put10_mod w8 Bt (.int .i64 m.kind) (.int .i64 m.queue) (.int .i64 m.due) (.int .i64 m.retry) (.int .i64 m.ref) (.int .i64 m.born) (.string (S m.topic)) (.string (S m.tag)) (.string (S m.body)) (.slice a m.keys.length c))
 go_wp2_with fail
 clear k0 k1 k2 k3 k4 k5 k6 k7 k8 k9 hfr n0 n1 n2 n3 n4 n5 n6 n7 n8 n9
 change bodyPost _ _ _ _ _ (put10 w8 Bt (.int .i64 m.kind) (.int .i64 m.queue) (.int .i64 m.due) (.int .i64 m.retry) (.int .i64 m.ref) (.int .i64 m.born) (.string (S m.topic)) (.string (S m.tag)) (.string (S m.body)) (.slice a m.keys.length c))
 generalize put10 w8 Bt (.int .i64 m.kind) (.int .i64 m.queue) (.int .i64 m.due) (.int .i64 m.retry) (.int .i64 m.ref) (.int .i64 m.born) (.string (S m.topic)) (.string (S m.tag)) (.string (S m.body)) (.slice a m.keys.length c)=w9 at *
 have hz9:=HH.out
 have c0:w9.cell? ⟨Bt,0,none⟩=some (.int .i64 m.kind):=by rw [Lib.cell_of_heap hz9]; rfl
 have c1:w9.cell? ⟨Bt,1,none⟩=some (.int .i64 m.queue):=by rw [Lib.cell_of_heap hz9]; rfl
 have c2:w9.cell? ⟨Bt,2,none⟩=some (.int .i64 m.due):=by rw [Lib.cell_of_heap hz9]; rfl
 have c3:w9.cell? ⟨Bt,3,none⟩=some (.int .i64 m.retry):=by rw [Lib.cell_of_heap hz9]; rfl
 have c4:w9.cell? ⟨Bt,4,none⟩=some (.int .i64 m.ref):=by rw [Lib.cell_of_heap hz9]; rfl
 have c5:w9.cell? ⟨Bt,5,none⟩=some (.int .i64 m.born):=by rw [Lib.cell_of_heap hz9]; rfl
 have c6:w9.cell? ⟨Bt,6,none⟩=some (.string (S m.topic)):=by rw [Lib.cell_of_heap hz9]; rfl
 have c7:w9.cell? ⟨Bt,7,none⟩=some (.string (S m.tag)):=by rw [Lib.cell_of_heap hz9]; rfl
 have c8:w9.cell? ⟨Bt,8,none⟩=some (.string (S m.body)):=by rw [Lib.cell_of_heap hz9]; rfl
 have c9:w9.cell? ⟨Bt,9,none⟩=some (.slice a m.keys.length c):=by rw [Lib.cell_of_heap hz9]; rfl
 have hbb:Below W.heap.size W w9:=HBB.out.trans (HBM.out.to_below _ HBB.out.size (fun k e=>by rw [e,← HBT.out]; exact Nat.le_refl _))
 refine bodyPost_ret (v:=.tuple #[.agg #[.int .i64 m.kind,.int .i64 m.queue,.int .i64 m.due,.int .i64 m.retry,.int .i64 m.ref,.int .i64 m.born,.string (S m.topic),.string (S m.tag),.string (S m.body),.slice a m.keys.length c],.int .i64 0]) ?_ rfl ⟨a,c,rfl,?_,hbb,fun ad e=>by have h1:=HAD.out ad e; have h2:=HBW.out.size; omega⟩
 · clear hz9
   simp [results,Tryz.results71,go_sem,c0,c1,c2,c3,c4,c5,c6,c7,c8,c9]
 · exact strs_over HS8.out HBM.out (fun ad e _=>by have h1:=HAD.out ad e; have h2:=(Array.getElem?_eq_some_iff.1 HZ1.out).1; omega)
def idI (l:List (Nat×Msg)):List Int:=l.map fun p=>(p.1:Int)
def placeL (l:List (Nat×Msg)) (p:Int):Nat:=(idI l).countP (· < p)
theorem placeL_le (l:List (Nat×Msg)) (p:Int):placeL l p≤l.length:=by
 unfold placeL
 have:=List.countP_le_length (p:=fun x:Int=>decide (x < p)) (l:=idI l)
 unfold idI at this ⊢
 rw [List.length_map] at this; exact this
theorem place_any {base:Nat} {T:OwnD} (p:Int) (w:World) (h:OwnAt base w T) (hs:(T.recs.map (·.1)).Pairwise (· < ·)) (hl:T.recs.length≤1073741824) :
 Calls Tryz.prog 25 #[.pointer (some ⟨T.blk,0,none⟩),.int .i64 p] w fun e w'=>e=.returned (.int .i64 ((placeL T.recs p:Nat):Int))∧Drawn w w':=by
 have HBS:Hid (∃ bo:Bool,Calls Tryz.prog 46 #[T.idv,.int .i64 p] w fun e w'=>e=.returned (.tuple #[.int .i64 ((placeL T.recs p:Nat):Int),.bool bo])∧Drawn w w'):=by
  show ∃ bo,_
  by_cases h0:T.recs=[]
  · obtain ⟨a,c,hv⟩:=own_slice h.ids
    have hz:placeL T.recs p=0:=by rw [h0]; rfl
    rw [hv,hz,h0]
    exact ⟨false,(Tryz.slices_BinarySearch_int_empty a c p w).mono fun e w' h=>⟨h.1,h.2 ▸ Drawn.refl _⟩⟩
  ·
   have hpos:0 < T.recs.length:=List.length_pos_iff.2 h0
   have hcs:∀ i (hi:i < T.recs.length),∃ g cap,T.idv=.slice (some ⟨g,0,none⟩) T.recs.length cap∧T.recs.length≤cap∧w.cell? ⟨g,i,none⟩=some (.int .i64 ((T.recs[i].1:Nat):Int)):=fun i hi =>
    SegW.own_cell h.ids i hi _ (by unfold idsL; rw [List.getElem?_map,List.getElem?_eq_getElem hi]; rfl)
   obtain ⟨g,cap,hv,hc,_⟩:=hcs 0 hpos
   have hcells:∀ j,j < (idI T.recs).length→w.cell? ⟨g,0+j,none⟩=some (.int .i64 ((idI T.recs).getD j 0)):=fun j hj=>by
    have hj':j < T.recs.length:=by unfold idI at hj; rw [List.length_map] at hj; exact hj
    obtain ⟨g',cap',hv',_,hcc⟩:=hcs j hj'
    rw [hv] at hv'
    injection hv' with e1
    injection e1 with e1
    injection e1 with e1
    rw [Nat.zero_add,e1,hcc]
    unfold idI
    simp [List.getD,hj']
   have hsort:((idI T.recs).take T.recs.length).Pairwise (·≤·):=by
    rw [List.take_of_length_le (by unfold idI; rw [List.length_map]; exact Nat.le_refl _)]
    unfold idI
    rw [List.pairwise_map] at hs ⊢
    exact hs.imp fun h=>by omega
   have hlen:(idI T.recs).length=T.recs.length:=by unfold idI; exact List.length_map _
   have:=Tryz.slices_BinarySearch_int g 0 T.recs.length cap (idI T.recs) p w (by rw [hlen]; exact Nat.le_refl _) (by omega) hcells hsort
   rw [List.take_of_length_le (by rw [hlen]; exact Nat.le_refl _)] at this
   rw [hv]
   exact ⟨_,this.mono fun e w' h=>⟨h.1,h.2⟩⟩
 obtain ⟨bo,hbs⟩:=HBS.out
 have HB:=Lib.hid hbs
 have c2:w.cell? ⟨T.blk,2,none⟩=some T.idv:=h.cell 2 _ rfl
 clear h hs hl hbs HBS
 generalize placeL T.recs p=pl at *
 generalize T.idv=iv at *
 go_enter Tryz.func25,Tryz.ntmps25
 go_wp2_with fail
 refine HB.out.mono ?_
 rintro e w' ⟨rfl,hd⟩
 have HD:=Lib.hid hd
 clear hd HB
 go_wp2_with fail
 go_ret
 exact ⟨rfl,HD.out⟩
def nextL (l:List (Nat×Msg)) (p:Int):Int×Bool:=match (l.drop (placeL l p)).head? with | some q=>((q.1:Int),true) | none=>(0,false)
theorem next_any {base:Nat} {T:OwnD} (p:Int) (w:World) (h:OwnAt base w T) (hs:(T.recs.map (·.1)).Pairwise (· < ·)) (hl:T.recs.length≤1073741824) :
 Calls Tryz.prog 78 #[.pointer (some ⟨T.blk,0,none⟩),.int .i64 p] w fun e w'=>e=.returned (.tuple #[.int .i64 (nextL T.recs p).1,.bool (nextL T.recs p).2])∧Drawn w w':=by
 have HP:=Lib.hid (place_any p w h hs hl)
 have hple:=placeL_le T.recs p
 have HN:Hid (nextL T.recs p=match (T.recs.drop (placeL T.recs p)).head? with | some q=>((q.1:Int),true) | none=>(0,false)):=rfl
 have HH:=Lib.hid h
 clear h hs
 generalize placeL T.recs p=pl at *
 go_enter Tryz.func78,Tryz.ntmps78
 go_wp2_with fail
 refine HP.out.mono ?_
 rintro e w1 ⟨rfl,hd⟩
 have HD:=Lib.hid hd
 have h1:OwnAt base w1 T:=HH.out.mod (M:=fun _=>False) (Mod.of_below (hd.below _)) (fun _ _ h=>h)
 clear hd HP
 by_cases hlt:pl < T.recs.length
 ·
  obtain ⟨g,cap,hv,hc,hcell⟩:=SegW.own_cell h1.ids pl hlt (.int .i64 ((T.recs[pl].1:Nat):Int)) (by unfold idsL; rw [List.getElem?_map,List.getElem?_eq_getElem hlt]; rfl)
  have c2:w1.cell? ⟨T.blk,2,none⟩=some (.slice (some ⟨g,0,none⟩) T.recs.length cap):=by rw [← hv]; exact h1.cell 2 _ rfl
  have HR:Hid (nextL T.recs p=((T.recs[pl].1:Int),true)):=by
   show _=_
   rw [HN.out,List.head?_drop,List.getElem?_eq_getElem hlt]
  clear h1 hv HN
  generalize T.recs[pl].1=x at *
  generalize T.recs.length=n at *
  go_wp2_with fail
  go_ret2
  exact ⟨by rw [HR.out]; rfl,HD.out⟩
 ·
  obtain ⟨a,c,hv⟩:=own_slice h1.ids
  have c2:w1.cell? ⟨T.blk,2,none⟩=some (.slice a T.recs.length c):=by rw [← hv]; exact h1.cell 2 _ rfl
  have HR:Hid (nextL T.recs p=(0,false)):=by
   show _=_
   rw [HN.out,List.head?_drop,List.getElem?_eq_none (by omega)]
  clear h1 hv HN
  generalize T.recs.length=n at *
  go_wp2_with fail
  go_ret2
  exact ⟨by rw [HR.out]; rfl,HD.out⟩
theorem ownb {w:World} {base b n sz:Nat} {e:TypeId} {v:Value} {xs:List Value} (h:w.ownsRow b e sz v n xs) (hb:base≤b):w.ownsRow base e sz v n xs :=
 ⟨h.1,h.2.elim .inl fun ⟨g,cap,cur,e1,e2,r⟩=>.inr ⟨g,cap,cur,e1,Nat.le_trans hb e2,r⟩⟩
theorem ids_any {base:Nat} {T:OwnD} (p:Int) (w1:World) (h:OwnAt base w1 T) (hs:(T.recs.map (·.1)).Pairwise (· < ·)) (hl:T.recs.length≤1073741824) (hp:placeL T.recs p=0) :
 Calls Tryz.prog 11 #[.pointer (some ⟨T.blk,0,none⟩),.int .i64 p] w1 fun e w'=>∃ v,e=.returned v∧w'.ownsRow w1.heap.size 3 1 v T.recs.length (idsL T.recs)∧Below w1.heap.size w1 w':=by
 have HPL:Hid (∀ w,Below w1.heap.size w1 w→Calls Tryz.prog 25 #[.pointer (some ⟨T.blk,0,none⟩),.int .i64 p] w fun e w'=>e=.returned (.int .i64 0)∧Drawn w w'):=fun w hb=>by
  have:=place_any p w (h.below hb) hs hl
  rw [hp] at this; exact this
 rcases h.ids.2 with ⟨hv,hz⟩ | ⟨g,cap,cur,hv,hbg,hg,hn,hmx,hsz,ht⟩
 ·
  have h0:T.recs=[]:=List.length_eq_zero_iff.1 hz
  have HC2:Hid (∀ w,Below w1.heap.size w1 w→w.cell? ⟨T.blk,2,none⟩=some (.slice none 0 0)):=fun w hb=>by rw [← hv]; exact (h.below hb).cell 2 _ rfl
  have HCL:Hid (∀ w,Below w1.heap.size w1 w→Calls Tryz.prog 24 #[.slice none 0 0] w fun e w'=>∃ v,e=.returned v∧w'.ownsRow w.heap.size 3 1 v T.recs.length (idsL T.recs)∧Below w.heap.size w w'):=fun w hb=>by
   refine (Tryz.slices_Clone_int_nil 0 0 w).mono fun e w' h=>⟨_,h.1,?_,h.2 ▸ Below.refl _ _⟩
   rw [h0]; exact ⟨rfl,.inl ⟨rfl,rfl⟩⟩
  clear h hs hl hp hv hz h0
  go_enter Tryz.func11,Tryz.ntmps11
  go_wp2_with fail
  refine GrowN.wp_region_n 10 [none,none,none,none,none,none,some (.inl (.int .i64 0)),some (.inl (.slice none 0 0)),some (.inr (fun _ v w=>w.ownsRow w1.heap.size 3 1 v T.recs.length (idsL T.recs))),none] (RecW.ExtR) (by kernel_rfl) (by kernel_rfl) (by kernel_rfl) (RecW.ExtR.refl) (fun _ _ _=>RecW.ExtR.trans) ?_ ?_
  ·
   intro K hK Y hY l v w w' hR h
   simp only [List.mem_cons,List.not_mem_nil,or_false] at hK
   rcases hK with rfl | rfl | rfl | rfl | rfl | rfl | rfl | rfl | rfl | rfl <;> simp only [reduceCtorEq,Option.some.injEq,Sum.inr.injEq] at hY
   subst hY
   exact SegW.ownsRow_mod (M:=fun _=>False) h (Mod.of_below hR) (fun _ _ h=>h)
  simp only [List.take_succ_cons,List.take_zero,List.drop_succ_cons,List.drop_zero]
  iterate 3
   refine GrowN.g_det rfl ?_
   apply Exists.intro
   refine ⟨fun w hw hF=>?_,?_⟩
   · clear hF
     go_simp
     exact ⟨rfl,RecW.ExtR.refl _⟩
   go_frame
  refine GrowN.g_det rfl ?_
  apply Exists.intro
  refine ⟨fun w hw hF=>?_,?_⟩
  ·
   clear hF
   have hb:=(Below.refl w1.heap.size w1).drew.trans hw
   have c2:=HC2.out w hb
   go_simp
   exact ⟨rfl,RecW.ExtR.refl _⟩
  iterate 2
   go_frame
   refine GrowN.g_det rfl ?_
   apply Exists.intro
   refine ⟨fun w hw hF=>?_,?_⟩
   · clear hF
     go_simp
     exact ⟨rfl,RecW.ExtR.refl _⟩
  go_frame
  refine GrowN.g_con rfl (fun w hw hF=>?_) ?_
  · clear hF
    have hb:=(Below.refl w1.heap.size w1).drew.trans hw
    go_simp
    exact (HPL.out w hb).mono fun e w3 h=>⟨_,h.1,rfl,h.2.below _⟩
  go_frame
  refine GrowN.g_con rfl (fun w hw hF=>?_) ?_
  · clear hF
    go_simp
    all_goals first | exact RecW.ExtR.refl _ | omega
  go_frame
  refine GrowN.g_new rfl (fun w hw hF=>?_) (fun v=>?_)
  · clear hF
    have hb:=(Below.refl w1.heap.size w1).drew.trans hw
    go_simp
    exact (HCL.out w hb).mono fun e w3 ⟨v,h1,h2,h3⟩=>⟨_,h1,ownb h2 hb.size,h3⟩
  go_frame
  refine GrowN.g_det rfl ?_
  apply Exists.intro
  refine ⟨fun w hw hF=>?_,?_⟩
  · clear hF
    go_simp
    exact ⟨rfl,RecW.ExtR.refl _⟩
  go_frame
  refine GrowN.g_nil fun w2 hw2 hF=>?_
  have hown:=hF _ (List.mem_singleton.2 rfl)
  have HO:=Lib.hid hown
  have HB2:=Lib.hid ((Below.refl w1.heap.size w1).drew.trans hw2)
  clear hw2 hF hown
  go_wp2_with fail
  go_ret
  exact ⟨_,rfl,HO.out,HB2.out⟩
 ·
  have hlen:(idI T.recs).length=T.recs.length:=by unfold idI; exact List.length_map _
  have HC2:Hid (∀ w,Below w1.heap.size w1 w→w.cell? ⟨T.blk,2,none⟩=some (.slice (some ⟨g,0,none⟩) T.recs.length cap)):=fun w hb=>by rw [← hv]; exact (h.below hb).cell 2 _ rfl
  have HCL:Hid (∀ w,Below w1.heap.size w1 w→Calls Tryz.prog 24 #[.slice (some ⟨g,0,none⟩) T.recs.length cap] w fun e w'=>∃ v,e=.returned v∧w'.ownsRow w.heap.size 3 1 v T.recs.length (idsL T.recs)∧Below w.heap.size w w'):=fun w hb=>by
   have hcells:∀ j,j < (idI T.recs).length→w.cell? ⟨g,0+j,none⟩=some (.int .i64 ((idI T.recs).getD j 0)):=fun j hj=>by
    have hj':j < T.recs.length:=by rw [hlen] at hj; exact hj
    obtain ⟨g',cap',hv',_,hcc⟩:=SegW.own_cell (h.below hb).ids j hj' (.int .i64 ((T.recs[j].1:Nat):Int)) (by unfold idsL; rw [List.getElem?_map,List.getElem?_eq_getElem hj']; rfl)
    rw [hv] at hv'
    injection hv' with e1
    injection e1 with e1
    injection e1 with e1
    rw [Nat.zero_add,e1,hcc]
    unfold idI
    simp [List.getD,hj']
   have:=Tryz.slices_Clone_int g 0 T.recs.length cap (idI T.recs) w (by rw [hlen]; exact Nat.le_refl _) (by omega) hcells
   refine this.mono fun e w' ⟨v,h1,h2,_,h4⟩=>⟨v,h1,?_,h4⟩
   rw [List.take_of_length_le (by rw [hlen]; exact Nat.le_refl _)] at h2
   have e:(idI T.recs).map (Value.int .i64)=idsL T.recs:=by unfold idI idsL; rw [List.map_map]; rfl
   rw [e] at h2; exact h2
  have hmx2:=hmx
  clear h hs hp hv hbg hg hsz ht hlen
  generalize hnn:T.recs.length=n at *
  go_enter Tryz.func11,Tryz.ntmps11
  go_wp2_with fail
  refine GrowN.wp_region_n 10 [none,none,none,none,none,none,some (.inl (.int .i64 0)),some (.inl (.slice (some ⟨g,0,none⟩) n cap)),some (.inr (fun _ v w=>w.ownsRow w1.heap.size 3 1 v n (idsL T.recs))),none] (RecW.ExtR) (by kernel_rfl) (by kernel_rfl) (by kernel_rfl) (RecW.ExtR.refl) (fun _ _ _=>RecW.ExtR.trans) ?_ ?_
  ·
   intro K hK Y hY l v w w' hR h
   simp only [List.mem_cons,List.not_mem_nil,or_false] at hK
   rcases hK with rfl | rfl | rfl | rfl | rfl | rfl | rfl | rfl | rfl | rfl <;> simp only [reduceCtorEq,Option.some.injEq,Sum.inr.injEq] at hY
   subst hY
   exact SegW.ownsRow_mod (M:=fun _=>False) h (Mod.of_below hR) (fun _ _ h=>h)
  simp only [List.take_succ_cons,List.take_zero,List.drop_succ_cons,List.drop_zero]
  iterate 3
   refine GrowN.g_det rfl ?_
   apply Exists.intro
   refine ⟨fun w hw hF=>?_,?_⟩
   · clear hF
     go_simp
     exact ⟨rfl,RecW.ExtR.refl _⟩
   go_frame
  refine GrowN.g_det rfl ?_
  apply Exists.intro
  refine ⟨fun w hw hF=>?_,?_⟩
  ·
   clear hF
   have hb:=(Below.refl w1.heap.size w1).drew.trans hw
   have c2:=HC2.out w hb
   go_simp
   exact ⟨rfl,RecW.ExtR.refl _⟩
  iterate 2
   go_frame
   refine GrowN.g_det rfl ?_
   apply Exists.intro
   refine ⟨fun w hw hF=>?_,?_⟩
   · clear hF
     go_simp
     exact ⟨rfl,RecW.ExtR.refl _⟩
  go_frame
  refine GrowN.g_con rfl (fun w hw hF=>?_) ?_
  · clear hF
    have hb:=(Below.refl w1.heap.size w1).drew.trans hw
    go_simp
    exact (HPL.out w hb).mono fun e w3 h=>⟨_,h.1,rfl,h.2.below _⟩
  go_frame
  refine GrowN.g_con rfl (fun w hw hF=>?_) ?_
  · clear hF
    go_simp
    all_goals first | exact RecW.ExtR.refl _ | omega
  go_frame
  refine GrowN.g_new rfl (fun w hw hF=>?_) (fun v=>?_)
  · clear hF
    have hb:=(Below.refl w1.heap.size w1).drew.trans hw
    go_simp
    exact (HCL.out w hb).mono fun e w3 ⟨v,h1,h2,h3⟩=>⟨_,h1,ownb h2 hb.size,h3⟩
  go_frame
  refine GrowN.g_det rfl ?_
  apply Exists.intro
  refine ⟨fun w hw hF=>?_,?_⟩
  · clear hF
    go_simp
    exact ⟨rfl,RecW.ExtR.refl _⟩
  go_frame
  refine GrowN.g_nil fun w2 hw2 hF=>?_
  have hown:=hF _ (List.mem_singleton.2 rfl)
  have HO:=Lib.hid hown
  have HB2:=Lib.hid ((Below.refl w1.heap.size w1).drew.trans hw2)
  clear hw2 hF hown
  go_wp2_with fail
  go_ret
  exact ⟨_,rfl,HO.out,HB2.out⟩
end Go.Proofs.YtnoehodmmkioaaaGreatDoor.TapeW
namespace Go.Proofs.YtnoehodmmkioaaaGreatDoor.RecW
open Go.RowKit OctMath RecMath NameMath
open OctW (Rd One Texts textL textsL textsW listW)
theorem fill_parts (n:Nat) (h:3≤n) (h2:n≤1024) (rest:List UInt8):takeR 1 ⟨fillL (n:Int)++rest,0⟩=([90],⟨be 2 n++(noughts (n - 3)++rest),0⟩)∧numR 2 ⟨be 2 n++(noughts (n - 3)++rest),0⟩=(n,⟨noughts (n - 3)++rest,0⟩) ∧
 takeR ((n:Int) - 3) ⟨noughts (n - 3)++rest,0⟩=(noughts (n - 3),⟨rest,0⟩)∧(noughts (n - 3)).length=n - 3∧(fillL (n:Int)++rest).length=n+rest.length:=by
 have hf:fillL (n:Int)=90 :: be 2 n++noughts (n - 3):=by unfold fillL; rw [if_neg (by omega),Int.toNat_natCast]
 have hnl:(noughts (n - 3)).length=n - 3:=by unfold noughts; simp
 refine ⟨?_,OctW.numR_be 2 _ _ (by omega) (by omega) (by omega),?_,hnl,by rw [List.length_append,fill_len h h2]⟩
 · unfold takeR
   rw [hf,if_neg (by simp),if_neg (by omega),if_neg (by simp <;> omega)]
   simp
 ·
  have:(n:Int) - 3=((noughts (n - 3)).length:Int):=by omega
  rw [this]
  unfold takeR
  rw [if_neg (by simp),if_neg (by omega),if_neg (by simp <;> omega)]
  simp
theorem get_filler (B n:Nat) (h3:3≤n) (h4:n≤1024) (rest:List UInt8) (hr:rest.length≤1048576) (W:World) :
 Calls Tryz.prog 130 #[.pointer (some ⟨B,0,none⟩),.string (S (fillL (n:Int)++rest))] W fun e w'=>e=.returned (.tuple #[.agg (cellsM { noMsg with body:=noughts n } none 0),.int .i64 (n:Int),.int .i64 0])∧Below W.heap.size W w':=by
 obtain ⟨e1,e2,e3,e4,e5⟩:=fill_parts n h3 h4 rest
 have C1:=Lib.hid (fun (Br:Nat) (w:World) (h:Rd Br ⟨fillL (n:Int)++rest,0⟩ w)=>OctW.take_any Br ⟨fillL (n:Int)++rest,0⟩ 1 (by omega) (by omega) (by show (fillL (n:Int)++rest).length≤_; omega) w h)
 have C2:=Lib.hid (fun (Br:Nat) (w:World) (h:Rd Br ⟨be 2 n++(noughts (n - 3)++rest),0⟩ w)=>OctW.num_any Br ⟨be 2 n++(noughts (n - 3)++rest),0⟩ 2 (by omega) (by omega) (by simp only [List.length_append,be_length]; omega) w h)
 have C3:=Lib.hid (fun (Br:Nat) (w:World) (h:Rd Br ⟨noughts (n - 3)++rest,0⟩ w)=>OctW.take_any Br ⟨noughts (n - 3)++rest,0⟩ ((n:Int) - 3) (by omega) (by omega) (by simp only [List.length_append]; omega) w h)
 have C4:=Lib.hid (fun (Br:Nat) (w:World) (h:Rd Br ⟨rest,0⟩ w)=>OctW.err_any Br ⟨rest,0⟩ w h)
 rw [e1] at C1
 rw [e2] at C2
 rw [e3] at C3
 simp only at C1 C2 C3 C4
 have C5:=Lib.hid (fun (w:World)=>noughts_any (n - 3) (by omega) w)
 have C6:=Lib.hid (fun (w:World)=>noughts_any n (by omega) w)
 have hsz:=S_size
 have HS3:¬ ((n:Int)+(rest.length:Int) < 3):=by omega
 have HS4:¬ ((1024:Int) < (n:Int)):=by omega
 have HS5:¬ ((n:Int) < 3):=by omega
 have hmx:max ((n:Int) - 3) 0=(n:Int) - 3:=by omega
 have htl:=S_toList
 have hself:(S (noughts (n - 3)) != S (noughts (n - 3)))=false:=by simp [bne,((Go.MapKept.bytes_beq (S (noughts (n - 3))) (S (noughts (n - 3)))).2 rfl)]
 have hcm:cellsM { noMsg with body:=noughts n } none 0=#[.int .i64 0,.int .i64 0,.int .i64 0,.int .i64 0,.int .i64 0,.int .i64 0,.string ⟨#[]⟩,.string ⟨#[]⟩,.string (S (noughts n)),.slice none 0 0]:=rfl
 rw [hcm]
 clear e1 e2 e3 hr hcm
 generalize noughts (n - 3)=sl at *
 generalize noughts n=nn at *
 generalize fillL (n:Int)++rest=rr at *
 go_enter Tryz.func130,Tryz.ntmps130
 go_wp2_with fail
 refine (OctW.new_any _ _).mono ?_
 rintro e w1 ⟨rfl,hrd,hb⟩
 obtain ⟨Bt,hBt⟩:∃ B,W.heap.size=B:=⟨_,rfl⟩
 obtain ⟨Br,hBr⟩:∃ B,W.heap.size+1=B:=⟨_,rfl⟩
 have M0:Hid (Mid1 W Bt Br ⟨rr,0⟩ w1):=by
  rw [World.size_alloc,hBr] at hrd
  refine ⟨?_,hrd,((Below.refl _ _).alloc (Nat.le_refl _) _).trans (hb.mono (by rw [World.size_alloc]; omega)),by omega,by omega,by omega⟩
  rw [← hBt,hb.block _ (by rw [World.size_alloc]; omega)]
  exact heap_alloc_new W _
 clear hrd hb
 rw [World.size_alloc,hBr,hBt]
 have HBT:=Lib.hid hBt
 clear hBr hBt
 go_wp2_with fail
 refine (C1.out Br _ M0.out.r).mono ?_
 rintro e w2 ⟨rfl,hr,hm⟩
 have M1:=Lib.hid (M0.out.one hr hm)
 clear hr hm M0 C1
 go_wp2_with fail
 refine (C2.out Br _ M1.out.r).mono ?_
 rintro e w3 ⟨rfl,hr,hm⟩
 have M2:=Lib.hid (M1.out.one hr hm)
 clear hr hm M1 C2
 go_wp2_with fail
 refine (C3.out Br _ M2.out.r).mono ?_
 rintro e w4 ⟨rfl,hr,hm⟩
 have M3:=Lib.hid (M2.out.one hr hm)
 clear hr hm M2 C3
 go_wp2_with fail
 refine (C4.out Br _ M3.out.r).mono ?_
 rintro e w5 ⟨rfl,rfl⟩
 go_wp2_with fail
 refine (C5.out _).mono ?_
 rintro e w6 ⟨rfl,hb⟩
 have M4:=Lib.hid (M3.out.ext hb)
 clear hb M3 C5 C4
 go_wp2_with fail
 refine (C6.out w6).mono ?_
 rintro e w7 ⟨rfl,hb⟩
 have M5:=Lib.hid (M4.out.ext hb)
 clear hb M4 C6
 have k0:w7.cell? ⟨Bt,0,none⟩=some (.int .i64 0):=by rw [Lib.cell_of_heap M5.out.t]; rfl
 have k1:w7.cell? ⟨Bt,1,none⟩=some (.int .i64 0):=by rw [Lib.cell_of_heap M5.out.t]; rfl
 have k2:w7.cell? ⟨Bt,2,none⟩=some (.int .i64 0):=by rw [Lib.cell_of_heap M5.out.t]; rfl
 have k3:w7.cell? ⟨Bt,3,none⟩=some (.int .i64 0):=by rw [Lib.cell_of_heap M5.out.t]; rfl
 have k4:w7.cell? ⟨Bt,4,none⟩=some (.int .i64 0):=by rw [Lib.cell_of_heap M5.out.t]; rfl
 have k5:w7.cell? ⟨Bt,5,none⟩=some (.int .i64 0):=by rw [Lib.cell_of_heap M5.out.t]; rfl
 have k6:w7.cell? ⟨Bt,6,none⟩=some (.string ⟨#[]⟩):=by rw [Lib.cell_of_heap M5.out.t]; rfl
 have k7:w7.cell? ⟨Bt,7,none⟩=some (.string ⟨#[]⟩):=by rw [Lib.cell_of_heap M5.out.t]; rfl
 have k8:w7.cell? ⟨Bt,8,none⟩=some (.string ⟨#[]⟩):=by rw [Lib.cell_of_heap M5.out.t]; rfl
 have k9:w7.cell? ⟨Bt,9,none⟩=some (.slice none 0 0):=by rw [Lib.cell_of_heap M5.out.t]; rfl
 have hfr:∀ j,w7.frozen? ⟨Bt,j,none⟩=false:=fun j=>Lib.frozen_of_heap M5.out.t j
 have HH:=Lib.hid (put10_heap (z:=cellsM noMsg none 0) rfl M5.out.t (.int .i64 0) (.int .i64 0) (.int .i64 0) (.int .i64 0) (.int .i64 0) (.int .i64 0) (.string ⟨#[]⟩) (.string ⟨#[]⟩) (.string (S nn)) (.slice none 0 0))
 have HBW:=Lib.hid (put10_mod w7 Bt (.int .i64 0) (.int .i64 0) (.int .i64 0) (.int .i64 0) (.int .i64 0) (.int .i64 0) (.string ⟨#[]⟩) (.string ⟨#[]⟩) (.string (S nn)) (.slice none 0 0))
 go_wp2_with fail
 clear k0 k1 k2 k3 k4 k5 k6 k7 k8 k9 hfr
 change bodyPost _ _ _ _ _ (put10 w7 Bt (.int .i64 0) (.int .i64 0) (.int .i64 0) (.int .i64 0) (.int .i64 0) (.int .i64 0) (.string ⟨#[]⟩) (.string ⟨#[]⟩) (.string (S nn)) (.slice none 0 0))
 generalize put10 w7 Bt (.int .i64 0) (.int .i64 0) (.int .i64 0) (.int .i64 0) (.int .i64 0) (.int .i64 0) (.string ⟨#[]⟩) (.string ⟨#[]⟩) (.string (S nn)) (.slice none 0 0)=w9 at *
 have hz9:=HH.out
 have c0:w9.cell? ⟨Bt,0,none⟩=some (.int .i64 0):=by rw [Lib.cell_of_heap hz9]; rfl
 have c1:w9.cell? ⟨Bt,1,none⟩=some (.int .i64 0):=by rw [Lib.cell_of_heap hz9]; rfl
 have c2:w9.cell? ⟨Bt,2,none⟩=some (.int .i64 0):=by rw [Lib.cell_of_heap hz9]; rfl
 have c3:w9.cell? ⟨Bt,3,none⟩=some (.int .i64 0):=by rw [Lib.cell_of_heap hz9]; rfl
 have c4:w9.cell? ⟨Bt,4,none⟩=some (.int .i64 0):=by rw [Lib.cell_of_heap hz9]; rfl
 have c5:w9.cell? ⟨Bt,5,none⟩=some (.int .i64 0):=by rw [Lib.cell_of_heap hz9]; rfl
 have c6:w9.cell? ⟨Bt,6,none⟩=some (.string ⟨#[]⟩):=by rw [Lib.cell_of_heap hz9]; rfl
 have c7:w9.cell? ⟨Bt,7,none⟩=some (.string ⟨#[]⟩):=by rw [Lib.cell_of_heap hz9]; rfl
 have c8:w9.cell? ⟨Bt,8,none⟩=some (.string (S nn)):=by rw [Lib.cell_of_heap hz9]; rfl
 have c9:w9.cell? ⟨Bt,9,none⟩=some (.slice none 0 0):=by rw [Lib.cell_of_heap hz9]; rfl
 have hbb:Below W.heap.size W w9:=M5.out.b.trans (HBW.out.to_below _ M5.out.b.size (fun k e=>by rw [e,← HBT.out]; exact Nat.le_refl _))
 refine bodyPost_ret (v:=.tuple #[.agg #[.int .i64 0,.int .i64 0,.int .i64 0,.int .i64 0,.int .i64 0,.int .i64 0,.string ⟨#[]⟩,.string ⟨#[]⟩,.string (S nn),.slice none 0 0],.int .i64 (n:Int),.int .i64 0]) ?_ rfl ⟨rfl,hbb⟩
 clear hz9
 simp [results,Tryz.results130,go_sem,c0,c1,c2,c3,c4,c5,c6,c7,c8,c9]
end Go.Proofs.YtnoehodmmkioaaaGreatDoor.RecW
namespace Go.Proofs.YtnoehodmmkioaaaGreatDoor.TapeW
open Go.RowKit Go.MapKept OctMath RecMath RecW TapeMath DskW SegW MapG
theorem recs_len:∀ (b:Nat) (its:List TapeMath.Item),(recsOf b its).length≤its.length
 | _,[]=>Nat.le_refl _
 | b,.one m :: l=>by have:=recs_len (b+(TapeMath.Item.one m).len) l; show (_ :: recsOf _ l).length≤_; simp only [List.length_cons]; omega
 | b,.fill n :: l=>by have:=recs_len (b+(TapeMath.Item.fill n).len) l; show (recsOf _ l).length≤_; simp only [List.length_cons]; omega
structure Scan (base:Nat) (w0 w:World) (O0:OwnD) (D:DiskD) (R:SegD) (its:List TapeMath.Item) (k:Nat):Prop where
 ex:∃ O:OwnD,OwnAt base w O∧O.blk=O0.blk∧O.rb=O0.rb∧O.sums=O0.sums∧O.mB=O0.mB∧O.recs=recsOf R.b (its.take k)∧(∀ p,O.recs.getLast?=some p→O.last=p.2.born)∧∀ j,O.foot j→O0.foot j∨w0.heap.size≤j
 whole:Whole base w D R
 mod:Mod O0.foot w0 w
theorem recs_take {b:Nat} {its:List TapeMath.Item} {k:Nat} (h:k < its.length) {m:Msg} (hm:its[k]=.one m):recsOf b (its.take (k+1))=recsOf b (its.take k)++[(b+(bytesL (its.take k)).length,m)]:=by
 rw [List.take_succ_eq_append_getElem h,recs_app,hm]
 rfl
theorem recs_fill {b:Nat} {its:List TapeMath.Item} {k:Nat} (h:k < its.length) {n:Nat} (hm:its[k]=.fill n):recsOf b (its.take (k+1))=recsOf b (its.take k):=by
 rw [List.take_succ_eq_append_getElem h,recs_app,hm]
 exact List.append_nil _
theorem Scan.fill {base:Nat} {w0 w:World} {O0:OwnD} {D:DiskD} {R:SegD} {its:List TapeMath.Item} {k:Nat} (h:Scan base w0 w O0 D R its k) (hk:k < its.length) {n:Nat} (hm:its[k]=.fill n):Scan base w0 w O0 D R its (k+1):=by
 obtain ⟨O,h1,h2,h3,h4,h5,h6,h7⟩:=h.ex
 exact ⟨⟨O,h1,h2,h3,h4,h5,by rw [recs_fill hk hm]; exact h6,h7⟩,h.whole,h.mod⟩
theorem note_filler (B:Nat) (id n:Int) (m:Msg) (a:Option Addr) (c:Nat) (h0:m.kind=0) (W:World) :
 Calls Tryz.prog 109 #[.pointer (some ⟨B,0,none⟩),.int .i64 id,.int .i64 n,.agg (cellsM m a c)] W fun e w'=>e=.returned (.tuple #[])∧Below W.heap.size W w':=by
 have HB0:Hid (Below W.heap.size W (W.alloc (.cells (cellsM m a c) 53))):=(Below.refl _ W).alloc (Nat.le_refl _) _
 have HX:Hid (RecW.Boxed (W.alloc (.cells (cellsM m a c) 53)) W.heap.size (cellsM m a c)):=RecW.Boxed.new W _ _
 have hcu:(cellsM m a c).size=10:=rfl
 go_enter Tryz.func109,Tryz.ntmps109
 go_upto_region 1 with fail
 generalize W.alloc (.cells (cellsM m a c) 53)=w1 at *
 clear hcu
 obtain ⟨A,hA⟩:∃ A,W.heap.size=A:=⟨_,rfl⟩
 rw [hA] at HX ⊢
 have k0:w1.cell? ⟨A,0,none⟩=some (.int .i64 m.kind):=HX.out 0 _ rfl
 rw [h0] at k0
 clear hA
 go_wp2_with fail
 go_end0
 exact ⟨rfl,HB0.out⟩
theorem bytes_take {its:List TapeMath.Item} {k:Nat} (h:k < its.length):(bytesL (its.take (k+1))).length=(bytesL (its.take k)).length+its[k].len:=by
 rw [List.take_succ_eq_append_getElem h,bytesL_app,List.length_append]
 simp [bytesL,TapeMath.Item.len]
theorem its_split {its:List TapeMath.Item} {k:Nat} (h:k < its.length):its=its.take k++its[k] :: its.drop (k+1):=by
 rw [← List.drop_eq_getElem_cons h,List.take_append_drop]
theorem scan_read {base:Nat} {w:World} {D:DiskD} {R:SegD} {its:List TapeMath.Item} (hW:Whole base w D R) (hs:R.size=1024) (ht:R.txt=bytesL its) (hf:Fits R.b its) (hup:D.down=false) {k:Nat} (h:k < its.length) :
 ∃ lf:Nat,R.left ((R.b+(bytesL (its.take k)).length:Nat):Int)=(lf:Int)∧lf≤1024∧R.readE D ((R.b+(bytesL (its.take k)).length:Nat):Int) (lf:Int)=0 ∧
  ∃ rest:List UInt8,R.readT D ((R.b+(bytesL (its.take k)).length:Nat):Int) (lf:Int)=its[k].bytes++rest∧rest.length≤1024:=by
 have hsp:=its_split h
 have hf2:=hf
 rw [hsp] at hf2
 have hl:=hf2.at
 obtain ⟨l1,l2,l3⟩:=hl
 have hge:=TapeMath.Item.len_ge l1
 have htot:(bytesL its).length=(bytesL (its.take k)).length+its[k].len+(bytesL (its.drop (k+1))).length:=by
  conv=>lhs; rw [hsp]
  rw [bytesL_app,bytesL_cons,List.length_append,List.length_append]
  show _=_+its[k].bytes.length+_
  omega
 have he:R.e=R.b+(bytesL its).length:=by unfold SegD.e; rw [ht]
 obtain ⟨p,hp⟩:∃ p,p=R.b+(bytesL (its.take k)).length:=⟨_,rfl⟩
 rw [← hp] at l2 l3 ⊢
 have hlf:R.left (p:Int)=((min (p / 1024 * 1024+1024) R.e - p:Nat):Int):=by
  unfold SegD.left
  rw [hs,if_neg (by omega),Int.toNat_natCast]
  omega
 have hge2:its[k].len≤min (p / 1024 * 1024+1024) R.e - p:=by omega
 refine ⟨min (p / 1024 * 1024+1024) R.e - p,hlf,by omega,?_,(bytesL (its.drop (k+1))).take (min (p / 1024 * 1024+1024) R.e - p - its[k].len),?_,?_⟩
 ·
  unfold SegD.readE
  rw [if_neg (by rw [hup]; decide),if_neg (by omega)]
  rw [if_pos]
  unfold SegD.readB
  rw [decide_eq_true (by omega),decide_eq_true (by rw [hlf]; exact Int.le_refl _)]; rfl
 ·
  unfold SegD.readT
  rw [if_pos ⟨hup,by unfold SegD.readB; rw [decide_eq_true (by omega),decide_eq_true (by rw [hlf]; exact Int.le_refl _)]; rfl⟩,Int.toNat_natCast,Int.toNat_natCast,ht]
  rw [show p - R.b=(bytesL (its.take k)).length by omega]
  have:=read_item (a:=its.take k) (c:=its.drop (k+1)) (x:=its[k]) _ hge2
  rw [← hsp] at this
  exact this
 · rw [List.length_take]; omega
theorem Scan.below {base:Nat} {w0 w w':World} {O0:OwnD} {D:DiskD} {R:SegD} {its:List TapeMath.Item} {k:Nat} (h:Scan base w0 w O0 D R its k) (hb:Below w.heap.size w w'):Scan base w0 w' O0 D R its k:=by
 obtain ⟨O,h1,h2⟩:=h.ex
 exact ⟨⟨O,h1.below hb,h2⟩,h.whole.below hb,h.mod.trans (Mod.of_below hb)⟩
theorem scan_any {base:Nat} {O0:OwnD} {D:DiskD} {R:SegD} {its:List TapeMath.Item} (w0:World) (hO:OwnAt base w0 O0) (hrb:O0.rb=R.blk) (hrecs:O0.recs=[]) (hW:Whole base w0 D R) (haw:∀ k,O0.foot k→¬ D.foot k∧¬ R.foot k) (hs:R.size=1024) (ht:R.txt=bytesL its) (hf:Fits R.b its) (hup:D.down=false) (hT:TabB base w0)
 (hbase:base≤w0.heap.size) (hil:its.length≤1000000) :
 Calls Tryz.prog 113 #[.pointer (some ⟨O0.blk,0,none⟩)] w0 fun e w'=>e=.returned (.int .i64 (R.e:Int))∧Scan base w0 w' O0 D R its its.length:=by
 have hel:=hW.seg.e_le
 have hee:R.e=R.b+(bytesL its).length:=by unfold SegD.e; rw [ht]
 have S0:Hid (Scan base w0 w0 O0 D R its 0):=⟨⟨O0,hO,rfl,rfl,rfl,rfl,by rw [hrecs,List.take_zero]; rfl,(fun p hp=>by rw [hrecs] at hp; cases hp),fun j hj=>.inl hj⟩,hW,Mod.refl _ _⟩
 have HTB:Hid (∀ w k,Scan base w0 w O0 D R its k→TabB base w):=fun w k h=>hT.mod h.mod (fun j hj=>hO.base_le hj)
 have HLT:Hid (∀ j,O0.foot j→j < w0.heap.size):=fun j hj=>hO.lt hj
 have HAW:=Lib.hid haw
 have HS0:Hid (∀ w k,Scan base w0 w O0 D R its k→w.cell? ⟨O0.blk,0,none⟩=some (.pointer (some ⟨R.blk,0,none⟩))∧w.cell? ⟨O0.blk,1,none⟩=some (.pointer (some ⟨O0.sums,0,none⟩))∧CrcW.Tabs w O0.sums∧O0.sums < w.heap.size):=fun w k h=>by
  obtain ⟨O,h1,h2,h3,h4,h5,h6,h7,h8⟩:=h.ex
  refine ⟨by rw [← h2]; exact h1.cell 0 _ (by rw [← hrb,← h3]; rfl),by rw [← h2,← h4]; exact h1.cell 1 _ rfl,by rw [← h4]; exact h1.tabs,by rw [← h4]; exact h1.low.1⟩
 have HBE:=Lib.hid (SegW.begin_any w0 hW.seg)
 have HDF:Hid (∀ j,D.foot j→j < w0.heap.size):=fun j hj=>hW.dsk.lt hj
 have HRF:Hid (∀ j,R.foot j→j < w0.heap.size):=fun j hj=>hW.seg.lt hj
 have HTX:=Lib.hid ht
 have HF:=Lib.hid hf
 have HSZ:=Lib.hid hs
 have HRB:=Lib.hid hrb
 have c0:=(HS0.out w0 0 S0.out).1
 clear hO hrecs hW haw hT hrb hs ht hf
 go_enter Tryz.func113,Tryz.ntmps113
 go_wp2_with fail
 refine HBE.out.mono ?_
 rintro e w0 ⟨rfl,rfl⟩
 clear HBE c0
 go_wp2_with fail
 go_loopw [3] (fun i wr=>∃ k:Nat,k≤its.length∧i=.int .i64 ((R.b+(bytesL (its.take k)).length:Nat):Int)∧Hid (Scan base w0 wr O0 D R its k)) (fun i _=>R.e - (intOf i).toNat)
 case atStart=>exact ⟨0,Nat.zero_le _,by simp [bytesL],S0⟩
 case round =>
  clear S0
  obtain ⟨k,hk,rfl,HS⟩:=hrel
  have c0:=(HS0.out wr k HS.out).1
  have HEN:=Lib.hid (SegW.end_any wr HS.out.whole.seg)
  by_cases hlt:k < its.length
  ·
   cases hm:its[k] with
   | one m =>
     obtain ⟨lf,q1,q2,q3,rest,q4,q5⟩:=scan_read HS.out.whole HSZ.out HTX.out HF.out hup hlt
     have hf2:=HF.out
     rw [its_split hlt] at hf2
     obtain ⟨l1,l2,l3⟩:=hf2.at
     have hbt:=bytes_take hlt
     have hrt:=recs_take (b:=R.b) hlt hm
     have hle:(bytesL (its.take (k+1))).length≤(bytesL its).length:=by
      conv=>rhs; rw [← List.take_append_drop (k+1) its]
      rw [bytesL_app,List.length_append]; omega
     rw [hm] at l1 l3 hbt q4
     obtain ⟨g1,g2⟩:=l1
     have hlen:(TapeMath.Item.one m).len=(recL m).length:=rfl
     have hby:(TapeMath.Item.one m).bytes=recL m:=rfl
     rw [hlen] at l3 hbt
     rw [hby] at q4
     have hrp:=rec_pos m
     have hrl2:=(rec_len g1 g2).2
     have HRT:=Lib.hid hrt
     have HBT:=Lib.hid hbt
     obtain ⟨p,hp⟩:∃ p,p=R.b+(bytesL (its.take k)).length:=⟨_,rfl⟩
     have HP:=Lib.hid hp
     have hpe:p+(recL m).length≤R.e:=by omega
     rw [← hp] at q1 q3 q4 l3 ⊢
     have HC0:Hid (∀ w,Below wr.heap.size wr w→w.cell? ⟨O0.blk,0,none⟩=some (.pointer (some ⟨R.blk,0,none⟩))):=fun w hb=>(HS0.out w k (HS.out.below hb)).1
     have HLE:Hid (∀ w,Below wr.heap.size wr w→Calls Tryz.prog 136 #[.pointer (some ⟨R.blk,0,none⟩),.int .i64 (p:Int)] w fun e w'=>e=.returned (.int .i64 (lf:Int))∧Drawn w w'):=fun w hb=>by
      have:=SegW.left_any (p:Int) (by omega) w (HS.out.below hb).whole.seg
      rw [q1] at this; exact this
     have HRD:Hid (∀ w,Below wr.heap.size wr w→Calls Tryz.prog 82 #[.pointer (some ⟨R.blk,0,none⟩),.int .i64 (p:Int),.int .i64 (lf:Int)] w fun e w'=>e=.returned (.tuple #[.string (S (recL m++rest)),.int .i64 0])∧Below w.heap.size w w'):=fun w hb=>by
      have:=SegW.read_any (p:Int) (lf:Int) (by omega) (by omega) w (HTB.out _ _ (HS.out.below hb)).tab (HS.out.below hb).whole.seg (HS.out.below hb).whole.dsk HS.out.whole.db HS.out.whole.ok
      rw [q3,q4] at this; exact this
     have HG:Hid (∀ w,Below wr.heap.size wr w→Calls Tryz.prog 130 #[.pointer (some ⟨O0.sums,0,none⟩),.string (S (recL m++rest))] w fun e w'=>∃ a c,e=.returned (.tuple #[.agg #[.int .i64 m.kind,.int .i64 m.queue,.int .i64 m.due,.int .i64 m.retry,.int .i64 m.ref,.int .i64 m.born,.string (S m.topic),.string (S m.tag),.string (S m.body),.slice a m.keys.length c],.int .i64 ((recL m).length:Int),.int .i64 0])∧Strs w' a (m.keys.map S)∧Below w.heap.size w w'∧∀ ad,a=some ad→w.heap.size≤ad.block):=fun w hb =>
      get_one O0.sums m g1 g2 rest (by omega) w (HS0.out w k (HS.out.below hb)).2.2.2 (HS0.out w k (HS.out.below hb)).2.2.1
     have HLO:=Lib.hid (fun (w:World)=>loose_no (.pointer (some ⟨O0.blk,0,none⟩)) (p+(recL m).length) (by omega) l3 w)
     have HM0:=Lib.hid g2
     have hpl:(p:Int) < (R.e:Int):=by omega
     have HPE:=Lib.hid hpe
     clear q1 q2 q3 q4 q5 hf2 l2 l3 hbt hrt hle hm g1 g2 hlen hby hp hpe
     generalize hL:(recL m).length=L at *
     have HL:=Lib.hid hL
     have HEE:=Lib.hid hee
     clear hL hee
     generalize recL m++rest=tx at *
     go_wp2_with fail
     refine HEN.out.mono ?_
     rintro e wz ⟨rfl,rfl⟩
     have HBR:Hid (∀ w,RecW.ExtR wz.drew w→Below wz.heap.size wz w):=fun w hw=>(Below.refl wz.heap.size wz).drew.trans hw
     clear HEN
     go_wp2_with fail
     refine GrowN.wp_region_n 17 [none,none,none,none,none,none,none,none,none,none,some (.inl (.int .i64 lf)),some (.inl (.tuple #[.string (S tx),.int .i64 0])),none,none,none,none,none] (RecW.ExtR) (by kernel_rfl) (by kernel_rfl) (by kernel_rfl) (RecW.ExtR.refl) (fun _ _ _=>RecW.ExtR.trans) ?_ ?_
     · exact GrowN.stab0 rfl
     simp only [List.take_succ_cons,List.take_zero,List.drop_succ_cons,List.drop_zero]
     iterate 2
      refine GrowN.g_det rfl ?_
      apply Exists.intro
      refine ⟨fun w hw hF=>?_,?_⟩
      · clear hF
        go_simp
        exact ⟨rfl,RecW.ExtR.refl _⟩
      go_frame
      refine GrowN.g_det rfl ?_
      apply Exists.intro
      refine ⟨fun w hw hF=>?_,?_⟩
      · clear hF
        go_simp
        exact ⟨rfl,RecW.ExtR.refl _⟩
      go_frame
      refine GrowN.g_det rfl ?_
      apply Exists.intro
      refine ⟨fun w hw hF=>?_,?_⟩
      · clear hF
        go_simp
        exact ⟨rfl,RecW.ExtR.refl _⟩
      go_frame
      refine GrowN.g_det rfl ?_
      apply Exists.intro
      refine ⟨fun w hw hF=>?_,?_⟩
      · clear hF
        have hb:=HBR.out w hw
        have c0:=HC0.out w hb
        go_simp
        exact ⟨rfl,RecW.ExtR.refl _⟩
      go_frame
      refine GrowN.g_det rfl ?_
      apply Exists.intro
      refine ⟨fun w hw hF=>?_,?_⟩
      · clear hF
        go_simp
        exact ⟨rfl,RecW.ExtR.refl _⟩
      go_frame
     refine GrowN.g_con rfl (fun w hw hF=>?_) ?_
     · clear hF
       have hb:=HBR.out w hw
       go_simp
       exact (HLE.out w hb).mono fun e w3 h=>⟨_,h.1,rfl,h.2.below _⟩
     go_frame
     refine GrowN.g_con rfl (fun w hw hF=>?_) ?_
     · clear hF
       have hb:=HBR.out w hw
       go_simp
       exact (HRD.out w hb).mono fun e w3 h=>⟨_,h.1,rfl,h.2⟩
     iterate 5
      go_frame
      refine GrowN.g_det rfl ?_
      apply Exists.intro
      refine ⟨fun w hw hF=>?_,?_⟩
      · clear hF
        go_simp
        exact ⟨rfl,RecW.ExtR.refl _⟩
     go_frame
     refine GrowN.g_nil fun w2 hw2 hF=>?_
     clear hF
     have HB2:=Lib.hid (HBR.out w2 hw2)
     clear hw2 HC0 HLE HRD HBR
     have c1:=(HS0.out w2 k (HS.out.below HB2.out)).2.1
     go_wp2_with fail
     refine (HG.out w2 HB2.out).mono ?_
     rintro e w3 ⟨a,c,rfl,-,hb,-⟩
     have HB3:=Lib.hid (HB2.out.trans (hb.mono HB2.out.size))
     clear hb HG c1 HB2
     go_wp2_with fail
     refine (HLO.out _).mono ?_
     rintro e w4 ⟨rfl,rfl⟩
     go_wp2_with fail
     have hb5:Below wz.heap.size wz (w3.alloc (.cells #[.int .i64 m.kind,.int .i64 m.queue,.int .i64 m.due,.int .i64 m.retry,.int .i64 m.ref,.int .i64 m.born,.string (S m.topic),.string (S m.tag),.string (S m.body),.slice a m.keys.length c] 53)):=HB3.out.alloc HB3.out.size _
     have HB5:=Lib.hid hb5
     have S5:=HS.out.below hb5
     clear hb5
     generalize w3.alloc (.cells #[.int .i64 m.kind,.int .i64 m.queue,.int .i64 m.due,.int .i64 m.retry,.int .i64 m.ref,.int .i64 m.born,.string (S m.topic),.string (S m.tag),.string (S m.body),.slice a m.keys.length c] 53)=w5 at *
     obtain ⟨O,o1,o2,o3,o4,o5,o6,o7,o8⟩:=S5.ex
     have hfk:Fits R.b (its.take k):=(Fits.app.1 (by rw [List.take_append_drop]; exact HF.out:Fits R.b (its.take k++its.drop k))).1
     have hnid:∀ q∈O.recs,q.1≠p:=by
      intro q hq e
      rw [o6] at hq
      obtain ⟨i0,m0⟩:=q
      have:=recs_lt hfk hq
      have h3:=rec_pos m0
      have h4:=HP.out
      simp only at e
      omega
     have hlen:O.recs.length≤1048576:=by
      rw [o6]
      have h:=recs_len R.b (its.take k)
      rw [List.length_take] at h
      omega
     have HNO:=Lib.hid (note_one p m a c w5 o1 HM0.out hnid hlen (by have:=HB5.out.size; have:=HS.out.mod.size; omega))
     rw [o2,HL.out] at HNO
     have HO:=Lib.hid o1
     have H8:=Lib.hid o8
     have HEQ:Hid (O.blk=O0.blk∧O.rb=O0.rb∧O.sums=O0.sums∧O.mB=O0.mB∧O.recs=recsOf R.b (its.take k)):=⟨o2,o3,o4,o5,o6⟩
     have HS5:=Lib.hid S5
     unfold cellsM at HNO
     clear o1 o2 o3 o4 o5 o6 o7 o8 hnid hlen S5
     refine HNO.out.mono ?_
     rintro e w6 ⟨rfl,idv,ho,hm6,hi⟩
     have HO6:=Lib.hid ho
     have HM6:=Lib.hid hm6
     have HI6:=Lib.hid hi
     clear ho hm6 hi HNO
     go_wp2_with fail
     go_roundw
     case rel =>
      obtain ⟨x1,x2,x3,x4,x5⟩:=HEQ.out
      have hs5:=HS5.out
      have hLT:=HLT.out
      have hfo:∀ j,O.foot j→O0.foot j∨w0.heap.size≤j:=H8.out
      have hbt:=HBT.out
      have hpp:=HP.out
      refine ⟨k+1,by omega,by rw [hbt,hpp]; congr 1; omega,⟨⟨_,HO6.out,x1,x2,x3,x4,?_,?_,fun j hj=>?_⟩,hs5.whole.mod HM6.out (fun j hj hj2=>?_) (fun j hj hj2=>?_),mod_over hs5.mod HM6.out hfo⟩⟩
      · show O.recs++[(p,m)]=_
        rw [x5,HRT.out,← hpp]
      · intro q hq
        have e:(O.recs++[(p,m)]).getLast?=some q:=hq
        rw [List.getLast?_append] at e
        simp at e
        rw [← e]; rfl
      · rcases hj with hj | hj | hj | hj
        · exact hfo j (.inl hj)
        · exact hfo j (.inr (.inl hj))
        · exact hfo j (.inr (.inr (.inl hj)))
        · rcases HI6.out j hj with h | h
          · exact hfo j h
          · right; have:=hs5.mod.size; omega
      · rcases hfo j hj2 with h | h
        · exact (HAW.out j h).1 hj
        · have:=HDF.out j hj; omega
      · rcases hfo j hj2 with h | h
        · exact (HAW.out j h).2 hj
        · have:=HRF.out j hj; omega
     case measure =>
      have e1:(intOf (.int .i64 ((p:Int)+(L:Int)))).toNat=p+L:=by show ((p:Int)+(L:Int)).toNat=_; omega
      have e2:(intOf (.int .i64 (p:Int))).toNat=p:=by show ((p:Int)).toNat=_; omega
      rw [e1,e2]
      have:=HPE.out
      have:=HL.out
      omega
   | fill n =>
     obtain ⟨lf,q1,q2,q3,rest,q4,q5⟩:=scan_read HS.out.whole HSZ.out HTX.out HF.out hup hlt
     have hf2:=HF.out
     rw [its_split hlt] at hf2
     obtain ⟨l1,l2,l3⟩:=hf2.at
     have hbt:=bytes_take hlt
     have hle:(bytesL (its.take (k+1))).length≤(bytesL its).length:=by
      conv=>rhs; rw [← List.take_append_drop (k+1) its]
      rw [bytesL_app,List.length_append]; omega
     rw [hm] at l1 l3 hbt q4
     obtain ⟨g1,g2⟩:=l1
     have hlen:(TapeMath.Item.fill n).len=n:=fill_len g1 g2
     have hby:(TapeMath.Item.fill n).bytes=fillL (n:Int):=rfl
     rw [hlen] at l3 hbt
     rw [hby] at q4
     have HBT:=Lib.hid hbt
     have HMF:=Lib.hid hm
     obtain ⟨p,hp⟩:∃ p,p=R.b+(bytesL (its.take k)).length:=⟨_,rfl⟩
     have HP:=Lib.hid hp
     have hpe:p+n≤R.e:=by omega
     rw [← hp] at q1 q3 q4 l3 ⊢
     have HC0:Hid (∀ w,Below wr.heap.size wr w→w.cell? ⟨O0.blk,0,none⟩=some (.pointer (some ⟨R.blk,0,none⟩))):=fun w hb=>(HS0.out w k (HS.out.below hb)).1
     have HLE:Hid (∀ w,Below wr.heap.size wr w→Calls Tryz.prog 136 #[.pointer (some ⟨R.blk,0,none⟩),.int .i64 (p:Int)] w fun e w'=>e=.returned (.int .i64 (lf:Int))∧Drawn w w'):=fun w hb=>by
      have:=SegW.left_any (p:Int) (by omega) w (HS.out.below hb).whole.seg
      rw [q1] at this; exact this
     have HRD:Hid (∀ w,Below wr.heap.size wr w→Calls Tryz.prog 82 #[.pointer (some ⟨R.blk,0,none⟩),.int .i64 (p:Int),.int .i64 (lf:Int)] w fun e w'=>e=.returned (.tuple #[.string (S (fillL (n:Int)++rest)),.int .i64 0])∧Below w.heap.size w w'):=fun w hb=>by
      have:=SegW.read_any (p:Int) (lf:Int) (by omega) (by omega) w (HTB.out _ _ (HS.out.below hb)).tab (HS.out.below hb).whole.seg (HS.out.below hb).whole.dsk HS.out.whole.db HS.out.whole.ok
      rw [q3,q4] at this; exact this
     have HG:=Lib.hid (fun (w:World)=>get_filler O0.sums n g1 g2 rest (by omega) w)
     rw [show cellsM { noMsg with body:=noughts n } none 0=#[.int .i64 0,.int .i64 0,.int .i64 0,.int .i64 0,.int .i64 0,.int .i64 0,.string ⟨#[]⟩,.string ⟨#[]⟩,.string (S (noughts n)),.slice none 0 0] from rfl] at HG
     have HNO:=Lib.hid (fun (w:World)=>note_filler O0.blk p n { noMsg with body:=noughts n } none 0 rfl w)
     rw [show cellsM { noMsg with body:=noughts n } none 0=#[.int .i64 0,.int .i64 0,.int .i64 0,.int .i64 0,.int .i64 0,.int .i64 0,.string ⟨#[]⟩,.string ⟨#[]⟩,.string (S (noughts n)),.slice none 0 0] from rfl] at HNO
     have HLO:=Lib.hid (fun (w:World)=>loose_no (.pointer (some ⟨O0.blk,0,none⟩)) (p+n) (by omega) l3 w)
     have hpl:(p:Int) < (R.e:Int):=by omega
     have HPE:=Lib.hid hpe
     have HEE:=Lib.hid hee
     have hn1:(1:Int)≤(n:Int):=by omega
     have hn2:(n:Int)≤1024:=by omega
     clear q1 q2 q3 q4 q5 hf2 l2 l3 hbt hle hm g1 g2 hlen hby hp hpe hee
     generalize fillL (n:Int)++rest=tx at *
     go_wp2_with fail
     refine HEN.out.mono ?_
     rintro e wz ⟨rfl,rfl⟩
     have HBR:Hid (∀ w,RecW.ExtR wz.drew w→Below wz.heap.size wz w):=fun w hw=>(Below.refl wz.heap.size wz).drew.trans hw
     clear HEN
     go_wp2_with fail
     refine GrowN.wp_region_n 17 [none,none,none,none,none,none,none,none,none,none,some (.inl (.int .i64 lf)),some (.inl (.tuple #[.string (S tx),.int .i64 0])),none,none,none,none,none] (RecW.ExtR) (by kernel_rfl) (by kernel_rfl) (by kernel_rfl) (RecW.ExtR.refl) (fun _ _ _=>RecW.ExtR.trans) ?_ ?_
     · exact GrowN.stab0 rfl
     simp only [List.take_succ_cons,List.take_zero,List.drop_succ_cons,List.drop_zero]
     iterate 2
      refine GrowN.g_det rfl ?_
      apply Exists.intro
      refine ⟨fun w hw hF=>?_,?_⟩
      · clear hF
        go_simp
        exact ⟨rfl,RecW.ExtR.refl _⟩
      go_frame
      refine GrowN.g_det rfl ?_
      apply Exists.intro
      refine ⟨fun w hw hF=>?_,?_⟩
      · clear hF
        go_simp
        exact ⟨rfl,RecW.ExtR.refl _⟩
      go_frame
      refine GrowN.g_det rfl ?_
      apply Exists.intro
      refine ⟨fun w hw hF=>?_,?_⟩
      · clear hF
        go_simp
        exact ⟨rfl,RecW.ExtR.refl _⟩
      go_frame
      refine GrowN.g_det rfl ?_
      apply Exists.intro
      refine ⟨fun w hw hF=>?_,?_⟩
      · clear hF
        have hb:=HBR.out w hw
        have c0:=HC0.out w hb
        go_simp
        exact ⟨rfl,RecW.ExtR.refl _⟩
      go_frame
      refine GrowN.g_det rfl ?_
      apply Exists.intro
      refine ⟨fun w hw hF=>?_,?_⟩
      · clear hF
        go_simp
        exact ⟨rfl,RecW.ExtR.refl _⟩
      go_frame
     refine GrowN.g_con rfl (fun w hw hF=>?_) ?_
     · clear hF
       have hb:=HBR.out w hw
       go_simp
       exact (HLE.out w hb).mono fun e w3 h=>⟨_,h.1,rfl,h.2.below _⟩
     go_frame
     refine GrowN.g_con rfl (fun w hw hF=>?_) ?_
     · clear hF
       have hb:=HBR.out w hw
       go_simp
       exact (HRD.out w hb).mono fun e w3 h=>⟨_,h.1,rfl,h.2⟩
     iterate 5
      go_frame
      refine GrowN.g_det rfl ?_
      apply Exists.intro
      refine ⟨fun w hw hF=>?_,?_⟩
      · clear hF
        go_simp
        exact ⟨rfl,RecW.ExtR.refl _⟩
     go_frame
     refine GrowN.g_nil fun w2 hw2 hF=>?_
     clear hF
     have HB2:=Lib.hid (HBR.out w2 hw2)
     clear hw2 HC0 HLE HRD HBR
     have c1:=(HS0.out w2 k (HS.out.below HB2.out)).2.1
     go_wp2_with fail
     refine (HG.out w2).mono ?_
     rintro e w3 ⟨rfl,hb⟩
     have HB3:=Lib.hid (HB2.out.trans (hb.mono HB2.out.size))
     clear hb HG c1 HB2
     go_wp2_with fail
     refine (HLO.out _).mono ?_
     rintro e w4 ⟨rfl,rfl⟩
     go_wp2_with fail
     have hb5:Below wz.heap.size wz (w3.alloc (.cells #[.int .i64 0,.int .i64 0,.int .i64 0,.int .i64 0,.int .i64 0,.int .i64 0,.string ⟨#[]⟩,.string ⟨#[]⟩,.string (S (noughts n)),.slice none 0 0] 53)):=HB3.out.alloc HB3.out.size _
     have HB5:=Lib.hid hb5
     clear hb5
     generalize w3.alloc (.cells #[.int .i64 0,.int .i64 0,.int .i64 0,.int .i64 0,.int .i64 0,.int .i64 0,.string ⟨#[]⟩,.string ⟨#[]⟩,.string (S (noughts n)),.slice none 0 0] 53)=w5 at *
     refine (HNO.out w5).mono ?_
     rintro e w6 ⟨rfl,hb6⟩
     have HB6:=Lib.hid (HB5.out.trans (hb6.mono HB5.out.size))
     clear hb6 HNO
     go_wp2_with fail
     go_roundw
     case rel =>
      have hbt:=HBT.out
      have hpp:=HP.out
      exact ⟨k+1,by omega,by rw [hbt,hpp]; congr 1; omega,(HS.out.below HB6.out).fill hlt HMF.out⟩
     case measure =>
      have e1:(intOf (.int .i64 ((p:Int)+(n:Int)))).toNat=p+n:=by show ((p:Int)+(n:Int)).toNat=_; omega
      have e2:(intOf (.int .i64 (p:Int))).toNat=p:=by show ((p:Int)).toNat=_; omega
      rw [e1,e2]
      have:=HPE.out
      omega
  ·
   have hke:k=its.length:=by omega
   subst hke
   rw [List.take_length] at *
   rw [← hee] at *
   go_wp2_with fail
   refine HEN.out.mono ?_
   rintro e wz ⟨rfl,rfl⟩
   clear HEN
   go_wp2_with fail
   go_ret
   exact ⟨rfl,HS.out⟩
end Go.Proofs.YtnoehodmmkioaaaGreatDoor.TapeW
