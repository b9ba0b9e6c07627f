/- rec: opened, walked. And what follows. -/
import Derived.Test.YtnoehodmmkioaaaGreatDoorS05
import Derived.Test.YtnoehodmmkioaaaGreatDoorS01
set_option maxHeartbeats 25600000
set_option maxRecDepth 100000
set_option linter.unusedVariables false
set_option linter.unusedSimpArgs false
namespace Go.Proofs.YtnoehodmmkioaaaGreatDoor.RecW
open Go.RowKit OctMath RecMath NameMath
open OctW (Rd One Texts textL textsL textsW listW)
def ExtR (u v:World):Prop:=Below u.heap.size u v
theorem ExtR.refl (w:World):ExtR w w:=Below.refl _ _
theorem ExtR.trans {u v w:World} (h:ExtR u v) (k:ExtR v w):ExtR u w:=Below.trans h (Below.mono k h.size)
theorem strs_over {w w':World} {a:Option Addr} {ts:List ByteArray} {B:Nat} (h:Strs w a ts) (hm:Mod (fun k=>k=B) w w') (ha:∀ ad,a=some ad→ts≠[]→ad.block≠B):Strs w' a ts:=by
 intro i hi
 obtain ⟨b,off,rfl,hc⟩:=h i hi
 refine ⟨b,off,rfl,?_⟩
 rw [hm.cell (cell_lt hc) (fun e=>ha _ rfl (fun e2=>by rw [e2] at hi; exact absurd hi (Nat.not_lt_zero _)) e)]
 exact hc
structure Mid0 (W:World) (Bt Br:Nat) (r:RS) (w:World):Prop where
 t:w.heap[Bt]?=some (.cells (cellsM noMsg none 0) 53 (0,0))
 r:Rd Br r w
 b:Below W.heap.size W w
theorem Mid0.one {W w w':World} {Bt Br:Nat} {r r':RS} (h:Mid0 W Bt Br r w) (hr:Rd Br r' w') (hm:One Br w w') (h1:Bt≠Br) (h3:W.heap.size≤Br):Mid0 W Bt Br r' w' :=
 ⟨(hm.block Bt (Array.getElem?_eq_some_iff.1 h.t).1 h1).trans h.t,hr,h.b.trans (hm.to_below _ h.b.size (fun k e=>e ▸ h3))⟩
theorem opened_any (s:List UInt8) (hs:s.length≤1073741824) (W:World) :
 Calls Tryz.prog 188 #[.string (S s)] W fun e w'=>∃ a c,e=.returned (.tuple #[.agg (cellsM (openedR s).1 a c),.bool (openedB s)])∧Strs w' a ((openedR s).1.keys.map S)∧Below W.heap.size W w'∧∀ ad,a=some ad→W.heap.size≤ad.block:=by
 have hM:=opened_ok s hs
 obtain ⟨k,r1,e1⟩:∃ k r1,numR 1 ⟨s,0⟩=(k,r1):=⟨_,_,rfl⟩
 obtain ⟨q,r2,e2⟩:∃ q r2,numR 1 r1=(q,r2):=⟨_,_,rfl⟩
 obtain ⟨rt,r3,e3⟩:∃ rt r3,numR 1 r2=(rt,r3):=⟨_,_,rfl⟩
 obtain ⟨b,r4,e4⟩:∃ b r4,numR 6 r3=(b,r4):=⟨_,_,rfl⟩
 obtain ⟨d,r5,e5⟩:∃ d r5,numR 6 r4=(d,r5):=⟨_,_,rfl⟩
 obtain ⟨rf,r6,e6⟩:∃ rf r6,numR 6 r5=(rf,r6):=⟨_,_,rfl⟩
 obtain ⟨t,r7,e7⟩:∃ t r7,textR 16 r6=(t,r7):=⟨_,_,rfl⟩
 obtain ⟨g,r8,e8⟩:∃ g r8,textR 16 r7=(g,r8):=⟨_,_,rfl⟩
 obtain ⟨bo,r9,e9⟩:∃ bo r9,textR 200 r8=(bo,r9):=⟨_,_,rfl⟩
 obtain ⟨ks,r10,e10⟩:∃ ks r10,listR 3 16 r9=(ks,r10):=⟨_,_,rfl⟩
 have hE:openedR s=(⟨k,q,d,rt,rf,b,t,g,bo,ks⟩,r10):=by
  unfold openedR
  simp only [e1,e2,e3,e4,e5,e6,e7,e8,e9,e10]
 have hl0:(⟨s,0⟩:RS).s.length≤1073741824:=hs
 have hl1:r1.s.length≤1073741824:=by have:=OctW.numR_len 1 ⟨s,0⟩; rw [e1] at this; exact Nat.le_trans this hl0
 have hl2:r2.s.length≤1073741824:=by have:=OctW.numR_len 1 r1; rw [e2] at this; exact Nat.le_trans this hl1
 have hl3:r3.s.length≤1073741824:=by have:=OctW.numR_len 1 r2; rw [e3] at this; exact Nat.le_trans this hl2
 have hl4:r4.s.length≤1073741824:=by have:=OctW.numR_len 6 r3; rw [e4] at this; exact Nat.le_trans this hl3
 have hl5:r5.s.length≤1073741824:=by have:=OctW.numR_len 6 r4; rw [e5] at this; exact Nat.le_trans this hl4
 have hl6:r6.s.length≤1073741824:=by have:=OctW.numR_len 6 r5; rw [e6] at this; exact Nat.le_trans this hl5
 have hl7:r7.s.length≤1073741824:=by have:=OctW.textR_len 16 r6; rw [e7] at this; exact Nat.le_trans this hl6
 have hl8:r8.s.length≤1073741824:=by have:=OctW.textR_len 16 r7; rw [e8] at this; exact Nat.le_trans this hl7
 have hl9:r9.s.length≤1073741824:=by have:=OctW.textR_len 200 r8; rw [e9] at this; exact Nat.le_trans this hl8
 have C1:=Lib.hid (fun (B:Nat) (w:World) (h:Rd B ⟨s,0⟩ w)=>OctW.num_any B ⟨s,0⟩ 1 (by omega) (by omega) (by omega) w h)
 have C2:=Lib.hid (fun (B:Nat) (w:World) (h:Rd B r1 w)=>OctW.num_any B r1 1 (by omega) (by omega) (by omega) w h)
 have C3:=Lib.hid (fun (B:Nat) (w:World) (h:Rd B r2 w)=>OctW.num_any B r2 1 (by omega) (by omega) (by omega) w h)
 have C4:=Lib.hid (fun (B:Nat) (w:World) (h:Rd B r3 w)=>OctW.num_any B r3 6 (by omega) (by omega) (by omega) w h)
 have C5:=Lib.hid (fun (B:Nat) (w:World) (h:Rd B r4 w)=>OctW.num_any B r4 6 (by omega) (by omega) (by omega) w h)
 have C6:=Lib.hid (fun (B:Nat) (w:World) (h:Rd B r5 w)=>OctW.num_any B r5 6 (by omega) (by omega) (by omega) w h)
 have C7:=Lib.hid (fun (B:Nat) (w:World) (h:Rd B r6 w)=>OctW.text_any B r6 16 (by omega) (by omega) (by omega) w h)
 have C8:=Lib.hid (fun (B:Nat) (w:World) (h:Rd B r7 w)=>OctW.text_any B r7 16 (by omega) (by omega) (by omega) w h)
 have C9:=Lib.hid (fun (B:Nat) (w:World) (h:Rd B r8 w)=>OctW.text_any B r8 200 (by omega) (by omega) (by omega) w h)
 have C10:=Lib.hid (fun (B:Nat) (w:World) (h:Rd B r9 w)=>OctW.list_any B r9 3 16 (by omega) (by omega) (by omega) (by omega) (by omega) w h)
 have CE:=Lib.hid (fun (B:Nat) (w:World) (h:Rd B r10 w)=>OctW.end_any B r10 w h)
 rw [e1] at C1; rw [e2] at C2; rw [e3] at C3; rw [e4] at C4; rw [e5] at C5; rw [e6] at C6; rw [e7] at C7; rw [e8] at C8; rw [e9] at C9; rw [e10] at C10
 simp only at C1 C2 C3 C4 C5 C6 C7 C8 C9 C10
 have hB:openedB s=(decide (endR r10=0) && decide ((k:Int)≠0) && rightL ⟨k,q,d,rt,rf,b,t,g,bo,ks⟩):=by unfold openedB; rw [hE]
 rw [hE] at hM ⊢
 rw [hB]
 simp only at hM ⊢
 have CR:=Lib.hid (fun (a:Option Addr) (c:Nat) (w:World) (h:Strs w a (ks.map S))=>right_any ⟨k,q,d,rt,rf,b,t,g,bo,ks⟩ hM a c w h)
 generalize hmm:(⟨k,q,d,rt,rf,b,t,g,bo,ks⟩:Msg)=mm at *
 have hcm:∀ a c,cellsM mm a c=#[.int .i64 k,.int .i64 q,.int .i64 d,.int .i64 rt,.int .i64 rf,.int .i64 b,.string (S t),.string (S g),.string (S bo),.slice a ks.length c]:=fun a c=>by rw [← hmm]; rfl
 have HCM:=Lib.hid hcm
 have HKS:Hid (mm.keys=ks):=by show _=_; rw [← hmm]
 have hmk:mm.kind=(k:Int):=by rw [← hmm]
 clear hcm hmm hE hB hM e1 e2 e3 e4 e5 e6 e7 e8 e9 e10 hl0 hl1 hl2 hl3 hl4 hl5 hl6 hl7 hl8 hl9
 go_enter Tryz.func188,Tryz.ntmps188
 go_wp2_with fail
 refine (OctW.new_any s _).mono ?_
 rintro e w1 ⟨rfl,hrd,hb⟩
 obtain ⟨Bt,hBt⟩:∃ B,W.heap.size=B:=⟨_,rfl⟩
 obtain ⟨Br,hBr⟩:∃ B,W.heap.size+1=B:=⟨_,rfl⟩
 have M0:Hid (Mid0 W Bt Br ⟨s,0⟩ w1):=by
  rw [World.size_alloc,hBr] at hrd
  refine ⟨?_,hrd,((Below.refl _ _).alloc (Nat.le_refl _) _).trans (hb.mono (by rw [World.size_alloc]; omega))⟩
  rw [← hBt,hb.block _ (by rw [World.size_alloc]; omega)]
  exact heap_alloc_new W _
 have hne:Bt≠Br:=by omega
 have hle:W.heap.size≤Br:=by omega
 clear hrd hb
 rw [World.size_alloc,hBr,hBt]
 have HNE:=Lib.hid hne
 have HLE:=Lib.hid hle
 have HBR:=Lib.hid hBr
 have HBT:=Lib.hid hBt
 clear hne hle hBr hBt
 go_wp2_with fail
 refine (C1.out Br _ M0.out.r).mono ?_
 rintro e w2 ⟨rfl,hr,hm⟩
 have M1:=Lib.hid (M0.out.one hr hm HNE.out HLE.out)
 clear hr hm M0 C1
 go_wp2_with fail
 refine (C2.out Br _ M1.out.r).mono ?_
 rintro e w3 ⟨rfl,hr,hm⟩
 have M2:=Lib.hid (M1.out.one hr hm HNE.out HLE.out)
 clear hr hm M1 C2
 go_wp2_with fail
 refine (C3.out Br _ M2.out.r).mono ?_
 rintro e w4 ⟨rfl,hr,hm⟩
 have M3:=Lib.hid (M2.out.one hr hm HNE.out HLE.out)
 clear hr hm M2 C3
 go_wp2_with fail
 obtain ⟨Bm,hBm⟩:∃ B,w4.heap.size=B:=⟨_,rfl⟩
 obtain ⟨w5,hw5⟩:∃ w5:World,w5=w4.alloc (.cells #[.int .i64 (k:Int),.int .i64 (q:Int),.int .i64 0,.int .i64 (rt:Int),.int .i64 0,.int .i64 0,.string ⟨#[]⟩,.string ⟨#[]⟩,.string ⟨#[]⟩,.slice none 0 0] 53):=⟨_,rfl⟩
 have M4:Hid (Mid W Bt Br Bm #[.int .i64 (k:Int),.int .i64 (q:Int),.int .i64 0,.int .i64 (rt:Int),.int .i64 0,.int .i64 0,.string ⟨#[]⟩,.string ⟨#[]⟩,.string ⟨#[]⟩,.slice none 0 0] r3 w5):=by
  have hbb:Below w4.heap.size w4 w5:=by rw [hw5]; exact (Below.refl _ _).alloc (Nat.le_refl _) _
  have h0:=M3.out
  refine ⟨?_,?_,?_,h0.b.trans (hbb.mono h0.b.size)⟩
  · rw [hbb.block _ (Array.getElem?_eq_some_iff.1 h0.t).1]; exact h0.t
  · rw [hw5,← hBm]; exact heap_alloc_new w4 _
  · exact h0.r.mod (Mod.of_below (M:=fun _=>False) hbb) (fun h=>h)
 have HRT:=HNE
 have HRM:Hid (Bm≠Br):=by
  have:=M3.out.r.lt
  show _≠_
  omega
 have HTM:Hid (Bt≠Bm):=by
  have:=(Array.getElem?_eq_some_iff.1 M3.out.t).1
  show _≠_
  omega
 have HLM:Hid (W.heap.size≤Bm):=by
  have:=M3.out.b.size
  show _≤_
  omega
 rw [← hw5,hBm]
 clear hw5 hBm M3
 refine (C4.out Br _ M4.out.r).mono ?_
 rintro e w6 ⟨rfl,hr,hm⟩
 have M5:=Lib.hid (M4.out.one hr hm HRT.out HRM.out HLE.out)
 clear hr hm M4 C4
 go_wp2_with fail
 refine (C5.out Br _ M5.out.r).mono ?_
 rintro e w7 ⟨rfl,hr,hm⟩
 have M6:=Lib.hid (M5.out.one hr hm HRT.out HRM.out HLE.out)
 clear hr hm M5 C5
 go_wp2_with fail
 refine (C6.out Br _ M6.out.r).mono ?_
 rintro e w8 ⟨rfl,hr,hm⟩
 have M7:=Lib.hid (M6.out.one hr hm HRT.out HRM.out HLE.out)
 clear hr hm M6 C6
 have q5:w8.cell? ⟨Bm,5,none⟩=some (.int .i64 0):=M7.out.cell 5 _ rfl
 have f5:w8.frozen? ⟨Bm,5,none⟩=false:=M7.out.free 5
 have q2:w8.cell? ⟨Bm,2,none⟩=some (.int .i64 0):=M7.out.cell 2 _ rfl
 have f2:w8.frozen? ⟨Bm,2,none⟩=false:=M7.out.free 2
 have q4:w8.cell? ⟨Bm,4,none⟩=some (.int .i64 0):=M7.out.cell 4 _ rfl
 have f4:w8.frozen? ⟨Bm,4,none⟩=false:=M7.out.free 4
 go_wp2_with fail
 have M8:Hid (Mid W Bt Br Bm #[.int .i64 (k:Int),.int .i64 (q:Int),.int .i64 (d:Int),.int .i64 (rt:Int),.int .i64 (rf:Int),.int .i64 (b:Int),.string ⟨#[]⟩,.string ⟨#[]⟩,.string ⟨#[]⟩,.slice none 0 0] r6 (((w8.setCell ⟨Bm,5,none⟩ (.int .i64 (b:Int))).setCell ⟨Bm,2,none⟩ (.int .i64 (d:Int))).setCell ⟨Bm,4,none⟩ (.int .i64 (rf:Int)))) :=
  ((M7.out.set 5 _ rfl HTM.out HRM.out HLM.out).set 2 _ rfl HTM.out HRM.out HLM.out).set 4 _ rfl HTM.out HRM.out HLM.out
 generalize ((w8.setCell ⟨Bm,5,none⟩ (.int .i64 (b:Int))).setCell ⟨Bm,2,none⟩ (.int .i64 (d:Int))).setCell ⟨Bm,4,none⟩ (.int .i64 (rf:Int))=w9 at *
 clear M7 q5 f5 q2 f2 q4 f4
 refine (C7.out Br _ M8.out.r).mono ?_
 rintro e w10 ⟨rfl,hr,hm⟩
 have M9:=Lib.hid (M8.out.one hr hm HRT.out HRM.out HLE.out)
 clear hr hm M8 C7
 go_wp2_with fail
 refine (C8.out Br _ M9.out.r).mono ?_
 rintro e w11 ⟨rfl,hr,hm⟩
 have M10:=Lib.hid (M9.out.one hr hm HRT.out HRM.out HLE.out)
 clear hr hm M9 C8
 go_wp2_with fail
 refine (C9.out Br _ M10.out.r).mono ?_
 rintro e w12 ⟨rfl,hr,hm⟩
 have M11:=Lib.hid (M10.out.one hr hm HRT.out HRM.out HLE.out)
 clear hr hm M10 C9
 have q6:w12.cell? ⟨Bm,6,none⟩=some (.string ⟨#[]⟩):=M11.out.cell 6 _ rfl
 have f6:w12.frozen? ⟨Bm,6,none⟩=false:=M11.out.free 6
 have q7:w12.cell? ⟨Bm,7,none⟩=some (.string ⟨#[]⟩):=M11.out.cell 7 _ rfl
 have f7:w12.frozen? ⟨Bm,7,none⟩=false:=M11.out.free 7
 have q8:w12.cell? ⟨Bm,8,none⟩=some (.string ⟨#[]⟩):=M11.out.cell 8 _ rfl
 have f8:w12.frozen? ⟨Bm,8,none⟩=false:=M11.out.free 8
 go_wp2_with fail
 have M12:Hid (Mid W Bt Br Bm #[.int .i64 (k:Int),.int .i64 (q:Int),.int .i64 (d:Int),.int .i64 (rt:Int),.int .i64 (rf:Int),.int .i64 (b:Int),.string (S t),.string (S g),.string (S bo),.slice none 0 0] r9 (((w12.setCell ⟨Bm,6,none⟩ (.string (S t))).setCell ⟨Bm,7,none⟩ (.string (S g))).setCell ⟨Bm,8,none⟩ (.string (S bo)))) :=
  ((M11.out.set 6 _ rfl HTM.out HRM.out HLM.out).set 7 _ rfl HTM.out HRM.out HLM.out).set 8 _ rfl HTM.out HRM.out HLM.out
 generalize ((w12.setCell ⟨Bm,6,none⟩ (.string (S t))).setCell ⟨Bm,7,none⟩ (.string (S g))).setCell ⟨Bm,8,none⟩ (.string (S bo))=w13 at *
 clear M11 q6 f6 q7 f7 q8 f8
 refine (C10.out Br _ M12.out.r).mono ?_
 rintro e w14 ⟨v,rfl,htx,hr,hm⟩
 have M13:=Lib.hid (M12.out.one hr hm HRT.out HRM.out HLE.out)
 obtain ⟨a,c,hv,hst⟩:=htx.strs
 subst hv
 have HST:=Lib.hid hst
 have HSB:Hid (w13.heap.size≤w14.heap.size):=hm.size
 have HAD:Hid (∀ ad,a=some ad→w13.heap.size≤ad.block):=fun ad e=>ownBlock_of_own htx ad.block (by rw [e]; rfl)
 have HWL:Hid (W.heap.size≤w13.heap.size):=M12.out.b.size
 have HML:Hid (Bm < w13.heap.size∧Bt < w13.heap.size):=⟨(Array.getElem?_eq_some_iff.1 M12.out.m).1,(Array.getElem?_eq_some_iff.1 M12.out.t).1⟩
 clear hr hm M12 C10 htx hst
 have q9:w14.cell? ⟨Bm,9,none⟩=some (.slice none 0 0):=M13.out.cell 9 _ rfl
 have f9:w14.frozen? ⟨Bm,9,none⟩=false:=M13.out.free 9
 go_wp2_with fail
 --REGION
 have M14:Hid (Mid W Bt Br Bm #[.int .i64 (k:Int),.int .i64 (q:Int),.int .i64 (d:Int),.int .i64 (rt:Int),.int .i64 (rf:Int),.int .i64 (b:Int),.string (S t),.string (S g),.string (S bo),.slice a ks.length c] r10 (w14.setCell ⟨Bm,9,none⟩ (.slice a ks.length c))):=M13.out.set 9 _ rfl HTM.out HRM.out HLM.out
 have HSY:Hid (Strs (w14.setCell ⟨Bm,9,none⟩ (.slice a ks.length c)) a (ks.map S)):=strs_over HST.out (setm (Mod.refl _ _) 9 _) (fun ad e _=>by have h1:=HAD.out ad e; have h2:=HML.out; omega)
 clear M13 q9 f9 HST
 generalize w14.setCell ⟨Bm,9,none⟩ (.slice a ks.length c)=w15 at *
 have HSX:Hid (∀ w,Mod (fun k=>k=Bt) w15 w→Strs w a (ks.map S)):=fun w hm=>strs_over HSY.out hm (fun ad e _=>by have h1:=HAD.out ad e; have h2:=HML.out; omega)
 have HBX:Hid (∀ w,Mod (fun k=>k=Bt) w15 w→∀ (i:Nat) (v:Value),(#[.int .i64 (k:Int),.int .i64 (q:Int),.int .i64 (d:Int),.int .i64 (rt:Int),.int .i64 (rf:Int),.int .i64 (b:Int),.string (S t),.string (S g),.string (S bo),.slice a ks.length c]:Array Value)[i]?=some v→w.cell? ⟨Bm,i,none⟩=some v):=fun w hm i v hv=>by
  rw [hm.cell (Array.getElem?_eq_some_iff.1 M14.out.m).1 (fun e=>HTM.out e.symm)]; exact M14.out.cell i v hv
 have HRX:Hid (∀ w,Mod (fun k=>k=Bt) w15 w→Rd Br r10 w):=fun w hm=>M14.out.r.mod hm (fun e=>HRT.out e.symm)
 have HT15:Hid (Bt < w15.heap.size):=(Array.getElem?_eq_some_iff.1 M14.out.t).1
 generalize hrl:rightL mm=rl at *
 generalize hki:(k:Int)=ki at *
 have HKI:=Lib.hid hki
 clear hki
 by_cases he:endR r10=0
 case neg =>
  have HFIN:Hid ((decide (endR r10=0) && decide (ki≠0) && rl)=false):=by show _=_; simp [he]
  have hbq:((((endR r10:Nat):Int)) == 0)=false:=OctW.eq_f he
  refine GrowN.wp_region_n 14 [some (.inl (.agg #[.int .i64 ki,.int .i64 (q:Int),.int .i64 (d:Int),.int .i64 (rt:Int),.int .i64 (rf:Int),.int .i64 (b:Int),.string (S t),.string (S g),.string (S bo),.slice a ks.length c])),none,some (.inl (.int .i64 ((endR r10:Nat):Int))),none,none,none,none,none,none,none,none,none,none,some (.inr (fun _ _ w=>w.heap[Bt]?=some (.cells #[.int .i64 ki,.int .i64 (q:Int),.int .i64 (d:Int),.int .i64 (rt:Int),.int .i64 (rf:Int),.int .i64 (b:Int),.string (S t),.string (S g),.string (S bo),.slice a ks.length c] 53 (0,0))))] (Once Bt (.cells #[.int .i64 ki,.int .i64 (q:Int),.int .i64 (d:Int),.int .i64 (rt:Int),.int .i64 (rf:Int),.int .i64 (b:Int),.string (S t),.string (S g),.string (S bo),.slice a ks.length c] 53 (0,0))) (by kernel_rfl) (by kernel_rfl) (by kernel_rfl) (Once.refl _ _) (fun _ _ _=>Once.trans) ?_ ?_
  ·
   intro K hK Y hY l v w w' hR h
   simp only [List.mem_cons,List.not_mem_nil,or_false] at hK
   rcases hK with rfl | rfl | rfl | rfl | rfl | rfl | rfl | rfl | rfl | rfl | rfl | rfl | rfl | rfl <;> simp only [reduceCtorEq,Option.some.injEq,Sum.inr.injEq] at hY
   subst hY
   exact hR.stays h
  simp only [List.take_succ_cons,List.take_zero,List.drop_succ_cons,List.drop_zero]
  refine GrowN.g_con rfl (fun w hw hF=>?_) ?_
  ·
   clear hF
   have hm:=((Mod.refl (fun k=>k=Bt) w15).drew).trans hw.1
   have k0:=HBX.out w hm 0 _ rfl
   have k1:=HBX.out w hm 1 _ rfl
   have k2:=HBX.out w hm 2 _ rfl
   have k3:=HBX.out w hm 3 _ rfl
   have k4:=HBX.out w hm 4 _ rfl
   have k5:=HBX.out w hm 5 _ rfl
   have k6:=HBX.out w hm 6 _ rfl
   have k7:=HBX.out w hm 7 _ rfl
   have k8:=HBX.out w hm 8 _ rfl
   have k9:=HBX.out w hm 9 _ rfl
   go_simp
   exact Once.refl _ _ _
  go_frame
  refine GrowN.g_det rfl ?_
  apply Exists.intro
  refine ⟨fun w hw hF=>?_,?_⟩
  · clear hF
    go_simp
    exact ⟨rfl,Once.refl _ _ _⟩
  go_frame
  refine GrowN.g_con rfl (fun w hw hF=>?_) ?_
  · clear hF
    have hm:=((Mod.refl (fun k=>k=Bt) w15).drew).trans hw.1
    go_simp
    exact (CE.out Br w (HRX.out w hm)).mono fun e w3 h=>⟨_,h.1,rfl,h.2 ▸ Once.refl _ _ _⟩
  go_frame
  iterate 10
   first
   | refine GrowN.g_skip rfl ?_
   | refine GrowN.g_det rfl ?_
     apply Exists.intro
     refine ⟨fun w hw hF=>?_,?_⟩
     · clear hF
       go_simp
       exact ⟨rfl,Once.refl _ _ _⟩
   go_frame
  refine GrowN.g_new rfl (fun w hw hF=>?_) (fun _=>?_)
  ·
   clear hF
   obtain ⟨z,hz,hzz⟩:=(Once.drew hw).cells M14.out.t rfl
   obtain ⟨z0,z1,z2,z3,z4,z5,z6,z7,z8,z9,rfl⟩:=ten z hz
   have k0:w.cell? ⟨Bt,0,none⟩=some z0:=by rw [Lib.cell_of_heap hzz]; rfl
   have k1:w.cell? ⟨Bt,1,none⟩=some z1:=by rw [Lib.cell_of_heap hzz]; rfl
   have k2:w.cell? ⟨Bt,2,none⟩=some z2:=by rw [Lib.cell_of_heap hzz]; rfl
   have k3:w.cell? ⟨Bt,3,none⟩=some z3:=by rw [Lib.cell_of_heap hzz]; rfl
   have k4:w.cell? ⟨Bt,4,none⟩=some z4:=by rw [Lib.cell_of_heap hzz]; rfl
   have k5:w.cell? ⟨Bt,5,none⟩=some z5:=by rw [Lib.cell_of_heap hzz]; rfl
   have k6:w.cell? ⟨Bt,6,none⟩=some z6:=by rw [Lib.cell_of_heap hzz]; rfl
   have k7:w.cell? ⟨Bt,7,none⟩=some z7:=by rw [Lib.cell_of_heap hzz]; rfl
   have k8:w.cell? ⟨Bt,8,none⟩=some z8:=by rw [Lib.cell_of_heap hzz]; rfl
   have k9:w.cell? ⟨Bt,9,none⟩=some z9:=by rw [Lib.cell_of_heap hzz]; rfl
   have hfr:∀ j,w.frozen? ⟨Bt,j,none⟩=false:=fun j=>Lib.frozen_of_heap hzz j
   have HH:=Lib.hid (put10_heap (z:=#[z0,z1,z2,z3,z4,z5,z6,z7,z8,z9]) rfl hzz (.int .i64 ki) (.int .i64 (q:Int)) (.int .i64 (d:Int)) (.int .i64 (rt:Int)) (.int .i64 (rf:Int)) (.int .i64 (b:Int)) (.string (S t)) (.string (S g)) (.string (S bo)) (.slice a ks.length c))
   have HBW:=Lib.hid (put10_mod w Bt (.int .i64 ki) (.int .i64 (q:Int)) (.int .i64 (d:Int)) (.int .i64 (rt:Int)) (.int .i64 (rf:Int)) (.int .i64 (b:Int)) (.string (S t)) (.string (S g)) (.string (S bo)) (.slice a ks.length c))
   clear hzz
   go_simp
   exact ⟨HH.out,HBW.out,.inr HH.out⟩
  go_frame
  refine GrowN.g_nil fun w16 hw16 hF=>?_
  have hz9:w16.heap[Bt]?=some (.cells #[.int .i64 ki,.int .i64 (q:Int),.int .i64 (d:Int),.int .i64 (rt:Int),.int .i64 (rf:Int),.int .i64 (b:Int),.string (S t),.string (S g),.string (S bo),.slice a ks.length c] 53 (0,0)):=hF _ (List.mem_singleton.2 rfl)
  have hm16:=((Mod.refl (fun k=>k=Bt) w15).drew).trans hw16.1
  have HS16:=Lib.hid (HSX.out w16 hm16)
  have HB16:Hid (Below W.heap.size W w16):=M14.out.b.trans (hm16.to_below _ M14.out.b.size (fun k e=>by rw [e,← HBT.out]; exact Nat.le_refl _))
  clear hF hw16 hm16
  have c0:w16.cell? ⟨Bt,0,none⟩=some (.int .i64 ki):=by rw [Lib.cell_of_heap hz9]; rfl
  have c1:w16.cell? ⟨Bt,1,none⟩=some (.int .i64 (q:Int)):=by rw [Lib.cell_of_heap hz9]; rfl
  have c2:w16.cell? ⟨Bt,2,none⟩=some (.int .i64 (d:Int)):=by rw [Lib.cell_of_heap hz9]; rfl
  have c3:w16.cell? ⟨Bt,3,none⟩=some (.int .i64 (rt:Int)):=by rw [Lib.cell_of_heap hz9]; rfl
  have c4:w16.cell? ⟨Bt,4,none⟩=some (.int .i64 (rf:Int)):=by rw [Lib.cell_of_heap hz9]; rfl
  have c5:w16.cell? ⟨Bt,5,none⟩=some (.int .i64 (b:Int)):=by rw [Lib.cell_of_heap hz9]; rfl
  have c6:w16.cell? ⟨Bt,6,none⟩=some (.string (S t)):=by rw [Lib.cell_of_heap hz9]; rfl
  have c7:w16.cell? ⟨Bt,7,none⟩=some (.string (S g)):=by rw [Lib.cell_of_heap hz9]; rfl
  have c8:w16.cell? ⟨Bt,8,none⟩=some (.string (S bo)):=by rw [Lib.cell_of_heap hz9]; rfl
  have c9:w16.cell? ⟨Bt,9,none⟩=some (.slice a ks.length c):=by rw [Lib.cell_of_heap hz9]; rfl
  go_wp2_with fail
  refine bodyPost_ret (v:=.tuple #[.agg #[.int .i64 ki,.int .i64 (q:Int),.int .i64 (d:Int),.int .i64 (rt:Int),.int .i64 (rf:Int),.int .i64 (b:Int),.string (S t),.string (S g),.string (S bo),.slice a ks.length c],.bool false]) ?_ rfl ⟨a,c,?_,?_,?_⟩
  · clear hz9
    simp [results,Tryz.results188,go_sem,c0,c1,c2,c3,c4,c5,c6,c7,c8,c9]
  · rw [HCM.out,hrl,HKI.out,HFIN.out]
  · exact HS16.out
  · exact ⟨HB16.out,fun ad e=>Nat.le_trans HWL.out (HAD.out ad e)⟩
 case pos =>
  have CE0:Hid (∀ (B:Nat) (w:World),Rd B r10 w→Calls Tryz.prog 122 #[.pointer (some ⟨B,0,none⟩)] w fun e w'=>e=.returned (.int .i64 0)∧w=w'):=by
   have h:=CE.out
   rw [he] at h
   exact h
  have HE:=Lib.hid he
  clear CE he
  by_cases hk0:ki=0
  case pos =>
   have HFIN:Hid ((decide (endR r10=0) && decide (ki≠0) && rl)=false):=by show _=_; simp [hk0]
   subst hk0
   refine GrowN.wp_region_n 14 [some (.inl (.agg #[.int .i64 0,.int .i64 (q:Int),.int .i64 (d:Int),.int .i64 (rt:Int),.int .i64 (rf:Int),.int .i64 (b:Int),.string (S t),.string (S g),.string (S bo),.slice a ks.length c])),none,some (.inl (.int .i64 0)),none,none,none,none,none,none,none,none,none,none,some (.inr (fun _ _ w=>w.heap[Bt]?=some (.cells #[.int .i64 0,.int .i64 (q:Int),.int .i64 (d:Int),.int .i64 (rt:Int),.int .i64 (rf:Int),.int .i64 (b:Int),.string (S t),.string (S g),.string (S bo),.slice a ks.length c] 53 (0,0))))] (Once Bt (.cells #[.int .i64 0,.int .i64 (q:Int),.int .i64 (d:Int),.int .i64 (rt:Int),.int .i64 (rf:Int),.int .i64 (b:Int),.string (S t),.string (S g),.string (S bo),.slice a ks.length c] 53 (0,0))) (by kernel_rfl) (by kernel_rfl) (by kernel_rfl) (Once.refl _ _) (fun _ _ _=>Once.trans) ?_ ?_
   · intro K hK Y hY l v w w' hR h
     simp only [List.mem_cons,List.not_mem_nil,or_false] at hK
     rcases hK with rfl | rfl | rfl | rfl | rfl | rfl | rfl | rfl | rfl | rfl | rfl | rfl | rfl | rfl <;> simp only [reduceCtorEq,Option.some.injEq,Sum.inr.injEq] at hY
     subst hY
     exact hR.stays h
   simp only [List.take_succ_cons,List.take_zero,List.drop_succ_cons,List.drop_zero]
   refine GrowN.g_con rfl (fun w hw hF=>?_) ?_
   ·
    clear hF
    have hm:=((Mod.refl (fun k=>k=Bt) w15).drew).trans hw.1
    have k0:=HBX.out w hm 0 _ rfl
    have k1:=HBX.out w hm 1 _ rfl
    have k2:=HBX.out w hm 2 _ rfl
    have k3:=HBX.out w hm 3 _ rfl
    have k4:=HBX.out w hm 4 _ rfl
    have k5:=HBX.out w hm 5 _ rfl
    have k6:=HBX.out w hm 6 _ rfl
    have k7:=HBX.out w hm 7 _ rfl
    have k8:=HBX.out w hm 8 _ rfl
    have k9:=HBX.out w hm 9 _ rfl
    go_simp
    exact Once.refl _ _ _
   go_frame
   refine GrowN.g_det rfl ?_
   apply Exists.intro
   refine ⟨fun w hw hF=>?_,?_⟩
   · clear hF
     go_simp
     exact ⟨rfl,Once.refl _ _ _⟩
   go_frame
   refine GrowN.g_con rfl (fun w hw hF=>?_) ?_
   · clear hF
     have hm:=((Mod.refl (fun k=>k=Bt) w15).drew).trans hw.1
     go_simp
     exact (CE0.out Br w (HRX.out w hm)).mono fun e w3 h=>⟨_,h.1,rfl,h.2 ▸ Once.refl _ _ _⟩
   iterate 3
    go_frame
    refine GrowN.g_det rfl ?_
    apply Exists.intro
    refine ⟨fun w hw hF=>?_,?_⟩
    · clear hF
      go_simp
      exact ⟨rfl,Once.refl _ _ _⟩
   go_frame
   refine GrowN.g_det rfl ?_
   apply Exists.intro
   refine ⟨fun w hw hF=>?_,?_⟩
   · clear hF
     have hm:=((Mod.refl (fun k=>k=Bt) w15).drew).trans hw.1
     have k0:=HBX.out w hm 0 _ rfl
     go_simp
     exact ⟨rfl,Once.refl _ _ _⟩
   go_frame
   iterate 6
    first
    | refine GrowN.g_skip rfl ?_
    | refine GrowN.g_det rfl ?_
      apply Exists.intro
      refine ⟨fun w hw hF=>?_,?_⟩
      · clear hF
        go_simp
        exact ⟨rfl,Once.refl _ _ _⟩
    go_frame
   refine GrowN.g_new rfl (fun w hw hF=>?_) (fun _=>?_)
   ·
    clear hF
    obtain ⟨z,hz,hzz⟩:=(Once.drew hw).cells M14.out.t rfl
    obtain ⟨z0,z1,z2,z3,z4,z5,z6,z7,z8,z9,rfl⟩:=ten z hz
    have k0:w.cell? ⟨Bt,0,none⟩=some z0:=by rw [Lib.cell_of_heap hzz]; rfl
    have k1:w.cell? ⟨Bt,1,none⟩=some z1:=by rw [Lib.cell_of_heap hzz]; rfl
    have k2:w.cell? ⟨Bt,2,none⟩=some z2:=by rw [Lib.cell_of_heap hzz]; rfl
    have k3:w.cell? ⟨Bt,3,none⟩=some z3:=by rw [Lib.cell_of_heap hzz]; rfl
    have k4:w.cell? ⟨Bt,4,none⟩=some z4:=by rw [Lib.cell_of_heap hzz]; rfl
    have k5:w.cell? ⟨Bt,5,none⟩=some z5:=by rw [Lib.cell_of_heap hzz]; rfl
    have k6:w.cell? ⟨Bt,6,none⟩=some z6:=by rw [Lib.cell_of_heap hzz]; rfl
    have k7:w.cell? ⟨Bt,7,none⟩=some z7:=by rw [Lib.cell_of_heap hzz]; rfl
    have k8:w.cell? ⟨Bt,8,none⟩=some z8:=by rw [Lib.cell_of_heap hzz]; rfl
    have k9:w.cell? ⟨Bt,9,none⟩=some z9:=by rw [Lib.cell_of_heap hzz]; rfl
    have hfr:∀ j,w.frozen? ⟨Bt,j,none⟩=false:=fun j=>Lib.frozen_of_heap hzz j
    have HH:=Lib.hid (put10_heap (z:=#[z0,z1,z2,z3,z4,z5,z6,z7,z8,z9]) rfl hzz (.int .i64 0) (.int .i64 (q:Int)) (.int .i64 (d:Int)) (.int .i64 (rt:Int)) (.int .i64 (rf:Int)) (.int .i64 (b:Int)) (.string (S t)) (.string (S g)) (.string (S bo)) (.slice a ks.length c))
    have HBW:=Lib.hid (put10_mod w Bt (.int .i64 0) (.int .i64 (q:Int)) (.int .i64 (d:Int)) (.int .i64 (rt:Int)) (.int .i64 (rf:Int)) (.int .i64 (b:Int)) (.string (S t)) (.string (S g)) (.string (S bo)) (.slice a ks.length c))
    clear hzz
    go_simp
    exact ⟨HH.out,HBW.out,.inr HH.out⟩
   go_frame
   refine GrowN.g_nil fun w16 hw16 hF=>?_
   have hz9:w16.heap[Bt]?=some (.cells #[.int .i64 0,.int .i64 (q:Int),.int .i64 (d:Int),.int .i64 (rt:Int),.int .i64 (rf:Int),.int .i64 (b:Int),.string (S t),.string (S g),.string (S bo),.slice a ks.length c] 53 (0,0)):=hF _ (List.mem_singleton.2 rfl)
   have hm16:=((Mod.refl (fun k=>k=Bt) w15).drew).trans hw16.1
   have HS16:=Lib.hid (HSX.out w16 hm16)
   have HB16:Hid (Below W.heap.size W w16):=M14.out.b.trans (hm16.to_below _ M14.out.b.size (fun k e=>by rw [e,← HBT.out]; exact Nat.le_refl _))
   clear hF hw16 hm16
   have c0:w16.cell? ⟨Bt,0,none⟩=some (.int .i64 0):=by rw [Lib.cell_of_heap hz9]; rfl
   have c1:w16.cell? ⟨Bt,1,none⟩=some (.int .i64 (q:Int)):=by rw [Lib.cell_of_heap hz9]; rfl
   have c2:w16.cell? ⟨Bt,2,none⟩=some (.int .i64 (d:Int)):=by rw [Lib.cell_of_heap hz9]; rfl
   have c3:w16.cell? ⟨Bt,3,none⟩=some (.int .i64 (rt:Int)):=by rw [Lib.cell_of_heap hz9]; rfl
   have c4:w16.cell? ⟨Bt,4,none⟩=some (.int .i64 (rf:Int)):=by rw [Lib.cell_of_heap hz9]; rfl
   have c5:w16.cell? ⟨Bt,5,none⟩=some (.int .i64 (b:Int)):=by rw [Lib.cell_of_heap hz9]; rfl
   have c6:w16.cell? ⟨Bt,6,none⟩=some (.string (S t)):=by rw [Lib.cell_of_heap hz9]; rfl
   have c7:w16.cell? ⟨Bt,7,none⟩=some (.string (S g)):=by rw [Lib.cell_of_heap hz9]; rfl
   have c8:w16.cell? ⟨Bt,8,none⟩=some (.string (S bo)):=by rw [Lib.cell_of_heap hz9]; rfl
   have c9:w16.cell? ⟨Bt,9,none⟩=some (.slice a ks.length c):=by rw [Lib.cell_of_heap hz9]; rfl
   go_wp2_with fail
   refine bodyPost_ret (v:=.tuple #[.agg #[.int .i64 0,.int .i64 (q:Int),.int .i64 (d:Int),.int .i64 (rt:Int),.int .i64 (rf:Int),.int .i64 (b:Int),.string (S t),.string (S g),.string (S bo),.slice a ks.length c],.bool false]) ?_ rfl ⟨a,c,?_,?_,?_⟩
   · clear hz9
     simp [results,Tryz.results188,go_sem,c0,c1,c2,c3,c4,c5,c6,c7,c8,c9]
   · rw [HCM.out,hrl,HKI.out,HFIN.out]
   · exact HS16.out
   · exact ⟨HB16.out,fun ad e=>Nat.le_trans HWL.out (HAD.out ad e)⟩
  case neg =>
   have HFIN:Hid ((decide (endR r10=0) && decide (ki≠0) && rl)=rl):=by show _=_; rw [HE.out]; simp [hk0]
   have hkq:(ki != 0)=true:=bne_iff_ne.2 hk0
   refine GrowN.wp_region_n 14 [some (.inl (.agg #[.int .i64 ki,.int .i64 (q:Int),.int .i64 (d:Int),.int .i64 (rt:Int),.int .i64 (rf:Int),.int .i64 (b:Int),.string (S t),.string (S g),.string (S bo),.slice a ks.length c])),none,some (.inl (.int .i64 0)),none,none,none,none,none,none,none,some (.inl (.agg #[.int .i64 ki,.int .i64 (q:Int),.int .i64 (d:Int),.int .i64 (rt:Int),.int .i64 (rf:Int),.int .i64 (b:Int),.string (S t),.string (S g),.string (S bo),.slice a ks.length c])),some (.inl (.bool rl)),none,some (.inr (fun _ _ w=>w.heap[Bt]?=some (.cells #[.int .i64 ki,.int .i64 (q:Int),.int .i64 (d:Int),.int .i64 (rt:Int),.int .i64 (rf:Int),.int .i64 (b:Int),.string (S t),.string (S g),.string (S bo),.slice a ks.length c] 53 (0,0))))] (Once Bt (.cells #[.int .i64 ki,.int .i64 (q:Int),.int .i64 (d:Int),.int .i64 (rt:Int),.int .i64 (rf:Int),.int .i64 (b:Int),.string (S t),.string (S g),.string (S bo),.slice a ks.length c] 53 (0,0))) (by kernel_rfl) (by kernel_rfl) (by kernel_rfl) (Once.refl _ _) (fun _ _ _=>Once.trans) ?_ ?_
   · intro K hK Y hY l v w w' hR h
     simp only [List.mem_cons,List.not_mem_nil,or_false] at hK
     rcases hK with rfl | rfl | rfl | rfl | rfl | rfl | rfl | rfl | rfl | rfl | rfl | rfl | rfl | rfl <;> simp only [reduceCtorEq,Option.some.injEq,Sum.inr.injEq] at hY
     subst hY
     exact hR.stays h
   simp only [List.take_succ_cons,List.take_zero,List.drop_succ_cons,List.drop_zero]
   refine GrowN.g_con rfl (fun w hw hF=>?_) ?_
   ·
    clear hF
    have hm:=((Mod.refl (fun k=>k=Bt) w15).drew).trans hw.1
    have k0:=HBX.out w hm 0 _ rfl
    have k1:=HBX.out w hm 1 _ rfl
    have k2:=HBX.out w hm 2 _ rfl
    have k3:=HBX.out w hm 3 _ rfl
    have k4:=HBX.out w hm 4 _ rfl
    have k5:=HBX.out w hm 5 _ rfl
    have k6:=HBX.out w hm 6 _ rfl
    have k7:=HBX.out w hm 7 _ rfl
    have k8:=HBX.out w hm 8 _ rfl
    have k9:=HBX.out w hm 9 _ rfl
    go_simp
    exact Once.refl _ _ _
   go_frame
   refine GrowN.g_det rfl ?_
   apply Exists.intro
   refine ⟨fun w hw hF=>?_,?_⟩
   · clear hF
     go_simp
     exact ⟨rfl,Once.refl _ _ _⟩
   go_frame
   refine GrowN.g_con rfl (fun w hw hF=>?_) ?_
   · clear hF
     have hm:=((Mod.refl (fun k=>k=Bt) w15).drew).trans hw.1
     go_simp
     exact (CE0.out Br w (HRX.out w hm)).mono fun e w3 h=>⟨_,h.1,rfl,h.2 ▸ Once.refl _ _ _⟩
   iterate 3
    go_frame
    refine GrowN.g_det rfl ?_
    apply Exists.intro
    refine ⟨fun w hw hF=>?_,?_⟩
    · clear hF
      go_simp
      exact ⟨rfl,Once.refl _ _ _⟩
   go_frame
   refine GrowN.g_det rfl ?_
   apply Exists.intro
   refine ⟨fun w hw hF=>?_,?_⟩
   · clear hF
     have hm:=((Mod.refl (fun k=>k=Bt) w15).drew).trans hw.1
     have k0:=HBX.out w hm 0 _ rfl
     go_simp
     exact ⟨rfl,Once.refl _ _ _⟩
   iterate 3
    go_frame
    refine GrowN.g_det rfl ?_
    apply Exists.intro
    refine ⟨fun w hw hF=>?_,?_⟩
    · clear hF
      go_simp
      exact ⟨rfl,Once.refl _ _ _⟩
   go_frame
   refine GrowN.g_con rfl (fun w hw hF=>?_) ?_
   ·
    clear hF
    have hm:=((Mod.refl (fun k=>k=Bt) w15).drew).trans hw.1
    have k0:=HBX.out w hm 0 _ rfl
    have k1:=HBX.out w hm 1 _ rfl
    have k2:=HBX.out w hm 2 _ rfl
    have k3:=HBX.out w hm 3 _ rfl
    have k4:=HBX.out w hm 4 _ rfl
    have k5:=HBX.out w hm 5 _ rfl
    have k6:=HBX.out w hm 6 _ rfl
    have k7:=HBX.out w hm 7 _ rfl
    have k8:=HBX.out w hm 8 _ rfl
    have k9:=HBX.out w hm 9 _ rfl
    go_simp
    exact Once.refl _ _ _
   go_frame
   refine GrowN.g_con rfl (fun w hw hF=>?_) ?_
   ·
    clear hF
    have hm:=((Mod.refl (fun k=>k=Bt) w15).drew).trans hw.1
    go_simp
    have hlt:Bt < w.heap.size:=Nat.lt_of_lt_of_le HT15.out hm.size
    have hcr:=CR.out a c w (HSX.out w hm)
    rw [HCM.out] at hcr
    exact hcr.mono fun e w3 h=>⟨_,h.1,rfl,Once.below h.2 hlt⟩
   go_frame
   refine GrowN.g_det rfl ?_
   apply Exists.intro
   refine ⟨fun w hw hF=>?_,?_⟩
   · clear hF
     go_simp
     exact ⟨rfl,Once.refl _ _ _⟩
   go_frame
   refine GrowN.g_new rfl (fun w hw hF=>?_) (fun _=>?_)
   ·
    clear hF
    obtain ⟨z,hz,hzz⟩:=(Once.drew hw).cells M14.out.t rfl
    obtain ⟨z0,z1,z2,z3,z4,z5,z6,z7,z8,z9,rfl⟩:=ten z hz
    have k0:w.cell? ⟨Bt,0,none⟩=some z0:=by rw [Lib.cell_of_heap hzz]; rfl
    have k1:w.cell? ⟨Bt,1,none⟩=some z1:=by rw [Lib.cell_of_heap hzz]; rfl
    have k2:w.cell? ⟨Bt,2,none⟩=some z2:=by rw [Lib.cell_of_heap hzz]; rfl
    have k3:w.cell? ⟨Bt,3,none⟩=some z3:=by rw [Lib.cell_of_heap hzz]; rfl
    have k4:w.cell? ⟨Bt,4,none⟩=some z4:=by rw [Lib.cell_of_heap hzz]; rfl
    have k5:w.cell? ⟨Bt,5,none⟩=some z5:=by rw [Lib.cell_of_heap hzz]; rfl
    have k6:w.cell? ⟨Bt,6,none⟩=some z6:=by rw [Lib.cell_of_heap hzz]; rfl
    have k7:w.cell? ⟨Bt,7,none⟩=some z7:=by rw [Lib.cell_of_heap hzz]; rfl
    have k8:w.cell? ⟨Bt,8,none⟩=some z8:=by rw [Lib.cell_of_heap hzz]; rfl
    have k9:w.cell? ⟨Bt,9,none⟩=some z9:=by rw [Lib.cell_of_heap hzz]; rfl
    have hfr:∀ j,w.frozen? ⟨Bt,j,none⟩=false:=fun j=>Lib.frozen_of_heap hzz j
    have HH:=Lib.hid (put10_heap (z:=#[z0,z1,z2,z3,z4,z5,z6,z7,z8,z9]) rfl hzz (.int .i64 ki) (.int .i64 (q:Int)) (.int .i64 (d:Int)) (.int .i64 (rt:Int)) (.int .i64 (rf:Int)) (.int .i64 (b:Int)) (.string (S t)) (.string (S g)) (.string (S bo)) (.slice a ks.length c))
    have HBW:=Lib.hid (put10_mod w Bt (.int .i64 ki) (.int .i64 (q:Int)) (.int .i64 (d:Int)) (.int .i64 (rt:Int)) (.int .i64 (rf:Int)) (.int .i64 (b:Int)) (.string (S t)) (.string (S g)) (.string (S bo)) (.slice a ks.length c))
    clear hzz
    go_simp
    exact ⟨HH.out,HBW.out,.inr HH.out⟩
   go_frame
   refine GrowN.g_nil fun w16 hw16 hF=>?_
   have hz9:w16.heap[Bt]?=some (.cells #[.int .i64 ki,.int .i64 (q:Int),.int .i64 (d:Int),.int .i64 (rt:Int),.int .i64 (rf:Int),.int .i64 (b:Int),.string (S t),.string (S g),.string (S bo),.slice a ks.length c] 53 (0,0)):=hF _ (List.mem_singleton.2 rfl)
   have hm16:=((Mod.refl (fun k=>k=Bt) w15).drew).trans hw16.1
   have HS16:=Lib.hid (HSX.out w16 hm16)
   have HB16:Hid (Below W.heap.size W w16):=M14.out.b.trans (hm16.to_below _ M14.out.b.size (fun k e=>by rw [e,← HBT.out]; exact Nat.le_refl _))
   clear hF hw16 hm16
   have c0:w16.cell? ⟨Bt,0,none⟩=some (.int .i64 ki):=by rw [Lib.cell_of_heap hz9]; rfl
   have c1:w16.cell? ⟨Bt,1,none⟩=some (.int .i64 (q:Int)):=by rw [Lib.cell_of_heap hz9]; rfl
   have c2:w16.cell? ⟨Bt,2,none⟩=some (.int .i64 (d:Int)):=by rw [Lib.cell_of_heap hz9]; rfl
   have c3:w16.cell? ⟨Bt,3,none⟩=some (.int .i64 (rt:Int)):=by rw [Lib.cell_of_heap hz9]; rfl
   have c4:w16.cell? ⟨Bt,4,none⟩=some (.int .i64 (rf:Int)):=by rw [Lib.cell_of_heap hz9]; rfl
   have c5:w16.cell? ⟨Bt,5,none⟩=some (.int .i64 (b:Int)):=by rw [Lib.cell_of_heap hz9]; rfl
   have c6:w16.cell? ⟨Bt,6,none⟩=some (.string (S t)):=by rw [Lib.cell_of_heap hz9]; rfl
   have c7:w16.cell? ⟨Bt,7,none⟩=some (.string (S g)):=by rw [Lib.cell_of_heap hz9]; rfl
   have c8:w16.cell? ⟨Bt,8,none⟩=some (.string (S bo)):=by rw [Lib.cell_of_heap hz9]; rfl
   have c9:w16.cell? ⟨Bt,9,none⟩=some (.slice a ks.length c):=by rw [Lib.cell_of_heap hz9]; rfl
   go_wp2_with fail
   refine bodyPost_ret (v:=.tuple #[.agg #[.int .i64 ki,.int .i64 (q:Int),.int .i64 (d:Int),.int .i64 (rt:Int),.int .i64 (rf:Int),.int .i64 (b:Int),.string (S t),.string (S g),.string (S bo),.slice a ks.length c],.bool rl]) ?_ rfl ⟨a,c,?_,?_,?_⟩
   · clear hz9
     simp [results,Tryz.results188,go_sem,c0,c1,c2,c3,c4,c5,c6,c7,c8,c9]
   · rw [HCM.out,hrl,HKI.out,HFIN.out]
   · exact HS16.out
   · exact ⟨HB16.out,fun ad e=>Nat.le_trans HWL.out (HAD.out ad e)⟩
open Go.RowKit OctMath RecMath NameMath
open OctW (Rd One Texts textL textsL textsW listW)
structure Mid1 (W:World) (Bt Br:Nat) (r:RS) (w:World):Prop where
 t:w.heap[Bt]?=some (.cells (cellsM noMsg none 0) 53 (0,0))
 r:Rd Br r w
 b:Below W.heap.size W w
 ne:Bt≠Br
 le:W.heap.size≤Br
 lt:W.heap.size≤Bt
theorem Mid1.one {W w w':World} {Bt Br:Nat} {r r':RS} (h:Mid1 W Bt Br r w) (hr:Rd Br r' w') (hm:One Br w w'):Mid1 W Bt Br r' w' :=
 ⟨(hm.block Bt (Array.getElem?_eq_some_iff.1 h.t).1 h.ne).trans h.t,hr,h.b.trans (hm.to_below _ h.b.size (fun k e=>e ▸ h.le)),h.ne,h.le,h.lt⟩
theorem Mid1.ext {W w w':World} {Bt Br:Nat} {r:RS} (h:Mid1 W Bt Br r w) (hb:Below w.heap.size w w'):Mid1 W Bt Br r w' :=
 ⟨(hb.block _ (Array.getElem?_eq_some_iff.1 h.t).1).trans h.t,h.r.mod (Mod.of_below (M:=fun _=>False) hb) (fun h=>h),h.b.trans (hb.mono h.b.size),h.ne,h.le,h.lt⟩
theorem rec_parts (m:Msg) (h:rightL m=true) (h0:m.kind≠0) (rest:List UInt8):∃ n:Nat,n=(recL m).length∧7≤n∧n≤507∧takeR 1 ⟨recL m++rest,0⟩=([165],⟨be 2 n++(CrcMath.sealed (insideL m)++rest),0⟩) ∧
 numR 2 ⟨be 2 n++(CrcMath.sealed (insideL m)++rest),0⟩=(n,⟨CrcMath.sealed (insideL m)++rest,0⟩)∧takeR ((n:Int) - 3) ⟨CrcMath.sealed (insideL m)++rest,0⟩=(CrcMath.sealed (insideL m),⟨rest,0⟩)∧(CrcMath.sealed (insideL m)).length=n - 3:=by
 have hl:=inside_len h h0
 have hsl:=CrcMath.sealed_length (insideL m)
 obtain ⟨hrl,hrl2⟩:=rec_len h h0
 refine ⟨3+(CrcMath.sealed (insideL m)).length,by omega,by omega,by omega,?_,?_,?_,by omega⟩
 · unfold takeR recL
   rw [if_neg (by simp),if_neg (by omega),if_neg (by simp <;> omega)]
   simp
 · exact OctW.numR_be 2 _ _ (by omega) (by omega) (by omega)
 ·
  unfold takeR
  rw [if_neg (by simp),if_neg (by omega),if_neg (by simp <;> omega)]
  have:(((3+(CrcMath.sealed (insideL m)).length:Nat):Int) - 3).toNat=(CrcMath.sealed (insideL m)).length:=by omega
  rw [this]
  simp
theorem get_one (B:Nat) (m:Msg) (hm:rightL m=true) (h0:m.kind≠0) (rest:List UInt8) (hr:rest.length≤1048576) (W:World) (hB:B < W.heap.size) (hT:CrcW.Tabs W B) :
 Calls Tryz.prog 130 #[.pointer (some ⟨B,0,none⟩),.string (S (recL m++rest))] W fun e w'=>∃ a c,e=.returned (.tuple #[.agg (cellsM m a c),.int .i64 ((recL m).length:Int),.int .i64 0])∧Strs w' a (m.keys.map S)∧Below W.heap.size W w'∧∀ ad,a=some ad→W.heap.size≤ad.block:=by
 obtain ⟨n,hn,hn7,hn5,e1,e2,e3,e4⟩:=rec_parts m hm h0 rest
 rw [← hn]
 have hil:=inside_len hm h0
 have hop:=opened_put m hm h0
 have hob:openedB (insideL m)=true:=by
  unfold openedB
  rw [hop]
  simp [endR,h0,hm]
 have C1:=Lib.hid (fun (Br:Nat) (w:World) (h:Rd Br ⟨recL m++rest,0⟩ w)=>OctW.take_any Br ⟨recL m++rest,0⟩ 1 (by omega) (by omega) (by show (recL m++rest).length≤_; rw [List.length_append]; omega) w h)
 have C2:=Lib.hid (fun (Br:Nat) (w:World) (h:Rd Br ⟨be 2 n++(CrcMath.sealed (insideL m)++rest),0⟩ w)=>OctW.num_any Br ⟨be 2 n++(CrcMath.sealed (insideL m)++rest),0⟩ 2 (by omega) (by omega) (by simp only [List.length_append,be_length]; omega) w h)
 have C3:=Lib.hid (fun (Br:Nat) (w:World) (h:Rd Br ⟨CrcMath.sealed (insideL m)++rest,0⟩ w)=>OctW.take_any Br ⟨CrcMath.sealed (insideL m)++rest,0⟩ ((n:Int) - 3) (by omega) (by omega) (by simp only [List.length_append]; omega) w h)
 have C4:=Lib.hid (fun (Br:Nat) (w:World) (h:Rd Br ⟨rest,0⟩ w)=>OctW.err_any Br ⟨rest,0⟩ w h)
 rw [e1] at C1
 rw [e2] at C2
 rw [e3] at C3
 simp only at C1 C2 C3 C4
 have C5:=Lib.hid (fun (w:World) (hb:Below W.heap.size W w)=>CrcW.open_long B (S (CrcMath.sealed (insideL m))) (by rw [S_size]; omega) (by rw [S_size]; omega) w (by have:=hb.size; omega) (tabs_below hT hB hb))
 have hse:(S (CrcMath.sealed (insideL m))).data.toList=CrcMath.sealed ((S (CrcMath.sealed (insideL m))).data.toList.drop 4):=by rw [S_list,CrcMath.sealed_drop]
 have hex:(S (CrcMath.sealed (insideL m))).extract 4 (S (CrcMath.sealed (insideL m))).size=S (insideL m):=by rw [S_drop,CrcMath.sealed_drop]
 rw [if_pos hse,hex] at C5
 have C6:=Lib.hid (fun (w:World)=>opened_any (insideL m) (by omega) w)
 rw [hop,hob] at C6
 simp only at C6
 have hsz:=S_size
 have hlen:(recL m++rest).length=n+rest.length:=by rw [List.length_append]; omega
 have HS3:¬ ((n:Int)+(rest.length:Int) < 3):=by omega
 have hmx:max ((n:Int) - 3) 0=(n:Int) - 3:=by omega
 have htl:=S_toList
 clear hse hex hop hob hil e1 e2 e3 hm hT hB hr hn
 generalize CrcMath.sealed (insideL m)=sl at *
 generalize insideL m=il at *
 generalize recL m++rest=rr at *
 unfold cellsM at C6
 go_enter Tryz.func130,Tryz.ntmps130
 go_wp2_with fail
 refine (OctW.new_any _ _).mono ?_
 rintro e w1 ⟨rfl,hrd,hb⟩
 obtain ⟨Bt,hBt⟩:∃ B,W.heap.size=B:=⟨_,rfl⟩
 obtain ⟨Br,hBr⟩:∃ B,W.heap.size+1=B:=⟨_,rfl⟩
 have M0:Hid (Mid1 W Bt Br ⟨rr,0⟩ w1):=by
  rw [World.size_alloc,hBr] at hrd
  refine ⟨?_,hrd,((Below.refl _ _).alloc (Nat.le_refl _) _).trans (hb.mono (by rw [World.size_alloc]; omega)),by omega,by omega,by omega⟩
  rw [← hBt,hb.block _ (by rw [World.size_alloc]; omega)]
  exact heap_alloc_new W _
 clear hrd hb
 rw [World.size_alloc,hBr,hBt]
 have HBT:=Lib.hid hBt
 clear hBr hBt
 go_wp2_with fail
 refine (C1.out Br _ M0.out.r).mono ?_
 rintro e w2 ⟨rfl,hr,hm⟩
 have M1:=Lib.hid (M0.out.one hr hm)
 clear hr hm M0 C1
 go_wp2_with fail
 refine (C2.out Br _ M1.out.r).mono ?_
 rintro e w3 ⟨rfl,hr,hm⟩
 have M2:=Lib.hid (M1.out.one hr hm)
 clear hr hm M1 C2
 go_wp2_with fail
 refine (C3.out Br _ M2.out.r).mono ?_
 rintro e w4 ⟨rfl,hr,hm⟩
 have M3:=Lib.hid (M2.out.one hr hm)
 clear hr hm M2 C3
 go_wp2_with fail
 refine (C4.out Br _ M3.out.r).mono ?_
 rintro e w5 ⟨rfl,rfl⟩
 go_wp2_with fail
 refine (C5.out _ M3.out.b).mono ?_
 rintro e w6 ⟨rfl,hb⟩
 have M4:=Lib.hid (M3.out.ext hb)
 clear hb M3 C5 C4
 go_wp2_with fail
 refine (C6.out w6).mono ?_
 rintro e w7 ⟨a,c,rfl,hst,hb,had⟩
 have M5:=Lib.hid (M4.out.ext hb)
 have HST:=Lib.hid hst
 have HAD:=Lib.hid had
 have HBL:Hid (Bt < w6.heap.size∧W.heap.size≤w6.heap.size):=⟨(Array.getElem?_eq_some_iff.1 M4.out.t).1,M4.out.b.size⟩
 clear hb M4 C6 hst had
 go_upto_region 22 with fail
 have HB8:Hid (Below w7.heap.size w7 (w7.alloc (.cells #[.int .i64 m.kind,.int .i64 m.queue,.int .i64 m.due,.int .i64 m.retry,.int .i64 m.ref,.int .i64 m.born,.string (S m.topic),.string (S m.tag),.string (S m.body),.slice a m.keys.length c] 53))):=(Below.refl w7.heap.size w7).alloc (Nat.le_refl _) _
 have HW8:Hid ((w7.alloc (.cells #[.int .i64 m.kind,.int .i64 m.queue,.int .i64 m.due,.int .i64 m.retry,.int .i64 m.ref,.int .i64 m.born,.string (S m.topic),.string (S m.tag),.string (S m.body),.slice a m.keys.length c] 53)).heap[Bt]?=some (.cells (cellsM noMsg none 0) 53 (0,0))):=by
  show _=_
  rw [HB8.out.block _ (Array.getElem?_eq_some_iff.1 M5.out.t).1]; exact M5.out.t
 have HN8:Hid ((w7.alloc (.cells #[.int .i64 m.kind,.int .i64 m.queue,.int .i64 m.due,.int .i64 m.retry,.int .i64 m.ref,.int .i64 m.born,.string (S m.topic),.string (S m.tag),.string (S m.body),.slice a m.keys.length c] 53)).heap[w7.heap.size]?=some (.cells #[.int .i64 m.kind,.int .i64 m.queue,.int .i64 m.due,.int .i64 m.retry,.int .i64 m.ref,.int .i64 m.born,.string (S m.topic),.string (S m.tag),.string (S m.body),.slice a m.keys.length c] 53 (0,0))):=heap_alloc_new w7 _
 have HS8:=Lib.hid (Strs.below HST.out HB8.out)
 generalize hw8:w7.alloc (.cells #[.int .i64 m.kind,.int .i64 m.queue,.int .i64 m.due,.int .i64 m.retry,.int .i64 m.ref,.int .i64 m.born,.string (S m.topic),.string (S m.tag),.string (S m.body),.slice a m.keys.length c] 53)=w8 at *
 obtain ⟨Bn,hBn⟩:∃ B,w7.heap.size=B:=⟨_,rfl⟩
 rw [hBn] at HN8 ⊢
 have HBB:Hid (Below W.heap.size W w8):=M5.out.b.trans (HB8.out.mono M5.out.b.size)
 clear hBn hw8 M5 HST HB8
 have k0:w8.cell? ⟨Bt,0,none⟩=some (.int .i64 0):=by rw [Lib.cell_of_heap HW8.out]; rfl
 have k1:w8.cell? ⟨Bt,1,none⟩=some (.int .i64 0):=by rw [Lib.cell_of_heap HW8.out]; rfl
 have k2:w8.cell? ⟨Bt,2,none⟩=some (.int .i64 0):=by rw [Lib.cell_of_heap HW8.out]; rfl
 have k3:w8.cell? ⟨Bt,3,none⟩=some (.int .i64 0):=by rw [Lib.cell_of_heap HW8.out]; rfl
 have k4:w8.cell? ⟨Bt,4,none⟩=some (.int .i64 0):=by rw [Lib.cell_of_heap HW8.out]; rfl
 have k5:w8.cell? ⟨Bt,5,none⟩=some (.int .i64 0):=by rw [Lib.cell_of_heap HW8.out]; rfl
 have k6:w8.cell? ⟨Bt,6,none⟩=some (.string ⟨#[]⟩):=by rw [Lib.cell_of_heap HW8.out]; rfl
 have k7:w8.cell? ⟨Bt,7,none⟩=some (.string ⟨#[]⟩):=by rw [Lib.cell_of_heap HW8.out]; rfl
 have k8:w8.cell? ⟨Bt,8,none⟩=some (.string ⟨#[]⟩):=by rw [Lib.cell_of_heap HW8.out]; rfl
 have k9:w8.cell? ⟨Bt,9,none⟩=some (.slice none 0 0):=by rw [Lib.cell_of_heap HW8.out]; rfl
 have n0:w8.cell? ⟨Bn,0,none⟩=some (.int .i64 m.kind):=by rw [Lib.cell_of_heap HN8.out]; rfl
 have n1:w8.cell? ⟨Bn,1,none⟩=some (.int .i64 m.queue):=by rw [Lib.cell_of_heap HN8.out]; rfl
 have n2:w8.cell? ⟨Bn,2,none⟩=some (.int .i64 m.due):=by rw [Lib.cell_of_heap HN8.out]; rfl
 have n3:w8.cell? ⟨Bn,3,none⟩=some (.int .i64 m.retry):=by rw [Lib.cell_of_heap HN8.out]; rfl
 have n4:w8.cell? ⟨Bn,4,none⟩=some (.int .i64 m.ref):=by rw [Lib.cell_of_heap HN8.out]; rfl
 have n5:w8.cell? ⟨Bn,5,none⟩=some (.int .i64 m.born):=by rw [Lib.cell_of_heap HN8.out]; rfl
 have n6:w8.cell? ⟨Bn,6,none⟩=some (.string (S m.topic)):=by rw [Lib.cell_of_heap HN8.out]; rfl
 have n7:w8.cell? ⟨Bn,7,none⟩=some (.string (S m.tag)):=by rw [Lib.cell_of_heap HN8.out]; rfl
 have n8:w8.cell? ⟨Bn,8,none⟩=some (.string (S m.body)):=by rw [Lib.cell_of_heap HN8.out]; rfl
 have n9:w8.cell? ⟨Bn,9,none⟩=some (.slice a m.keys.length c):=by rw [Lib.cell_of_heap HN8.out]; rfl
 have hfr:∀ j,w8.frozen? ⟨Bt,j,none⟩=false:=fun j=>Lib.frozen_of_heap HW8.out j
 have HH:=Lib.hid (put10_heap (z:=cellsM noMsg none 0) rfl HW8.out (.int .i64 m.kind) (.int .i64 m.queue) (.int .i64 m.due) (.int .i64 m.retry) (.int .i64 m.ref) (.int .i64 m.born) (.string (S m.topic)) (.string (S m.tag)) (.string (S m.body)) (.slice a m.keys.length c))
 have HBW:=Lib.hid (put10_mod w8 Bt (.int .i64 m.kind) (.int .i64 m.queue) (.int .i64 m.due) (.int .i64 m.retry) (.int .i64 m.ref) (.int .i64 m.born) (.string (S m.topic)) (.string (S m.tag)) (.string (S m.body)) (.slice a m.keys.length c))
 go_wp2_with fail
 clear k0 k1 k2 k3 k4 k5 k6 k7 k8 k9 hfr n0 n1 n2 n3 n4 n5 n6 n7 n8 n9
 change bodyPost _ _ _ _ _ (put10 w8 Bt (.int .i64 m.kind) (.int .i64 m.queue) (.int .i64 m.due) (.int .i64 m.retry) (.int .i64 m.ref) (.int .i64 m.born) (.string (S m.topic)) (.string (S m.tag)) (.string (S m.body)) (.slice a m.keys.length c))
 generalize put10 w8 Bt (.int .i64 m.kind) (.int .i64 m.queue) (.int .i64 m.due) (.int .i64 m.retry) (.int .i64 m.ref) (.int .i64 m.born) (.string (S m.topic)) (.string (S m.tag)) (.string (S m.body)) (.slice a m.keys.length c)=w9 at *
 have hz9:=HH.out
 have c0:w9.cell? ⟨Bt,0,none⟩=some (.int .i64 m.kind):=by rw [Lib.cell_of_heap hz9]; rfl
 have c1:w9.cell? ⟨Bt,1,none⟩=some (.int .i64 m.queue):=by rw [Lib.cell_of_heap hz9]; rfl
 have c2:w9.cell? ⟨Bt,2,none⟩=some (.int .i64 m.due):=by rw [Lib.cell_of_heap hz9]; rfl
 have c3:w9.cell? ⟨Bt,3,none⟩=some (.int .i64 m.retry):=by rw [Lib.cell_of_heap hz9]; rfl
 have c4:w9.cell? ⟨Bt,4,none⟩=some (.int .i64 m.ref):=by rw [Lib.cell_of_heap hz9]; rfl
 have c5:w9.cell? ⟨Bt,5,none⟩=some (.int .i64 m.born):=by rw [Lib.cell_of_heap hz9]; rfl
 have c6:w9.cell? ⟨Bt,6,none⟩=some (.string (S m.topic)):=by rw [Lib.cell_of_heap hz9]; rfl
 have c7:w9.cell? ⟨Bt,7,none⟩=some (.string (S m.tag)):=by rw [Lib.cell_of_heap hz9]; rfl
 have c8:w9.cell? ⟨Bt,8,none⟩=some (.string (S m.body)):=by rw [Lib.cell_of_heap hz9]; rfl
 have c9:w9.cell? ⟨Bt,9,none⟩=some (.slice a m.keys.length c):=by rw [Lib.cell_of_heap hz9]; rfl
 have hbb:Below W.heap.size W w9:=HBB.out.trans (HBW.out.to_below _ HBB.out.size (fun k e=>by rw [e,← HBT.out]; exact Nat.le_refl _))
 refine bodyPost_ret (v:=.tuple #[.agg #[.int .i64 m.kind,.int .i64 m.queue,.int .i64 m.due,.int .i64 m.retry,.int .i64 m.ref,.int .i64 m.born,.string (S m.topic),.string (S m.tag),.string (S m.body),.slice a m.keys.length c],.int .i64 (n:Int),.int .i64 0]) ?_ rfl ⟨a,c,rfl,?_,hbb,fun ad e=>by have h1:=HAD.out ad e; have h2:=HBL.out; omega⟩
 · clear hz9
   simp [results,Tryz.results130,go_sem,c0,c1,c2,c3,c4,c5,c6,c7,c8,c9]
 · exact strs_over HS8.out HBW.out (fun ad e _=>by have h1:=HAD.out ad e; have h2:=HBL.out; omega)
end Go.Proofs.YtnoehodmmkioaaaGreatDoor.RecW
namespace Go.Proofs.YtnoehodmmkioaaaGreatDoor.TapeW
open Go.RowKit Go.MapKept OctMath RecMath RecW TapeMath DskW SegW MapG
theorem put_ok {m:Msg} (h:rightL m=true) (h0:m.kind≠0):putL m=(recL m,0):=by unfold putL; rw [if_neg (by rw [h]; decide),if_neg h0]
def fillOf (e:Nat) (m:Msg):List UInt8:=if roomL e=(recL m).length∨(recL m).length+3≤roomL e then [] else fillL ((roomL e:Nat):Int)
theorem laid_ok {base:Nat} {T:TapeD} (m:Msg) (hm:MsgOk m) (hr:rightL m=true) (h0:m.kind≠0) (a:Option Addr) (c:Nat) (W:World) (h:TapeAt base W T) (hS:Strs W a (m.keys.map S)) :
 Calls Tryz.prog 26 #[.pointer (some ⟨T.O.blk,0,none⟩),.agg (cellsM m a c)] W fun e w'=>e=.returned (.tuple #[.string (S (fillOf T.R.e m)),.string (S (recL m)),.bool true])∧Below W.heap.size W w':=by
 have HB0:Hid (Below W.heap.size W (W.alloc (.cells (cellsM m a c) 53))):=(Below.refl _ W).alloc (Nat.le_refl _) _
 have HX0:Hid (RecW.Boxed (W.alloc (.cells (cellsM m a c) 53)) W.heap.size (cellsM m a c)):=RecW.Boxed.new W _ _
 have HT0:=Lib.hid (h.below HB0.out)
 have HS0:=Lib.hid (Strs.below hS HB0.out)
 have hrm:=room_eq h.whole.seg h.size
 have hcu:(cellsM m a c).size=10:=rfl
 have hpl:=put_ok hr h0
 have HM:=Lib.hid hm
 obtain ⟨hl1,hl2⟩:=rec_len hr h0
 have hsz:=S_size
 have htl:=RecW.S_toList
 have HFO:Hid (fillOf T.R.e m=if roomL T.R.e=(recL m).length∨(recL m).length+3≤roomL T.R.e then [] else fillL ((roomL T.R.e:Nat):Int)):=rfl
 have hrl:=room_le T.R.e
 have hlo:=loose_of h.fits (by have:=h.whole.seg.mult; rw [h.size] at this; exact this)
 rw [← h.txt] at hlo
 have hlo:3≤roomL T.R.e:=hlo
 clear hl1
 clear h hS hm
 go_enter Tryz.func26,Tryz.ntmps26
 go_upto_region 1 with fail
 generalize W.alloc (.cells (cellsM m a c) 53)=w1 at *
 clear hcu
 obtain ⟨A,hA⟩:∃ A,W.heap.size=A:=⟨_,rfl⟩
 rw [hA] at HX0 ⊢
 have HX:Hid (∀ w,Below w1.heap.size w1 w→∀ (i:Nat) (v:Value),(cellsM m a c)[i]?=some v→w.cell? ⟨A,i,none⟩=some v):=fun w hb i v hv=>(HX0.out.below hb) i v hv
 have HC1:Hid (∀ w,Below w1.heap.size w1 w→w.cell? ⟨T.O.blk,1,none⟩=some (.pointer (some ⟨T.O.sums,0,none⟩))):=fun w hb=>(HT0.out.below hb).own.cell 1 _ rfl
 have HP:Hid (∀ w,Below w1.heap.size w1 w→Calls Tryz.prog 47 #[.pointer (some ⟨T.O.sums,0,none⟩),.agg (cellsM m a c)] w fun e w'=>e=.returned (.tuple #[.string (S (putL m).1),.int .i64 (putL m).2])∧Below w.heap.size w w'):=fun w hb =>
  put_any T.O.sums m HM.out a c w (HT0.out.below hb).own.low.1 (HT0.out.below hb).own.tabs (Strs.below HS0.out hb)
 have HAA:=Lib.hid hA
 clear hA HX0
 unfold cellsM at HX HP ⊢
 rw [hpl] at HP
 simp only at HP
 clear hpl
 generalize hpl:recL m=pl at *
 have HPL:=Lib.hid hpl
 have HK0:Hid (∀ w,Below w1.heap.size w1 w→w.cell? ⟨A,0,none⟩=some (.int .i64 m.kind)):=fun w hb=>HX.out w hb 0 _ rfl
 refine GrowN.wp_region_n 11 [none,none,none,none,some (.inl (.agg #[.int .i64 m.kind,.int .i64 m.queue,.int .i64 m.due,.int .i64 m.retry,.int .i64 m.ref,.int .i64 m.born,.string (S m.topic),.string (S m.tag),.string (S m.body),.slice a m.keys.length c])),some (.inl (.tuple #[.string (S pl),.int .i64 0])),none,none,none,none,none] (RecW.ExtR) (by kernel_rfl) (by kernel_rfl) (by kernel_rfl) (RecW.ExtR.refl) (fun _ _ _=>RecW.ExtR.trans) ?_ ?_
 · exact GrowN.stab0 rfl
 simp only [List.take_succ_cons,List.take_zero,List.drop_succ_cons,List.drop_zero]
 iterate 3
  refine GrowN.g_det rfl ?_
  apply Exists.intro
  refine ⟨fun w hw hF=>?_,?_⟩
  · clear hF
    go_simp
    exact ⟨rfl,RecW.ExtR.refl _⟩
  go_frame
 refine GrowN.g_det rfl ?_
 apply Exists.intro
 refine ⟨fun w hw hF=>?_,?_⟩
 ·
  clear hF
  have hb:=(Below.refl w1.heap.size w1).drew.trans hw
  have c1:=HC1.out w hb
  go_simp
  exact ⟨rfl,RecW.ExtR.refl _⟩
 go_frame
 refine GrowN.g_con rfl (fun w hw hF=>?_) ?_
 ·
  clear hF
  have hb:=(Below.refl w1.heap.size w1).drew.trans hw
  have k0:=HX.out w hb 0 _ rfl
  have k1:=HX.out w hb 1 _ rfl
  have k2:=HX.out w hb 2 _ rfl
  have k3:=HX.out w hb 3 _ rfl
  have k4:=HX.out w hb 4 _ rfl
  have k5:=HX.out w hb 5 _ rfl
  have k6:=HX.out w hb 6 _ rfl
  have k7:=HX.out w hb 7 _ rfl
  have k8:=HX.out w hb 8 _ rfl
  have k9:=HX.out w hb 9 _ rfl
  go_simp
  exact RecW.ExtR.refl _
 go_frame
 refine GrowN.g_con rfl (fun w hw hF=>?_) ?_
 ·
  clear hF
  have hb:=(Below.refl w1.heap.size w1).drew.trans hw
  go_simp
  exact (HP.out w hb).mono fun e w3 h=>⟨_,h.1,rfl,h.2⟩
 iterate 5
  go_frame
  refine GrowN.g_det rfl ?_
  apply Exists.intro
  refine ⟨fun w hw hF=>?_,?_⟩
  · clear hF
    go_simp
    exact ⟨rfl,RecW.ExtR.refl _⟩
 go_frame
 refine GrowN.g_nil fun w2 hw2 hF=>?_
 clear hF
 have HB2:=Lib.hid ((Below.refl w1.heap.size w1).drew.trans hw2)
 clear hw2 HX HC1
 have k0:w2.cell? ⟨A,0,none⟩=some (.int .i64 m.kind):=HK0.out w2 HB2.out
 have c0:w2.cell? ⟨T.O.blk,0,none⟩=some (.pointer (some ⟨T.R.blk,0,none⟩)):=(HT0.out.below HB2.out).c0
 have HRM:=Lib.hid (SegW.room_any w2 (HT0.out.below HB2.out).whole.seg)
 rw [hrm] at HRM
 have HFI:=Lib.hid (fun (w:World)=>fill_any ((roomL T.R.e:Nat):Int) (by omega) (by omega) w)
 rw [decide_eq_true (by omega)] at HFI
 generalize roomL T.R.e=rm at *
 clear hrm hpl HP
 go_wp2_with fail
 refine HRM.out.mono ?_
 rintro e w3 ⟨rfl,hd⟩
 have HB3:=Lib.hid (HB2.out.trans (hd.below _))
 clear hd HRM
 by_cases h1:rm=pl.length
 ·
  have HF:Hid (fillOf T.R.e m=[]):=by show _=_; rw [HFO.out,if_pos (.inl h1)]
  clear HFO
  subst h1
  go_wp2_with fail
  go_ret3
  refine ⟨by rw [HF.out,HPL.out]; rfl,?_⟩
  exact HB0.out.trans (HB3.out.mono (by have:=HB0.out.size; have:=HAA.out; omega))
 ·
  by_cases h2:pl.length+3≤rm
  ·
   have HF:Hid (fillOf T.R.e m=[]):=by show _=_; rw [HFO.out,if_pos (.inr h2)]
   clear HFO
   have h1i:¬ ((rm:Int) - (pl.length:Int)=0):=by omega
   have h2i:(3:Int)≤(rm:Int) - (pl.length:Int):=by omega
   go_wp2_with fail
   go_ret3
   refine ⟨by rw [HF.out,HPL.out]; rfl,?_⟩
   exact HB0.out.trans (HB3.out.mono (by have:=HB0.out.size; have:=HAA.out; omega))
  ·
   have HF:Hid (fillOf T.R.e m=fillL (rm:Int)):=by show _=_; rw [HFO.out,if_neg (fun h=>h.elim h1 h2)]
   clear HFO
   have h1i:¬ ((rm:Int) - (pl.length:Int)=0):=by omega
   have h2i:¬ (3:Int)≤(rm:Int) - (pl.length:Int):=by omega
   go_wp2_with fail
   · exfalso
     rename_i hc
     rcases hc with hc | hc
     · exact h1i (eq_of_beq hc)
     · omega
   refine (HFI.out w3).mono ?_
   rintro e w4 ⟨rfl,hb⟩
   have HB4:=Lib.hid (HB3.out.trans (hb.mono HB3.out.size))
   clear hb
   go_wp2_with fail
   go_ret3
   refine ⟨by rw [HF.out,HPL.out]; rfl,?_⟩
   exact HB0.out.trans (HB4.out.mono (by have:=HB0.out.size; have:=HAA.out; omega))
def Few (D0 D:DiskD):Prop:=D.files.length+D0.waits.length≤D0.files.length+D.waits.length∧(∀ p∈D.files,p.1.length≤tapeH.length+8∨∃ q∈D0.files,q.1=p.1)∧D.cap=D0.cap
theorem Few.refl (D:DiskD):Few D D:=⟨Nat.le_refl _,fun p hp=>.inr ⟨p,hp,rfl⟩,rfl⟩
theorem Few.app {D0 D D':DiskD} (h:Few D0 D) (k:Few D D'):Few D0 D' :=
 ⟨by have h1:=h.1; have h2:=k.1; omega,fun p hp=>(k.2.1 p hp).elim .inl fun ⟨q,hq,e⟩=>e ▸ h.2.1 q hq,k.2.2.trans h.2.2⟩
structure Half (base B:Nat) (w:World) (T:TapeD) (f:List UInt8) (D:DiskD) (R:SegD):Prop where
 own:OwnAt base w T.O
 whole:Whole base w D R
 wait:Waiting D R
 quiet:Quiet D
 away:∀ k,T.O.foot k→¬ D.foot k∧¬ R.foot k
 tab:TabB base w
 big:B≤w.heap.size∧base≤B
 rblk:R.blk=T.R.blk
 dblk:D.blk=T.D.blk
 b:R.b=T.R.b
 syn:R.synced=T.R.synced
 head:R.head=tapeH
 size:R.size=1024
 txt:R.txt=T.R.txt++f
 room:D.room=T.D.room - (f.length:Int)
 foot:∀ k,D.foot k∨R.foot k→T.D.foot k∨T.R.foot k∨B≤k
 lts:∀ k,T.O.foot k→k < B
 other:∀ n,(∀ p,p≤99999999→n≠nameL tapeH p)→D.find n=T.D.find n
 few:Few T.D D
theorem Half.e {base B:Nat} {w:World} {T:TapeD} {f:List UInt8} {D:DiskD} {R:SegD} (h:Half base B w T f D R):R.e=T.R.e+f.length:=by
 unfold SegD.e; rw [h.b,h.txt,List.length_append]; omega
theorem Half.start {base:Nat} {w:World} {T:TapeD} (h:TapeAt base w T) (hq:Quiet T.D) (hT:TabB base w) (hb:base≤w.heap.size):Half base w.heap.size w T [] T.D T.R :=
 ⟨h.own,h.whole,h.wait,hq,h.away,hT,⟨Nat.le_refl _,hb⟩,rfl,rfl,rfl,rfl,h.head,h.size,(List.append_nil _).symm,by simp,fun k hk=>hk.elim .inl (fun h=>.inr (.inl h)),fun k hk=>h.own.lt hk,fun _ _=>rfl,Few.refl _⟩
theorem half_append {base B:Nat} {w:World} {T:TapeD} {f:List UInt8} {D:DiskD} {R:SegD} (h:Half base B w T f D R) (s:List UInt8) (h0:s≠[]) (hr:s.length≤roomL (T.R.e+f.length)) (hf:(s.length:Int)≤D.room) (hwl:D.waits.length≤1048576) (he:T.R.e+f.length≤99999999) :
 Calls Tryz.prog 108 #[.pointer (some ⟨T.R.blk,0,none⟩),.string (S s)] w fun e w'=>e=.returned (.tuple #[.int .i64 ((T.R.e+f.length:Nat):Int),.int .i64 0]) ∧
  ∃ D' R',Half base B w' T (f++s) D' R'∧Mod (fun k=>T.D.foot k∨T.R.foot k∨B≤k) w w'∧D'.waits.length=D.waits.length+1:=by
 have hre:=h.e
 have hrm:=room_eq h.whole.seg h.size
 have hA:=append_ok s w h.tab h.whole (Nat.le_trans h.big.2 h.big.1) h.quiet h0 (by rw [hrm,hre]; exact hr) hf hwl (fun _=>by omega)
 rw [← h.rblk,← hre]
 refine hA.mono ?_
 rintro e w' ⟨rfl,hm,D',R',hW,ha,hR,hfd,hfr⟩
 have e1:R'.b=R.b:=by rw [hR]
 have e2:R'.size=R.size:=by rw [hR]
 have e3:R'.head=R.head:=by rw [hR]
 have e4:R'.synced=R.synced:=by rw [hR]
 have e5:R'.txt=R.txt++s:=by rw [hR]
 have e6:R'.blk=R.blk:=by rw [hR]
 have hpos:0 < R'.n:=by
  rcases Nat.eq_zero_or_pos R'.n with hz | hp
  · exfalso
    have:=(hW.seg.empty hz).2
    rw [e5] at this
    exact h0 (List.append_eq_nil_iff.1 this).2
  · exact hp
 have hmod:Mod (fun k=>T.D.foot k∨T.R.foot k∨B≤k) w w':=hm.mono (fun k _ hk=>h.foot k hk)
 refine ⟨rfl,D',R',⟨?_,hW,h.wait.app h.whole.seg hW.seg ha h0 hR hpos,ha.quiet,?_,?_,⟨Nat.le_trans h.big.1 hm.size,h.big.2⟩,e6.trans h.rblk,ha.blk.trans h.dblk,e1.trans h.b,e4.trans h.syn,e3.trans h.head,e2.trans h.size,?_,?_,?_,h.lts,?_,?_⟩,hmod,?_⟩
 ·
  refine h.own.mod hm (fun k hk hk2=>?_)
  have:=h.away k hk
  rcases hk2 with h2 | h2
  · exact this.1 h2
  · exact this.2 h2
 ·
  intro k hk
  have h1:=h.away k hk
  have h2:=h.lts k hk
  have h3:=h.big.1
  refine ⟨fun hd=>?_,fun hd=>?_⟩
  · rcases hfd k hd with h4 | h4
    · exact h1.1 h4
    · omega
  · rcases hfr k hd with h4 | h4
    · exact h1.2 h4
    · omega
 ·
  refine h.tab.mod hm (fun k hk=>?_)
  rcases hk with h1 | h1
  · exact h.whole.dsk.base_le h1
  · rcases h1 with h1 | h1
    · rw [h1]; exact h.whole.seg.above
    · exact ownBlock_of_own h.whole.seg.row k h1
 · rw [e5,h.txt,List.append_assoc]
 · rw [ha.room,h.room,List.length_append]; omega
 ·
  intro k hk
  rcases hk with h1 | h1
  · rcases hfd k h1 with h2 | h2
    · exact h.foot k (.inl h2)
    · right; right; have:=h.big.1; omega
  · rcases hfr k h1 with h2 | h2
    · exact h.foot k (.inr h2)
    · right; right; have:=h.big.1; omega
 · intro n hn
   rw [ha.other n (by rw [h.head]; exact hn)]
   exact h.other n hn
 ·
  refine h.few.app ⟨?_,fun p hp=>by have:=ha.names p hp; rw [h.head] at this; exact this,ha.cap⟩
  obtain ⟨f',o,_,hw⟩:=ha.waits
  have:=ha.files
  rw [hw,List.length_append]
  show _≤D.files.length+(D.waits.length+1)
  omega
 · obtain ⟨f',o,_,hw⟩:=ha.waits
   rw [hw,List.length_append]; rfl
structure Next (T T':TapeD) (x:List TapeMath.Item):Prop where
 blk:T'.O.blk=T.O.blk
 sums:T'.O.sums=T.O.sums
 dblk:T'.D.blk=T.D.blk
 b:T'.R.b=T.R.b
 syn:T'.R.synced=T.R.synced
 its:T'.its=T.its++x
 quiet:Quiet T'.D
 room:T'.D.room=T.D.room - ((bytesL x).length:Int)
 waits:T'.D.waits≠[]
 wl:T'.D.waits.length≤T.D.waits.length+2
 other:∀ n,(∀ p,p≤99999999→n≠nameL tapeH p)→T'.D.find n=T.D.find n
 few:Few T.D T'.D
theorem bytes_laid (e:Nat) (m:Msg):bytesL (laidOf e m)=fillOf e m++recL m:=by
 unfold laidOf fillOf
 split
 · simp [bytesL,TapeMath.Item.bytes]
 · simp [bytesL,TapeMath.Item.bytes]
theorem recs_laid (e:Nat) (m:Msg):recsOf e (laidOf e m)=[(e+(fillOf e m).length,m)]:=by
 unfold laidOf fillOf
 split
 · rfl
 · rfl
theorem fillOf_len (e:Nat) (m:Msg) (h:3≤roomL e):(fillOf e m=[]∧((recL m).length≤roomL e))∨((fillOf e m).length=roomL e∧fillOf e m≠[]∧roomL (e+(fillOf e m).length)=1024):=by
 unfold fillOf
 have hl:=room_le e
 split
 · rename_i h1; exact .inl ⟨rfl,by omega⟩
 ·
  right
  have hf:=fill_len h (hl.2)
  refine ⟨hf,fun h=>?_,?_⟩
  · rw [h] at hf; simp at hf; omega
  · rw [hf]; unfold roomL; omega
theorem loose_e {base:Nat} {w:World} {T:TapeD} (h:TapeAt base w T):3≤roomL T.R.e:=by
 have hlo:=loose_of h.fits (by have:=h.whole.seg.mult; rw [h.size] at this; exact this)
 rw [← h.txt] at hlo
 exact hlo
theorem bytes_e {base:Nat} {w:World} {T:TapeD} (h:TapeAt base w T):T.R.e=T.R.b+(bytesL T.its).length:=by unfold SegD.e; rw [h.txt]
theorem Half.done {base B:Nat} {w w':World} {T:TapeD} {D:DiskD} {R:SegD} {idv:Value} {m:Msg} (h0:TapeAt base w T) (hr:rightL m=true) (hk:m.kind≠0) (h:Half base B w' T (fillOf T.R.e m++recL m) D R)
 {w2:World} (ho:OwnAt base w2 (T.O.add idv (T.R.e+(fillOf T.R.e m).length) m)) (hm:Mod T.O.foot w' w2) (hi:∀ k,idv.ownBlock=some k→T.O.foot k∨w'.heap.size≤k) :
 TapeAt base w2 ⟨T.O.add idv (T.R.e+(fillOf T.R.e m).length) m,D,R,T.its++laidOf T.R.e m⟩∧∀ k,TapeD.foot ⟨T.O.add idv (T.R.e+(fillOf T.R.e m).length) m,D,R,T.its++laidOf T.R.e m⟩ k→T.foot k∨B≤k:=by
 have he:=bytes_e h0
 have hfoot:∀ k,(T.O.add idv (T.R.e+(fillOf T.R.e m).length) m).foot k→T.O.foot k∨w'.heap.size≤k:=fun k hk=>by
  rcases hk with hk | hk | hk | hk
  · exact .inl (.inl hk)
  · exact .inl (.inr (.inl hk))
  · exact .inl (.inr (.inr (.inl hk)))
  · exact hi k hk
 refine ⟨⟨ho,h0.rb.trans h.rblk.symm,?_,fun k hk=>?_,h.whole.mod hm (fun k hk hk2=>(h.away k hk2).1 hk) (fun k hk hk2=>(h.away k hk2).2 hk),h.head,h.size,?_,?_,?_,h.wait⟩,fun k hk=>?_⟩
 · show T.O.recs++[_]=recsOf R.b (T.its++laidOf T.R.e m)
   rw [h.b,recs_app,← he,recs_laid,h0.recs]
 · rcases hfoot k hk with h1 | h1
   · exact h.away k h1
   · exact ⟨fun h2=>by have:=h.whole.dsk.lt h2; omega,fun h2=>by have:=h.whole.seg.lt h2; omega⟩
 · show R.txt=bytesL (T.its++laidOf T.R.e m)
   rw [h.txt,bytesL_app,bytes_laid,h0.txt]
 · show Fits R.b (T.its++laidOf T.R.e m)
   rw [h.b,he]
   exact laid_fits h0.fits (by have:=h0.whole.seg.mult; rw [h0.size] at this; exact this) hr hk
 ·
  intro p hp
  have e:(T.O.recs++[(T.R.e+(fillOf T.R.e m).length,m)]).getLast?=some p:=hp
  rw [List.getLast?_append] at e
  simp at e
  rw [← e]; rfl
 ·
  rcases hk with h1 | h1 | h1
  · rcases hfoot k h1 with h2 | h2
    · exact .inl (.inl h2)
    · right; have:=h.big.1; omega
  · rcases h.foot k (.inl h1) with h2 | h2 | h2
    · exact .inl (.inr (.inl h2))
    · exact .inl (.inr (.inr h2))
    · exact .inr h2
  · rcases h.foot k (.inr h1) with h2 | h2 | h2
    · exact .inl (.inr (.inl h2))
    · exact .inl (.inr (.inr h2))
    · exact .inr h2
theorem new_id {base:Nat} {w:World} {T:TapeD} (h:TapeAt base w T) (n:Nat):∀ p∈T.O.recs,p.1≠T.R.e+n:=by
 intro p hp e
 rw [h.recs] at hp
 obtain ⟨id,m⟩:=p
 obtain ⟨a,c,h1,h2⟩:=recs_mem h.fits hp
 have h3:=recs_lt h.fits hp
 have h4:=bytes_e h
 have hl:0 < (recL m).length:=by unfold recL; rw [List.cons_append,List.length_cons]; omega
 simp only at e
 omega
theorem append_ok {base:Nat} {T:TapeD} (m:Msg) (hm:MsgOk m) (hr:rightL m=true) (h0:m.kind≠0) (a:Option Addr) (c:Nat) (W:World) (h:TapeAt base W T) (hS:Strs W a (m.keys.map S)) (hq:Quiet T.D) (hT:TabB base W) (hbase:base≤W.heap.size)
 (hroom:(((fillOf T.R.e m).length+(recL m).length:Nat):Int)≤T.D.room) (hwl:T.D.waits.length≤1000000) (hfar:T.R.e≤90000000) (hrl:T.O.recs.length≤1000000) :
 Calls Tryz.prog 56 #[.pointer (some ⟨T.O.blk,0,none⟩),.agg (cellsM m a c)] W fun e w'=>e=.returned (.tuple #[.int .i64 ((T.R.e+(fillOf T.R.e m).length:Nat):Int),.int .i64 0]) ∧
  ∃ T',TapeAt base w' T'∧Next T T' (laidOf T.R.e m)∧Mod T.foot W w'∧∀ k,T'.foot k→T.foot k∨W.heap.size≤k:=by
 have HB0:Hid (Below W.heap.size W (W.alloc (.cells (cellsM m a c) 53))):=(Below.refl _ W).alloc (Nat.le_refl _) _
 have HX0:Hid (RecW.Boxed (W.alloc (.cells (cellsM m a c) 53)) W.heap.size (cellsM m a c)):=RecW.Boxed.new W _ _
 have hA1:W.heap.size < (W.alloc (.cells (cellsM m a c) 53)).heap.size:=by rw [World.size_alloc]; omega
 have HT0:=Lib.hid (h.below HB0.out)
 have HS0:=Lib.hid (Strs.below hS HB0.out)
 have HTB0:=Lib.hid (hT.below HB0.out)
 have HLT:Hid (∀ k,T.foot k→k < W.heap.size):=fun k hk=>h.lt hk
 have hcu:(cellsM m a c).size=10:=rfl
 have hlo:=loose_e h
 obtain ⟨hl1,hl2⟩:=rec_len hr h0
 have hfl:=fillOf_len T.R.e m hlo
 have hrml:=room_le T.R.e
 have HNI:=Lib.hid (new_id h (fillOf T.R.e m).length)
 have HM:=Lib.hid hm
 have HR:=Lib.hid hr
 have H0:=Lib.hid h0
 have HH:=Lib.hid h
 have HQ:=Lib.hid hq
 have hsz:=S_size
 have htl:=RecW.S_toList
 have hls:recL m≠[]:=fun e=>by rw [e] at hl1; simp at hl1; omega
 have hlsb:(recL m).isEmpty=false:=by cases hh:recL m with | nil=>exact absurd hh hls | cons _ _=>rfl
 clear h hS hm hT hr h0 hq hl1 hlo
 go_enter Tryz.func56,Tryz.ntmps56
 go_upto_region 1 with fail
 generalize W.alloc (.cells (cellsM m a c) 53)=w1 at *
 clear hcu
 obtain ⟨A,hA⟩:∃ A,W.heap.size=A:=⟨_,rfl⟩
 rw [hA] at HX0 hA1 ⊢
 have HAA:=Lib.hid hA
 have HLD:=Lib.hid (laid_ok m HM.out HR.out H0.out a c w1 HT0.out HS0.out)
 have HCM:Hid (cellsM m a c=#[.int .i64 m.kind,.int .i64 m.queue,.int .i64 m.due,.int .i64 m.retry,.int .i64 m.ref,.int .i64 m.born,.string (S m.topic),.string (S m.tag),.string (S m.body),.slice a m.keys.length c]):=rfl
 rw [HCM.out] at HLD
 obtain ⟨k0,k1,k2,k3,k4,k5,k6,k7,k8,k9⟩:=RecW.ten_cells HX0.out
 clear hA
 go_wp2_with fail
 refine HLD.out.mono ?_
 rintro e w2 ⟨rfl,hb⟩
 have HB2:=Lib.hid hb
 have HT2:=Lib.hid (HT0.out.below hb)
 have c0:w2.cell? ⟨T.O.blk,0,none⟩=some (.pointer (some ⟨T.R.blk,0,none⟩)):=HT2.out.c0
 have s0:w2.cell? ⟨T.R.blk,0,none⟩=some (.pointer (some ⟨T.D.blk,0,none⟩)):=HT2.out.whole.seg.cell 0 _ (by rw [← HT2.out.whole.db]; rfl)
 have HDD:=Lib.hid (down_any w2 HT2.out.whole.dsk)
 rw [HQ.out.up] at HDD
 have HDR:=Lib.hid (DskW.room_any w2 HT2.out.whole.dsk)
 clear hb HLD k0 k1 k2 k3 k4 k5 k6 k7 k8 k9
 generalize hpl:recL m=pl at *
 generalize hfo:fillOf T.R.e m=fo at *
 have hri:¬ T.D.room < (fo.length:Int)+(pl.length:Int):=by omega
 have HRI:=Lib.hid hri
 have HROOM:=Lib.hid hroom
 generalize hdr:T.D.room=dr at *
 have HDRm:=Lib.hid hdr
 clear hdr hroom HRI
 go_wp2_with fail
 refine HDD.out.mono ?_
 rintro e w2' ⟨rfl,rfl⟩
 go_wp2_with fail
 refine HDR.out.mono ?_
 rintro e w3 ⟨rfl,hb⟩
 have HB3:=Lib.hid (HB2.out.trans (hb.mono HB2.out.size))
 have HT3:=Lib.hid (HT2.out.below hb)
 have HTB3:=Lib.hid (HTB0.out.below HB3.out)
 have hA3:A < w3.heap.size:=by have:=HB3.out.size; omega
 have HX3:Hid (RecW.Boxed w3 A (cellsM m a c)):=HX0.out.below HB3.out
 have HHF:=Lib.hid (Half.start HT3.out HQ.out HTB3.out (by have:=HB3.out.size; have:=HB0.out.size; omega))
 have c03:w3.cell? ⟨T.O.blk,0,none⟩=some (.pointer (some ⟨T.R.blk,0,none⟩)):=HT3.out.c0
 clear hb HDD HDR HB2 HT2 HT0 HX0 c0 s0 HTB0
 have hfl1:fo.length≤1024:=by
  rcases hfl with ⟨hz,_⟩ | ⟨hz,_⟩
  · rw [hz]; exact Nat.zero_le _
  · omega
 have HNA:Hid (¬ (T.D.foot A∨T.R.foot A∨w3.heap.size≤A)):=fun hk=>by
  have h1:=HLT.out A
  have h2:=HAA.out
  rcases hk with hk | hk | hk
  · have:=h1 (.inr (.inl hk)); omega
  · have:=h1 (.inr (.inr hk)); omega
  · omega
 rcases hfl with ⟨hfe,hfit⟩ | ⟨hf1,hf2,hf3⟩
 ·
  have hfob:fo.isEmpty=true:=by rw [hfe]; rfl
  have HHA:Hid (Calls Tryz.prog 108 #[.pointer (some ⟨T.R.blk,0,none⟩),.string (S pl)] w3 fun e w'=>e=.returned (.tuple #[.int .i64 ((T.R.e:Nat):Int),.int .i64 0]) ∧
   ∃ D' R',Half base w3.heap.size w' T pl D' R'∧Mod (fun k=>T.D.foot k∨T.R.foot k∨w3.heap.size≤k) w3 w'∧D'.waits.length=T.D.waits.length+1) :=
   half_append HHF.out pl hls (by simpa using hfit) (by rw [HDRm.out]; have:=HROOM.out; omega) (by omega) (by simp; omega)
  have HFE:=Lib.hid hfe
  have HPL:=Lib.hid hpl
  have HFO:=Lib.hid hfo
  clear hfe hpl hfo hrml hwl hfit
  go_wp2_with fail
  any_goals (exfalso; rename_i hcc; rw [IntWalk.wrap64_in _ (by omega)] at hcc; omega)
  refine HHA.out.mono ?_
  rintro e w4 ⟨rfl,D',R',hh,hm4,hw4⟩
  have hx4:∀ (i:Nat) (v:Value),(cellsM m a c)[i]?=some v→w4.cell? ⟨A,i,none⟩=some v:=fun i v hv=>by
   rw [hm4.cell (p:=⟨A,i,none⟩) hA3 (fun hk=>HNA.out hk)]
   exact HX3.out i v hv
  obtain ⟨m0,m1,m2,m3,m4,m5,m6,m7,m8,m9⟩:=RecW.ten_cells hx4
  have HNO:=Lib.hid (note_one T.R.e m a c w4 hh.own H0.out (by have:=HNI.out; rw [HFE.out] at this; exact this) (by omega) (Nat.le_trans hh.big.2 hh.big.1))
  rw [HCM.out,HPL.out] at HNO
  have HH4:=Lib.hid hh
  have HM4:=Lib.hid hm4
  have HW4:=Lib.hid hw4
  clear hh hm4 hw4 hx4 HHA
  go_wp2_with fail
  refine HNO.out.mono ?_
  rintro e w5 ⟨rfl,idv,ho,hm5,hi⟩
  have HO5:=Lib.hid ho
  have HM5:=Lib.hid hm5
  have HI5:=Lib.hid hi
  clear ho hm5 hi HNO m0 m1 m2 m3 m4 m5 m6 m7 m8 m9
  go_wp2_with fail
  go_ret2
  refine ⟨by rw [HFO.out,HFE.out]; rfl,?_⟩
  have hh:Half base w3.heap.size w4 T (fillOf T.R.e m++recL m) D' R':=by rw [HFO.out,HFE.out,HPL.out]; exact HH4.out
  have ho:OwnAt base w5 (T.O.add idv (T.R.e+(fillOf T.R.e m).length) m):=by rw [HFO.out,HFE.out]; exact HO5.out
  obtain ⟨q1,q2⟩:=Half.done HH.out HR.out H0.out hh ho HM5.out HI5.out
  have hs3:W.heap.size≤w3.heap.size:=by have h1:=HB0.out.size; have h2:=HB3.out.size; omega
  have hm3:Mod T.foot W w3:=Mod.of_below (HB0.out.trans (HB3.out.mono HB0.out.size))
  refine ⟨_,q1,⟨rfl,rfl,hh.dblk,hh.b,hh.syn,rfl,hh.quiet,by rw [bytes_laid]; exact hh.room,fun e=>?_,?_,hh.other,hh.few⟩,?_,fun k hk=>(q2 k hk).imp_right fun h=>by omega⟩
  · have h1:=HW4.out
    have h2:D'.waits=[]:=e
    rw [h2] at h1; simp at h1
  · have h1:=HW4.out
    show D'.waits.length≤_
    omega
  · refine mod_over (mod_over hm3 HM4.out (fun k hk=>hk.elim (fun h=>.inl (.inr (.inl h))) fun h=>h.elim (fun h=>.inl (.inr (.inr h))) fun h=>.inr (by omega))) HM5.out (fun k hk=>.inl (.inl hk))
 ·
  have hfob:fo.isEmpty=false:=by cases hh:fo with | nil=>exact absurd hh hf2 | cons _ _=>rfl
  have HHA:Hid (Calls Tryz.prog 108 #[.pointer (some ⟨T.R.blk,0,none⟩),.string (S fo)] w3 fun e w'=>e=.returned (.tuple #[.int .i64 ((T.R.e:Nat):Int),.int .i64 0]) ∧
   ∃ D' R',Half base w3.heap.size w' T fo D' R'∧Mod (fun k=>T.D.foot k∨T.R.foot k∨w3.heap.size≤k) w3 w'∧D'.waits.length=T.D.waits.length+1) :=
   half_append HHF.out fo hf2 (by show fo.length≤roomL T.R.e; omega) (by rw [HDRm.out]; have:=HROOM.out; omega) (by omega) (by simp; omega)
  have HPL:=Lib.hid hpl
  have HFO:=Lib.hid hfo
  have HF3:=Lib.hid hf3
  have HWL:=Lib.hid hwl
  clear hpl hfo hrml hf1 hf2 hf3 hwl
  go_wp2_with fail
  any_goals (exfalso; rename_i hcc; rw [IntWalk.wrap64_in _ (by omega)] at hcc; omega)
  refine HHA.out.mono ?_
  rintro e w4 ⟨rfl,D1,R1,hh,hm4,hw4⟩
  have hxa:∀ (i:Nat) (v:Value),(cellsM m a c)[i]?=some v→w4.cell? ⟨A,i,none⟩=some v:=fun i v hv=>by
   rw [hm4.cell (p:=⟨A,i,none⟩) hA3 (fun hk=>HNA.out hk)]
   exact HX3.out i v hv
  have HXA:=Lib.hid hxa
  have HS4:Hid (A < w4.heap.size):=Nat.lt_of_lt_of_le hA3 hm4.size
  have c04:w4.cell? ⟨T.O.blk,0,none⟩=some (.pointer (some ⟨T.R.blk,0,none⟩)):=hh.own.cell 0 _ (by rw [← HH.out.rb]; rfl)
  have HHB:=Lib.hid (half_append hh pl hls (by rw [HF3.out]; omega) (by rw [hh.room,HDRm.out]; have:=HROOM.out; omega) (by have:=HWL.out; omega) (by omega))
  have HM4:=Lib.hid hm4
  have HW4:=Lib.hid hw4
  clear hh hm4 hw4 hxa HHA c03
  generalize hee:T.R.e+fo.length=ee at *
  have HEE:=Lib.hid hee
  clear hee
  go_wp2_with fail
  refine HHB.out.mono ?_
  rintro e w5 ⟨rfl,D',R',hh,hm5,hw5⟩
  have hx5:∀ (i:Nat) (v:Value),(cellsM m a c)[i]?=some v→w5.cell? ⟨A,i,none⟩=some v:=fun i v hv=>by
   rw [hm5.cell (p:=⟨A,i,none⟩) HS4.out (fun hk=>HNA.out hk)]
   exact HXA.out i v hv
  obtain ⟨m0,m1,m2,m3,m4,m5,m6,m7,m8,m9⟩:=RecW.ten_cells hx5
  have HNO:=Lib.hid (note_one ee m a c w5 hh.own H0.out HNI.out (by omega) (Nat.le_trans hh.big.2 hh.big.1))
  rw [HCM.out,HPL.out] at HNO
  have HH5:=Lib.hid hh
  have HM5:=Lib.hid hm5
  have HW5:=Lib.hid hw5
  clear hh hm5 hw5 hx5 HHB c04
  go_wp2_with fail
  refine HNO.out.mono ?_
  rintro e w6 ⟨rfl,idv,ho,hm6,hi⟩
  have HO6:=Lib.hid ho
  have HM6:=Lib.hid hm6
  have HI6:=Lib.hid hi
  clear ho hm6 hi HNO m0 m1 m2 m3 m4 m5 m6 m7 m8 m9
  go_wp2_with fail
  go_ret2
  refine ⟨by rw [HFO.out,HEE.out]; rfl,?_⟩
  have hh:Half base w3.heap.size w5 T (fillOf T.R.e m++recL m) D' R':=by rw [HFO.out,HPL.out]; exact HH5.out
  have ho:OwnAt base w6 (T.O.add idv (T.R.e+(fillOf T.R.e m).length) m):=by rw [HFO.out,HEE.out]; exact HO6.out
  obtain ⟨q1,q2⟩:=Half.done HH.out HR.out H0.out hh ho HM6.out HI6.out
  have hs3:W.heap.size≤w3.heap.size:=by have h1:=HB0.out.size; have h2:=HB3.out.size; omega
  have hm3:Mod T.foot W w3:=Mod.of_below (HB0.out.trans (HB3.out.mono HB0.out.size))
  refine ⟨_,q1,⟨rfl,rfl,hh.dblk,hh.b,hh.syn,rfl,hh.quiet,by rw [bytes_laid]; exact hh.room,fun e=>?_,?_,hh.other,hh.few⟩,?_,fun k hk=>(q2 k hk).imp_right fun h=>by omega⟩
  · have h1:=HW5.out
    have h2:D'.waits=[]:=e
    rw [h2] at h1; simp at h1
  · have h1:=HW5.out
    have h3:=HW4.out
    show D'.waits.length≤_
    omega
  · refine mod_over (mod_over (mod_over hm3 HM4.out (fun k hk=>hk.elim (fun h=>.inl (.inr (.inl h))) fun h=>h.elim (fun h=>.inl (.inr (.inr h))) fun h=>.inr (by omega))) HM5.out (fun k hk=>hk.elim (fun h=>.inl (.inr (.inl h))) fun h=>h.elim (fun h=>.inl (.inr (.inr h))) fun h=>.inr (by omega))) HM6.out (fun k hk=>.inl (.inl hk))
theorem sync_any {base:Nat} {T:TapeD} (w:World) (h:TapeAt base w T) (hq:Quiet T.D) (hT:TabB base w) (hbase:base≤w.heap.size) (hwl:T.D.waits.length≤1048576) (hn:T.R.n≤1048576) :
 Calls Tryz.prog 58 #[.pointer (some ⟨T.O.blk,0,none⟩)] w fun e w'=>e=.returned (.int .i64 0)∧∃ wv,TapeAt base w' { T with D:=T.R.syncD T.D wv,R:={ T.R with synced:=T.R.e } }∧Mod T.foot w w'∧(T.R.syncD T.D wv).waits=[]∧Quiet (T.R.syncD T.D wv)∧(∀ k,(T.R.syncD T.D wv).foot k↔T.D.foot k):=by
 have HS:=Lib.hid (SegW.sync_any w hT h.whole hq hbase hwl hn)
 have c0:=h.c0
 have HH:=Lib.hid h
 have HQ:=Lib.hid hq
 clear h hq hT
 go_enter Tryz.func58,Tryz.ntmps58
 go_wp2_with fail
 refine HS.out.mono ?_
 rintro e w' ⟨rfl,wv,hwv,hW,hm⟩
 have HW:=Lib.hid hW
 have HM:=Lib.hid hm
 have HWV:=Lib.hid hwv
 clear hW hm hwv HS
 go_wp2_with fail
 go_ret
 have h:=HH.out
 have hft:∀ k,(T.R.syncD T.D wv).foot k↔T.D.foot k:=fun k=>by
  unfold SegD.syncD
  split
  · exact Iff.rfl
  · exact lasts_foot HWV.out k
 have hwn:=h.wait.sync h.whole.seg h.whole.dsk wv
 have hqq:Quiet (T.R.syncD T.D wv):=by
  unfold SegD.syncD
  split
  · exact HQ.out
  · exact ⟨HQ.out.left,HQ.out.up⟩
 refine ⟨rfl,wv,⟨h.own.mod HM.out (fun k hk hk2=>?_),h.rb,h.recs,fun k hk=>⟨fun h2=>(h.away k hk).1 ((hft k).1 h2),fun h2=>(h.away k hk).2 h2⟩,HW.out,h.head,h.size,h.txt,h.fits,h.last,Waiting.none hwn⟩,HM.out.mono (fun k _ hk=>.inr hk),hwn,hqq,hft⟩
 have:=h.away k hk
 rcases hk2 with h2 | h2
 · exact this.1 h2
 · exact this.2 h2
theorem rec_pos (m:Msg):1≤(recL m).length:=by unfold recL; rw [List.cons_append,List.length_cons]; omega
theorem lies_rec {base:Nat} {w:World} {T:TapeD} (h:TapeAt base w T) {id:Nat} {m:Msg} (hm:(id,m)∈T.O.recs):rightL m=true∧m.kind≠0∧T.R.b≤id∧id+(recL m).length≤T.R.e∧id % 1024+(recL m).length≤1024∧((T.R.txt.drop (id - T.R.b)).take (recL m).length)=recL m:=by
 rw [h.recs] at hm
 obtain ⟨a,c,h1,h2⟩:=recs_mem h.fits hm
 have hf:=h.fits
 rw [h1] at hf
 have hl:=hf.at
 rw [← h2] at hl
 obtain ⟨l1,l2,l3⟩:=hl
 have h3:=recs_lt h.fits hm
 have h4:=bytes_e h
 refine ⟨l1.1,l1.2,h3.2,by omega,l2,?_⟩
 have h5:=read_item (a:=a) (c:=c) (x:=TapeMath.Item.one m) (recL m).length (Nat.le_refl _)
 rw [h.txt,h1,show id - T.R.b=(bytesL a).length by omega,h5]
 show recL m++(bytesL c).take ((recL m).length - (recL m).length)=recL m
 simp
theorem read_rec {base:Nat} {w:World} {T:TapeD} (h:TapeAt base w T) (hup:T.D.down=false) {id:Nat} {m:Msg} (hm:(id,m)∈T.O.recs):T.R.readT T.D (id:Int) ((recL m).length:Int)=recL m∧T.R.readE T.D (id:Int) ((recL m).length:Int)=0:=by
 obtain ⟨h1,h2,h3,h4,h5,h6⟩:=lies_rec h hm
 have hp:=rec_pos m
 have hl:((recL m).length:Int)≤T.R.left (id:Int):=by
  unfold SegD.left
  rw [h.size,if_neg (by omega),Int.toNat_natCast]
  have:id / 1024 * 1024+1024=id - id % 1024+1024:=by omega
  omega
 have hb:T.R.readB (id:Int) ((recL m).length:Int)=true:=by
  unfold SegD.readB
  rw [decide_eq_true (by omega),decide_eq_true hl]; rfl
 constructor
 · unfold SegD.readT
   rw [if_pos ⟨hup,hb⟩,Int.toNat_natCast,Int.toNat_natCast]
   exact h6
 · unfold SegD.readE
   rw [if_neg (by rw [hup]; decide),if_neg (by omega),if_pos hb]
theorem size_rec {l:List (Nat×Msg)} (hn:(l.map (·.1)).Nodup) {id:Nat} {m:Msg} (hm:(id,m)∈l):sizeR l (id:Int)=((recL m).length:Int):=by
 unfold sizeR
 cases hf:l.find? (fun p=>decide ((p.1:Int)=(id:Int))) with
 | none=>exact absurd (List.find?_eq_none.1 hf _ hm) (by simp)
 | some q =>
   obtain ⟨h1,a,b,h2,h3⟩:=List.find?_eq_some_iff_append.1 hf
   have hq:q.1=id:=by have:(q.1:Int)=(id:Int):=by simpa using h1
                      omega
   have:q=(id,m):=by
    subst h2
    rcases List.mem_append.1 hm with hx | hx
    · have:=h3 _ hx; simp at this
    · rcases List.mem_cons.1 hx with hx | hx
      · exact hx.symm
      · rw [List.map_append,List.map_cons] at hn
        have:=(List.nodup_cons.1 (List.nodup_append.1 hn).2.1).1
        exact absurd (List.mem_map.2 ⟨_,hx,rfl⟩) (by rw [hq] at this; exact this)
   rw [this]; rfl
theorem recs_nodup {base:Nat} {w:World} {T:TapeD} (h:TapeAt base w T):(T.O.recs.map (·.1)).Nodup:=by
 rw [h.recs]
 exact (recs_sorted h.fits).2.imp (fun h=>Nat.ne_of_lt h)
theorem tread_any {base:Nat} {T:TapeD} (id:Nat) (m:Msg) (W:World) (h:TapeAt base W T) (hup:T.D.down=false) (hT:TabB base W) (hbase:base≤W.heap.size) (hm:(id,m)∈T.O.recs) :
 Calls Tryz.prog 71 #[.pointer (some ⟨T.O.blk,0,none⟩),.int .i64 (id:Int)] W fun e w'=>∃ a c,e=.returned (.tuple #[.agg (cellsM m a c),.int .i64 0])∧Strs w' a (m.keys.map S)∧Below W.heap.size W w'∧∀ ad,a=some ad→W.heap.size≤ad.block:=by
 obtain ⟨r1,r2⟩:=read_rec h hup hm
 obtain ⟨g1,g2,g3,g4,g5,g6⟩:=lies_rec h hm
 obtain ⟨hl1,hl2⟩:=rec_len g1 g2
 have hp:=rec_pos m
 have hsr:=size_rec (recs_nodup h) hm
 have hel:=h.whole.seg.e_le
 obtain ⟨w1,hw1⟩:∃ w1:World,w1=W.alloc (.cells #[.int .i64 0,.int .i64 0,.int .i64 0,.int .i64 0,.int .i64 0,.int .i64 0,.string ⟨#[]⟩,.string ⟨#[]⟩,.string ⟨#[]⟩,.slice none 0 0] 53):=⟨_,rfl⟩
 have hb1:Below W.heap.size W w1:=by rw [hw1]; exact (Below.refl _ _).alloc (Nat.le_refl _) _
 have HT1:=Lib.hid (h.below hb1)
 have HTB:=Lib.hid (hT.below hb1)
 have HZ1:Hid (w1.heap[W.heap.size]?=some (.cells (cellsM noMsg none 0) 53 (0,0))):=by rw [hw1]; exact heap_alloc_new W _
 have HBW:Hid (Below W.heap.size W w1):=hb1
 have HBE:=Lib.hid (SegW.begin_any w1 HT1.out.whole.seg)
 have c0:w1.cell? ⟨T.O.blk,0,none⟩=some (.pointer (some ⟨T.R.blk,0,none⟩)):=HT1.out.c0
 have c3:w1.cell? ⟨T.O.blk,3,none⟩=some (.map (some T.O.mB)):=HT1.out.own.cell 3 _ rfl
 have hlk:=lookupS HT1.out.own (id:Int)
 rw [hsr] at hlk
 have HC0:Hid (∀ w,Below w1.heap.size w1 w→w.cell? ⟨T.O.blk,0,none⟩=some (.pointer (some ⟨T.R.blk,0,none⟩))):=fun w hb=>(HT1.out.below hb).c0
 have HC1:Hid (∀ w,Below w1.heap.size w1 w→w.cell? ⟨T.O.blk,1,none⟩=some (.pointer (some ⟨T.O.sums,0,none⟩))):=fun w hb=>(HT1.out.below hb).own.cell 1 _ rfl
 have HC3:Hid (∀ w,Below w1.heap.size w1 w→w.cell? ⟨T.O.blk,3,none⟩=some (.map (some T.O.mB))):=fun w hb=>(HT1.out.below hb).own.cell 3 _ rfl
 have HLK:Hid (∀ w,Below w1.heap.size w1 w→(Instr.lookup 82 (.map (some T.O.mB)) (.int .i64 (id:Int)) false).run Tryz.prog w=.ok (.int .i64 ((recL m).length:Int)) w):=fun w hb=>by
  have:=lookupS (HT1.out.below hb).own (id:Int)
  rw [hsr] at this; exact this
 have HRD:Hid (∀ w,Below w1.heap.size w1 w→Calls Tryz.prog 82 #[.pointer (some ⟨T.R.blk,0,none⟩),.int .i64 (id:Int),.int .i64 ((recL m).length:Int)] w fun e w'=>e=.returned (.tuple #[.string (S (recL m)),.int .i64 0])∧Below w.heap.size w w'):=fun w hb=>by
  have:=SegW.read_any (id:Int) ((recL m).length:Int) (by omega) (by omega) w (HTB.out.below hb).tab (HT1.out.below hb).whole.seg (HT1.out.below hb).whole.dsk h.whole.db h.whole.ok
  rw [r1,r2] at this; exact this
 have HGE:Hid (∀ w,Below w1.heap.size w1 w→Calls Tryz.prog 130 #[.pointer (some ⟨T.O.sums,0,none⟩),.string (S (recL m))] w fun e w'=>∃ a c,e=.returned (.tuple #[.agg #[.int .i64 m.kind,.int .i64 m.queue,.int .i64 m.due,.int .i64 m.retry,.int .i64 m.ref,.int .i64 m.born,.string (S m.topic),.string (S m.tag),.string (S m.body),.slice a m.keys.length c],.int .i64 ((recL m).length:Int),.int .i64 0])∧Strs w' a (m.keys.map S)∧Below w.heap.size w w'∧∀ ad,a=some ad→w.heap.size≤ad.block):=fun w hb=>by
  have:=get_one T.O.sums m g1 g2 [] (by simp) w (HT1.out.below hb).own.low.1 (HT1.out.below hb).own.tabs
  rw [List.append_nil] at this; exact this
 have hbi:¬ (id:Int) < (T.R.b:Int):=by omega
 have hli:¬ ((recL m).length:Int)=0:=by omega
 clear h hT hm r1 r2 g1 g2 g4 g5 g6 hl1 hsr hb1 hl2 hup
 generalize hpl:recL m=pl at *
 clear hpl
 go_enter Tryz.func71,Tryz.ntmps71
 go_upto_region 1 with fail
 rw [← hw1]
 obtain ⟨Bt,hBt⟩:∃ B,W.heap.size=B:=⟨_,rfl⟩
 rw [hBt] at HZ1 ⊢
 have HBT:=Lib.hid hBt
 clear hw1 hBt
 go_wp2_with fail
 refine HBE.out.mono ?_
 rintro e w1 ⟨rfl,rfl⟩
 clear HBE
 go_wp2_with fail
 refine GrowN.wp_region_n 17 [none,none,none,none,none,none,none,none,none,none,none,some (.inl (.tuple #[.string (S pl),.int .i64 0])),none,none,none,none,none] (RecW.ExtR) (by kernel_rfl) (by kernel_rfl) (by kernel_rfl) (RecW.ExtR.refl) (fun _ _ _=>RecW.ExtR.trans) ?_ ?_
 · exact GrowN.stab0 rfl
 simp only [List.take_succ_cons,List.take_zero,List.drop_succ_cons,List.drop_zero]
 iterate 3
  refine GrowN.g_det rfl ?_
  apply Exists.intro
  refine ⟨fun w hw hF=>?_,?_⟩
  · clear hF
    go_simp
    exact ⟨rfl,RecW.ExtR.refl _⟩
  go_frame
 refine GrowN.g_det rfl ?_
 apply Exists.intro
 refine ⟨fun w hw hF=>?_,?_⟩
 ·
  clear hF
  have hb:=(Below.refl w1.heap.size w1).drew.trans hw
  have c0:=HC0.out w hb
  go_simp
  exact ⟨rfl,RecW.ExtR.refl _⟩
 iterate 4
  go_frame
  refine GrowN.g_det rfl ?_
  apply Exists.intro
  refine ⟨fun w hw hF=>?_,?_⟩
  · clear hF
    go_simp
    exact ⟨rfl,RecW.ExtR.refl _⟩
 go_frame
 refine GrowN.g_det rfl ?_
 apply Exists.intro
 refine ⟨fun w hw hF=>?_,?_⟩
 ·
  clear hF
  have hb:=(Below.refl w1.heap.size w1).drew.trans hw
  have c3:=HC3.out w hb
  go_simp
  exact ⟨rfl,RecW.ExtR.refl _⟩
 go_frame
 refine GrowN.g_det rfl ?_
 apply Exists.intro
 refine ⟨fun w hw hF=>?_,?_⟩
 · clear hF
   go_simp
   exact ⟨rfl,RecW.ExtR.refl _⟩
 go_frame
 refine GrowN.g_det rfl ?_
 apply Exists.intro
 refine ⟨fun w hw hF=>?_,?_⟩
 ·
  clear hF
  have hb:=(Below.refl w1.heap.size w1).drew.trans hw
  have hl:=HLK.out w hb
  go_simp
  exact ⟨rfl,RecW.ExtR.refl _⟩
 go_frame
 refine GrowN.g_con rfl (fun w hw hF=>?_) ?_
 ·
  clear hF
  have hb:=(Below.refl w1.heap.size w1).drew.trans hw
  go_simp
  exact (HRD.out w hb).mono fun e w3 h=>⟨_,h.1,rfl,h.2⟩
 iterate 5
  go_frame
  refine GrowN.g_det rfl ?_
  apply Exists.intro
  refine ⟨fun w hw hF=>?_,?_⟩
  · clear hF
    go_simp
    exact ⟨rfl,RecW.ExtR.refl _⟩
 go_frame
 refine GrowN.g_nil fun w2 hw2 hF=>?_
 clear hF
 have HB2:=Lib.hid ((Below.refl w1.heap.size w1).drew.trans hw2)
 clear hw2 HC0 HC3 HLK HRD
 have c1:=HC1.out w2 HB2.out
 go_wp2_with fail
 refine (HGE.out w2 HB2.out).mono ?_
 rintro e w7 ⟨a,c,rfl,hst,hb,had⟩
 have HB7:=Lib.hid (HB2.out.trans (hb.mono HB2.out.size))
 have HST:=Lib.hid hst
 have HAD:Hid (∀ ad,a=some ad→w1.heap.size≤ad.block):=fun ad e=>Nat.le_trans HB2.out.size (had ad e)
 clear hb hst had HGE c1 HB2 c0 c3
 go_upto_region 11 with fail
 have HB8:Hid (Below w7.heap.size w7 (w7.alloc (.cells #[.int .i64 m.kind,.int .i64 m.queue,.int .i64 m.due,.int .i64 m.retry,.int .i64 m.ref,.int .i64 m.born,.string (S m.topic),.string (S m.tag),.string (S m.body),.slice a m.keys.length c] 53))):=(Below.refl w7.heap.size w7).alloc (Nat.le_refl _) _
 have HW8:Hid ((w7.alloc (.cells #[.int .i64 m.kind,.int .i64 m.queue,.int .i64 m.due,.int .i64 m.retry,.int .i64 m.ref,.int .i64 m.born,.string (S m.topic),.string (S m.tag),.string (S m.body),.slice a m.keys.length c] 53)).heap[Bt]?=some (.cells (cellsM noMsg none 0) 53 (0,0))):=by
  show _=_
  have h1:=HB7.out.block Bt (Array.getElem?_eq_some_iff.1 HZ1.out).1
  rw [HB8.out.block Bt (by have:=(Array.getElem?_eq_some_iff.1 HZ1.out).1; have:=HB7.out.size; omega),h1]; exact HZ1.out
 have HN8:Hid ((w7.alloc (.cells #[.int .i64 m.kind,.int .i64 m.queue,.int .i64 m.due,.int .i64 m.retry,.int .i64 m.ref,.int .i64 m.born,.string (S m.topic),.string (S m.tag),.string (S m.body),.slice a m.keys.length c] 53)).heap[w7.heap.size]?=some (.cells #[.int .i64 m.kind,.int .i64 m.queue,.int .i64 m.due,.int .i64 m.retry,.int .i64 m.ref,.int .i64 m.born,.string (S m.topic),.string (S m.tag),.string (S m.body),.slice a m.keys.length c] 53 (0,0))):=heap_alloc_new w7 _
 have HS8:=Lib.hid (Strs.below HST.out HB8.out)
 have HBB:Hid (Below W.heap.size W (w7.alloc (.cells #[.int .i64 m.kind,.int .i64 m.queue,.int .i64 m.due,.int .i64 m.retry,.int .i64 m.ref,.int .i64 m.born,.string (S m.topic),.string (S m.tag),.string (S m.body),.slice a m.keys.length c] 53))):=HBW.out.trans ((HB7.out.trans (HB8.out.mono HB7.out.size)).mono HBW.out.size)
 generalize hw8:w7.alloc (.cells #[.int .i64 m.kind,.int .i64 m.queue,.int .i64 m.due,.int .i64 m.retry,.int .i64 m.ref,.int .i64 m.born,.string (S m.topic),.string (S m.tag),.string (S m.body),.slice a m.keys.length c] 53)=w8 at *
 obtain ⟨Bn,hBn⟩:∃ B,w7.heap.size=B:=⟨_,rfl⟩
 rw [hBn] at HN8 ⊢
 clear hBn hw8 HST HB8
 have k0:w8.cell? ⟨Bt,0,none⟩=some (.int .i64 0):=by rw [Lib.cell_of_heap HW8.out]; rfl
 have k1:w8.cell? ⟨Bt,1,none⟩=some (.int .i64 0):=by rw [Lib.cell_of_heap HW8.out]; rfl
 have k2:w8.cell? ⟨Bt,2,none⟩=some (.int .i64 0):=by rw [Lib.cell_of_heap HW8.out]; rfl
 have k3:w8.cell? ⟨Bt,3,none⟩=some (.int .i64 0):=by rw [Lib.cell_of_heap HW8.out]; rfl
 have k4:w8.cell? ⟨Bt,4,none⟩=some (.int .i64 0):=by rw [Lib.cell_of_heap HW8.out]; rfl
 have k5:w8.cell? ⟨Bt,5,none⟩=some (.int .i64 0):=by rw [Lib.cell_of_heap HW8.out]; rfl
 have k6:w8.cell? ⟨Bt,6,none⟩=some (.string ⟨#[]⟩):=by rw [Lib.cell_of_heap HW8.out]; rfl
 have k7:w8.cell? ⟨Bt,7,none⟩=some (.string ⟨#[]⟩):=by rw [Lib.cell_of_heap HW8.out]; rfl
 have k8:w8.cell? ⟨Bt,8,none⟩=some (.string ⟨#[]⟩):=by rw [Lib.cell_of_heap HW8.out]; rfl
 have k9:w8.cell? ⟨Bt,9,none⟩=some (.slice none 0 0):=by rw [Lib.cell_of_heap HW8.out]; rfl
 have n0:w8.cell? ⟨Bn,0,none⟩=some (.int .i64 m.kind):=by rw [Lib.cell_of_heap HN8.out]; rfl
 have n1:w8.cell? ⟨Bn,1,none⟩=some (.int .i64 m.queue):=by rw [Lib.cell_of_heap HN8.out]; rfl
 have n2:w8.cell? ⟨Bn,2,none⟩=some (.int .i64 m.due):=by rw [Lib.cell_of_heap HN8.out]; rfl
 have n3:w8.cell? ⟨Bn,3,none⟩=some (.int .i64 m.retry):=by rw [Lib.cell_of_heap HN8.out]; rfl
 have n4:w8.cell? ⟨Bn,4,none⟩=some (.int .i64 m.ref):=by rw [Lib.cell_of_heap HN8.out]; rfl
 have n5:w8.cell? ⟨Bn,5,none⟩=some (.int .i64 m.born):=by rw [Lib.cell_of_heap HN8.out]; rfl
 have n6:w8.cell? ⟨Bn,6,none⟩=some (.string (S m.topic)):=by rw [Lib.cell_of_heap HN8.out]; rfl
 have n7:w8.cell? ⟨Bn,7,none⟩=some (.string (S m.tag)):=by rw [Lib.cell_of_heap HN8.out]; rfl
 have n8:w8.cell? ⟨Bn,8,none⟩=some (.string (S m.body)):=by rw [Lib.cell_of_heap HN8.out]; rfl
 have n9:w8.cell? ⟨Bn,9,none⟩=some (.slice a m.keys.length c):=by rw [Lib.cell_of_heap HN8.out]; rfl
 have hfr:∀ j,w8.frozen? ⟨Bt,j,none⟩=false:=fun j=>Lib.frozen_of_heap HW8.out j
 have HH:=Lib.hid (put10_heap (z:=cellsM noMsg none 0) rfl HW8.out (.int .i64 m.kind) (.int .i64 m.queue) (.int .i64 m.due) (.int .i64 m.retry) (.int .i64 m.ref) (.int .i64 m.born) (.string (S m.topic)) (.string (S m.tag)) (.string (S m.body)) (.slice a m.keys.length c))
 have HBM:=Lib.hid (put10_mod w8 Bt (.int .i64 m.kind) (.int .i64 m.queue) (.int .i64 m.due) (.int .i64 m.retry) (.int .i64 m.ref) (.int .i64 m.born) (.string (S m.topic)) (.string (S m.tag)) (.string (S m.body)) (.slice a m.keys.length c))
 go_wp2_with fail
 clear k0 k1 k2 k3 k4 k5 k6 k7 k8 k9 hfr n0 n1 n2 n3 n4 n5 n6 n7 n8 n9
 change bodyPost _ _ _ _ _ (put10 w8 Bt (.int .i64 m.kind) (.int .i64 m.queue) (.int .i64 m.due) (.int .i64 m.retry) (.int .i64 m.ref) (.int .i64 m.born) (.string (S m.topic)) (.string (S m.tag)) (.string (S m.body)) (.slice a m.keys.length c))
 generalize put10 w8 Bt (.int .i64 m.kind) (.int .i64 m.queue) (.int .i64 m.due) (.int .i64 m.retry) (.int .i64 m.ref) (.int .i64 m.born) (.string (S m.topic)) (.string (S m.tag)) (.string (S m.body)) (.slice a m.keys.length c)=w9 at *
 have hz9:=HH.out
 have c0:w9.cell? ⟨Bt,0,none⟩=some (.int .i64 m.kind):=by rw [Lib.cell_of_heap hz9]; rfl
 have c1:w9.cell? ⟨Bt,1,none⟩=some (.int .i64 m.queue):=by rw [Lib.cell_of_heap hz9]; rfl
 have c2:w9.cell? ⟨Bt,2,none⟩=some (.int .i64 m.due):=by rw [Lib.cell_of_heap hz9]; rfl
 have c3:w9.cell? ⟨Bt,3,none⟩=some (.int .i64 m.retry):=by rw [Lib.cell_of_heap hz9]; rfl
 have c4:w9.cell? ⟨Bt,4,none⟩=some (.int .i64 m.ref):=by rw [Lib.cell_of_heap hz9]; rfl
 have c5:w9.cell? ⟨Bt,5,none⟩=some (.int .i64 m.born):=by rw [Lib.cell_of_heap hz9]; rfl
 have c6:w9.cell? ⟨Bt,6,none⟩=some (.string (S m.topic)):=by rw [Lib.cell_of_heap hz9]; rfl
 have c7:w9.cell? ⟨Bt,7,none⟩=some (.string (S m.tag)):=by rw [Lib.cell_of_heap hz9]; rfl
 have c8:w9.cell? ⟨Bt,8,none⟩=some (.string (S m.body)):=by rw [Lib.cell_of_heap hz9]; rfl
 have c9:w9.cell? ⟨Bt,9,none⟩=some (.slice a m.keys.length c):=by rw [Lib.cell_of_heap hz9]; rfl
 have hbb:Below W.heap.size W w9:=HBB.out.trans (HBM.out.to_below _ HBB.out.size (fun k e=>by rw [e,← HBT.out]; exact Nat.le_refl _))
 refine bodyPost_ret (v:=.tuple #[.agg #[.int .i64 m.kind,.int .i64 m.queue,.int .i64 m.due,.int .i64 m.retry,.int .i64 m.ref,.int .i64 m.born,.string (S m.topic),.string (S m.tag),.string (S m.body),.slice a m.keys.length c],.int .i64 0]) ?_ rfl ⟨a,c,rfl,?_,hbb,fun ad e=>by have h1:=HAD.out ad e; have h2:=HBW.out.size; omega⟩
 · clear hz9
   simp [results,Tryz.results71,go_sem,c0,c1,c2,c3,c4,c5,c6,c7,c8,c9]
 · exact strs_over HS8.out HBM.out (fun ad e _=>by have h1:=HAD.out ad e; have h2:=(Array.getElem?_eq_some_iff.1 HZ1.out).1; omega)
def idI (l:List (Nat×Msg)):List Int:=l.map fun p=>(p.1:Int)
def placeL (l:List (Nat×Msg)) (p:Int):Nat:=(idI l).countP (· < p)
theorem placeL_le (l:List (Nat×Msg)) (p:Int):placeL l p≤l.length:=by
 unfold placeL
 have:=List.countP_le_length (p:=fun x:Int=>decide (x < p)) (l:=idI l)
 unfold idI at this ⊢
 rw [List.length_map] at this; exact this
theorem place_any {base:Nat} {T:OwnD} (p:Int) (w:World) (h:OwnAt base w T) (hs:(T.recs.map (·.1)).Pairwise (· < ·)) (hl:T.recs.length≤1073741824) :
 Calls Tryz.prog 25 #[.pointer (some ⟨T.blk,0,none⟩),.int .i64 p] w fun e w'=>e=.returned (.int .i64 ((placeL T.recs p:Nat):Int))∧Drawn w w':=by
 have HBS:Hid (∃ bo:Bool,Calls Tryz.prog 46 #[T.idv,.int .i64 p] w fun e w'=>e=.returned (.tuple #[.int .i64 ((placeL T.recs p:Nat):Int),.bool bo])∧Drawn w w'):=by
  show ∃ bo,_
  by_cases h0:T.recs=[]
  · obtain ⟨a,c,hv⟩:=own_slice h.ids
    have hz:placeL T.recs p=0:=by rw [h0]; rfl
    rw [hv,hz,h0]
    exact ⟨false,(Tryz.slices_BinarySearch_int_empty a c p w).mono fun e w' h=>⟨h.1,h.2 ▸ Drawn.refl _⟩⟩
  ·
   have hpos:0 < T.recs.length:=List.length_pos_iff.2 h0
   have hcs:∀ i (hi:i < T.recs.length),∃ g cap,T.idv=.slice (some ⟨g,0,none⟩) T.recs.length cap∧T.recs.length≤cap∧w.cell? ⟨g,i,none⟩=some (.int .i64 ((T.recs[i].1:Nat):Int)):=fun i hi =>
    SegW.own_cell h.ids i hi _ (by unfold idsL; rw [List.getElem?_map,List.getElem?_eq_getElem hi]; rfl)
   obtain ⟨g,cap,hv,hc,_⟩:=hcs 0 hpos
   have hcells:∀ j,j < (idI T.recs).length→w.cell? ⟨g,0+j,none⟩=some (.int .i64 ((idI T.recs).getD j 0)):=fun j hj=>by
    have hj':j < T.recs.length:=by unfold idI at hj; rw [List.length_map] at hj; exact hj
    obtain ⟨g',cap',hv',_,hcc⟩:=hcs j hj'
    rw [hv] at hv'
    injection hv' with e1
    injection e1 with e1
    injection e1 with e1
    rw [Nat.zero_add,e1,hcc]
    unfold idI
    simp [List.getD,hj']
   have hsort:((idI T.recs).take T.recs.length).Pairwise (·≤·):=by
    rw [List.take_of_length_le (by unfold idI; rw [List.length_map]; exact Nat.le_refl _)]
    unfold idI
    rw [List.pairwise_map] at hs ⊢
    exact hs.imp fun h=>by omega
   have hlen:(idI T.recs).length=T.recs.length:=by unfold idI; exact List.length_map _
   have:=Tryz.slices_BinarySearch_int g 0 T.recs.length cap (idI T.recs) p w (by rw [hlen]; exact Nat.le_refl _) (by omega) hcells hsort
   rw [List.take_of_length_le (by rw [hlen]; exact Nat.le_refl _)] at this
   rw [hv]
   exact ⟨_,this.mono fun e w' h=>⟨h.1,h.2⟩⟩
 obtain ⟨bo,hbs⟩:=HBS.out
 have HB:=Lib.hid hbs
 have c2:w.cell? ⟨T.blk,2,none⟩=some T.idv:=h.cell 2 _ rfl
 clear h hs hl hbs HBS
 generalize placeL T.recs p=pl at *
 generalize T.idv=iv at *
 go_enter Tryz.func25,Tryz.ntmps25
 go_wp2_with fail
 refine HB.out.mono ?_
 rintro e w' ⟨rfl,hd⟩
 have HD:=Lib.hid hd
 clear hd HB
 go_wp2_with fail
 go_ret
 exact ⟨rfl,HD.out⟩
def nextL (l:List (Nat×Msg)) (p:Int):Int×Bool:=match (l.drop (placeL l p)).head? with | some q=>((q.1:Int),true) | none=>(0,false)
theorem next_any {base:Nat} {T:OwnD} (p:Int) (w:World) (h:OwnAt base w T) (hs:(T.recs.map (·.1)).Pairwise (· < ·)) (hl:T.recs.length≤1073741824) :
 Calls Tryz.prog 78 #[.pointer (some ⟨T.blk,0,none⟩),.int .i64 p] w fun e w'=>e=.returned (.tuple #[.int .i64 (nextL T.recs p).1,.bool (nextL T.recs p).2])∧Drawn w w':=by
 have HP:=Lib.hid (place_any p w h hs hl)
 have hple:=placeL_le T.recs p
 have HN:Hid (nextL T.recs p=match (T.recs.drop (placeL T.recs p)).head? with | some q=>((q.1:Int),true) | none=>(0,false)):=rfl
 have HH:=Lib.hid h
 clear h hs
 generalize placeL T.recs p=pl at *
 go_enter Tryz.func78,Tryz.ntmps78
 go_wp2_with fail
 refine HP.out.mono ?_
 rintro e w1 ⟨rfl,hd⟩
 have HD:=Lib.hid hd
 have h1:OwnAt base w1 T:=HH.out.mod (M:=fun _=>False) (Mod.of_below (hd.below _)) (fun _ _ h=>h)
 clear hd HP
 by_cases hlt:pl < T.recs.length
 ·
  obtain ⟨g,cap,hv,hc,hcell⟩:=SegW.own_cell h1.ids pl hlt (.int .i64 ((T.recs[pl].1:Nat):Int)) (by unfold idsL; rw [List.getElem?_map,List.getElem?_eq_getElem hlt]; rfl)
  have c2:w1.cell? ⟨T.blk,2,none⟩=some (.slice (some ⟨g,0,none⟩) T.recs.length cap):=by rw [← hv]; exact h1.cell 2 _ rfl
  have HR:Hid (nextL T.recs p=((T.recs[pl].1:Int),true)):=by
   show _=_
   rw [HN.out,List.head?_drop,List.getElem?_eq_getElem hlt]
  clear h1 hv HN
  generalize T.recs[pl].1=x at *
  generalize T.recs.length=n at *
  go_wp2_with fail
  go_ret2
  exact ⟨by rw [HR.out]; rfl,HD.out⟩
 ·
  obtain ⟨a,c,hv⟩:=own_slice h1.ids
  have c2:w1.cell? ⟨T.blk,2,none⟩=some (.slice a T.recs.length c):=by rw [← hv]; exact h1.cell 2 _ rfl
  have HR:Hid (nextL T.recs p=(0,false)):=by
   show _=_
   rw [HN.out,List.head?_drop,List.getElem?_eq_none (by omega)]
  clear h1 hv HN
  generalize T.recs.length=n at *
  go_wp2_with fail
  go_ret2
  exact ⟨by rw [HR.out]; rfl,HD.out⟩
theorem ownb {w:World} {base b n sz:Nat} {e:TypeId} {v:Value} {xs:List Value} (h:w.ownsRow b e sz v n xs) (hb:base≤b):w.ownsRow base e sz v n xs :=
 ⟨h.1,h.2.elim .inl fun ⟨g,cap,cur,e1,e2,r⟩=>.inr ⟨g,cap,cur,e1,Nat.le_trans hb e2,r⟩⟩
theorem ids_any {base:Nat} {T:OwnD} (p:Int) (w1:World) (h:OwnAt base w1 T) (hs:(T.recs.map (·.1)).Pairwise (· < ·)) (hl:T.recs.length≤1073741824) (hp:placeL T.recs p=0) :
 Calls Tryz.prog 11 #[.pointer (some ⟨T.blk,0,none⟩),.int .i64 p] w1 fun e w'=>∃ v,e=.returned v∧w'.ownsRow w1.heap.size 3 1 v T.recs.length (idsL T.recs)∧Below w1.heap.size w1 w':=by
 have HPL:Hid (∀ w,Below w1.heap.size w1 w→Calls Tryz.prog 25 #[.pointer (some ⟨T.blk,0,none⟩),.int .i64 p] w fun e w'=>e=.returned (.int .i64 0)∧Drawn w w'):=fun w hb=>by
  have:=place_any p w (h.below hb) hs hl
  rw [hp] at this; exact this
 rcases h.ids.2 with ⟨hv,hz⟩ | ⟨g,cap,cur,hv,hbg,hg,hn,hmx,hsz,ht⟩
 ·
  have h0:T.recs=[]:=List.length_eq_zero_iff.1 hz
  have HC2:Hid (∀ w,Below w1.heap.size w1 w→w.cell? ⟨T.blk,2,none⟩=some (.slice none 0 0)):=fun w hb=>by rw [← hv]; exact (h.below hb).cell 2 _ rfl
  have HCL:Hid (∀ w,Below w1.heap.size w1 w→Calls Tryz.prog 24 #[.slice none 0 0] w fun e w'=>∃ v,e=.returned v∧w'.ownsRow w.heap.size 3 1 v T.recs.length (idsL T.recs)∧Below w.heap.size w w'):=fun w hb=>by
   refine (Tryz.slices_Clone_int_nil 0 0 w).mono fun e w' h=>⟨_,h.1,?_,h.2 ▸ Below.refl _ _⟩
   rw [h0]; exact ⟨rfl,.inl ⟨rfl,rfl⟩⟩
  clear h hs hl hp hv hz h0
  go_enter Tryz.func11,Tryz.ntmps11
  go_wp2_with fail
  refine GrowN.wp_region_n 10 [none,none,none,none,none,none,some (.inl (.int .i64 0)),some (.inl (.slice none 0 0)),some (.inr (fun _ v w=>w.ownsRow w1.heap.size 3 1 v T.recs.length (idsL T.recs))),none] (RecW.ExtR) (by kernel_rfl) (by kernel_rfl) (by kernel_rfl) (RecW.ExtR.refl) (fun _ _ _=>RecW.ExtR.trans) ?_ ?_
  ·
   intro K hK Y hY l v w w' hR h
   simp only [List.mem_cons,List.not_mem_nil,or_false] at hK
   rcases hK with rfl | rfl | rfl | rfl | rfl | rfl | rfl | rfl | rfl | rfl <;> simp only [reduceCtorEq,Option.some.injEq,Sum.inr.injEq] at hY
   subst hY
   exact SegW.ownsRow_mod (M:=fun _=>False) h (Mod.of_below hR) (fun _ _ h=>h)
  simp only [List.take_succ_cons,List.take_zero,List.drop_succ_cons,List.drop_zero]
  iterate 3
   refine GrowN.g_det rfl ?_
   apply Exists.intro
   refine ⟨fun w hw hF=>?_,?_⟩
   · clear hF
     go_simp
     exact ⟨rfl,RecW.ExtR.refl _⟩
   go_frame
  refine GrowN.g_det rfl ?_
  apply Exists.intro
  refine ⟨fun w hw hF=>?_,?_⟩
  ·
   clear hF
   have hb:=(Below.refl w1.heap.size w1).drew.trans hw
   have c2:=HC2.out w hb
   go_simp
   exact ⟨rfl,RecW.ExtR.refl _⟩
  iterate 2
   go_frame
   refine GrowN.g_det rfl ?_
   apply Exists.intro
   refine ⟨fun w hw hF=>?_,?_⟩
   · clear hF
     go_simp
     exact ⟨rfl,RecW.ExtR.refl _⟩
  go_frame
  refine GrowN.g_con rfl (fun w hw hF=>?_) ?_
  · clear hF
    have hb:=(Below.refl w1.heap.size w1).drew.trans hw
    go_simp
    exact (HPL.out w hb).mono fun e w3 h=>⟨_,h.1,rfl,h.2.below _⟩
  go_frame
  refine GrowN.g_con rfl (fun w hw hF=>?_) ?_
  · clear hF
    go_simp
    all_goals first | exact RecW.ExtR.refl _ | omega
  go_frame
  refine GrowN.g_new rfl (fun w hw hF=>?_) (fun v=>?_)
  · clear hF
    have hb:=(Below.refl w1.heap.size w1).drew.trans hw
    go_simp
    exact (HCL.out w hb).mono fun e w3 ⟨v,h1,h2,h3⟩=>⟨_,h1,ownb h2 hb.size,h3⟩
  go_frame
  refine GrowN.g_det rfl ?_
  apply Exists.intro
  refine ⟨fun w hw hF=>?_,?_⟩
  · clear hF
    go_simp
    exact ⟨rfl,RecW.ExtR.refl _⟩
  go_frame
  refine GrowN.g_nil fun w2 hw2 hF=>?_
  have hown:=hF _ (List.mem_singleton.2 rfl)
  have HO:=Lib.hid hown
  have HB2:=Lib.hid ((Below.refl w1.heap.size w1).drew.trans hw2)
  clear hw2 hF hown
  go_wp2_with fail
  go_ret
  exact ⟨_,rfl,HO.out,HB2.out⟩
 ·
  have hlen:(idI T.recs).length=T.recs.length:=by unfold idI; exact List.length_map _
  have HC2:Hid (∀ w,Below w1.heap.size w1 w→w.cell? ⟨T.blk,2,none⟩=some (.slice (some ⟨g,0,none⟩) T.recs.length cap)):=fun w hb=>by rw [← hv]; exact (h.below hb).cell 2 _ rfl
  have HCL:Hid (∀ w,Below w1.heap.size w1 w→Calls Tryz.prog 24 #[.slice (some ⟨g,0,none⟩) T.recs.length cap] w fun e w'=>∃ v,e=.returned v∧w'.ownsRow w.heap.size 3 1 v T.recs.length (idsL T.recs)∧Below w.heap.size w w'):=fun w hb=>by
   have hcells:∀ j,j < (idI T.recs).length→w.cell? ⟨g,0+j,none⟩=some (.int .i64 ((idI T.recs).getD j 0)):=fun j hj=>by
    have hj':j < T.recs.length:=by rw [hlen] at hj; exact hj
    obtain ⟨g',cap',hv',_,hcc⟩:=SegW.own_cell (h.below hb).ids j hj' (.int .i64 ((T.recs[j].1:Nat):Int)) (by unfold idsL; rw [List.getElem?_map,List.getElem?_eq_getElem hj']; rfl)
    rw [hv] at hv'
    injection hv' with e1
    injection e1 with e1
    injection e1 with e1
    rw [Nat.zero_add,e1,hcc]
    unfold idI
    simp [List.getD,hj']
   have:=Tryz.slices_Clone_int g 0 T.recs.length cap (idI T.recs) w (by rw [hlen]; exact Nat.le_refl _) (by omega) hcells
   refine this.mono fun e w' ⟨v,h1,h2,_,h4⟩=>⟨v,h1,?_,h4⟩
   rw [List.take_of_length_le (by rw [hlen]; exact Nat.le_refl _)] at h2
   have e:(idI T.recs).map (Value.int .i64)=idsL T.recs:=by unfold idI idsL; rw [List.map_map]; rfl
   rw [e] at h2; exact h2
  have hmx2:=hmx
  clear h hs hp hv hbg hg hsz ht hlen
  generalize hnn:T.recs.length=n at *
  go_enter Tryz.func11,Tryz.ntmps11
  go_wp2_with fail
  refine GrowN.wp_region_n 10 [none,none,none,none,none,none,some (.inl (.int .i64 0)),some (.inl (.slice (some ⟨g,0,none⟩) n cap)),some (.inr (fun _ v w=>w.ownsRow w1.heap.size 3 1 v n (idsL T.recs))),none] (RecW.ExtR) (by kernel_rfl) (by kernel_rfl) (by kernel_rfl) (RecW.ExtR.refl) (fun _ _ _=>RecW.ExtR.trans) ?_ ?_
  ·
   intro K hK Y hY l v w w' hR h
   simp only [List.mem_cons,List.not_mem_nil,or_false] at hK
   rcases hK with rfl | rfl | rfl | rfl | rfl | rfl | rfl | rfl | rfl | rfl <;> simp only [reduceCtorEq,Option.some.injEq,Sum.inr.injEq] at hY
   subst hY
   exact SegW.ownsRow_mod (M:=fun _=>False) h (Mod.of_below hR) (fun _ _ h=>h)
  simp only [List.take_succ_cons,List.take_zero,List.drop_succ_cons,List.drop_zero]
  iterate 3
   refine GrowN.g_det rfl ?_
   apply Exists.intro
   refine ⟨fun w hw hF=>?_,?_⟩
   · clear hF
     go_simp
     exact ⟨rfl,RecW.ExtR.refl _⟩
   go_frame
  refine GrowN.g_det rfl ?_
  apply Exists.intro
  refine ⟨fun w hw hF=>?_,?_⟩
  ·
   clear hF
   have hb:=(Below.refl w1.heap.size w1).drew.trans hw
   have c2:=HC2.out w hb
   go_simp
   exact ⟨rfl,RecW.ExtR.refl _⟩
  iterate 2
   go_frame
   refine GrowN.g_det rfl ?_
   apply Exists.intro
   refine ⟨fun w hw hF=>?_,?_⟩
   · clear hF
     go_simp
     exact ⟨rfl,RecW.ExtR.refl _⟩
  go_frame
  refine GrowN.g_con rfl (fun w hw hF=>?_) ?_
  · clear hF
    have hb:=(Below.refl w1.heap.size w1).drew.trans hw
    go_simp
    exact (HPL.out w hb).mono fun e w3 h=>⟨_,h.1,rfl,h.2.below _⟩
  go_frame
  refine GrowN.g_con rfl (fun w hw hF=>?_) ?_
  · clear hF
    go_simp
    all_goals first | exact RecW.ExtR.refl _ | omega
  go_frame
  refine GrowN.g_new rfl (fun w hw hF=>?_) (fun v=>?_)
  · clear hF
    have hb:=(Below.refl w1.heap.size w1).drew.trans hw
    go_simp
    exact (HCL.out w hb).mono fun e w3 ⟨v,h1,h2,h3⟩=>⟨_,h1,ownb h2 hb.size,h3⟩
  go_frame
  refine GrowN.g_det rfl ?_
  apply Exists.intro
  refine ⟨fun w hw hF=>?_,?_⟩
  · clear hF
    go_simp
    exact ⟨rfl,RecW.ExtR.refl _⟩
  go_frame
  refine GrowN.g_nil fun w2 hw2 hF=>?_
  have hown:=hF _ (List.mem_singleton.2 rfl)
  have HO:=Lib.hid hown
  have HB2:=Lib.hid ((Below.refl w1.heap.size w1).drew.trans hw2)
  clear hw2 hF hown
  go_wp2_with fail
  go_ret
  exact ⟨_,rfl,HO.out,HB2.out⟩
theorem recs_len:∀ (b:Nat) (its:List TapeMath.Item),(recsOf b its).length≤its.length
 | _,[]=>Nat.le_refl _
 | b,.one m :: l=>by have:=recs_len (b+(TapeMath.Item.one m).len) l; show (_ :: recsOf _ l).length≤_; simp only [List.length_cons]; omega
 | b,.fill n :: l=>by have:=recs_len (b+(TapeMath.Item.fill n).len) l; show (recsOf _ l).length≤_; simp only [List.length_cons]; omega
structure Scan (base:Nat) (w0 w:World) (O0:OwnD) (D:DiskD) (R:SegD) (its:List TapeMath.Item) (k:Nat):Prop where
 ex:∃ O:OwnD,OwnAt base w O∧O.blk=O0.blk∧O.rb=O0.rb∧O.sums=O0.sums∧O.mB=O0.mB∧O.recs=recsOf R.b (its.take k)∧(∀ p,O.recs.getLast?=some p→O.last=p.2.born)∧∀ j,O.foot j→O0.foot j∨w0.heap.size≤j
 whole:Whole base w D R
 mod:Mod O0.foot w0 w
theorem recs_take {b:Nat} {its:List TapeMath.Item} {k:Nat} (h:k < its.length) {m:Msg} (hm:its[k]=.one m):recsOf b (its.take (k+1))=recsOf b (its.take k)++[(b+(bytesL (its.take k)).length,m)]:=by
 rw [List.take_succ_eq_append_getElem h,recs_app,hm]
 rfl
theorem bytes_take {its:List TapeMath.Item} {k:Nat} (h:k < its.length):(bytesL (its.take (k+1))).length=(bytesL (its.take k)).length+its[k].len:=by
 rw [List.take_succ_eq_append_getElem h,bytesL_app,List.length_append]
 simp [bytesL,TapeMath.Item.len]
theorem its_split {its:List TapeMath.Item} {k:Nat} (h:k < its.length):its=its.take k++its[k] :: its.drop (k+1):=by
 rw [← List.drop_eq_getElem_cons h,List.take_append_drop]
theorem scan_read {base:Nat} {w:World} {D:DiskD} {R:SegD} {its:List TapeMath.Item} (hW:Whole base w D R) (hs:R.size=1024) (ht:R.txt=bytesL its) (hf:Fits R.b its) (hup:D.down=false) {k:Nat} (h:k < its.length) :
 ∃ lf:Nat,R.left ((R.b+(bytesL (its.take k)).length:Nat):Int)=(lf:Int)∧lf≤1024∧R.readE D ((R.b+(bytesL (its.take k)).length:Nat):Int) (lf:Int)=0 ∧
  ∃ rest:List UInt8,R.readT D ((R.b+(bytesL (its.take k)).length:Nat):Int) (lf:Int)=its[k].bytes++rest∧rest.length≤1024:=by
 have hsp:=its_split h
 have hf2:=hf
 rw [hsp] at hf2
 have hl:=hf2.at
 obtain ⟨l1,l2,l3⟩:=hl
 have hge:=TapeMath.Item.len_ge l1
 have htot:(bytesL its).length=(bytesL (its.take k)).length+its[k].len+(bytesL (its.drop (k+1))).length:=by
  conv=>lhs; rw [hsp]
  rw [bytesL_app,bytesL_cons,List.length_append,List.length_append]
  show _=_+its[k].bytes.length+_
  omega
 have he:R.e=R.b+(bytesL its).length:=by unfold SegD.e; rw [ht]
 obtain ⟨p,hp⟩:∃ p,p=R.b+(bytesL (its.take k)).length:=⟨_,rfl⟩
 rw [← hp] at l2 l3 ⊢
 have hlf:R.left (p:Int)=((min (p / 1024 * 1024+1024) R.e - p:Nat):Int):=by
  unfold SegD.left
  rw [hs,if_neg (by omega),Int.toNat_natCast]
  omega
 have hge2:its[k].len≤min (p / 1024 * 1024+1024) R.e - p:=by omega
 refine ⟨min (p / 1024 * 1024+1024) R.e - p,hlf,by omega,?_,(bytesL (its.drop (k+1))).take (min (p / 1024 * 1024+1024) R.e - p - its[k].len),?_,?_⟩
 ·
  unfold SegD.readE
  rw [if_neg (by rw [hup]; decide),if_neg (by omega)]
  rw [if_pos]
  unfold SegD.readB
  rw [decide_eq_true (by omega),decide_eq_true (by rw [hlf]; exact Int.le_refl _)]; rfl
 ·
  unfold SegD.readT
  rw [if_pos ⟨hup,by unfold SegD.readB; rw [decide_eq_true (by omega),decide_eq_true (by rw [hlf]; exact Int.le_refl _)]; rfl⟩,Int.toNat_natCast,Int.toNat_natCast,ht]
  rw [show p - R.b=(bytesL (its.take k)).length by omega]
  have:=read_item (a:=its.take k) (c:=its.drop (k+1)) (x:=its[k]) _ hge2
  rw [← hsp] at this
  exact this
 · rw [List.length_take]; omega
theorem Scan.below {base:Nat} {w0 w w':World} {O0:OwnD} {D:DiskD} {R:SegD} {its:List TapeMath.Item} {k:Nat} (h:Scan base w0 w O0 D R its k) (hb:Below w.heap.size w w'):Scan base w0 w' O0 D R its k:=by
 obtain ⟨O,h1,h2⟩:=h.ex
 exact ⟨⟨O,h1.below hb,h2⟩,h.whole.below hb,h.mod.trans (Mod.of_below hb)⟩
theorem scan_any {base:Nat} {O0:OwnD} {D:DiskD} {R:SegD} {its:List TapeMath.Item} (w0:World) (hO:OwnAt base w0 O0) (hrb:O0.rb=R.blk) (hrecs:O0.recs=[]) (hW:Whole base w0 D R) (haw:∀ k,O0.foot k→¬ D.foot k∧¬ R.foot k) (hs:R.size=1024) (ht:R.txt=bytesL its) (hf:Fits R.b its) (hup:D.down=false) (hT:TabB base w0)
 (hbase:base≤w0.heap.size) (hone:∀ x∈its,∃ m,x=TapeMath.Item.one m) (hil:its.length≤1000000) :
 Calls Tryz.prog 113 #[.pointer (some ⟨O0.blk,0,none⟩)] w0 fun e w'=>e=.returned (.int .i64 (R.e:Int))∧Scan base w0 w' O0 D R its its.length:=by
 have hel:=hW.seg.e_le
 have hee:R.e=R.b+(bytesL its).length:=by unfold SegD.e; rw [ht]
 have S0:Hid (Scan base w0 w0 O0 D R its 0):=⟨⟨O0,hO,rfl,rfl,rfl,rfl,by rw [hrecs,List.take_zero]; rfl,(fun p hp=>by rw [hrecs] at hp; cases hp),fun j hj=>.inl hj⟩,hW,Mod.refl _ _⟩
 have HTB:Hid (∀ w k,Scan base w0 w O0 D R its k→TabB base w):=fun w k h=>hT.mod h.mod (fun j hj=>hO.base_le hj)
 have HLT:Hid (∀ j,O0.foot j→j < w0.heap.size):=fun j hj=>hO.lt hj
 have HAW:=Lib.hid haw
 have HS0:Hid (∀ w k,Scan base w0 w O0 D R its k→w.cell? ⟨O0.blk,0,none⟩=some (.pointer (some ⟨R.blk,0,none⟩))∧w.cell? ⟨O0.blk,1,none⟩=some (.pointer (some ⟨O0.sums,0,none⟩))∧CrcW.Tabs w O0.sums∧O0.sums < w.heap.size):=fun w k h=>by
  obtain ⟨O,h1,h2,h3,h4,h5,h6,h7,h8⟩:=h.ex
  refine ⟨by rw [← h2]; exact h1.cell 0 _ (by rw [← hrb,← h3]; rfl),by rw [← h2,← h4]; exact h1.cell 1 _ rfl,by rw [← h4]; exact h1.tabs,by rw [← h4]; exact h1.low.1⟩
 have HBE:=Lib.hid (SegW.begin_any w0 hW.seg)
 have HDF:Hid (∀ j,D.foot j→j < w0.heap.size):=fun j hj=>hW.dsk.lt hj
 have HRF:Hid (∀ j,R.foot j→j < w0.heap.size):=fun j hj=>hW.seg.lt hj
 have HTX:=Lib.hid ht
 have HF:=Lib.hid hf
 have HON:=Lib.hid hone
 have HSZ:=Lib.hid hs
 have HRB:=Lib.hid hrb
 have c0:=(HS0.out w0 0 S0.out).1
 clear hO hrecs hW haw hT hone hrb hs ht hf
 go_enter Tryz.func113,Tryz.ntmps113
 go_wp2_with fail
 refine HBE.out.mono ?_
 rintro e w0 ⟨rfl,rfl⟩
 clear HBE c0
 go_wp2_with fail
 go_loopw [3] (fun i wr=>∃ k:Nat,k≤its.length∧i=.int .i64 ((R.b+(bytesL (its.take k)).length:Nat):Int)∧Hid (Scan base w0 wr O0 D R its k)) (fun i _=>R.e - (intOf i).toNat)
 case atStart=>exact ⟨0,Nat.zero_le _,by simp [bytesL],S0⟩
 case round =>
  clear S0
  obtain ⟨k,hk,rfl,HS⟩:=hrel
  have c0:=(HS0.out wr k HS.out).1
  have HEN:=Lib.hid (SegW.end_any wr HS.out.whole.seg)
  by_cases hlt:k < its.length
  ·
   obtain ⟨m,hm⟩:=HON.out its[k] (List.getElem_mem hlt)
   obtain ⟨lf,q1,q2,q3,rest,q4,q5⟩:=scan_read HS.out.whole HSZ.out HTX.out HF.out hup hlt
   have hf2:=HF.out
   rw [its_split hlt] at hf2
   obtain ⟨l1,l2,l3⟩:=hf2.at
   have hbt:=bytes_take hlt
   have hrt:=recs_take (b:=R.b) hlt hm
   have hle:(bytesL (its.take (k+1))).length≤(bytesL its).length:=by
    conv=>rhs; rw [← List.take_append_drop (k+1) its]
    rw [bytesL_app,List.length_append]; omega
   rw [hm] at l1 l3 hbt q4
   obtain ⟨g1,g2⟩:=l1
   have hlen:(TapeMath.Item.one m).len=(recL m).length:=rfl
   have hby:(TapeMath.Item.one m).bytes=recL m:=rfl
   rw [hlen] at l3 hbt
   rw [hby] at q4
   have hrp:=rec_pos m
   have hrl2:=(rec_len g1 g2).2
   have HRT:=Lib.hid hrt
   have HBT:=Lib.hid hbt
   obtain ⟨p,hp⟩:∃ p,p=R.b+(bytesL (its.take k)).length:=⟨_,rfl⟩
   have HP:=Lib.hid hp
   have hpe:p+(recL m).length≤R.e:=by omega
   rw [← hp] at q1 q3 q4 l3 ⊢
   have HC0:Hid (∀ w,Below wr.heap.size wr w→w.cell? ⟨O0.blk,0,none⟩=some (.pointer (some ⟨R.blk,0,none⟩))):=fun w hb=>(HS0.out w k (HS.out.below hb)).1
   have HLE:Hid (∀ w,Below wr.heap.size wr w→Calls Tryz.prog 136 #[.pointer (some ⟨R.blk,0,none⟩),.int .i64 (p:Int)] w fun e w'=>e=.returned (.int .i64 (lf:Int))∧Drawn w w'):=fun w hb=>by
    have:=SegW.left_any (p:Int) (by omega) w (HS.out.below hb).whole.seg
    rw [q1] at this; exact this
   have HRD:Hid (∀ w,Below wr.heap.size wr w→Calls Tryz.prog 82 #[.pointer (some ⟨R.blk,0,none⟩),.int .i64 (p:Int),.int .i64 (lf:Int)] w fun e w'=>e=.returned (.tuple #[.string (S (recL m++rest)),.int .i64 0])∧Below w.heap.size w w'):=fun w hb=>by
    have:=SegW.read_any (p:Int) (lf:Int) (by omega) (by omega) w (HTB.out _ _ (HS.out.below hb)).tab (HS.out.below hb).whole.seg (HS.out.below hb).whole.dsk HS.out.whole.db HS.out.whole.ok
    rw [q3,q4] at this; exact this
   have HG:Hid (∀ w,Below wr.heap.size wr w→Calls Tryz.prog 130 #[.pointer (some ⟨O0.sums,0,none⟩),.string (S (recL m++rest))] w fun e w'=>∃ a c,e=.returned (.tuple #[.agg #[.int .i64 m.kind,.int .i64 m.queue,.int .i64 m.due,.int .i64 m.retry,.int .i64 m.ref,.int .i64 m.born,.string (S m.topic),.string (S m.tag),.string (S m.body),.slice a m.keys.length c],.int .i64 ((recL m).length:Int),.int .i64 0])∧Strs w' a (m.keys.map S)∧Below w.heap.size w w'∧∀ ad,a=some ad→w.heap.size≤ad.block):=fun w hb =>
    get_one O0.sums m g1 g2 rest (by omega) w (HS0.out w k (HS.out.below hb)).2.2.2 (HS0.out w k (HS.out.below hb)).2.2.1
   have HLO:=Lib.hid (fun (w:World)=>loose_no (.pointer (some ⟨O0.blk,0,none⟩)) (p+(recL m).length) (by omega) l3 w)
   have HM0:=Lib.hid g2
   have hpl:(p:Int) < (R.e:Int):=by omega
   have HPE:=Lib.hid hpe
   clear q1 q2 q3 q4 q5 hf2 l2 l3 hbt hrt hle hm g1 g2 hlen hby hp hpe
   generalize hL:(recL m).length=L at *
   have HL:=Lib.hid hL
   have HEE:=Lib.hid hee
   clear hL hee
   generalize recL m++rest=tx at *
   go_wp2_with fail
   refine HEN.out.mono ?_
   rintro e wz ⟨rfl,rfl⟩
   have HBR:Hid (∀ w,RecW.ExtR wz.drew w→Below wz.heap.size wz w):=fun w hw=>(Below.refl wz.heap.size wz).drew.trans hw
   clear HEN
   go_wp2_with fail
   refine GrowN.wp_region_n 17 [none,none,none,none,none,none,none,none,none,none,some (.inl (.int .i64 lf)),some (.inl (.tuple #[.string (S tx),.int .i64 0])),none,none,none,none,none] (RecW.ExtR) (by kernel_rfl) (by kernel_rfl) (by kernel_rfl) (RecW.ExtR.refl) (fun _ _ _=>RecW.ExtR.trans) ?_ ?_
   · exact GrowN.stab0 rfl
   simp only [List.take_succ_cons,List.take_zero,List.drop_succ_cons,List.drop_zero]
   iterate 2
    refine GrowN.g_det rfl ?_
    apply Exists.intro
    refine ⟨fun w hw hF=>?_,?_⟩
    · clear hF
      go_simp
      exact ⟨rfl,RecW.ExtR.refl _⟩
    go_frame
    refine GrowN.g_det rfl ?_
    apply Exists.intro
    refine ⟨fun w hw hF=>?_,?_⟩
    · clear hF
      go_simp
      exact ⟨rfl,RecW.ExtR.refl _⟩
    go_frame
    refine GrowN.g_det rfl ?_
    apply Exists.intro
    refine ⟨fun w hw hF=>?_,?_⟩
    · clear hF
      go_simp
      exact ⟨rfl,RecW.ExtR.refl _⟩
    go_frame
    refine GrowN.g_det rfl ?_
    apply Exists.intro
    refine ⟨fun w hw hF=>?_,?_⟩
    · clear hF
      have hb:=HBR.out w hw
      have c0:=HC0.out w hb
      go_simp
      exact ⟨rfl,RecW.ExtR.refl _⟩
    go_frame
    refine GrowN.g_det rfl ?_
    apply Exists.intro
    refine ⟨fun w hw hF=>?_,?_⟩
    · clear hF
      go_simp
      exact ⟨rfl,RecW.ExtR.refl _⟩
    go_frame
   refine GrowN.g_con rfl (fun w hw hF=>?_) ?_
   · clear hF
     have hb:=HBR.out w hw
     go_simp
     exact (HLE.out w hb).mono fun e w3 h=>⟨_,h.1,rfl,h.2.below _⟩
   go_frame
   refine GrowN.g_con rfl (fun w hw hF=>?_) ?_
   · clear hF
     have hb:=HBR.out w hw
     go_simp
     exact (HRD.out w hb).mono fun e w3 h=>⟨_,h.1,rfl,h.2⟩
   iterate 5
    go_frame
    refine GrowN.g_det rfl ?_
    apply Exists.intro
    refine ⟨fun w hw hF=>?_,?_⟩
    · clear hF
      go_simp
      exact ⟨rfl,RecW.ExtR.refl _⟩
   go_frame
   refine GrowN.g_nil fun w2 hw2 hF=>?_
   clear hF
   have HB2:=Lib.hid (HBR.out w2 hw2)
   clear hw2 HC0 HLE HRD HBR
   have c1:=(HS0.out w2 k (HS.out.below HB2.out)).2.1
   go_wp2_with fail
   refine (HG.out w2 HB2.out).mono ?_
   rintro e w3 ⟨a,c,rfl,-,hb,-⟩
   have HB3:=Lib.hid (HB2.out.trans (hb.mono HB2.out.size))
   clear hb HG c1 HB2
   go_wp2_with fail
   refine (HLO.out _).mono ?_
   rintro e w4 ⟨rfl,rfl⟩
   go_wp2_with fail
   have hb5:Below wz.heap.size wz (w3.alloc (.cells #[.int .i64 m.kind,.int .i64 m.queue,.int .i64 m.due,.int .i64 m.retry,.int .i64 m.ref,.int .i64 m.born,.string (S m.topic),.string (S m.tag),.string (S m.body),.slice a m.keys.length c] 53)):=HB3.out.alloc HB3.out.size _
   have HB5:=Lib.hid hb5
   have S5:=HS.out.below hb5
   clear hb5
   generalize w3.alloc (.cells #[.int .i64 m.kind,.int .i64 m.queue,.int .i64 m.due,.int .i64 m.retry,.int .i64 m.ref,.int .i64 m.born,.string (S m.topic),.string (S m.tag),.string (S m.body),.slice a m.keys.length c] 53)=w5 at *
   obtain ⟨O,o1,o2,o3,o4,o5,o6,o7,o8⟩:=S5.ex
   have hfk:Fits R.b (its.take k):=(Fits.app.1 (by rw [List.take_append_drop]; exact HF.out:Fits R.b (its.take k++its.drop k))).1
   have hnid:∀ q∈O.recs,q.1≠p:=by
    intro q hq e
    rw [o6] at hq
    obtain ⟨i0,m0⟩:=q
    have:=recs_lt hfk hq
    have h3:=rec_pos m0
    have h4:=HP.out
    simp only at e
    omega
   have hlen:O.recs.length≤1048576:=by
    rw [o6]
    have h:=recs_len R.b (its.take k)
    rw [List.length_take] at h
    omega
   have HNO:=Lib.hid (note_one p m a c w5 o1 HM0.out hnid hlen (by have:=HB5.out.size; have:=HS.out.mod.size; omega))
   rw [o2,HL.out] at HNO
   have HO:=Lib.hid o1
   have H8:=Lib.hid o8
   have HEQ:Hid (O.blk=O0.blk∧O.rb=O0.rb∧O.sums=O0.sums∧O.mB=O0.mB∧O.recs=recsOf R.b (its.take k)):=⟨o2,o3,o4,o5,o6⟩
   have HS5:=Lib.hid S5
   unfold cellsM at HNO
   clear o1 o2 o3 o4 o5 o6 o7 o8 hnid hlen S5
   refine HNO.out.mono ?_
   rintro e w6 ⟨rfl,idv,ho,hm6,hi⟩
   have HO6:=Lib.hid ho
   have HM6:=Lib.hid hm6
   have HI6:=Lib.hid hi
   clear ho hm6 hi HNO
   go_wp2_with fail
   go_roundw
   case rel =>
    obtain ⟨x1,x2,x3,x4,x5⟩:=HEQ.out
    have hs5:=HS5.out
    have hLT:=HLT.out
    have hfo:∀ j,O.foot j→O0.foot j∨w0.heap.size≤j:=H8.out
    have hbt:=HBT.out
    have hpp:=HP.out
    refine ⟨k+1,by omega,by rw [hbt,hpp]; congr 1; omega,⟨⟨_,HO6.out,x1,x2,x3,x4,?_,?_,fun j hj=>?_⟩,hs5.whole.mod HM6.out (fun j hj hj2=>?_) (fun j hj hj2=>?_),mod_over hs5.mod HM6.out hfo⟩⟩
    · show O.recs++[(p,m)]=_
      rw [x5,HRT.out,← hpp]
    · intro q hq
      have e:(O.recs++[(p,m)]).getLast?=some q:=hq
      rw [List.getLast?_append] at e
      simp at e
      rw [← e]; rfl
    ·
     rcases hj with hj | hj | hj | hj
     · exact hfo j (.inl hj)
     · exact hfo j (.inr (.inl hj))
     · exact hfo j (.inr (.inr (.inl hj)))
     · rcases HI6.out j hj with h | h
       · exact hfo j h
       · right; have:=hs5.mod.size; omega
    · rcases hfo j hj2 with h | h
      · exact (HAW.out j h).1 hj
      · have:=HDF.out j hj; omega
    · rcases hfo j hj2 with h | h
      · exact (HAW.out j h).2 hj
      · have:=HRF.out j hj; omega
   case measure =>
    have e1:(intOf (.int .i64 ((p:Int)+(L:Int)))).toNat=p+L:=by show ((p:Int)+(L:Int)).toNat=_; omega
    have e2:(intOf (.int .i64 (p:Int))).toNat=p:=by show ((p:Int)).toNat=_; omega
    rw [e1,e2]
    have:=HPE.out
    have:=HL.out
    omega
  ·
   have hke:k=its.length:=by omega
   subst hke
   rw [List.take_length] at *
   rw [← hee] at *
   go_wp2_with fail
   refine HEN.out.mono ?_
   rintro e wz ⟨rfl,rfl⟩
   clear HEN
   go_wp2_with fail
   go_ret
   exact ⟨rfl,HS.out⟩
structure Opened (base:Nat) (w w':World) (D:DiskD) (its:List TapeMath.Item) (b:Nat) (T:TapeD):Prop where
 tape:TapeAt base w' T
 its:T.its=its
 b:T.R.b=b
 syn:T.R.synced=T.R.e
 waits:T.D.waits=[]
 quiet:Quiet T.D
 dblk:T.D.blk=D.blk
 dfoot:∀ k,T.D.foot k↔D.foot k
 find:∀ n,(T.D.find n).isSome=(D.find n).isSome
 room:T.D.room=D.room
 fresh:∀ k,T.O.foot k∨T.R.foot k→w.heap.size≤k
 mod:Mod D.foot w w'
 kept:∀ n f,D.find n=some f→∃ f',T.D.find n=some f'∧f'.now=f.now
theorem tape_name:S tapeH=⟨#[116,97,112,101,45]⟩:=rfl
theorem syncD_room (R:SegD) (D:DiskD) (wv:Value):(R.syncD D wv).room=D.room:=by
 unfold SegD.syncD
 split
 · rfl
 ·
  have:(D.lasts R.syncL wv).size=D.size:=by
   unfold DiskD.size DiskD.lasts sizeL
   simp only [List.map_map]
   congr 1
   refine List.map_congr_left fun p _=>?_
   simp only [Function.comp]
   split <;> rfl
  unfold DiskD.room
  rw [this]; rfl
theorem topen_any {base:Nat} {D:DiskD} {R:SegD} {its:List TapeMath.Item} (w:World) (hL:LaidOn D R) (hD:DiskAt base w D) (hq:Quiet D) (hfl:D.files.length≤1048576) (hnl:∀ p∈D.files,p.1.length≤1073741824) (hbase:base≤w.heap.size) (hT:TabB base w)
 (hh:R.head=tapeH) (hs:R.size=1024) (ht:R.txt=bytesL its) (hf:Fits R.b its) (hone:∀ x∈its,∃ m,x=TapeMath.Item.one m) (hil:its.length≤1000000) (hwt:D.waits=[]) :
 Calls Tryz.prog 61 #[.pointer (some ⟨D.blk,0,none⟩)] w fun e w'=>∃ T,e=.returned (.tuple #[.pointer (some ⟨T.O.blk,0,none⟩),.int .i64 0])∧Opened base w w' D its R.b T:=by
 have HOP:=Lib.hid (open_any w hL hD hq hfl hnl hbase)
 have hs1:((R.size:Nat):Int)=1024:=by rw [hs]; rfl
 rw [hh,tape_name,hs1] at HOP
 have HD:=Lib.hid hD
 have HQ:=Lib.hid hq
 have HH:=Lib.hid hh
 have HS:=Lib.hid hs
 have HTX:=Lib.hid ht
 have HF:=Lib.hid hf
 have HON:=Lib.hid hone
 have HWT:=Lib.hid hwt
 have HTB:=Lib.hid hT
 have HLG:=Lib.hid hL
 have hmk:∀ w:World,(Instr.makeMap 82 none).run Tryz.prog w=.ok (.map (some w.heap.size)) (w.alloc (.map #[] 0)):=fun _=>rfl
 clear hL hD hq hfl hnl hT hh hs hs1 ht hf hone hwt
 go_enter Tryz.func61,Tryz.ntmps61
 go_wp2_with fail
 refine HOP.out.mono ?_
 rintro e w1 ⟨rb,pv,rfl,hW,hb,hfr⟩
 have HW1:=Lib.hid hW
 have HB1:=Lib.hid hb
 have HFR:=Lib.hid hfr
 clear hW hb hfr HOP
 go_wp2_with fail
 refine (CrcW.new_any w1).mono ?_
 rintro e w2 ⟨B,rfl,hl⟩
 have HLD:=Lib.hid hl
 clear hl
 go_upto_region 5 with fail
 obtain ⟨O0,hO0⟩:∃ O:OwnD,O=⟨w2.heap.size+1,rb,B,.slice none 0 0,w2.heap.size,0,[]⟩:=⟨_,rfl⟩
 have hb2:Below w.heap.size w w2:=HB1.out.trans (HLD.out.below.mono HB1.out.size)
 have hb23:Below w2.heap.size w2 ((w2.alloc (Obj.map #[] 0)).alloc (.cells #[.pointer (some ⟨rb,0,none⟩),.pointer (some ⟨B,0,none⟩),.slice none 0 0,.map (some w2.heap.size),.int .i64 0] 84)):=((Below.refl _ _).alloc (Nat.le_refl _) _).alloc (by rw [World.size_alloc]; omega) _
 have hz3:((w2.alloc (Obj.map #[] 0)).alloc (.cells #[.pointer (some ⟨rb,0,none⟩),.pointer (some ⟨B,0,none⟩),.slice none 0 0,.map (some w2.heap.size),.int .i64 0] 84)).heap[w2.heap.size+1]?=some (.cells #[.pointer (some ⟨rb,0,none⟩),.pointer (some ⟨B,0,none⟩),.slice none 0 0,.map (some w2.heap.size),.int .i64 0] 84 (0,0)):=by
  have:=heap_alloc_new (w2.alloc (Obj.map #[] 0)) (.cells #[.pointer (some ⟨rb,0,none⟩),.pointer (some ⟨B,0,none⟩),.slice none 0 0,.map (some w2.heap.size),.int .i64 0] 84)
  rw [World.size_alloc] at this; exact this
 have hp3:PairsAt ((w2.alloc (Obj.map #[] 0)).alloc (.cells #[.pointer (some ⟨rb,0,none⟩),.pointer (some ⟨B,0,none⟩),.slice none 0 0,.map (some w2.heap.size),.int .i64 0] 84)) w2.heap.size []:=(PairsAt.new w2).below ((Below.refl _ _).alloc (Nat.le_refl _) _)
 generalize (w2.alloc (Obj.map #[] 0)).alloc (.cells #[.pointer (some ⟨rb,0,none⟩),.pointer (some ⟨B,0,none⟩),.slice none 0 0,.map (some w2.heap.size),.int .i64 0] 84)=w3 at *
 have hb3:Below w.heap.size w w3:=hb2.trans (hb23.mono hb2.size)
 have hW3:Whole base w3 D (R.openR rb pv):=(HW1.out.below (HLD.out.below)).below hb23
 have hBB:=HLD.out.size
 have hBO:=HLD.out.old
 have hs1:=HB1.out.size
 have hs12:=HLD.out.below.size
 have hs23:=hb23.size
 have hO:OwnAt base w3 O0:=by
  rw [hO0]
  refine ⟨hz3,⟨rfl,.inl ⟨rfl,rfl⟩⟩,hp3,?_,⟨by show B < w3.heap.size; omega,by show base≤B; omega,by show base≤w2.heap.size+1; omega,by show base≤w2.heap.size; omega⟩,by show w2.heap.size+1≠B; omega,by show w2.heap.size+1≠w2.heap.size; omega,by show B≠w2.heap.size; omega,fun k hk=>by cases hk⟩
  exact RecW.tabs_below HLD.out.tabs hBB hb23
 have hof:∀ k,O0.foot k→w1.heap.size≤k:=fun k hk=>by
  rw [hO0] at hk
  rcases hk with hk | hk | hk | hk
  · have:k=w2.heap.size+1:=hk
    omega
  · have:k=B:=hk
    omega
  · have:k=w2.heap.size:=hk
    omega
  · cases hk
 have haw:∀ k,O0.foot k→¬ D.foot k∧¬ (R.openR rb pv).foot k:=fun k hk=>by
  have h1:=hof k hk
  exact ⟨fun h=>by have:=HW1.out.dsk.lt h; omega,fun h=>by have:=HW1.out.seg.lt h; omega⟩
 have HSC:=Lib.hid (scan_any (R:=R.openR rb pv) w3 hO (by rw [hO0]; rfl) (by rw [hO0]) hW3 haw HS.out HTX.out HF.out HQ.out.up (HTB.out.below hb3) (by omega) HON.out hil)
 have hpt:O0.blk=w2.heap.size+1:=by rw [hO0]
 have hre:(R.openR rb pv).e=R.e:=rfl
 rw [hpt,hre] at HSC
 have HPT:=Lib.hid hpt
 have HAW:=Lib.hid haw
 have HOF:=Lib.hid hof
 have HB3:=Lib.hid hb3
 have HS13:Hid (w1.heap.size≤w3.heap.size):=by show _≤_; omega
 have HRB:Hid (O0.rb=rb):=by show _=_; rw [hO0]
 clear hO0 hb2 hb23 hz3 hp3 hb3 hW3 hBB hBO hs12 hs23 hO hof haw hpt
 go_wp2_with fail
 refine HSC.out.mono ?_
 rintro e w4 ⟨rfl,hsc⟩
 have HSN:=Lib.hid hsc
 have HEN:=Lib.hid (SegW.end_any w4 hsc.whole.seg)
 have hT4:TabB base w4:=(HTB.out.below HB3.out).mod hsc.mod (fun k hk=>by have:=HOF.out k hk; omega)
 have HSY:=Lib.hid (SegW.sync_any w4 hT4 hsc.whole HQ.out (by have:=HB3.out.size; have:=hsc.mod.size; omega) (by rw [HWT.out]; exact Nat.zero_le _) (by
  show R.n≤_
  rcases Nat.eq_zero_or_pos R.n with h0 | hp
  · omega
  · have h1:=(HLG.out.long hp).2.2
    have h2:=HS.out
    rw [h2] at h1
    omega))
 rw [hre] at HEN
 have hbk:(R.openR rb pv).blk=rb:=rfl
 rw [hbk] at HEN HSY
 clear hsc HSC hT4 hbk hre
 go_wp2_with fail
 refine HEN.out.mono ?_
 rintro e w5 ⟨rfl,rfl⟩
 go_wp2_with fail
 refine HSY.out.mono ?_
 rintro e w6 ⟨rfl,wv,hwv,hW6,hm6⟩
 have HW6:=Lib.hid hW6
 have HM6:=Lib.hid hm6
 have HWV:=Lib.hid hwv
 clear hW6 hm6 hwv HSY HEN
 go_wp2_with fail
 go_ret2
 obtain ⟨O,o1,o2,o3,o4,o5,o6,o7,o8⟩:=HSN.out.ex
 rw [List.take_length] at o6
 have hof:∀ k,O.foot k→w1.heap.size≤k:=fun k hk=>by
  rcases o8 k hk with h | h
  · exact HOF.out k h
  · have:=HS13.out; omega
 have hft:∀ k,((R.openR rb pv).syncD D wv).foot k↔D.foot k:=fun k=>by
  unfold SegD.syncD
  split
  · exact Iff.rfl
  · exact lasts_foot HWV.out k
 have haw:∀ k,O.foot k→¬ D.foot k∧¬ (R.openR rb pv).foot k:=fun k hk=>by
  have h1:=hof k hk
  exact ⟨fun h=>by have:=HW1.out.dsk.lt h; omega,fun h=>by have:=HW1.out.seg.lt h; omega⟩
 have hwn:((R.openR rb pv).syncD D wv).waits=[]:=Waiting.sync (Waiting.none HWT.out) HSN.out.whole.seg HSN.out.whole.dsk wv
 have hqq:Quiet ((R.openR rb pv).syncD D wv):=by
  unfold SegD.syncD
  split
  · exact HQ.out
  · exact ⟨HQ.out.left,HQ.out.up⟩
 have hm3:Mod D.foot w w5:=mod_over (Mod.of_below HB3.out) HSN.out.mod (fun k hk=>.inr (by have:=HOF.out k hk; omega))
 refine ⟨⟨O,(R.openR rb pv).syncD D wv,{ R.openR rb pv with synced:=(R.openR rb pv).e },its⟩,by show _=Ending.returned (.tuple #[.pointer (some ⟨O.blk,0,none⟩),.int .i64 0]); rw [o2,HPT.out]; rfl,
  ⟨⟨o1.mod HM6.out (fun k hk hk2=>?_),o3.trans HRB.out,o6,fun k hk=>⟨fun h=>(haw k hk).1 ((hft k).1 h),(haw k hk).2⟩,HW6.out,HH.out,HS.out,HTX.out,HF.out,o7,Waiting.none hwn⟩,rfl,rfl,rfl,hwn,hqq,?_,hft,fun n=>?_,syncD_room _ _ _,fun k hk=>?_,?_,fun n f hf=>?_⟩⟩
 · rcases hk2 with h | h
   · exact (haw k hk).1 h
   · exact (haw k hk).2 h
 · show ((R.openR rb pv).syncD D wv).blk=D.blk
   unfold SegD.syncD; split <;> rfl
 · obtain ⟨g,h1,_⟩:=syncD_find (R.openR rb pv) D wv n
   show (((R.openR rb pv).syncD D wv).find n).isSome=_
   rw [h1]; cases D.find n <;> rfl
 · rcases hk with h | h
   · have:=hof k h; omega
   · exact HFR.out k h
 · exact mod_over hm3 HM6.out (fun k hk=>hk.elim .inl (fun h=>.inr (HFR.out k h)))
 · obtain ⟨g,h1,h2⟩:=syncD_find (R.openR rb pv) D wv n
   exact ⟨g f,by show ((R.openR rb pv).syncD D wv).find n=_; rw [h1,hf]; rfl,(h2 f).2⟩
end Go.Proofs.YtnoehodmmkioaaaGreatDoor.TapeW
