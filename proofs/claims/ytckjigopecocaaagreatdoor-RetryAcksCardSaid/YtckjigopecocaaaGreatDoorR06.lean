/- rec: opened: a record is read. And what follows. -/
import Derived.Test.YtckjigopecocaaaGreatDoorR05
set_option linter.unusedVariables false
set_option linter.unusedSimpArgs false
set_option maxHeartbeats 25600000
set_option maxRecDepth 100000
namespace Go.Proofs.YtckjigopecocaaaGreatDoor
namespace RecW
open Go.RowKit OctMath RecMath NameMath
open OctW (Rd One Texts gy cz ll ui)
theorem heap_set1 {w:World} {B i:Nat} {cs:Array Value} {ty:TypeId} (h:w.heap[B]?=some (.cells cs ty (0,0))) (v:Value) {cs':Array Value} (he:cs.setIfInBounds i v=cs'):(w.setCell ⟨B,i,none⟩ v).heap[B]?=some (.cells cs' ty (0,0)):=DskW.heap_set1 h v he
def o9 (w:World) (B:Nat) (x0 x1 x2 x3 x4 x5 x6 x7 x8 x9:Value):World:=(((((((((w.setCell ⟨B,0,none⟩ x0).setCell ⟨B,1,none⟩ x1).setCell ⟨B,2,none⟩ x2).setCell ⟨B,3,none⟩ x3).setCell ⟨B,4,none⟩ x4).setCell ⟨B,5,none⟩ x5).setCell ⟨B,6,none⟩ x6).setCell ⟨B,7,none⟩ x7).setCell ⟨B,8,none⟩ x8).setCell ⟨B,9,none⟩ x9
theorem ten (z:Array Value) (h:z.size=10):∃ x0 x1 x2 x3 x4 x5 x6 x7 x8 x9:Value,z=#[x0,x1,x2,x3,x4,x5,x6,x7,x8,x9]:=by
 rcases z with ⟨l⟩
 rcases l with _ | ⟨x0,_ | ⟨x1,_ | ⟨x2,_ | ⟨x3,_ | ⟨x4,_ | ⟨x5,_ | ⟨x6,_ | ⟨x7,_ | ⟨x8,_ | ⟨x9,_ | ⟨y,l⟩⟩⟩⟩⟩⟩⟩⟩⟩⟩⟩ <;> simp at h
 exact ⟨x0,x1,x2,x3,x4,x5,x6,x7,x8,x9,rfl⟩
theorem kw {w:World} {B:Nat} {z:Array Value} {t:TypeId} (hz:z.size=10) (h:w.heap[B]?=some (.cells z t (0,0))) (x0 x1 x2 x3 x4 x5 x6 x7 x8 x9:Value):(o9 w B x0 x1 x2 x3 x4 x5 x6 x7 x8 x9).heap[B]?=some (.cells #[x0,x1,x2,x3,x4,x5,x6,x7,x8,x9] t (0,0)):=by
 obtain ⟨z0,R,z2,z3,z4,z5,U,X,Y,z9,rfl⟩:=ten z hz;unfold o9;have h0:=heap_set1 (i:=0) h x0 rfl;simp only [List.setIfInBounds_toArray,List.set_cons_zero,List.set_cons_succ] at h0;have h1:=heap_set1 (i:=1) h0 x1 rfl;simp only [List.setIfInBounds_toArray,List.set_cons_zero,List.set_cons_succ] at h1;have A:=heap_set1 (i:=2) h1 x2 rfl;simp only [List.setIfInBounds_toArray,List.set_cons_zero,List.set_cons_succ] at A;have E:=heap_set1 (i:=3) A x3 rfl;simp only [List.setIfInBounds_toArray,List.set_cons_zero,List.set_cons_succ] at E;have F:=heap_set1 (i:=4) E x4 rfl;simp only [List.setIfInBounds_toArray,List.set_cons_zero,List.set_cons_succ] at F;have I:=heap_set1 (i:=5) F x5 rfl;simp only [List.setIfInBounds_toArray,List.set_cons_zero,List.set_cons_succ] at I;have J:=heap_set1 (i:=6) I x6 rfl;simp only [List.setIfInBounds_toArray,List.set_cons_zero,List.set_cons_succ] at J;have M:=heap_set1 (i:=7) J x7 rfl;simp only [List.setIfInBounds_toArray,List.set_cons_zero,List.set_cons_succ] at M;have N:=heap_set1 (i:=8) M x8 rfl;simp only [List.setIfInBounds_toArray,List.set_cons_zero,List.set_cons_succ] at N;have O:=heap_set1 (i:=9) N x9 rfl;simp only [List.setIfInBounds_toArray,List.set_cons_zero,List.set_cons_succ] at O;exact O
theorem ash {w w':World} {B:Nat} (h:Mod (λk=>k=B) w w') (i:Nat) (v:Value):Mod (λk=>k=B) w (w'.setCell ⟨B,i,none⟩ v):=h.setCell (a:=⟨B,i,none⟩) (.inl rfl) v
theorem mf (w:World) (B:Nat) (x0 x1 x2 x3 x4 x5 x6 x7 x8 x9:Value):Mod (λk=>k=B) w (o9 w B x0 x1 x2 x3 x4 x5 x6 x7 x8 x9):=by
 unfold o9
 iterate 10 refine ash ?_ _ _
 exact Mod.refl _ _
structure Mid (W:World) (Bt Br Bm:Nat) (cs:Array Value) (r:RS) (w:World):Prop where
 t:w.heap[Bt]?=some (.cells (af om none 0) 71 (0,0))
 m:w.heap[Bm]?=some (.cells cs 71 (0,0))
 r:Rd Br r w
 b:Below W.heap.size W w
theorem Mid.one {W w w':World} {Bt Br Bm:Nat} {cs:Array Value} {r r':RS} (h:Mid W Bt Br Bm cs r w) (hr:Rd Br r' w') (hm:One Br w w') (h1:Bt≠Br) (h2:Bm≠Br) (h3:W.heap.size<=Br):Mid W Bt Br Bm cs r' w' :=
 ⟨(hm.block Bt (Array.getElem?_eq_some_iff.1 h.t).1 h1).trans h.t,(hm.block Bm (Array.getElem?_eq_some_iff.1 h.m).1 h2).trans h.m,hr,h.b.trans (hm.to_below _ h.b.size (λk e=>e ▸ h3))⟩
theorem Mid.set {W w:World} {Bt Br Bm:Nat} {cs cs':Array Value} {r:RS} (h:Mid W Bt Br Bm cs r w) (i:Nat) (v:Value) (he:cs.setIfInBounds i v=cs') (h1:Bt≠Bm) (h2:Bm≠Br) (h3:W.heap.size<=Bm):Mid W Bt Br Bm cs' r (w.setCell ⟨Bm,i,none⟩ v):=by
 have A:Mod (λk=>k=Bm) w (w.setCell ⟨Bm,i,none⟩ v):=ash (Mod.refl _ w) i v;exact ⟨(A.block Bt (Array.getElem?_eq_some_iff.1 h.t).1 h1).trans h.t,heap_set1 h.m v he,h.r.mod A (λe=>h2 e.symm),h.b.trans (A.to_below _ h.b.size (λk e=>e ▸ h3))⟩
theorem Mid.cell {W w:World} {Bt Br Bm:Nat} {cs:Array Value} {r:RS} (h:Mid W Bt Br Bm cs r w) (i:Nat) (v:Value) (hv:cs[i]?=some v):w.cell? ⟨Bm,i,none⟩=some v:=by
 unfold World.cell?; rw [show w.heap[(⟨Bm,i,none⟩:Addr).block]?=_ from h.m]; simpa using hv
theorem Mid.free {W w:World} {Bt Br Bm:Nat} {cs:Array Value} {r:RS} (h:Mid W Bt Br Bm cs r w) (i:Nat):w.frozen? ⟨Bm,i,none⟩=false:=by
 unfold World.frozen?; rw [show w.heap[(⟨Bm,i,none⟩:Addr).block]?=_ from h.m]; rfl
theorem aly (n:Int) (r:RS):(ed n r).1.length<=r.s.length:=by
 unfold ed
 split
 . exact Nat.zero_le _
 ·
  split
  . exact Nat.zero_le _
  . split
    . exact Nat.zero_le _
    . simp only [List.length_take]; omega
theorem aat (most:Int) (r:RS):(ig most r).1.length<=r.s.length:=by
 by_cases h:r.e≠0
 . unfold ig; rw [if_pos h]; exact Nat.zero_le _
 ·
  rw [OctW.abk most r h];have h1:=aly ((dm 2 r).1:Int) (dh (decide (most < ((dm 2 r).1:Int))) (dm 2 r).2);have A:=OctW.qh (decide (most < ((dm 2 r).1:Int))) (dm 2 r).2;have B:=OctW.je 2 r
  split <;> (try simp only) <;> omega
theorem ajf (most:Int) (k:Nat):∀ r:RS,∀ t∈(bg most k r).1,t.length<=r.s.length:=by
 induction k with
 | zero=>intro r t A; cases A
 | succ k ih =>
   intro r t A;rw [OctW.vk] at A
   rcases List.mem_append.1 A with A | A
   . exact ih r t A
   . rw [List.mem_singleton] at A
     subst A;exact Nat.le_trans (aat _ _) (OctW.yn most k r)
theorem alz (many most:Int) (r:RS):(rz many most r).1.length<=255/\∀ t∈(rz many most r).1,t.length<=r.s.length:=by
 by_cases h:r.e≠0
 . unfold rz; rw [if_pos h]; exact ⟨Nat.zero_le _,λt A=>by cases A⟩
 ·
  rw [OctW.adi many most r h];have B:(dm 1 r).1 < 256:=OctW.abj 1 r;have E:=OctW.qh (decide (many < ((dm 1 r).1:Int))) (dm 1 r).2;have F:=OctW.je 1 r
  split
  . exact ⟨Nat.zero_le _,λt A=>by cases A⟩
  . refine ⟨by rw [OctW.kv]; omega,λt A=>?_⟩
    have:=ajf most _ _ t A;omega
theorem al0 (s:List UInt8) (hs:s.length<=1073741824):uq (qa s).1:=by
 have A:∀ r,inI ((dm 1 r).1:Int):=λr=>by have:(dm 1 r).1 < 256:=OctW.abj 1 r; unfold inI; omega
 have B:∀ r,inI ((dm 6 r).1:Int):=λr=>by have:(dm 6 r).1 < 256 ^ 6:=OctW.abj 6 r; unfold inI; omega
 have I:(⟨s,0⟩:RS).s.length=s.length:=rfl;unfold qa;dsimp only;have J:=OctW.je 1 ⟨s,0⟩;generalize (dm 1 ⟨s,0⟩).2=r1 at *
 have l1:=OctW.je 1 r1;generalize (dm 1 r1).2=r2 at *
 have l2:=OctW.je 1 r2;generalize (dm 1 r2).2=r3 at *
 have M:=OctW.je 6 r3;generalize (dm 6 r3).2=r4 at *
 have N:=OctW.je 6 r4;generalize (dm 6 r4).2=r5 at *
 have O:=OctW.je 6 r5;generalize (dm 6 r5).2=r6 at *
 have R:=OctW.qj 16 r6;have E:=aat 16 r6;generalize (ig 16 r6).2=r7 at *
 have U:=OctW.qj 16 r7;have t2:=aat 16 r7;generalize (ig 16 r7).2=r8 at *
 have X:=OctW.qj 200 r8;have t3:=aat 200 r8;generalize (ig 200 r8).2=r9 at *
 have k1:=alz 3 16 r9;refine ⟨A _,A _,B _,A _,B _,B _,?_,?_,?_,?_,λt F=>?_⟩
 . exact Nat.le_trans E (by omega)
 . exact Nat.le_trans t2 (by omega)
 . exact Nat.le_trans t3 (by omega)
 . exact Nat.le_trans k1.1 (by omega)
 . exact Nat.le_trans (k1.2 t F) (by omega)
end RecW
section
open Go.RowKit
def Once (B:Nat) (o:Obj) (u v:World):Prop:=Mod (λk=>k=B) u v/\(v.heap[B]?=u.heap[B]?\/v.heap[B]?=some o)
theorem Once.refl (B:Nat) (o:Obj) (w:World):Once B o w w:=⟨Mod.refl _ _,.inl rfl⟩
theorem Once.trans {B:Nat} {o:Obj} {u v w:World} (h:Once B o u v) (k:Once B o v w):Once B o u w :=
 ⟨h.1.trans k.1,k.2.elim (λe=>h.2.elim (λA=>.inl (e.trans A)) λA=>.inr (e.trans A)) .inr⟩
theorem Once.below {B:Nat} {o:Obj} {u v:World} (h:Below u.heap.size u v) (hB:B < u.heap.size):Once B o u v:=⟨Mod.of_below h,.inl (h.block B hB)⟩
theorem Once.drawn {B:Nat} {o:Obj} {u v:World} (h:Drawn u v):Once B o u v:=⟨Mod.of_below (h.below _),.inl (by rw [h.heap])⟩
theorem Once.stays {B:Nat} {o:Obj} {u v:World} (h:Once B o u v) (k:u.heap[B]?=some o):v.heap[B]?=some o:=h.2.elim (λe=>e.trans k) id
theorem Once.drew {B:Nat} {o:Obj} {u v:World} (h:Once B o u.drew v):Once B o u v:=Once.trans (Once.drawn ((Drawn.refl u).drew)) h
theorem Once.cells {B:Nat} {t:TypeId} {a z:Array Value} {u v:World} (h:Once B (.cells z t (0,0)) u v) (hu:u.heap[B]?=some (.cells a t (0,0))) (hz:z.size=a.size):∃ b:Array Value,b.size=a.size/\v.heap[B]?=some (.cells b t (0,0)) :=
 h.2.elim (λe=>⟨a,rfl,e.trans hu⟩) λe=>⟨z,hz,e⟩
end
namespace RecW
open Go.RowKit OctMath RecMath NameMath
open OctW (Rd One Texts gy cz ll ui)
def ExtR (u v:World):Prop:=Below u.heap.size u v
theorem ExtR.refl (w:World):ExtR w w:=Below.refl _ _
theorem ExtR.trans {u v w:World} (h:ExtR u v) (k:ExtR v w):ExtR u w:=Below.trans h (Below.mono k h.size)
theorem aau {w w':World} {a:Option Addr} {ts:List ByteArray} {B:Nat} (h:Strs w a ts) (hm:Mod (λk=>k=B) w w') (ha:∀ ad,a=some ad->ts≠[]->ad.block≠B):Strs w' a ts:=by
 intro i A;obtain ⟨b,off,rfl,hc⟩:=h i A;refine ⟨b,off,rfl,?_⟩;rw [hm.cell (ay hc) (λe=>ha _ rfl (λE=>by rw [E] at A; exact absurd A (Nat.not_lt_zero _)) e)];exact hc
structure Mid0 (W:World) (Bt Br:Nat) (r:RS) (w:World):Prop where
 t:w.heap[Bt]?=some (.cells (af om none 0) 71 (0,0))
 r:Rd Br r w
 b:Below W.heap.size W w
theorem Mid0.one {W w w':World} {Bt Br:Nat} {r r':RS} (h:Mid0 W Bt Br r w) (hr:Rd Br r' w') (hm:One Br w w') (h1:Bt≠Br) (h3:W.heap.size<=Br):Mid0 W Bt Br r' w' :=
 ⟨(hm.block Bt (Array.getElem?_eq_some_iff.1 h.t).1 h1).trans h.t,hr,h.b.trans (hm.to_below _ h.b.size (λk e=>e ▸ h3))⟩
theorem ajg (s:List UInt8) (hs:s.length<=1073741824) (W:World) :
 Calls Tryz.prog 144 #[.string (S s)] W λe w'=>∃ a c,e=.returned (.tuple #[.agg (af (qa s).1 a c),.bool (abm s)])/\Strs w' a ((qa s).1.keys.map S)/\Below W.heap.size W w'/\∀ ad,a=some ad->W.heap.size<=ad.block:=by
 have hM:=al0 s hs;obtain ⟨k,r1,e1⟩:∃ k r1,dm 1 ⟨s,0⟩=(k,r1):=⟨_,_,rfl⟩;obtain ⟨q,r2,e2⟩:∃ q r2,dm 1 r1=(q,r2):=⟨_,_,rfl⟩;obtain ⟨rt,r3,e3⟩:∃ rt r3,dm 1 r2=(rt,r3):=⟨_,_,rfl⟩;obtain ⟨b,r4,e4⟩:∃ b r4,dm 6 r3=(b,r4):=⟨_,_,rfl⟩;obtain ⟨d,r5,e5⟩:∃ d r5,dm 6 r4=(d,r5):=⟨_,_,rfl⟩;obtain ⟨O,r6,e6⟩:∃ O r6,dm 6 r5=(O,r6):=⟨_,_,rfl⟩;obtain ⟨t,r7,e7⟩:∃ t r7,ig 16 r6=(t,r7):=⟨_,_,rfl⟩;obtain ⟨g,r8,e8⟩:∃ g r8,ig 16 r7=(g,r8):=⟨_,_,rfl⟩;obtain ⟨R,r9,e9⟩:∃ R r9,ig 200 r8=(R,r9):=⟨_,_,rfl⟩;obtain ⟨ks,Z,cb⟩:∃ ks Z,rz 3 16 r9=(ks,Z):=⟨_,_,rfl⟩
 have hE:qa s=(⟨k,q,d,rt,O,b,t,g,R,ks⟩,Z):=by
  unfold qa;simp only [e1,e2,e3,e4,e5,e6,e7,e8,e9,cb]
 have cw:(⟨s,0⟩:RS).s.length<=1073741824:=hs;have cx:r1.s.length<=1073741824:=by have:=OctW.je 1 ⟨s,0⟩; rw [e1] at this; exact Nat.le_trans this cw
 have cy:r2.s.length<=1073741824:=by have:=OctW.je 1 r1; rw [e2] at this; exact Nat.le_trans this cx
 have da:r3.s.length<=1073741824:=by have:=OctW.je 1 r2; rw [e3] at this; exact Nat.le_trans this cy
 have db:r4.s.length<=1073741824:=by have:=OctW.je 6 r3; rw [e4] at this; exact Nat.le_trans this da
 have dc:r5.s.length<=1073741824:=by have:=OctW.je 6 r4; rw [e5] at this; exact Nat.le_trans this db
 have dd:r6.s.length<=1073741824:=by have:=OctW.je 6 r5; rw [e6] at this; exact Nat.le_trans this dc
 have de:r7.s.length<=1073741824:=by have:=OctW.qj 16 r6; rw [e7] at this; exact Nat.le_trans this dd
 have dj:r8.s.length<=1073741824:=by have:=OctW.qj 16 r7; rw [e8] at this; exact Nat.le_trans this de
 have ei:r9.s.length<=1073741824:=by have:=OctW.qj 200 r8; rw [e9] at this; exact Nat.le_trans this dj
 have C1:=zq (λ(B:Nat) (w:World) (h:Rd B ⟨s,0⟩ w)=>OctW.pz B ⟨s,0⟩ 1 (by omega) (by omega) (by omega) w h);have C2:=zq (λ(B:Nat) (w:World) (h:Rd B r1 w)=>OctW.pz B r1 1 (by omega) (by omega) (by omega) w h);have C3:=zq (λ(B:Nat) (w:World) (h:Rd B r2 w)=>OctW.pz B r2 1 (by omega) (by omega) (by omega) w h);have C4:=zq (λ(B:Nat) (w:World) (h:Rd B r3 w)=>OctW.pz B r3 6 (by omega) (by omega) (by omega) w h);have C5:=zq (λ(B:Nat) (w:World) (h:Rd B r4 w)=>OctW.pz B r4 6 (by omega) (by omega) (by omega) w h);have C6:=zq (λ(B:Nat) (w:World) (h:Rd B r5 w)=>OctW.pz B r5 6 (by omega) (by omega) (by omega) w h);have C7:=zq (λ(B:Nat) (w:World) (h:Rd B r6 w)=>OctW.xw B r6 16 (by omega) (by omega) (by omega) w h);have C8:=zq (λ(B:Nat) (w:World) (h:Rd B r7 w)=>OctW.xw B r7 16 (by omega) (by omega) (by omega) w h);have C9:=zq (λ(B:Nat) (w:World) (h:Rd B r8 w)=>OctW.xw B r8 200 (by omega) (by omega) (by omega) w h);have C10:=zq (λ(B:Nat) (w:World) (h:Rd B r9 w)=>OctW.list_any B r9 3 16 (by omega) (by omega) (by omega) (by omega) (by omega) w h);have CE:=zq (λ(B:Nat) (w:World) (h:Rd B Z w)=>OctW.end_any B Z w h);rw [e1] at C1; rw [e2] at C2; rw [e3] at C3; rw [e4] at C4; rw [e5] at C5; rw [e6] at C6; rw [e7] at C7; rw [e8] at C8; rw [e9] at C9; rw [cb] at C10;simp only at C1 C2 C3 C4 C5 C6 C7 C8 C9 C10;have hB:abm s=(decide (ym Z=0) && decide ((k:Int)≠0) && bq ⟨k,q,d,rt,O,b,t,g,R,ks⟩):=by unfold abm; rw [hE]
 rw [hE] at hM ⊢;rw [hB];simp only at hM ⊢;have CR:=zq (λ(a:Option Addr) (c:Nat) (w:World) (h:Strs w a (ks.map S))=>right_any ⟨k,q,d,rt,O,b,t,g,R,ks⟩ hM a c w h);generalize hmm:(⟨k,q,d,rt,O,b,t,g,R,ks⟩:Msg)=mm at *
 have dk:∀ a c,af mm a c=#[.int .i64 k,.int .i64 q,.int .i64 d,.int .i64 rt,.int .i64 O,.int .i64 b,.string (S t),.string (S g),.string (S R),.slice a ks.length c]:=λa c=>by rw [<- hmm]; rfl
 have bb:=zq dk;have eo:Zq (mm.keys=ks):=by show _=_; rw [<- hmm]
 have ep:mm.kind=(k:Int):=by rw [<- hmm]
 clear dk hmm hE hB hM e1 e2 e3 e4 e5 e6 e7 e8 e9 cb cw cx cy da db dc dd de dj ei;go_enter Tryz.func144,Tryz.ntmps144;go_wp2_with fail;refine (OctW.new_any s _).mono ?_;rintro e w1 ⟨rfl,cc,hb⟩;obtain ⟨Bt,bc⟩:∃ B,W.heap.size=B:=⟨_,rfl⟩;obtain ⟨Br,bd⟩:∃ B,W.heap.size+1=B:=⟨_,rfl⟩
 have M0:Zq (Mid0 W Bt Br ⟨s,0⟩ w1):=by
  rw [World.size_alloc,bd] at cc;refine ⟨?_,cc,((Below.refl _ _).alloc (Nat.le_refl _) _).trans (hb.mono (by rw [World.size_alloc]; omega))⟩;rw [<- bc,hb.block _ (by rw [World.size_alloc]; omega)];exact heap_alloc_new W _
 have dl:Bt≠Br:=by omega
 have dn:W.heap.size<=Br:=by omega
 clear cc hb;rw [World.size_alloc,bd,bc];have bh:=zq dl;have al:=zq dn;have er:=zq bd;have cd:=zq bc;clear dl dn bd bc;go_wp2_with fail;refine (C1.o Br _ M0.o.r).mono ?_;rintro e w2 ⟨rfl,hr,A⟩;have M1:=zq (M0.o.one hr A bh.o al.o);clear hr A M0 C1;go_wp2_with fail;refine (C2.o Br _ M1.o.r).mono ?_;rintro e w3 ⟨rfl,hr,A⟩;have M2:=zq (M1.o.one hr A bh.o al.o);clear hr A M1 C2;go_wp2_with fail;refine (C3.o Br _ M2.o.r).mono ?_;rintro e w4 ⟨rfl,hr,A⟩;have M3:=zq (M2.o.one hr A bh.o al.o);clear hr A M2 C3;go_wp2_with fail;obtain ⟨Bm,ce⟩:∃ B,w4.heap.size=B:=⟨_,rfl⟩;obtain ⟨w5,bj⟩:∃ w5:World,w5=w4.alloc (.cells #[.int .i64 (k:Int),.int .i64 (q:Int),.int .i64 0,.int .i64 (rt:Int),.int .i64 0,.int .i64 0,.string ⟨#[]⟩,.string ⟨#[]⟩,.string ⟨#[]⟩,.slice none 0 0] 71):=⟨_,rfl⟩
 have M4:Zq (Mid W Bt Br Bm #[.int .i64 (k:Int),.int .i64 (q:Int),.int .i64 0,.int .i64 (rt:Int),.int .i64 0,.int .i64 0,.string ⟨#[]⟩,.string ⟨#[]⟩,.string ⟨#[]⟩,.slice none 0 0] r3 w5):=by
  have cf:Below w4.heap.size w4 w5:=by rw [bj]; exact (Below.refl _ _).alloc (Nat.le_refl _) _
  have h0:=M3.o;refine ⟨?_,?_,?_,h0.b.trans (cf.mono h0.b.size)⟩
  . rw [cf.block _ (Array.getElem?_eq_some_iff.1 h0.t).1]; exact h0.t
  . rw [bj,<- ce]; exact heap_alloc_new w4 _
  . exact h0.r.mod (Mod.of_below (M:=λ_=>False) cf) (λh=>h)
 have an:=bh
 have ac:Zq (Bm≠Br):=by
  have:=M3.o.r.lt;show _≠_;omega
 have ao:Zq (Bt≠Bm):=by
  have:=(Array.getElem?_eq_some_iff.1 M3.o.t).1;show _≠_;omega
 have a6:Zq (W.heap.size<=Bm):=by
  have:=M3.o.b.size;show _<=_;omega
 rw [<- bj,ce];clear bj ce M3;refine (C4.o Br _ M4.o.r).mono ?_;rintro e w6 ⟨rfl,hr,A⟩;have M5:=zq (M4.o.one hr A an.o ac.o al.o);clear hr A M4 C4;go_wp2_with fail;refine (C5.o Br _ M5.o.r).mono ?_;rintro e w7 ⟨rfl,hr,A⟩;have M6:=zq (M5.o.one hr A an.o ac.o al.o);clear hr A M5 C5;go_wp2_with fail;refine (C6.o Br _ M6.o.r).mono ?_;rintro e w8 ⟨rfl,hr,A⟩;have M7:=zq (M6.o.one hr A an.o ac.o al.o);clear hr A M6 C6;have q5:w8.cell? ⟨Bm,5,none⟩=some (.int .i64 0):=M7.o.cell 5 _ rfl;have f5:w8.frozen? ⟨Bm,5,none⟩=false:=M7.o.free 5;have q2:w8.cell? ⟨Bm,2,none⟩=some (.int .i64 0):=M7.o.cell 2 _ rfl;have f2:w8.frozen? ⟨Bm,2,none⟩=false:=M7.o.free 2;have q4:w8.cell? ⟨Bm,4,none⟩=some (.int .i64 0):=M7.o.cell 4 _ rfl;have f4:w8.frozen? ⟨Bm,4,none⟩=false:=M7.o.free 4;go_wp2_with fail
 have M8:Zq (Mid W Bt Br Bm #[.int .i64 (k:Int),.int .i64 (q:Int),.int .i64 (d:Int),.int .i64 (rt:Int),.int .i64 (O:Int),.int .i64 (b:Int),.string ⟨#[]⟩,.string ⟨#[]⟩,.string ⟨#[]⟩,.slice none 0 0] r6 (((w8.setCell ⟨Bm,5,none⟩ (.int .i64 (b:Int))).setCell ⟨Bm,2,none⟩ (.int .i64 (d:Int))).setCell ⟨Bm,4,none⟩ (.int .i64 (O:Int)))) :=
  ((M7.o.set 5 _ rfl ao.o ac.o a6.o).set 2 _ rfl ao.o ac.o a6.o).set 4 _ rfl ao.o ac.o a6.o
 generalize ((w8.setCell ⟨Bm,5,none⟩ (.int .i64 (b:Int))).setCell ⟨Bm,2,none⟩ (.int .i64 (d:Int))).setCell ⟨Bm,4,none⟩ (.int .i64 (O:Int))=w9 at *
 clear M7 q5 f5 q2 f2 q4 f4;refine (C7.o Br _ M8.o.r).mono ?_;rintro e ez ⟨rfl,hr,A⟩;have M9:=zq (M8.o.one hr A an.o ac.o al.o);clear hr A M8 C7;go_wp2_with fail;refine (C8.o Br _ M9.o.r).mono ?_;rintro e e0 ⟨rfl,hr,A⟩;have M10:=zq (M9.o.one hr A an.o ac.o al.o);clear hr A M9 C8;go_wp2_with fail;refine (C9.o Br _ M10.o.r).mono ?_;rintro e ap ⟨rfl,hr,A⟩;have M11:=zq (M10.o.one hr A an.o ac.o al.o);clear hr A M10 C9;have q6:ap.cell? ⟨Bm,6,none⟩=some (.string ⟨#[]⟩):=M11.o.cell 6 _ rfl;have f6:ap.frozen? ⟨Bm,6,none⟩=false:=M11.o.free 6;have q7:ap.cell? ⟨Bm,7,none⟩=some (.string ⟨#[]⟩):=M11.o.cell 7 _ rfl;have f7:ap.frozen? ⟨Bm,7,none⟩=false:=M11.o.free 7;have q8:ap.cell? ⟨Bm,8,none⟩=some (.string ⟨#[]⟩):=M11.o.cell 8 _ rfl;have f8:ap.frozen? ⟨Bm,8,none⟩=false:=M11.o.free 8;go_wp2_with fail
 have M12:Zq (Mid W Bt Br Bm #[.int .i64 (k:Int),.int .i64 (q:Int),.int .i64 (d:Int),.int .i64 (rt:Int),.int .i64 (O:Int),.int .i64 (b:Int),.string (S t),.string (S g),.string (S R),.slice none 0 0] r9 (((ap.setCell ⟨Bm,6,none⟩ (.string (S t))).setCell ⟨Bm,7,none⟩ (.string (S g))).setCell ⟨Bm,8,none⟩ (.string (S R)))) :=
  ((M11.o.set 6 _ rfl ao.o ac.o a6.o).set 7 _ rfl ao.o ac.o a6.o).set 8 _ rfl ao.o ac.o a6.o
 generalize ((ap.setCell ⟨Bm,6,none⟩ (.string (S t))).setCell ⟨Bm,7,none⟩ (.string (S g))).setCell ⟨Bm,8,none⟩ (.string (S R))=w13 at *
 clear M11 q6 f6 q7 f7 q8 f8;refine (C10.o Br _ M12.o.r).mono ?_;rintro e a7 ⟨v,rfl,cg,hr,A⟩;have M13:=zq (M12.o.one hr A an.o ac.o al.o);obtain ⟨a,c,hv,dp⟩:=cg.strs;subst hv;have dq:=zq dp;have ff:Zq (w13.heap.size<=a7.heap.size):=A.size;have a8:Zq (∀ ad,a=some ad->w13.heap.size<=ad.block):=λad e=>az cg ad.block (by rw [e]; rfl)
 have ci:Zq (W.heap.size<=w13.heap.size):=M12.o.b.size;have dr:Zq (Bm < w13.heap.size/\Bt < w13.heap.size):=⟨(Array.getElem?_eq_some_iff.1 M12.o.m).1,(Array.getElem?_eq_some_iff.1 M12.o.t).1⟩;clear hr A M12 C10 cg dp;have q9:a7.cell? ⟨Bm,9,none⟩=some (.slice none 0 0):=M13.o.cell 9 _ rfl;have f9:a7.frozen? ⟨Bm,9,none⟩=false:=M13.o.free 9;go_wp2_with fail
 --REGION
 have M14:Zq (Mid W Bt Br Bm #[.int .i64 (k:Int),.int .i64 (q:Int),.int .i64 (d:Int),.int .i64 (rt:Int),.int .i64 (O:Int),.int .i64 (b:Int),.string (S t),.string (S g),.string (S R),.slice a ks.length c] Z (a7.setCell ⟨Bm,9,none⟩ (.slice a ks.length c))):=M13.o.set 9 _ rfl ao.o ac.o a6.o;have ek:Zq (Strs (a7.setCell ⟨Bm,9,none⟩ (.slice a ks.length c)) a (ks.map S)):=aau dq.o (ash (Mod.refl _ _) 9 _) (λad e _=>by have h1:=a8.o ad e; have h2:=dr.o; omega);clear M13 q9 f9 dq;generalize a7.setCell ⟨Bm,9,none⟩ (.slice a ks.length c)=w15 at *
 have bk:Zq (∀ w,Mod (λk=>k=Bt) w15 w->Strs w a (ks.map S)):=λw A=>aau ek.o A (λad e _=>by have h1:=a8.o ad e; have h2:=dr.o; omega)
 have E:Zq (∀ w,Mod (λk=>k=Bt) w15 w->∀ (i:Nat) (v:Value),(#[.int .i64 (k:Int),.int .i64 (q:Int),.int .i64 (d:Int),.int .i64 (rt:Int),.int .i64 (O:Int),.int .i64 (b:Int),.string (S t),.string (S g),.string (S R),.slice a ks.length c]:Array Value)[i]?=some v->w.cell? ⟨Bm,i,none⟩=some v):=λw A i v hv=>by
  rw [A.cell (Array.getElem?_eq_some_iff.1 M14.o.m).1 (λe=>ao.o e.symm)]; exact M14.o.cell i v hv
 have cj:Zq (∀ w,Mod (λk=>k=Bt) w15 w->Rd Br Z w):=λw A=>M14.o.r.mod A (λe=>an.o e.symm)
 have ds:Zq (Bt < w15.heap.size):=(Array.getElem?_eq_some_iff.1 M14.o.t).1;generalize hrl:bq mm=rl at *
 generalize hki:(k:Int)=ki at *
 have ck:=zq hki;clear hki
 by_cases he:ym Z=0
 case neg =>
  have ar:Zq ((decide (ym Z=0) && decide (ki≠0) && rl)=false):=by show _=_; simp [he]
  have fi:((((ym Z:Nat):Int)) == 0)=false:=OctW.ap5 he;refine GrowN.aj 14 [some (.inl (.agg #[.int .i64 ki,.int .i64 (q:Int),.int .i64 (d:Int),.int .i64 (rt:Int),.int .i64 (O:Int),.int .i64 (b:Int),.string (S t),.string (S g),.string (S R),.slice a ks.length c])),none,some (.inl (.int .i64 ((ym Z:Nat):Int))),none,none,none,none,none,none,none,none,none,none,some (.inr (λ_ _ w=>w.heap[Bt]?=some (.cells #[.int .i64 ki,.int .i64 (q:Int),.int .i64 (d:Int),.int .i64 (rt:Int),.int .i64 (O:Int),.int .i64 (b:Int),.string (S t),.string (S g),.string (S R),.slice a ks.length c] 71 (0,0))))] (Once Bt (.cells #[.int .i64 ki,.int .i64 (q:Int),.int .i64 (d:Int),.int .i64 (rt:Int),.int .i64 (O:Int),.int .i64 (b:Int),.string (S t),.string (S g),.string (S R),.slice a ks.length c] 71 (0,0))) (by kernel_rfl) (by kernel_rfl) (by kernel_rfl) (Once.refl _ _) (λ_ _ _=>Once.trans) ?_ ?_
  ·
   intro K hK Y hY l v w w' hR h;simp only [List.mem_cons,List.not_mem_nil,or_false] at hK
   rcases hK with rfl | rfl | rfl | rfl | rfl | rfl | rfl | rfl | rfl | rfl | rfl | rfl | rfl | rfl <;> simp only [reduceCtorEq,Option.some.injEq,Sum.inr.injEq] at hY
   subst hY;exact hR.stays h
  simp only [List.take_succ_cons,List.take_zero,List.drop_succ_cons,List.drop_zero];refine GrowN.g_con rfl (λw X N=>?_) ?_
  ·
   clear N;have A:=((Mod.refl (λk=>k=Bt) w15).drew).trans X.1;have k0:=E.o w A 0 _ rfl;have k1:=E.o w A 1 _ rfl;have k2:=E.o w A 2 _ rfl;have k3:=E.o w A 3 _ rfl;have k4:=E.o w A 4 _ rfl;have k5:=E.o w A 5 _ rfl;have k6:=E.o w A 6 _ rfl;have k7:=E.o w A 7 _ rfl;have k8:=E.o w A 8 _ rfl;have k9:=E.o w A 9 _ rfl;go_simp;exact Once.refl _ _ _
  go_frame;refine GrowN.g_det rfl ?_;apply Exists.intro;refine ⟨λw X N=>?_,?_⟩
  . clear N
    go_simp;exact ⟨rfl,Once.refl _ _ _⟩
  go_frame;refine GrowN.g_con rfl (λw X N=>?_) ?_
  . clear N
    have A:=((Mod.refl (λk=>k=Bt) w15).drew).trans X.1;go_simp;exact (CE.o Br w (cj.o w A)).mono λe w3 h=>⟨_,h.1,rfl,h.2 ▸ Once.refl _ _ _⟩
  go_frame
  iterate 10
   first
   | refine GrowN.g_skip rfl ?_
   | refine GrowN.g_det rfl ?_
     apply Exists.intro;refine ⟨λw X N=>?_,?_⟩
     . clear N
       go_simp;exact ⟨rfl,Once.refl _ _ _⟩
   go_frame
  refine GrowN.g_new rfl (λw X N=>?_) (λ_=>?_)
  ·
   clear N;obtain ⟨z,hz,F⟩:=(Once.drew X).cells M14.o.t rfl;obtain ⟨z0,z1,z2,z3,z4,z5,z6,z7,z8,z9,rfl⟩:=ten z hz;have k0:w.cell? ⟨Bt,0,none⟩=some z0:=by rw [Lib.cell_of_heap F]; rfl
   have k1:w.cell? ⟨Bt,1,none⟩=some z1:=by rw [Lib.cell_of_heap F]; rfl
   have k2:w.cell? ⟨Bt,2,none⟩=some z2:=by rw [Lib.cell_of_heap F]; rfl
   have k3:w.cell? ⟨Bt,3,none⟩=some z3:=by rw [Lib.cell_of_heap F]; rfl
   have k4:w.cell? ⟨Bt,4,none⟩=some z4:=by rw [Lib.cell_of_heap F]; rfl
   have k5:w.cell? ⟨Bt,5,none⟩=some z5:=by rw [Lib.cell_of_heap F]; rfl
   have k6:w.cell? ⟨Bt,6,none⟩=some z6:=by rw [Lib.cell_of_heap F]; rfl
   have k7:w.cell? ⟨Bt,7,none⟩=some z7:=by rw [Lib.cell_of_heap F]; rfl
   have k8:w.cell? ⟨Bt,8,none⟩=some z8:=by rw [Lib.cell_of_heap F]; rfl
   have k9:w.cell? ⟨Bt,9,none⟩=some z9:=by rw [Lib.cell_of_heap F]; rfl
   have dv:∀ j,w.frozen? ⟨Bt,j,none⟩=false:=λj=>Lib.frozen_of_heap F j
   have HH:=zq (kw (z:=#[z0,z1,z2,z3,z4,z5,z6,z7,z8,z9]) rfl F (.int .i64 ki) (.int .i64 (q:Int)) (.int .i64 (d:Int)) (.int .i64 (rt:Int)) (.int .i64 (O:Int)) (.int .i64 (b:Int)) (.string (S t)) (.string (S g)) (.string (S R)) (.slice a ks.length c));have ba:=zq (mf w Bt (.int .i64 ki) (.int .i64 (q:Int)) (.int .i64 (d:Int)) (.int .i64 (rt:Int)) (.int .i64 (O:Int)) (.int .i64 (b:Int)) (.string (S t)) (.string (S g)) (.string (S R)) (.slice a ks.length c));clear F;go_simp;exact ⟨HH.o,ba.o,.inr HH.o⟩
  go_frame;refine GrowN.g_nil λI ak N=>?_
  have J:I.heap[Bt]?=some (.cells #[.int .i64 ki,.int .i64 (q:Int),.int .i64 (d:Int),.int .i64 (rt:Int),.int .i64 (O:Int),.int .i64 (b:Int),.string (S t),.string (S g),.string (S R),.slice a ks.length c] 71 (0,0)):=N _ (List.mem_singleton.2 rfl);have U:=((Mod.refl (λk=>k=Bt) w15).drew).trans ak.1;have av:=zq (bk.o I U);have a1:Zq (Below W.heap.size W I):=M14.o.b.trans (U.to_below _ M14.o.b.size (λk e=>by rw [e,<- cd.o]; exact Nat.le_refl _));clear N ak U;have c0:I.cell? ⟨Bt,0,none⟩=some (.int .i64 ki):=by rw [Lib.cell_of_heap J]; rfl
  have c1:I.cell? ⟨Bt,1,none⟩=some (.int .i64 (q:Int)):=by rw [Lib.cell_of_heap J]; rfl
  have c2:I.cell? ⟨Bt,2,none⟩=some (.int .i64 (d:Int)):=by rw [Lib.cell_of_heap J]; rfl
  have c3:I.cell? ⟨Bt,3,none⟩=some (.int .i64 (rt:Int)):=by rw [Lib.cell_of_heap J]; rfl
  have c4:I.cell? ⟨Bt,4,none⟩=some (.int .i64 (O:Int)):=by rw [Lib.cell_of_heap J]; rfl
  have c5:I.cell? ⟨Bt,5,none⟩=some (.int .i64 (b:Int)):=by rw [Lib.cell_of_heap J]; rfl
  have c6:I.cell? ⟨Bt,6,none⟩=some (.string (S t)):=by rw [Lib.cell_of_heap J]; rfl
  have c7:I.cell? ⟨Bt,7,none⟩=some (.string (S g)):=by rw [Lib.cell_of_heap J]; rfl
  have c8:I.cell? ⟨Bt,8,none⟩=some (.string (S R)):=by rw [Lib.cell_of_heap J]; rfl
  have c9:I.cell? ⟨Bt,9,none⟩=some (.slice a ks.length c):=by rw [Lib.cell_of_heap J]; rfl
  go_wp2_with fail;refine bodyPost_ret (v:=.tuple #[.agg #[.int .i64 ki,.int .i64 (q:Int),.int .i64 (d:Int),.int .i64 (rt:Int),.int .i64 (O:Int),.int .i64 (b:Int),.string (S t),.string (S g),.string (S R),.slice a ks.length c],.bool false]) ?_ rfl ⟨a,c,?_,?_,?_⟩
  . clear J
    simp [results,Tryz.results144,go_sem,c0,c1,c2,c3,c4,c5,c6,c7,c8,c9]
  . rw [bb.o,hrl,ck.o,ar.o]
  . exact av.o
  . exact ⟨a1.o,λad e=>Nat.le_trans ci.o (a8.o ad e)⟩
 case pos =>
  have CE0:Zq (∀ (B:Nat) (w:World),Rd B Z w->Calls Tryz.prog 156 #[.pointer (some ⟨B,0,none⟩)] w λe w'=>e=.returned (.int .i64 0)/\w=w'):=by
   have h:=CE.o;rw [he] at h;exact h
  have HE:=zq he;clear CE he
  by_cases hk0:ki=0
  case pos =>
   have ar:Zq ((decide (ym Z=0) && decide (ki≠0) && rl)=false):=by show _=_; simp [hk0]
   subst hk0;refine GrowN.aj 14 [some (.inl (.agg #[.int .i64 0,.int .i64 (q:Int),.int .i64 (d:Int),.int .i64 (rt:Int),.int .i64 (O:Int),.int .i64 (b:Int),.string (S t),.string (S g),.string (S R),.slice a ks.length c])),none,some (.inl (.int .i64 0)),none,none,none,none,none,none,none,none,none,none,some (.inr (λ_ _ w=>w.heap[Bt]?=some (.cells #[.int .i64 0,.int .i64 (q:Int),.int .i64 (d:Int),.int .i64 (rt:Int),.int .i64 (O:Int),.int .i64 (b:Int),.string (S t),.string (S g),.string (S R),.slice a ks.length c] 71 (0,0))))] (Once Bt (.cells #[.int .i64 0,.int .i64 (q:Int),.int .i64 (d:Int),.int .i64 (rt:Int),.int .i64 (O:Int),.int .i64 (b:Int),.string (S t),.string (S g),.string (S R),.slice a ks.length c] 71 (0,0))) (by kernel_rfl) (by kernel_rfl) (by kernel_rfl) (Once.refl _ _) (λ_ _ _=>Once.trans) ?_ ?_
   . intro K hK Y hY l v w w' hR h
     simp only [List.mem_cons,List.not_mem_nil,or_false] at hK
     rcases hK with rfl | rfl | rfl | rfl | rfl | rfl | rfl | rfl | rfl | rfl | rfl | rfl | rfl | rfl <;> simp only [reduceCtorEq,Option.some.injEq,Sum.inr.injEq] at hY
     subst hY;exact hR.stays h
   simp only [List.take_succ_cons,List.take_zero,List.drop_succ_cons,List.drop_zero];refine GrowN.g_con rfl (λw X N=>?_) ?_
   ·
    clear N;have A:=((Mod.refl (λk=>k=Bt) w15).drew).trans X.1;have k0:=E.o w A 0 _ rfl;have k1:=E.o w A 1 _ rfl;have k2:=E.o w A 2 _ rfl;have k3:=E.o w A 3 _ rfl;have k4:=E.o w A 4 _ rfl;have k5:=E.o w A 5 _ rfl;have k6:=E.o w A 6 _ rfl;have k7:=E.o w A 7 _ rfl;have k8:=E.o w A 8 _ rfl;have k9:=E.o w A 9 _ rfl;go_simp;exact Once.refl _ _ _
   go_frame;refine GrowN.g_det rfl ?_;apply Exists.intro;refine ⟨λw X N=>?_,?_⟩
   . clear N
     go_simp;exact ⟨rfl,Once.refl _ _ _⟩
   go_frame;refine GrowN.g_con rfl (λw X N=>?_) ?_
   . clear N
     have A:=((Mod.refl (λk=>k=Bt) w15).drew).trans X.1;go_simp;exact (CE0.o Br w (cj.o w A)).mono λe w3 h=>⟨_,h.1,rfl,h.2 ▸ Once.refl _ _ _⟩
   iterate 3
    go_frame;refine GrowN.g_det rfl ?_;apply Exists.intro;refine ⟨λw X N=>?_,?_⟩
    . clear N
      go_simp;exact ⟨rfl,Once.refl _ _ _⟩
   go_frame;refine GrowN.g_det rfl ?_;apply Exists.intro;refine ⟨λw X N=>?_,?_⟩
   . clear N
     have A:=((Mod.refl (λk=>k=Bt) w15).drew).trans X.1;have k0:=E.o w A 0 _ rfl;go_simp;exact ⟨rfl,Once.refl _ _ _⟩
   go_frame
   iterate 6
    first
    | refine GrowN.g_skip rfl ?_
    | refine GrowN.g_det rfl ?_
      apply Exists.intro;refine ⟨λw X N=>?_,?_⟩
      . clear N
        go_simp;exact ⟨rfl,Once.refl _ _ _⟩
    go_frame
   refine GrowN.g_new rfl (λw X N=>?_) (λ_=>?_)
   ·
    clear N;obtain ⟨z,hz,F⟩:=(Once.drew X).cells M14.o.t rfl;obtain ⟨z0,z1,z2,z3,z4,z5,z6,z7,z8,z9,rfl⟩:=ten z hz;have k0:w.cell? ⟨Bt,0,none⟩=some z0:=by rw [Lib.cell_of_heap F]; rfl
    have k1:w.cell? ⟨Bt,1,none⟩=some z1:=by rw [Lib.cell_of_heap F]; rfl
    have k2:w.cell? ⟨Bt,2,none⟩=some z2:=by rw [Lib.cell_of_heap F]; rfl
    have k3:w.cell? ⟨Bt,3,none⟩=some z3:=by rw [Lib.cell_of_heap F]; rfl
    have k4:w.cell? ⟨Bt,4,none⟩=some z4:=by rw [Lib.cell_of_heap F]; rfl
    have k5:w.cell? ⟨Bt,5,none⟩=some z5:=by rw [Lib.cell_of_heap F]; rfl
    have k6:w.cell? ⟨Bt,6,none⟩=some z6:=by rw [Lib.cell_of_heap F]; rfl
    have k7:w.cell? ⟨Bt,7,none⟩=some z7:=by rw [Lib.cell_of_heap F]; rfl
    have k8:w.cell? ⟨Bt,8,none⟩=some z8:=by rw [Lib.cell_of_heap F]; rfl
    have k9:w.cell? ⟨Bt,9,none⟩=some z9:=by rw [Lib.cell_of_heap F]; rfl
    have dv:∀ j,w.frozen? ⟨Bt,j,none⟩=false:=λj=>Lib.frozen_of_heap F j
    have HH:=zq (kw (z:=#[z0,z1,z2,z3,z4,z5,z6,z7,z8,z9]) rfl F (.int .i64 0) (.int .i64 (q:Int)) (.int .i64 (d:Int)) (.int .i64 (rt:Int)) (.int .i64 (O:Int)) (.int .i64 (b:Int)) (.string (S t)) (.string (S g)) (.string (S R)) (.slice a ks.length c));have ba:=zq (mf w Bt (.int .i64 0) (.int .i64 (q:Int)) (.int .i64 (d:Int)) (.int .i64 (rt:Int)) (.int .i64 (O:Int)) (.int .i64 (b:Int)) (.string (S t)) (.string (S g)) (.string (S R)) (.slice a ks.length c));clear F;go_simp;exact ⟨HH.o,ba.o,.inr HH.o⟩
   go_frame;refine GrowN.g_nil λI ak N=>?_
   have J:I.heap[Bt]?=some (.cells #[.int .i64 0,.int .i64 (q:Int),.int .i64 (d:Int),.int .i64 (rt:Int),.int .i64 (O:Int),.int .i64 (b:Int),.string (S t),.string (S g),.string (S R),.slice a ks.length c] 71 (0,0)):=N _ (List.mem_singleton.2 rfl);have U:=((Mod.refl (λk=>k=Bt) w15).drew).trans ak.1;have av:=zq (bk.o I U);have a1:Zq (Below W.heap.size W I):=M14.o.b.trans (U.to_below _ M14.o.b.size (λk e=>by rw [e,<- cd.o]; exact Nat.le_refl _));clear N ak U;have c0:I.cell? ⟨Bt,0,none⟩=some (.int .i64 0):=by rw [Lib.cell_of_heap J]; rfl
   have c1:I.cell? ⟨Bt,1,none⟩=some (.int .i64 (q:Int)):=by rw [Lib.cell_of_heap J]; rfl
   have c2:I.cell? ⟨Bt,2,none⟩=some (.int .i64 (d:Int)):=by rw [Lib.cell_of_heap J]; rfl
   have c3:I.cell? ⟨Bt,3,none⟩=some (.int .i64 (rt:Int)):=by rw [Lib.cell_of_heap J]; rfl
   have c4:I.cell? ⟨Bt,4,none⟩=some (.int .i64 (O:Int)):=by rw [Lib.cell_of_heap J]; rfl
   have c5:I.cell? ⟨Bt,5,none⟩=some (.int .i64 (b:Int)):=by rw [Lib.cell_of_heap J]; rfl
   have c6:I.cell? ⟨Bt,6,none⟩=some (.string (S t)):=by rw [Lib.cell_of_heap J]; rfl
   have c7:I.cell? ⟨Bt,7,none⟩=some (.string (S g)):=by rw [Lib.cell_of_heap J]; rfl
   have c8:I.cell? ⟨Bt,8,none⟩=some (.string (S R)):=by rw [Lib.cell_of_heap J]; rfl
   have c9:I.cell? ⟨Bt,9,none⟩=some (.slice a ks.length c):=by rw [Lib.cell_of_heap J]; rfl
   go_wp2_with fail;refine bodyPost_ret (v:=.tuple #[.agg #[.int .i64 0,.int .i64 (q:Int),.int .i64 (d:Int),.int .i64 (rt:Int),.int .i64 (O:Int),.int .i64 (b:Int),.string (S t),.string (S g),.string (S R),.slice a ks.length c],.bool false]) ?_ rfl ⟨a,c,?_,?_,?_⟩
   . clear J
     simp [results,Tryz.results144,go_sem,c0,c1,c2,c3,c4,c5,c6,c7,c8,c9]
   . rw [bb.o,hrl,ck.o,ar.o]
   . exact av.o
   . exact ⟨a1.o,λad e=>Nat.le_trans ci.o (a8.o ad e)⟩
  case neg =>
   have ar:Zq ((decide (ym Z=0) && decide (ki≠0) && rl)=rl):=by show _=_; rw [HE.o]; simp [hk0]
   have fl:(ki != 0)=true:=bne_iff_ne.2 hk0;refine GrowN.aj 14 [some (.inl (.agg #[.int .i64 ki,.int .i64 (q:Int),.int .i64 (d:Int),.int .i64 (rt:Int),.int .i64 (O:Int),.int .i64 (b:Int),.string (S t),.string (S g),.string (S R),.slice a ks.length c])),none,some (.inl (.int .i64 0)),none,none,none,none,none,none,none,some (.inl (.agg #[.int .i64 ki,.int .i64 (q:Int),.int .i64 (d:Int),.int .i64 (rt:Int),.int .i64 (O:Int),.int .i64 (b:Int),.string (S t),.string (S g),.string (S R),.slice a ks.length c])),some (.inl (.bool rl)),none,some (.inr (λ_ _ w=>w.heap[Bt]?=some (.cells #[.int .i64 ki,.int .i64 (q:Int),.int .i64 (d:Int),.int .i64 (rt:Int),.int .i64 (O:Int),.int .i64 (b:Int),.string (S t),.string (S g),.string (S R),.slice a ks.length c] 71 (0,0))))] (Once Bt (.cells #[.int .i64 ki,.int .i64 (q:Int),.int .i64 (d:Int),.int .i64 (rt:Int),.int .i64 (O:Int),.int .i64 (b:Int),.string (S t),.string (S g),.string (S R),.slice a ks.length c] 71 (0,0))) (by kernel_rfl) (by kernel_rfl) (by kernel_rfl) (Once.refl _ _) (λ_ _ _=>Once.trans) ?_ ?_
   . intro K hK Y hY l v w w' hR h
     simp only [List.mem_cons,List.not_mem_nil,or_false] at hK
     rcases hK with rfl | rfl | rfl | rfl | rfl | rfl | rfl | rfl | rfl | rfl | rfl | rfl | rfl | rfl <;> simp only [reduceCtorEq,Option.some.injEq,Sum.inr.injEq] at hY
     subst hY;exact hR.stays h
   simp only [List.take_succ_cons,List.take_zero,List.drop_succ_cons,List.drop_zero];refine GrowN.g_con rfl (λw X N=>?_) ?_
   ·
    clear N;have A:=((Mod.refl (λk=>k=Bt) w15).drew).trans X.1;have k0:=E.o w A 0 _ rfl;have k1:=E.o w A 1 _ rfl;have k2:=E.o w A 2 _ rfl;have k3:=E.o w A 3 _ rfl;have k4:=E.o w A 4 _ rfl;have k5:=E.o w A 5 _ rfl;have k6:=E.o w A 6 _ rfl;have k7:=E.o w A 7 _ rfl;have k8:=E.o w A 8 _ rfl;have k9:=E.o w A 9 _ rfl;go_simp;exact Once.refl _ _ _
   go_frame;refine GrowN.g_det rfl ?_;apply Exists.intro;refine ⟨λw X N=>?_,?_⟩
   . clear N
     go_simp;exact ⟨rfl,Once.refl _ _ _⟩
   go_frame;refine GrowN.g_con rfl (λw X N=>?_) ?_
   . clear N
     have A:=((Mod.refl (λk=>k=Bt) w15).drew).trans X.1;go_simp;exact (CE0.o Br w (cj.o w A)).mono λe w3 h=>⟨_,h.1,rfl,h.2 ▸ Once.refl _ _ _⟩
   iterate 3
    go_frame;refine GrowN.g_det rfl ?_;apply Exists.intro;refine ⟨λw X N=>?_,?_⟩
    . clear N
      go_simp;exact ⟨rfl,Once.refl _ _ _⟩
   go_frame;refine GrowN.g_det rfl ?_;apply Exists.intro;refine ⟨λw X N=>?_,?_⟩
   . clear N
     have A:=((Mod.refl (λk=>k=Bt) w15).drew).trans X.1;have k0:=E.o w A 0 _ rfl;go_simp;exact ⟨rfl,Once.refl _ _ _⟩
   iterate 3
    go_frame;refine GrowN.g_det rfl ?_;apply Exists.intro;refine ⟨λw X N=>?_,?_⟩
    . clear N
      go_simp;exact ⟨rfl,Once.refl _ _ _⟩
   go_frame;refine GrowN.g_con rfl (λw X N=>?_) ?_
   ·
    clear N;have A:=((Mod.refl (λk=>k=Bt) w15).drew).trans X.1;have k0:=E.o w A 0 _ rfl;have k1:=E.o w A 1 _ rfl;have k2:=E.o w A 2 _ rfl;have k3:=E.o w A 3 _ rfl;have k4:=E.o w A 4 _ rfl;have k5:=E.o w A 5 _ rfl;have k6:=E.o w A 6 _ rfl;have k7:=E.o w A 7 _ rfl;have k8:=E.o w A 8 _ rfl;have k9:=E.o w A 9 _ rfl;go_simp;exact Once.refl _ _ _
   go_frame;refine GrowN.g_con rfl (λw X N=>?_) ?_
   ·
    clear N;have A:=((Mod.refl (λk=>k=Bt) w15).drew).trans X.1;go_simp;have em:Bt < w.heap.size:=Nat.lt_of_lt_of_le ds.o A.size;have d0:=CR.o a c w (bk.o w A);rw [bb.o] at d0;exact d0.mono λe w3 h=>⟨_,h.1,rfl,Once.below h.2 em⟩
   go_frame;refine GrowN.g_det rfl ?_;apply Exists.intro;refine ⟨λw X N=>?_,?_⟩
   . clear N
     go_simp;exact ⟨rfl,Once.refl _ _ _⟩
   go_frame;refine GrowN.g_new rfl (λw X N=>?_) (λ_=>?_)
   ·
    clear N;obtain ⟨z,hz,F⟩:=(Once.drew X).cells M14.o.t rfl;obtain ⟨z0,z1,z2,z3,z4,z5,z6,z7,z8,z9,rfl⟩:=ten z hz;have k0:w.cell? ⟨Bt,0,none⟩=some z0:=by rw [Lib.cell_of_heap F]; rfl
    have k1:w.cell? ⟨Bt,1,none⟩=some z1:=by rw [Lib.cell_of_heap F]; rfl
    have k2:w.cell? ⟨Bt,2,none⟩=some z2:=by rw [Lib.cell_of_heap F]; rfl
    have k3:w.cell? ⟨Bt,3,none⟩=some z3:=by rw [Lib.cell_of_heap F]; rfl
    have k4:w.cell? ⟨Bt,4,none⟩=some z4:=by rw [Lib.cell_of_heap F]; rfl
    have k5:w.cell? ⟨Bt,5,none⟩=some z5:=by rw [Lib.cell_of_heap F]; rfl
    have k6:w.cell? ⟨Bt,6,none⟩=some z6:=by rw [Lib.cell_of_heap F]; rfl
    have k7:w.cell? ⟨Bt,7,none⟩=some z7:=by rw [Lib.cell_of_heap F]; rfl
    have k8:w.cell? ⟨Bt,8,none⟩=some z8:=by rw [Lib.cell_of_heap F]; rfl
    have k9:w.cell? ⟨Bt,9,none⟩=some z9:=by rw [Lib.cell_of_heap F]; rfl
    have dv:∀ j,w.frozen? ⟨Bt,j,none⟩=false:=λj=>Lib.frozen_of_heap F j
    have HH:=zq (kw (z:=#[z0,z1,z2,z3,z4,z5,z6,z7,z8,z9]) rfl F (.int .i64 ki) (.int .i64 (q:Int)) (.int .i64 (d:Int)) (.int .i64 (rt:Int)) (.int .i64 (O:Int)) (.int .i64 (b:Int)) (.string (S t)) (.string (S g)) (.string (S R)) (.slice a ks.length c));have ba:=zq (mf w Bt (.int .i64 ki) (.int .i64 (q:Int)) (.int .i64 (d:Int)) (.int .i64 (rt:Int)) (.int .i64 (O:Int)) (.int .i64 (b:Int)) (.string (S t)) (.string (S g)) (.string (S R)) (.slice a ks.length c));clear F;go_simp;exact ⟨HH.o,ba.o,.inr HH.o⟩
   go_frame;refine GrowN.g_nil λI ak N=>?_
   have J:I.heap[Bt]?=some (.cells #[.int .i64 ki,.int .i64 (q:Int),.int .i64 (d:Int),.int .i64 (rt:Int),.int .i64 (O:Int),.int .i64 (b:Int),.string (S t),.string (S g),.string (S R),.slice a ks.length c] 71 (0,0)):=N _ (List.mem_singleton.2 rfl);have U:=((Mod.refl (λk=>k=Bt) w15).drew).trans ak.1;have av:=zq (bk.o I U);have a1:Zq (Below W.heap.size W I):=M14.o.b.trans (U.to_below _ M14.o.b.size (λk e=>by rw [e,<- cd.o]; exact Nat.le_refl _));clear N ak U;have c0:I.cell? ⟨Bt,0,none⟩=some (.int .i64 ki):=by rw [Lib.cell_of_heap J]; rfl
   have c1:I.cell? ⟨Bt,1,none⟩=some (.int .i64 (q:Int)):=by rw [Lib.cell_of_heap J]; rfl
   have c2:I.cell? ⟨Bt,2,none⟩=some (.int .i64 (d:Int)):=by rw [Lib.cell_of_heap J]; rfl
   have c3:I.cell? ⟨Bt,3,none⟩=some (.int .i64 (rt:Int)):=by rw [Lib.cell_of_heap J]; rfl
   have c4:I.cell? ⟨Bt,4,none⟩=some (.int .i64 (O:Int)):=by rw [Lib.cell_of_heap J]; rfl
   have c5:I.cell? ⟨Bt,5,none⟩=some (.int .i64 (b:Int)):=by rw [Lib.cell_of_heap J]; rfl
   have c6:I.cell? ⟨Bt,6,none⟩=some (.string (S t)):=by rw [Lib.cell_of_heap J]; rfl
   have c7:I.cell? ⟨Bt,7,none⟩=some (.string (S g)):=by rw [Lib.cell_of_heap J]; rfl
   have c8:I.cell? ⟨Bt,8,none⟩=some (.string (S R)):=by rw [Lib.cell_of_heap J]; rfl
   have c9:I.cell? ⟨Bt,9,none⟩=some (.slice a ks.length c):=by rw [Lib.cell_of_heap J]; rfl
   go_wp2_with fail;refine bodyPost_ret (v:=.tuple #[.agg #[.int .i64 ki,.int .i64 (q:Int),.int .i64 (d:Int),.int .i64 (rt:Int),.int .i64 (O:Int),.int .i64 (b:Int),.string (S t),.string (S g),.string (S R),.slice a ks.length c],.bool rl]) ?_ rfl ⟨a,c,?_,?_,?_⟩
   . clear J
     simp [results,Tryz.results144,go_sem,c0,c1,c2,c3,c4,c5,c6,c7,c8,c9]
   . rw [bb.o,hrl,ck.o,ar.o]
   . exact av.o
   . exact ⟨a1.o,λad e=>Nat.le_trans ci.o (a8.o ad e)⟩
open Go.RowKit OctMath RecMath NameMath
open OctW (Rd One Texts gy cz ll ui)
structure Mid1 (W:World) (Bt Br:Nat) (r:RS) (w:World):Prop where
 t:w.heap[Bt]?=some (.cells (af om none 0) 71 (0,0))
 r:Rd Br r w
 b:Below W.heap.size W w
 ne:Bt≠Br
 le:W.heap.size<=Br
 lt:W.heap.size<=Bt
theorem Mid1.one {W w w':World} {Bt Br:Nat} {r r':RS} (h:Mid1 W Bt Br r w) (hr:Rd Br r' w') (hm:One Br w w'):Mid1 W Bt Br r' w' :=
 ⟨(hm.block Bt (Array.getElem?_eq_some_iff.1 h.t).1 h.ne).trans h.t,hr,h.b.trans (hm.to_below _ h.b.size (λk e=>e ▸ h.le)),h.ne,h.le,h.lt⟩
theorem Mid1.ext {W w w':World} {Bt Br:Nat} {r:RS} (h:Mid1 W Bt Br r w) (hb:Below w.heap.size w w'):Mid1 W Bt Br r w' :=
 ⟨(hb.block _ (Array.getElem?_eq_some_iff.1 h.t).1).trans h.t,h.r.mod (Mod.of_below (M:=λ_=>False) hb) (λh=>h),h.b.trans (hb.mono h.b.size),h.ne,h.le,h.lt⟩
theorem al1 (m:Msg) (h:bq m=true) (h0:m.kind≠0) (rest:List UInt8):∃ n:Nat,n=(bi m).length/\7<=n/\n<=507/\ed 1 ⟨bi m++rest,0⟩=([165],⟨be 2 n++(CrcMath.ai (ax m)++rest),0⟩) /\
 dm 2 ⟨be 2 n++(CrcMath.ai (ax m)++rest),0⟩=(n,⟨CrcMath.ai (ax m)++rest,0⟩)/\ed ((n:Int) - 3) ⟨CrcMath.ai (ax m)++rest,0⟩=(CrcMath.ai (ax m),⟨rest,0⟩)/\(CrcMath.ai (ax m)).length=n - 3:=by
 have F:=yt h h0;have B:=CrcMath.ji (ax m);obtain ⟨E,A⟩:=vv h h0;refine ⟨3+(CrcMath.ai (ax m)).length,by omega,by omega,by omega,?_,?_,?_,by omega⟩
 . unfold ed bi
   rw [if_neg (by simp),if_neg (by omega),if_neg (by simp <;> omega)];simp
 . exact OctW.vo 2 _ _ (by omega) (by omega) (by omega)
 ·
  unfold ed;rw [if_neg (by simp),if_neg (by omega),if_neg (by simp <;> omega)];have:(((3+(CrcMath.ai (ax m)).length:Nat):Int) - 3).toNat=(CrcMath.ai (ax m)).length:=by omega
  rw [this];simp
theorem get_one (B:Nat) (m:Msg) (I:bq m=true) (h0:m.kind≠0) (rest:List UInt8) (M:rest.length<=1048576) (W:World) (hB:B < W.heap.size) (hT:CrcW.Tabs W B) :
 Calls Tryz.prog 72 #[.pointer (some ⟨B,0,none⟩),.string (S (bi m++rest))] W λe w'=>∃ a c,e=.returned (.tuple #[.agg (af m a c),.int .i64 ((bi m).length:Int),.int .i64 0])/\Strs w' a (m.keys.map S)/\Below W.heap.size W w'/\∀ Y,a=some Y->W.heap.size<=Y.block:=by
 obtain ⟨n,hn,bk,bl,e1,e2,e3,e4⟩:=al1 m I h0 rest;rw [<- hn];have av:=yt I h0;have R:=ail m I h0
 have Z:abm (ax m)=true:=by
  unfold abm;rw [R];simp [ym,h0,I]
 have C1:=zq (λ(Br:Nat) (w:World) (h:Rd Br ⟨bi m++rest,0⟩ w)=>OctW.xu Br ⟨bi m++rest,0⟩ 1 (by omega) (by omega) (by show (bi m++rest).length<=_; rw [List.length_append]; omega) w h);have C2:=zq (λ(Br:Nat) (w:World) (h:Rd Br ⟨be 2 n++(CrcMath.ai (ax m)++rest),0⟩ w)=>OctW.pz Br ⟨be 2 n++(CrcMath.ai (ax m)++rest),0⟩ 2 (by omega) (by omega) (by simp only [List.length_append,bn]; omega) w h);have C3:=zq (λ(Br:Nat) (w:World) (h:Rd Br ⟨CrcMath.ai (ax m)++rest,0⟩ w)=>OctW.xu Br ⟨CrcMath.ai (ax m)++rest,0⟩ ((n:Int) - 3) (by omega) (by omega) (by simp only [List.length_append]; omega) w h);have C4:=zq (λ(Br:Nat) (w:World) (h:Rd Br ⟨rest,0⟩ w)=>OctW.aan Br ⟨rest,0⟩ w h);rw [e1] at C1;rw [e2] at C2;rw [e3] at C3;simp only at C1 C2 C3 C4;have C5:=zq (λ(w:World) (hb:Below W.heap.size W w)=>CrcW.alx B (S (CrcMath.ai (ax m))) (by rw [au]; omega) (by rw [au]; omega) w (by have:=hb.size; omega) (aa8 hT hB hb));have ab:(S (CrcMath.ai (ax m))).data.toList=CrcMath.ai ((S (CrcMath.ai (ax m))).data.toList.drop 4):=by rw [kg,CrcMath.acs]
 have hex:(S (CrcMath.ai (ax m))).extract 4 (S (CrcMath.ai (ax m))).size=S (ax m):=by rw [am6,CrcMath.acs]
 rw [if_pos ab,hex] at C5;have C6:=zq (λ(w:World)=>ajg (ax m) (by omega) w);rw [R,Z] at C6;simp only at C6;have bm:=au;have bj:(bi m++rest).length=n+rest.length:=by rw [List.length_append]; omega
 have bo:¬ ((n:Int)+(rest.length:Int) < 3):=by omega
 have bp:max ((n:Int) - 3) 0=(n:Int) - 3:=by omega
 have br:=S_toList;clear ab hex R Z av e1 e2 e3 I hT hB M hn;generalize CrcMath.ai (ax m)=sl at *
 generalize ax m=il at *
 generalize bi m++rest=rr at *
 unfold af at C6;go_enter Tryz.func72,Tryz.ntmps72;go_wp2_with fail;refine (OctW.new_any _ _).mono ?_;rintro e w1 ⟨rfl,U,hb⟩;obtain ⟨Bt,N⟩:∃ B,W.heap.size=B:=⟨_,rfl⟩;obtain ⟨Br,X⟩:∃ B,W.heap.size+1=B:=⟨_,rfl⟩
 have M0:Zq (Mid1 W Bt Br ⟨rr,0⟩ w1):=by
  rw [World.size_alloc,X] at U;refine ⟨?_,U,((Below.refl _ _).alloc (Nat.le_refl _) _).trans (hb.mono (by rw [World.size_alloc]; omega)),by omega,by omega,by omega⟩;rw [<- N,hb.block _ (by rw [World.size_alloc]; omega)];exact heap_alloc_new W _
 clear U hb;rw [World.size_alloc,X,N];have a1:=zq N;clear X N;go_wp2_with fail;refine (C1.o Br _ M0.o.r).mono ?_;rintro e w2 ⟨rfl,M,I⟩;have M1:=zq (M0.o.one M I);clear M I M0 C1;go_wp2_with fail;refine (C2.o Br _ M1.o.r).mono ?_;rintro e w3 ⟨rfl,M,I⟩;have M2:=zq (M1.o.one M I);clear M I M1 C2;go_wp2_with fail;refine (C3.o Br _ M2.o.r).mono ?_;rintro e w4 ⟨rfl,M,I⟩;have M3:=zq (M2.o.one M I);clear M I M2 C3;go_wp2_with fail;refine (C4.o Br _ M3.o.r).mono ?_;rintro e w5 ⟨rfl,rfl⟩;go_wp2_with fail;refine (C5.o _ M3.o.b).mono ?_;rintro e w6 ⟨rfl,hb⟩;have M4:=zq (M3.o.ext hb);clear hb M3 C5 C4;go_wp2_with fail;refine (C6.o w6).mono ?_;rintro e J ⟨a,c,rfl,ac,hb,ak⟩;have M5:=zq (M4.o.ext hb);have al:=zq ac;have am:=zq ak;have an:Zq (Bt < w6.heap.size/\W.heap.size<=w6.heap.size):=⟨(Array.getElem?_eq_some_iff.1 M4.o.t).1,M4.o.b.size⟩;clear hb M4 C6 ac ak;go_upto_region 22 with fail
 have O:Zq (Below J.heap.size J (J.alloc (.cells #[.int .i64 m.kind,.int .i64 m.queue,.int .i64 m.due,.int .i64 m.retry,.int .i64 m.ref,.int .i64 m.born,.string (S m.topic),.string (S m.tag),.string (S m.body),.slice a m.keys.length c] 71))):=(Below.refl J.heap.size J).alloc (Nat.le_refl _) _
 have A:Zq ((J.alloc (.cells #[.int .i64 m.kind,.int .i64 m.queue,.int .i64 m.due,.int .i64 m.retry,.int .i64 m.ref,.int .i64 m.born,.string (S m.topic),.string (S m.tag),.string (S m.body),.slice a m.keys.length c] 71)).heap[Bt]?=some (.cells (af om none 0) 71 (0,0))):=by
  show _=_;rw [O.o.block _ (Array.getElem?_eq_some_iff.1 M5.o.t).1]; exact M5.o.t
 have E:Zq ((J.alloc (.cells #[.int .i64 m.kind,.int .i64 m.queue,.int .i64 m.due,.int .i64 m.retry,.int .i64 m.ref,.int .i64 m.born,.string (S m.topic),.string (S m.tag),.string (S m.body),.slice a m.keys.length c] 71)).heap[J.heap.size]?=some (.cells #[.int .i64 m.kind,.int .i64 m.queue,.int .i64 m.due,.int .i64 m.retry,.int .i64 m.ref,.int .i64 m.born,.string (S m.topic),.string (S m.tag),.string (S m.body),.slice a m.keys.length c] 71 (0,0))):=heap_alloc_new J _;have a7:=zq (Strs.below al.o O.o);generalize hw8:J.alloc (.cells #[.int .i64 m.kind,.int .i64 m.queue,.int .i64 m.due,.int .i64 m.retry,.int .i64 m.ref,.int .i64 m.born,.string (S m.topic),.string (S m.tag),.string (S m.body),.slice a m.keys.length c] 71)=w8 at *
 obtain ⟨Bn,ao⟩:∃ B,J.heap.size=B:=⟨_,rfl⟩;rw [ao] at E ⊢;have ap:Zq (Below W.heap.size W w8):=M5.o.b.trans (O.o.mono M5.o.b.size);clear ao hw8 M5 al O;have k0:w8.cell? ⟨Bt,0,none⟩=some (.int .i64 0):=by rw [Lib.cell_of_heap A.o]; rfl
 have k1:w8.cell? ⟨Bt,1,none⟩=some (.int .i64 0):=by rw [Lib.cell_of_heap A.o]; rfl
 have k2:w8.cell? ⟨Bt,2,none⟩=some (.int .i64 0):=by rw [Lib.cell_of_heap A.o]; rfl
 have k3:w8.cell? ⟨Bt,3,none⟩=some (.int .i64 0):=by rw [Lib.cell_of_heap A.o]; rfl
 have k4:w8.cell? ⟨Bt,4,none⟩=some (.int .i64 0):=by rw [Lib.cell_of_heap A.o]; rfl
 have k5:w8.cell? ⟨Bt,5,none⟩=some (.int .i64 0):=by rw [Lib.cell_of_heap A.o]; rfl
 have k6:w8.cell? ⟨Bt,6,none⟩=some (.string ⟨#[]⟩):=by rw [Lib.cell_of_heap A.o]; rfl
 have k7:w8.cell? ⟨Bt,7,none⟩=some (.string ⟨#[]⟩):=by rw [Lib.cell_of_heap A.o]; rfl
 have k8:w8.cell? ⟨Bt,8,none⟩=some (.string ⟨#[]⟩):=by rw [Lib.cell_of_heap A.o]; rfl
 have k9:w8.cell? ⟨Bt,9,none⟩=some (.slice none 0 0):=by rw [Lib.cell_of_heap A.o]; rfl
 have n0:w8.cell? ⟨Bn,0,none⟩=some (.int .i64 m.kind):=by rw [Lib.cell_of_heap E.o]; rfl
 have n1:w8.cell? ⟨Bn,1,none⟩=some (.int .i64 m.queue):=by rw [Lib.cell_of_heap E.o]; rfl
 have n2:w8.cell? ⟨Bn,2,none⟩=some (.int .i64 m.due):=by rw [Lib.cell_of_heap E.o]; rfl
 have n3:w8.cell? ⟨Bn,3,none⟩=some (.int .i64 m.retry):=by rw [Lib.cell_of_heap E.o]; rfl
 have n4:w8.cell? ⟨Bn,4,none⟩=some (.int .i64 m.ref):=by rw [Lib.cell_of_heap E.o]; rfl
 have n5:w8.cell? ⟨Bn,5,none⟩=some (.int .i64 m.born):=by rw [Lib.cell_of_heap E.o]; rfl
 have n6:w8.cell? ⟨Bn,6,none⟩=some (.string (S m.topic)):=by rw [Lib.cell_of_heap E.o]; rfl
 have n7:w8.cell? ⟨Bn,7,none⟩=some (.string (S m.tag)):=by rw [Lib.cell_of_heap E.o]; rfl
 have n8:w8.cell? ⟨Bn,8,none⟩=some (.string (S m.body)):=by rw [Lib.cell_of_heap E.o]; rfl
 have n9:w8.cell? ⟨Bn,9,none⟩=some (.slice a m.keys.length c):=by rw [Lib.cell_of_heap E.o]; rfl
 have a8:∀ j,w8.frozen? ⟨Bt,j,none⟩=false:=λj=>Lib.frozen_of_heap A.o j
 have HH:=zq (kw (z:=af om none 0) rfl A.o (.int .i64 m.kind) (.int .i64 m.queue) (.int .i64 m.due) (.int .i64 m.retry) (.int .i64 m.ref) (.int .i64 m.born) (.string (S m.topic)) (.string (S m.tag)) (.string (S m.body)) (.slice a m.keys.length c));have ar:=zq (mf w8 Bt (.int .i64 m.kind) (.int .i64 m.queue) (.int .i64 m.due) (.int .i64 m.retry) (.int .i64 m.ref) (.int .i64 m.born) (.string (S m.topic)) (.string (S m.tag)) (.string (S m.body)) (.slice a m.keys.length c));go_wp2_with fail;clear k0 k1 k2 k3 k4 k5 k6 k7 k8 k9 a8 n0 n1 n2 n3 n4 n5 n6 n7 n8 n9;change bodyPost _ _ _ _ _ (o9 w8 Bt (.int .i64 m.kind) (.int .i64 m.queue) (.int .i64 m.due) (.int .i64 m.retry) (.int .i64 m.ref) (.int .i64 m.born) (.string (S m.topic)) (.string (S m.tag)) (.string (S m.body)) (.slice a m.keys.length c));generalize o9 w8 Bt (.int .i64 m.kind) (.int .i64 m.queue) (.int .i64 m.due) (.int .i64 m.retry) (.int .i64 m.ref) (.int .i64 m.born) (.string (S m.topic)) (.string (S m.tag)) (.string (S m.body)) (.slice a m.keys.length c)=w9 at *
 have F:=HH.o;have c0:w9.cell? ⟨Bt,0,none⟩=some (.int .i64 m.kind):=by rw [Lib.cell_of_heap F]; rfl
 have c1:w9.cell? ⟨Bt,1,none⟩=some (.int .i64 m.queue):=by rw [Lib.cell_of_heap F]; rfl
 have c2:w9.cell? ⟨Bt,2,none⟩=some (.int .i64 m.due):=by rw [Lib.cell_of_heap F]; rfl
 have c3:w9.cell? ⟨Bt,3,none⟩=some (.int .i64 m.retry):=by rw [Lib.cell_of_heap F]; rfl
 have c4:w9.cell? ⟨Bt,4,none⟩=some (.int .i64 m.ref):=by rw [Lib.cell_of_heap F]; rfl
 have c5:w9.cell? ⟨Bt,5,none⟩=some (.int .i64 m.born):=by rw [Lib.cell_of_heap F]; rfl
 have c6:w9.cell? ⟨Bt,6,none⟩=some (.string (S m.topic)):=by rw [Lib.cell_of_heap F]; rfl
 have c7:w9.cell? ⟨Bt,7,none⟩=some (.string (S m.tag)):=by rw [Lib.cell_of_heap F]; rfl
 have c8:w9.cell? ⟨Bt,8,none⟩=some (.string (S m.body)):=by rw [Lib.cell_of_heap F]; rfl
 have c9:w9.cell? ⟨Bt,9,none⟩=some (.slice a m.keys.length c):=by rw [Lib.cell_of_heap F]; rfl
 have ba:Below W.heap.size W w9:=ap.o.trans (ar.o.to_below _ ap.o.size (λk e=>by rw [e,<- a1.o]; exact Nat.le_refl _));refine bodyPost_ret (v:=.tuple #[.agg #[.int .i64 m.kind,.int .i64 m.queue,.int .i64 m.due,.int .i64 m.retry,.int .i64 m.ref,.int .i64 m.born,.string (S m.topic),.string (S m.tag),.string (S m.body),.slice a m.keys.length c],.int .i64 (n:Int),.int .i64 0]) ?_ rfl ⟨a,c,rfl,?_,ba,λY e=>by have h1:=am.o Y e; have h2:=an.o; omega⟩
 . clear F
   simp [results,Tryz.results72,go_sem,c0,c1,c2,c3,c4,c5,c6,c7,c8,c9]
 . exact aau a7.o ar.o (λY e _=>by have h1:=am.o Y e; have h2:=an.o; omega)
end RecW
namespace TapeW
open Go.RowKit Go.MapKept OctMath RecMath RecW TapeMath DskW SegW MapG
theorem put_ok {m:Msg} (h:bq m=true) (h0:m.kind≠0):aca m=(bi m,0):=by unfold aca; rw [if_neg (by rw [h]; decide),if_neg h0]
def bv (e:Nat) (m:Msg):List UInt8:=if jd e=(bi m).length\/(bi m).length+3<=jd e then [] else oo ((jd e:Nat):Int)
theorem aqs {base:Nat} {T:TapeD} (m:Msg) (hm:uq m) (hr:bq m=true) (h0:m.kind≠0) (a:Option Addr) (c:Nat) (W:World) (h:TapeAt base W T) (hS:Strs W a (m.keys.map S)) :
 Calls Tryz.prog 113 #[.pointer (some ⟨T.O.blk,0,none⟩),.agg (af m a c)] W λe w'=>e=.returned (.tuple #[.string (S (bv T.R.e m)),.string (S (bi m)),.bool true])/\Below W.heap.size W w':=by
 have B:Zq (Below W.heap.size W (W.alloc (.cells (af m a c) 71))):=(Below.refl _ W).alloc (Nat.le_refl _) _;have X:Zq (RecW.Boxed (W.alloc (.cells (af m a c) 71)) W.heap.size (af m a c)):=RecW.Boxed.new W _ _;have I:=zq (h.below B.o);have av:=zq (Strs.below hS B.o);have ak:=akk h.whole.seg h.size;have a1:(af m a c).size=10:=rfl;have J:=put_ok hr h0;have HM:=zq hm;obtain ⟨a6,bd⟩:=vv hr h0;have bh:=au;have bj:=RecW.S_toList;have E:Zq (bv T.R.e m=if jd T.R.e=(bi m).length\/(bi m).length+3<=jd T.R.e then [] else oo ((jd T.R.e:Nat):Int)):=rfl;have bk:=room_le T.R.e;have Y:=ads h.fits (by have:=h.whole.seg.mult; rw [h.size] at this; exact this);rw [<- h.txt] at Y;have Y:3<=jd T.R.e:=Y;clear a6;clear h hS hm;go_enter Tryz.func113,Tryz.ntmps113;go_upto_region 1 with fail
 generalize W.alloc (.cells (af m a c) 71)=w1 at *
 clear a1;obtain ⟨A,hA⟩:∃ A,W.heap.size=A:=⟨_,rfl⟩;rw [hA] at X ⊢;have F:Zq (∀ w,Below w1.heap.size w1 w->∀ (i:Nat) (v:Value),(af m a c)[i]?=some v->w.cell? ⟨A,i,none⟩=some v):=λw hb i v hv=>(X.o.below hb) i v hv
 have al:Zq (∀ w,Below w1.heap.size w1 w->w.cell? ⟨T.O.blk,1,none⟩=some (.pointer (some ⟨T.O.sums,0,none⟩))):=λw hb=>(I.o.below hb).own.cell 1 _ rfl
 have HP:Zq (∀ w,Below w1.heap.size w1 w->Calls Tryz.prog 188 #[.pointer (some ⟨T.O.sums,0,none⟩),.agg (af m a c)] w λe w'=>e=.returned (.tuple #[.string (S (aca m).1),.int .i64 (aca m).2])/\Below w.heap.size w w'):=λw hb =>
  put_any T.O.sums m HM.o a c w (I.o.below hb).own.low.1 (I.o.below hb).own.tabs (Strs.below av.o hb)
 have Z:=zq hA;clear hA X;unfold af at F HP ⊢;rw [J] at HP;simp only at HP;clear J;generalize J:bi m=pl at *
 have ab:=zq J;have a8:Zq (∀ w,Below w1.heap.size w1 w->w.cell? ⟨A,0,none⟩=some (.int .i64 m.kind)):=λw hb=>F.o w hb 0 _ rfl
 refine GrowN.aj 11 [none,none,none,none,some (.inl (.agg #[.int .i64 m.kind,.int .i64 m.queue,.int .i64 m.due,.int .i64 m.retry,.int .i64 m.ref,.int .i64 m.born,.string (S m.topic),.string (S m.tag),.string (S m.body),.slice a m.keys.length c])),some (.inl (.tuple #[.string (S pl),.int .i64 0])),none,none,none,none,none] (RecW.ExtR) (by kernel_rfl) (by kernel_rfl) (by kernel_rfl) (RecW.ExtR.refl) (λ_ _ _=>RecW.ExtR.trans) ?_ ?_
 . exact GrowN.jg rfl
 simp only [List.take_succ_cons,List.take_zero,List.drop_succ_cons,List.drop_zero]
 iterate 3
  refine GrowN.g_det rfl ?_;apply Exists.intro;refine ⟨λw hw M=>?_,?_⟩
  . clear M
    go_simp;exact ⟨rfl,RecW.ExtR.refl _⟩
  go_frame
 refine GrowN.g_det rfl ?_;apply Exists.intro;refine ⟨λw hw M=>?_,?_⟩
 ·
  clear M;have hb:=(Below.refl w1.heap.size w1).drew.trans hw;have c1:=al.o w hb;go_simp;exact ⟨rfl,RecW.ExtR.refl _⟩
 go_frame;refine GrowN.g_con rfl (λw hw M=>?_) ?_
 ·
  clear M;have hb:=(Below.refl w1.heap.size w1).drew.trans hw;have k0:=F.o w hb 0 _ rfl;have k1:=F.o w hb 1 _ rfl;have k2:=F.o w hb 2 _ rfl;have k3:=F.o w hb 3 _ rfl;have k4:=F.o w hb 4 _ rfl;have k5:=F.o w hb 5 _ rfl;have k6:=F.o w hb 6 _ rfl;have k7:=F.o w hb 7 _ rfl;have k8:=F.o w hb 8 _ rfl;have k9:=F.o w hb 9 _ rfl;go_simp;exact RecW.ExtR.refl _
 go_frame;refine GrowN.g_con rfl (λw hw M=>?_) ?_
 ·
  clear M;have hb:=(Below.refl w1.heap.size w1).drew.trans hw;go_simp;exact (HP.o w hb).mono λe w3 h=>⟨_,h.1,rfl,h.2⟩
 iterate 5
  go_frame;refine GrowN.g_det rfl ?_;apply Exists.intro;refine ⟨λw hw M=>?_,?_⟩
  . clear M
    go_simp;exact ⟨rfl,RecW.ExtR.refl _⟩
 go_frame;refine GrowN.g_nil λw2 an M=>?_
 clear M;have N:=zq ((Below.refl w1.heap.size w1).drew.trans an);clear an F al;have k0:w2.cell? ⟨A,0,none⟩=some (.int .i64 m.kind):=a8.o w2 N.o;have c0:w2.cell? ⟨T.O.blk,0,none⟩=some (.pointer (some ⟨T.R.blk,0,none⟩)):=(I.o.below N.o).c0;have ad:=zq (SegW.room_any w2 (I.o.below N.o).whole.seg);rw [ak] at ad;have ao:=zq (λ(w:World)=>ag3 ((jd T.R.e:Nat):Int) (by omega) (by omega) w);rw [decide_eq_true (by omega)] at ao;generalize jd T.R.e=rm at *
 clear ak J HP;go_wp2_with fail;refine ad.o.mono ?_;rintro e w3 ⟨rfl,hd⟩;have U:=zq (N.o.trans (hd.below _));clear hd ad
 by_cases h1:rm=pl.length
 ·
  have HF:Zq (bv T.R.e m=[]):=by show _=_; rw [E.o,if_pos (.inl h1)]
  clear E;subst h1;go_wp2_with fail;go_ret3;refine ⟨by rw [HF.o,ab.o]; rfl,?_⟩;exact B.o.trans (U.o.mono (by have:=B.o.size; have:=Z.o; omega))
 ·
  by_cases h2:pl.length+3<=rm
  ·
   have HF:Zq (bv T.R.e m=[]):=by show _=_; rw [E.o,if_pos (.inr h2)]
   clear E;have ar:¬ ((rm:Int) - (pl.length:Int)=0):=by omega
   have ba:(3:Int)<=(rm:Int) - (pl.length:Int):=by omega
   go_wp2_with fail;go_ret3;refine ⟨by rw [HF.o,ab.o]; rfl,?_⟩;exact B.o.trans (U.o.mono (by have:=B.o.size; have:=Z.o; omega))
  ·
   have HF:Zq (bv T.R.e m=oo (rm:Int)):=by show _=_; rw [E.o,if_neg (λh=>h.elim h1 h2)]
   clear E;have ar:¬ ((rm:Int) - (pl.length:Int)=0):=by omega
   have ba:¬ (3:Int)<=(rm:Int) - (pl.length:Int):=by omega
   go_wp2_with fail
   . exfalso
     rename_i hc
     rcases hc with hc | hc
     . exact ar (eq_of_beq hc)
     . omega
   refine (ao.o w3).mono ?_;rintro e w4 ⟨rfl,hb⟩;have bb:=zq (U.o.trans (hb.mono U.o.size));clear hb;go_wp2_with fail;go_ret3;refine ⟨by rw [HF.o,ab.o]; rfl,?_⟩;exact B.o.trans (bb.o.mono (by have:=B.o.size; have:=Z.o; omega))
def Few (D0 D:DiskD):Prop:=D.files.length+D0.waits.length<=D0.files.length+D.waits.length/\(∀ p∈D.files,p.1.length<=qf.length+8\/∃ q∈D0.files,q.1=p.1)/\D.cap=D0.cap
theorem Few.refl (D:DiskD):Few D D:=⟨Nat.le_refl _,λp hp=>.inr ⟨p,hp,rfl⟩,rfl⟩
theorem Few.app {D0 D D':DiskD} (h:Few D0 D) (k:Few D D'):Few D0 D' :=
 ⟨by have h1:=h.1; have B:=k.1; omega,λp hp=>(k.2.1 p hp).elim .inl λ⟨q,A,e⟩=>e ▸ h.2.1 q A,k.2.2.trans h.2.2⟩
structure Half (base B:Nat) (w:World) (T:TapeD) (f:List UInt8) (D:DiskD) (R:SegD):Prop where
 own:OwnAt base w T.O
 whole:Whole base w D R
 wait:Waiting D R
 quiet:Quiet D
 away:∀ k,T.O.foot k->¬ D.foot k/\¬ R.foot k
 tab:TabB base w
 big:B<=w.heap.size/\base<=B
 rblk:R.blk=T.R.blk
 dblk:D.blk=T.D.blk
 b:R.b=T.R.b
 syn:R.synced=T.R.synced
 head:R.head=qf
 size:R.size=1024
 txt:R.txt=T.R.txt++f
 room:D.room=T.D.room - (f.length:Int)
 foot:∀ k,D.foot k\/R.foot k->T.D.foot k\/T.R.foot k\/B<=k
 lts:∀ k,T.O.foot k->k < B
 other:∀ n,(∀ p,p<=99999999->n≠ah qf p)->D.find n=T.D.find n
 few:Few T.D D
theorem Half.e {base B:Nat} {w:World} {T:TapeD} {f:List UInt8} {D:DiskD} {R:SegD} (h:Half base B w T f D R):R.e=T.R.e+f.length:=by
 unfold SegD.e; rw [h.b,h.txt,List.length_append]; omega
theorem Half.start {base:Nat} {w:World} {T:TapeD} (h:TapeAt base w T) (hq:Quiet T.D) (hT:TabB base w) (hb:base<=w.heap.size):Half base w.heap.size w T [] T.D T.R :=
 ⟨h.own,h.whole,h.wait,hq,h.away,hT,⟨Nat.le_refl _,hb⟩,rfl,rfl,rfl,rfl,h.head,h.size,(List.append_nil _).symm,by simp,λk hk=>hk.elim .inl (λh=>.inr (.inl h)),λk hk=>h.own.lt hk,λ_ _=>rfl,Few.refl _⟩
theorem aai {base B:Nat} {w:World} {T:TapeD} {f:List UInt8} {D:DiskD} {R:SegD} (h:Half base B w T f D R) (s:List UInt8) (h0:s≠[]) (hr:s.length<=jd (T.R.e+f.length)) (hf:(s.length:Int)<=D.room) (hwl:D.waits.length<=1048576) (he:T.R.e+f.length<=99999999) :
 Calls Tryz.prog 116 #[.pointer (some ⟨T.R.blk,0,none⟩),.string (S s)] w λe w'=>e=.returned (.tuple #[.int .i64 ((T.R.e+f.length:Nat):Int),.int .i64 0]) /\
  ∃ D' R',Half base B w' T (f++s) D' R'/\Mod (λk=>T.D.foot k\/T.R.foot k\/B<=k) w w'/\D'.waits.length=D.waits.length+1:=by
 have I:=h.e;have X:=akk h.whole.seg h.size;have hA:=append_ok s w h.tab h.whole (Nat.le_trans h.big.2 h.big.1) h.quiet h0 (by rw [X,I]; exact hr) hf hwl (λ_=>by omega);rw [<- h.rblk,<- I];refine hA.mono ?_;rintro e w' ⟨rfl,U,D',R',hW,A,F,J,M⟩;have e1:R'.b=R.b:=by rw [F]
 have e2:R'.size=R.size:=by rw [F]
 have e3:R'.head=R.head:=by rw [F]
 have e4:R'.synced=R.synced:=by rw [F]
 have e5:R'.txt=R.txt++s:=by rw [F]
 have e6:R'.blk=R.blk:=by rw [F]
 have N:0 < R'.n:=by
  rcases Nat.eq_zero_or_pos R'.n with hz | hp
  . exfalso
    have:=(hW.seg.empty hz).2;rw [e5] at this;exact h0 (List.append_eq_nil_iff.1 this).2
  . exact hp
 have O:Mod (λk=>T.D.foot k\/T.R.foot k\/B<=k) w w':=U.mono (λk _ hk=>h.foot k hk);refine ⟨rfl,D',R',⟨?_,hW,h.wait.app h.whole.seg hW.seg A h0 F N,A.quiet,?_,?_,⟨Nat.le_trans h.big.1 U.size,h.big.2⟩,e6.trans h.rblk,A.blk.trans h.dblk,e1.trans h.b,e4.trans h.syn,e3.trans h.head,e2.trans h.size,?_,?_,?_,h.lts,?_,?_⟩,O,?_⟩
 ·
  refine h.own.mod U (λk hk Y=>?_);have:=h.away k hk
  rcases Y with E | E
  . exact this.1 E
  . exact this.2 E
 ·
  intro k hk;have h1:=h.away k hk;have E:=h.lts k hk;have h3:=h.big.1;refine ⟨λhd=>?_,λhd=>?_⟩
  . rcases J k hd with h4 | h4
    . exact h1.1 h4
    . omega
  . rcases M k hd with h4 | h4
    . exact h1.2 h4
    . omega
 ·
  refine h.tab.mod U (λk hk=>?_)
  rcases hk with h1 | h1
  . exact h.whole.dsk.base_le h1
  . rcases h1 with h1 | h1
    . rw [h1]; exact h.whole.seg.above
    . exact az h.whole.seg.row k h1
 . rw [e5,h.txt,List.append_assoc]
 . rw [A.room,h.room,List.length_append]; omega
 ·
  intro k hk
  rcases hk with h1 | h1
  . rcases J k h1 with E | E
    . exact h.foot k (.inl E)
    . right; right; have:=h.big.1; omega
  . rcases M k h1 with E | E
    . exact h.foot k (.inr E)
    . right; right; have:=h.big.1; omega
 . intro n hn
   rw [A.other n (by rw [h.head]; exact hn)];exact h.other n hn
 ·
  refine h.few.app ⟨?_,λp hp=>by have:=A.names p hp; rw [h.head] at this; exact this,A.cap⟩;obtain ⟨f',o,_,Z⟩:=A.waits;have:=A.files;rw [Z,List.length_append];show _<=D.files.length+(D.waits.length+1);omega
 . obtain ⟨f',o,_,Z⟩:=A.waits
   rw [Z,List.length_append]; rfl
structure Next (T T':TapeD) (x:List TapeMath.Item):Prop where
 blk:T'.O.blk=T.O.blk
 sums:T'.O.sums=T.O.sums
 dblk:T'.D.blk=T.D.blk
 b:T'.R.b=T.R.b
 syn:T'.R.synced=T.R.synced
 its:T'.its=T.its++x
 quiet:Quiet T'.D
 room:T'.D.room=T.D.room - ((gq x).length:Int)
 waits:T'.D.waits≠[]
 wl:T'.D.waits.length<=T.D.waits.length+2
 other:∀ n,(∀ p,p<=99999999->n≠ah qf p)->T'.D.find n=T.D.find n
 few:Few T.D T'.D
theorem uu (e:Nat) (m:Msg):gq (oh e m)=bv e m++bi m:=by
 unfold oh bv
 split
 . simp [gq,TapeMath.Item.bytes]
 . simp [gq,TapeMath.Item.bytes]
theorem ach (e:Nat) (m:Msg):gz e (oh e m)=[(e+(bv e m).length,m)]:=by
 unfold oh bv
 split
 . rfl
 . rfl
theorem ad6 (e:Nat) (m:Msg) (h:3<=jd e):(bv e m=[]/\((bi m).length<=jd e))\/((bv e m).length=jd e/\bv e m≠[]/\jd (e+(bv e m).length)=1024):=by
 unfold bv;have B:=room_le e
 split
 . rename_i h1; exact .inl ⟨rfl,by omega⟩
 ·
  right
  have A:=adp h (B.2);refine ⟨A,λh=>?_,?_⟩
  . rw [h] at A; simp at A; omega
  . rw [A]; unfold jd; omega
theorem agb {base:Nat} {w:World} {T:TapeD} (h:TapeAt base w T):3<=jd T.R.e:=by
 have A:=ads h.fits (by have:=h.whole.seg.mult; rw [h.size] at this; exact this);rw [<- h.txt] at A;exact A
theorem zb {base:Nat} {w:World} {T:TapeD} (h:TapeAt base w T):T.R.e=T.R.b+(gq T.its).length:=by unfold SegD.e; rw [h.txt]
theorem Half.done {base B:Nat} {w w':World} {T:TapeD} {D:DiskD} {R:SegD} {idv:Value} {m:Msg} (h0:TapeAt base w T) (hr:bq m=true) (hk:m.kind≠0) (h:Half base B w' T (bv T.R.e m++bi m) D R)
 {w2:World} (ho:OwnAt base w2 (T.O.add idv (T.R.e+(bv T.R.e m).length) m)) (hm:Mod T.O.foot w' w2) (hi:∀ k,idv.ownBlock=some k->T.O.foot k\/w'.heap.size<=k) :
 TapeAt base w2 ⟨T.O.add idv (T.R.e+(bv T.R.e m).length) m,D,R,T.its++oh T.R.e m⟩/\∀ k,TapeD.foot ⟨T.O.add idv (T.R.e+(bv T.R.e m).length) m,D,R,T.its++oh T.R.e m⟩ k->T.foot k\/B<=k:=by
 have I:=zb h0
 have E:∀ k,(T.O.add idv (T.R.e+(bv T.R.e m).length) m).foot k->T.O.foot k\/w'.heap.size<=k:=λk hk=>by
  rcases hk with hk | hk | hk | hk
  . exact .inl (.inl hk)
  . exact .inl (.inr (.inl hk))
  . exact .inl (.inr (.inr (.inl hk)))
  . exact hi k hk
 refine ⟨⟨ho,h0.rb.trans h.rblk.symm,?_,λk hk=>?_,h.whole.mod hm (λk hk F=>(h.away k F).1 hk) (λk hk F=>(h.away k F).2 hk),h.head,h.size,?_,?_,?_,h.wait⟩,λk hk=>?_⟩
 . show T.O.recs++[_]=gz R.b (T.its++oh T.R.e m)
   rw [h.b,adq,<- I,ach,h0.recs]
 . rcases E k hk with h1 | h1
   . exact h.away k h1
   . exact ⟨λA=>by have:=h.whole.dsk.lt A; omega,λA=>by have:=h.whole.seg.lt A; omega⟩
 . show R.txt=gq (T.its++oh T.R.e m)
   rw [h.txt,uj,uu,h0.txt]
 . show Fits R.b (T.its++oh T.R.e m)
   rw [h.b,I];exact ak7 h0.fits (by have:=h0.whole.seg.mult; rw [h0.size] at this; exact this) hr hk
 ·
  intro p hp;have e:(T.O.recs++[(T.R.e+(bv T.R.e m).length,m)]).getLast?=some p:=hp;rw [List.getLast?_append] at e;simp at e;rw [<- e]; rfl
 ·
  rcases hk with h1 | h1 | h1
  . rcases E k h1 with A | A
    . exact .inl (.inl A)
    . right; have:=h.big.1; omega
  . rcases h.foot k (.inl h1) with A | A | A
    . exact .inl (.inr (.inl A))
    . exact .inl (.inr (.inr A))
    . exact .inr A
  . rcases h.foot k (.inr h1) with A | A | A
    . exact .inl (.inr (.inl A))
    . exact .inl (.inr (.inr A))
    . exact .inr A
theorem asi {base:Nat} {w:World} {T:TapeD} (h:TapeAt base w T) (n:Nat):∀ p∈T.O.recs,p.1≠T.R.e+n:=by
 intro p hp e;rw [h.recs] at hp;obtain ⟨id,m⟩:=p;obtain ⟨a,c,h1,A⟩:=adr h.fits hp;have B:=aka h.fits hp;have E:=zb h;have F:0 < (bi m).length:=by unfold bi; rw [List.cons_append,List.length_cons]; omega
 simp only at e;omega
theorem append_ok {base:Nat} {T:TapeD} (m:Msg) (hm:uq m) (hr:bq m=true) (h0:m.kind≠0) (a:Option Addr) (c:Nat) (W:World) (h:TapeAt base W T) (hS:Strs W a (m.keys.map S)) (hq:Quiet T.D) (hT:TabB base W) (hbase:base<=W.heap.size)
 (hroom:(((bv T.R.e m).length+(bi m).length:Nat):Int)<=T.D.room) (hwl:T.D.waits.length<=1000000) (hfar:T.R.e<=90000000) (hrl:T.O.recs.length<=1000000) :
 Calls Tryz.prog 50 #[.pointer (some ⟨T.O.blk,0,none⟩),.agg (af m a c)] W λe w'=>e=.returned (.tuple #[.int .i64 ((T.R.e+(bv T.R.e m).length:Nat):Int),.int .i64 0]) /\
  ∃ T',TapeAt base w' T'/\Next T T' (oh T.R.e m)/\Mod T.foot W w'/\∀ k,T'.foot k->T.foot k\/W.heap.size<=k:=by
 have E:Zq (Below W.heap.size W (W.alloc (.cells (af m a c) 71))):=(Below.refl _ W).alloc (Nat.le_refl _) _;have ad:Zq (RecW.Boxed (W.alloc (.cells (af m a c) 71)) W.heap.size (af m a c)):=RecW.Boxed.new W _ _;have ce:W.heap.size < (W.alloc (.cells (af m a c) 71)).heap.size:=by rw [World.size_alloc]; omega
 have ar:=zq (h.below E.o);have cf:=zq (Strs.below hS E.o);have ao:=zq (hT.below E.o);have cg:Zq (∀ k,T.foot k->k < W.heap.size):=λk hk=>h.lt hk
 have ci:(af m a c).size=10:=rfl;have bl:=agb h;obtain ⟨av,dp⟩:=vv hr h0;have bm:=ad6 T.R.e m bl;have ap:=room_le T.R.e;have bo:=zq (asi h (bv T.R.e m).length);have HM:=zq hm;have HR:=zq hr;have H0:=zq h0;have HH:=zq h;have HQ:=zq hq;have ds:=au;have dt:=RecW.S_toList;have a1:bi m≠[]:=λe=>by rw [e] at av; simp at av; omega
 have dl:(bi m).isEmpty=false:=by cases B:bi m with | nil=>exact absurd B a1 | cons _ _=>rfl
 clear h hS hm hT hr h0 hq av bl;go_enter Tryz.func50,Tryz.ntmps50;go_upto_region 1 with fail
 generalize W.alloc (.cells (af m a c) 71)=w1 at *
 clear ci;obtain ⟨A,hA⟩:∃ A,W.heap.size=A:=⟨_,rfl⟩;rw [hA] at ad ce ⊢;have cn:=zq hA;have a6:=zq (aqs m HM.o HR.o H0.o a c w1 ar.o cf.o);have a7:Zq (af m a c=#[.int .i64 m.kind,.int .i64 m.queue,.int .i64 m.due,.int .i64 m.retry,.int .i64 m.ref,.int .i64 m.born,.string (S m.topic),.string (S m.tag),.string (S m.body),.slice a m.keys.length c]):=rfl;rw [a7.o] at a6;obtain ⟨k0,k1,k2,k3,k4,k5,k6,k7,k8,k9⟩:=RecW.oz ad.o;clear hA;go_wp2_with fail;refine a6.o.mono ?_;rintro e w2 ⟨rfl,hb⟩;have a8:=zq hb;have J:=zq (ar.o.below hb);have c0:w2.cell? ⟨T.O.blk,0,none⟩=some (.pointer (some ⟨T.R.blk,0,none⟩)):=J.o.c0;have s0:w2.cell? ⟨T.R.blk,0,none⟩=some (.pointer (some ⟨T.D.blk,0,none⟩)):=J.o.whole.seg.cell 0 _ (by rw [<- J.o.whole.db]; rfl);have ba:=zq (abo w2 J.o.whole.dsk);rw [HQ.o.up] at ba;have br:=zq (DskW.room_any w2 J.o.whole.dsk);clear hb a6 k0 k1 k2 k3 k4 k5 k6 k7 k8 k9;generalize hpl:bi m=pl at *
 generalize hfo:bv T.R.e m=fo at *
 have co:¬ T.D.room < (fo.length:Int)+(pl.length:Int):=by omega
 have cp:=zq co;have M:=zq hroom;generalize hdr:T.D.room=dr at *
 have Y:=zq hdr;clear hdr hroom cp;go_wp2_with fail;refine ba.o.mono ?_;rintro e d8 ⟨rfl,rfl⟩;go_wp2_with fail;refine br.o.mono ?_;rintro e w3 ⟨rfl,hb⟩;have F:=zq (a8.o.trans (hb.mono a8.o.size));have bs:=zq (J.o.below hb);have bw:=zq (ao.o.below F.o);have bb:A < w3.heap.size:=by have:=F.o.size; omega
 have bz:Zq (RecW.Boxed w3 A (af m a c)):=ad.o.below F.o;have b0:=zq (Half.start bs.o HQ.o bw.o (by have:=F.o.size; have:=E.o.size; omega));have cq:w3.cell? ⟨T.O.blk,0,none⟩=some (.pointer (some ⟨T.R.blk,0,none⟩)):=bs.o.c0;clear hb ba br a8 J ar ad c0 s0 ao
 have dn:fo.length<=1024:=by
  rcases bm with ⟨hz,_⟩ | ⟨hz,_⟩
  . rw [hz]; exact Nat.zero_le _
  . omega
 have bc:Zq (¬ (T.D.foot A\/T.R.foot A\/w3.heap.size<=A)):=λhk=>by
  have h1:=cg.o A;have h2:=cn.o
  rcases hk with hk | hk | hk
  . have:=h1 (.inr (.inl hk)); omega
  . have:=h1 (.inr (.inr hk)); omega
  . omega
 rcases bm with ⟨hfe,hfit⟩ | ⟨hf1,hf2,hf3⟩
 ·
  have b1:fo.isEmpty=true:=by rw [hfe]; rfl
  have Z:Zq (Calls Tryz.prog 116 #[.pointer (some ⟨T.R.blk,0,none⟩),.string (S pl)] w3 λe w'=>e=.returned (.tuple #[.int .i64 ((T.R.e:Nat):Int),.int .i64 0]) /\
   ∃ D' R',Half base w3.heap.size w' T pl D' R'/\Mod (λk=>T.D.foot k\/T.R.foot k\/w3.heap.size<=k) w3 w'/\D'.waits.length=T.D.waits.length+1) :=
   aai b0.o pl a1 (by simpa using hfit) (by rw [Y.o]; have:=M.o; omega) (by omega) (by simp; omega)
  have ak:=zq hfe;have ab:=zq hpl;have N:=zq hfo;clear hfe hpl hfo ap hwl hfit;go_wp2_with fail
  any_goals (exfalso; rename_i bd; rw [IntWalk.wrap64_in _ (by omega)] at bd; omega)
  refine Z.o.mono ?_;rintro e w4 ⟨rfl,D',R',B,I,ac⟩
  have b2:∀ (i:Nat) (v:Value),(af m a c)[i]?=some v->w4.cell? ⟨A,i,none⟩=some v:=λi v hv=>by
   rw [I.cell (p:=⟨A,i,none⟩) bb (λhk=>bc.o hk)];exact bz.o i v hv
  obtain ⟨m0,m1,m2,m3,m4,m5,m6,m7,m8,m9⟩:=RecW.oz b2;have U:=zq (aha T.R.e m a c w4 B.own H0.o (by have:=bo.o; rw [ak.o] at this; exact this) (by omega) (Nat.le_trans B.big.2 B.big.1));rw [a7.o,ab.o] at U;have cr:=zq B;have bh:=zq I;have al:=zq ac;clear B I ac b2 Z;go_wp2_with fail;refine U.o.mono ?_;rintro e w5 ⟨rfl,idv,ho,X,hi⟩;have cs:=zq ho;have an:=zq X;have cv:=zq hi;clear ho X hi U m0 m1 m2 m3 m4 m5 m6 m7 m8 m9;go_wp2_with fail;go_ret2;refine ⟨by rw [N.o,ak.o]; rfl,?_⟩;have B:Half base w3.heap.size w4 T (bv T.R.e m++bi m) D' R':=by rw [N.o,ak.o,ab.o]; exact cr.o
  have ho:OwnAt base w5 (T.O.add idv (T.R.e+(bv T.R.e m).length) m):=by rw [N.o,ak.o]; exact cs.o
  obtain ⟨q1,q2⟩:=Half.done HH.o HR.o H0.o B ho an.o cv.o;have cy:W.heap.size<=w3.heap.size:=by have h1:=E.o.size; have h2:=F.o.size; omega
  have bj:Mod T.foot W w3:=Mod.of_below (E.o.trans (F.o.mono E.o.size));refine ⟨_,q1,⟨rfl,rfl,B.dblk,B.b,B.syn,rfl,B.quiet,by rw [uu]; exact B.room,λe=>?_,?_,B.other,B.few⟩,?_,λk hk=>(q2 k hk).imp_right λh=>by omega⟩
  . have h1:=al.o
    have h2:D'.waits=[]:=e;rw [h2] at h1; simp at h1
  . have h1:=al.o
    show D'.waits.length<=_;omega
  . refine iw (iw bj bh.o (λk hk=>hk.elim (λh=>.inl (.inr (.inl h))) λh=>h.elim (λh=>.inl (.inr (.inr h))) λh=>.inr (by omega))) an.o (λk hk=>.inl (.inl hk))
 ·
  have b1:fo.isEmpty=false:=by cases B:fo with | nil=>exact absurd B hf2 | cons _ _=>rfl
  have Z:Zq (Calls Tryz.prog 116 #[.pointer (some ⟨T.R.blk,0,none⟩),.string (S fo)] w3 λe w'=>e=.returned (.tuple #[.int .i64 ((T.R.e:Nat):Int),.int .i64 0]) /\
   ∃ D' R',Half base w3.heap.size w' T fo D' R'/\Mod (λk=>T.D.foot k\/T.R.foot k\/w3.heap.size<=k) w3 w'/\D'.waits.length=T.D.waits.length+1) :=
   aai b0.o fo hf2 (by show fo.length<=jd T.R.e; omega) (by rw [Y.o]; have:=M.o; omega) (by omega) (by simp; omega)
  have ab:=zq hpl;have N:=zq hfo;have c6:=zq hf3;have c7:=zq hwl;clear hpl hfo ap hf1 hf2 hf3 hwl;go_wp2_with fail
  any_goals (exfalso; rename_i bd; rw [IntWalk.wrap64_in _ (by omega)] at bd; omega)
  refine Z.o.mono ?_;rintro e w4 ⟨rfl,D1,R1,B,I,ac⟩
  have b6:∀ (i:Nat) (v:Value),(af m a c)[i]?=some v->w4.cell? ⟨A,i,none⟩=some v:=λi v hv=>by
   rw [I.cell (p:=⟨A,i,none⟩) bb (λhk=>bc.o hk)];exact bz.o i v hv
  have c8:=zq b6;have da:Zq (A < w4.heap.size):=Nat.lt_of_lt_of_le bb I.size;have dc:w4.cell? ⟨T.O.blk,0,none⟩=some (.pointer (some ⟨T.R.blk,0,none⟩)):=B.own.cell 0 _ (by rw [<- HH.o.rb]; rfl);have b7:=zq (aai B pl a1 (by rw [c6.o]; omega) (by rw [B.room,Y.o]; have:=M.o; omega) (by have:=c7.o; omega) (by omega));have bh:=zq I;have al:=zq ac;clear B I ac b6 Z cq;generalize hee:T.R.e+fo.length=ee at *
  have b8:=zq hee;clear hee;go_wp2_with fail;refine b7.o.mono ?_;rintro e w5 ⟨rfl,D',R',B,X,b9⟩
  have ca:∀ (i:Nat) (v:Value),(af m a c)[i]?=some v->w5.cell? ⟨A,i,none⟩=some v:=λi v hv=>by
   rw [X.cell (p:=⟨A,i,none⟩) da.o (λhk=>bc.o hk)];exact c8.o i v hv
  obtain ⟨m0,m1,m2,m3,m4,m5,m6,m7,m8,m9⟩:=RecW.oz ca;have U:=zq (aha ee m a c w5 B.own H0.o bo.o (by omega) (Nat.le_trans B.big.2 B.big.1));rw [a7.o,ab.o] at U;have dd:=zq B;have an:=zq X;have cb:=zq b9;clear B X b9 ca b7 dc;go_wp2_with fail;refine U.o.mono ?_;rintro e w6 ⟨rfl,idv,ho,cc,hi⟩;have de:=zq ho;have cd:=zq cc;have dj:=zq hi;clear ho cc hi U m0 m1 m2 m3 m4 m5 m6 m7 m8 m9;go_wp2_with fail;go_ret2;refine ⟨by rw [N.o,b8.o]; rfl,?_⟩;have B:Half base w3.heap.size w5 T (bv T.R.e m++bi m) D' R':=by rw [N.o,ab.o]; exact dd.o
  have ho:OwnAt base w6 (T.O.add idv (T.R.e+(bv T.R.e m).length) m):=by rw [N.o,b8.o]; exact de.o
  obtain ⟨q1,q2⟩:=Half.done HH.o HR.o H0.o B ho cd.o dj.o;have cy:W.heap.size<=w3.heap.size:=by have h1:=E.o.size; have h2:=F.o.size; omega
  have bj:Mod T.foot W w3:=Mod.of_below (E.o.trans (F.o.mono E.o.size));refine ⟨_,q1,⟨rfl,rfl,B.dblk,B.b,B.syn,rfl,B.quiet,by rw [uu]; exact B.room,λe=>?_,?_,B.other,B.few⟩,?_,λk hk=>(q2 k hk).imp_right λh=>by omega⟩
  . have h1:=cb.o
    have h2:D'.waits=[]:=e;rw [h2] at h1; simp at h1
  . have h1:=cb.o
    have h3:=al.o;show D'.waits.length<=_;omega
  . refine iw (iw (iw bj bh.o (λk hk=>hk.elim (λh=>.inl (.inr (.inl h))) λh=>h.elim (λh=>.inl (.inr (.inr h))) λh=>.inr (by omega))) an.o (λk hk=>hk.elim (λh=>.inl (.inr (.inl h))) λh=>h.elim (λh=>.inl (.inr (.inr h))) λh=>.inr (by omega))) cd.o (λk hk=>.inl (.inl hk))
theorem sync_any {base:Nat} {T:TapeD} (w:World) (h:TapeAt base w T) (hq:Quiet T.D) (hT:TabB base w) (hbase:base<=w.heap.size) (hwl:T.D.waits.length<=1048576) (hn:T.R.n<=1048576) :
 Calls Tryz.prog 52 #[.pointer (some ⟨T.O.blk,0,none⟩)] w λe w'=>e=.returned (.int .i64 0)/\∃ wv,TapeAt base w' { T with D:=T.R.syncD T.D wv,R:={ T.R with synced:=T.R.e } }/\Mod T.foot w w'/\(T.R.syncD T.D wv).waits=[]/\Quiet (T.R.syncD T.D wv)/\(∀ k,(T.R.syncD T.D wv).foot k↔T.D.foot k):=by
 have U:=zq (SegW.sync_any w hT h.whole hq hbase hwl hn);have c0:=h.c0;have Z:=zq h;have I:=zq hq;clear h hq hT;go_enter Tryz.func52,Tryz.ntmps52;go_wp2_with fail;refine U.o.mono ?_;rintro e w' ⟨rfl,wv,B,hW,X⟩;have HW:=zq hW;have Y:=zq X;have J:=zq B;clear hW X B U;go_wp2_with fail;go_ret;have h:=Z.o
 have E:∀ k,(T.R.syncD T.D wv).foot k↔T.D.foot k:=λk=>by
  unfold SegD.syncD
  split
  . exact Iff.rfl
  . exact uo J.o k
 have F:=h.wait.sync h.whole.seg h.whole.dsk wv
 have M:Quiet (T.R.syncD T.D wv):=by
  unfold SegD.syncD
  split
  . exact I.o
  . exact ⟨I.o.left,I.o.up⟩
 refine ⟨rfl,wv,⟨h.own.mod Y.o (λk hk N=>?_),h.rb,h.recs,λk hk=>⟨λA=>(h.away k hk).1 ((E k).1 A),λA=>(h.away k hk).2 A⟩,HW.o,h.head,h.size,h.txt,h.fits,h.last,Waiting.none F⟩,Y.o.mono (λk _ hk=>.inr hk),F,M,E⟩;have:=h.away k hk
 rcases N with A | A
 . exact this.1 A
 . exact this.2 A
theorem abx (m:Msg):1<=(bi m).length:=by unfold bi; rw [List.cons_append,List.length_cons]; omega
theorem aaj {base:Nat} {w:World} {T:TapeD} (h:TapeAt base w T) {id:Nat} {m:Msg} (hm:(id,m)∈T.O.recs):bq m=true/\m.kind≠0/\T.R.b<=id/\id+(bi m).length<=T.R.e/\id % 1024+(bi m).length<=1024/\((T.R.txt.drop (id - T.R.b)).take (bi m).length)=bi m:=by
 rw [h.recs] at hm;obtain ⟨a,c,h1,E⟩:=adr h.fits hm;have A:=h.fits;rw [h1] at A;have B:=A.at;rw [<- E] at B;obtain ⟨l1,l2,J⟩:=B;have F:=aka h.fits hm;have M:=zb h;refine ⟨l1.1,l1.2,F.2,by omega,l2,?_⟩;have I:=ak6 (a:=a) (c:=c) (x:=TapeMath.Item.one m) (bi m).length (Nat.le_refl _);rw [h.txt,h1,show id - T.R.b=(gq a).length by omega,I];show bi m++(gq c).take ((bi m).length - (bi m).length)=bi m;simp
theorem aof {base:Nat} {w:World} {T:TapeD} (h:TapeAt base w T) (hup:T.D.down=false) {id:Nat} {m:Msg} (hm:(id,m)∈T.O.recs):T.R.readT T.D (id:Int) ((bi m).length:Int)=bi m/\T.R.readE T.D (id:Int) ((bi m).length:Int)=0:=by
 obtain ⟨h1,E,F,I,J,A⟩:=aaj h hm;have hp:=abx m
 have B:((bi m).length:Int)<=T.R.left (id:Int):=by
  unfold SegD.left;rw [h.size,if_neg (by omega),Int.toNat_natCast];have:id / 1024 * 1024+1024=id - id % 1024+1024:=by omega
  omega
 have hb:T.R.readB (id:Int) ((bi m).length:Int)=true:=by
  unfold SegD.readB;rw [decide_eq_true (by omega),decide_eq_true B]; rfl
 constructor
 . unfold SegD.readT
   rw [if_pos ⟨hup,hb⟩,Int.toNat_natCast,Int.toNat_natCast];exact A
 . unfold SegD.readE
   rw [if_neg (by rw [hup]; decide),if_neg (by omega),if_pos hb]
theorem ad7 {l:List (Nat×Msg)} (hn:(l.map (·.1)).Nodup) {id:Nat} {m:Msg} (hm:(id,m)∈l):aa2 l (id:Int)=((bi m).length:Int):=by
 unfold aa2
 cases hf:l.find? (λp=>decide ((p.1:Int)=(id:Int))) with
 | none=>exact absurd (List.find?_eq_none.1 hf _ hm) (by simp)
 | some q =>
   obtain ⟨h1,a,b,A,B⟩:=List.find?_eq_some_iff_append.1 hf
   have E:q.1=id:=by
    have:(q.1:Int)=(id:Int):=by simpa using h1
    omega
   have:q=(id,m):=by
    subst A
    rcases List.mem_append.1 hm with hx | hx
    . have:=B _ hx; simp at this
    . rcases List.mem_cons.1 hx with hx | hx
      . exact hx.symm
      . rw [List.map_append,List.map_cons] at hn
        have:=(List.nodup_cons.1 (List.nodup_append.1 hn).2.1).1;exact absurd (List.mem_map.2 ⟨_,hx,rfl⟩) (by rw [E] at this; exact this)
   rw [this]; rfl
theorem aa9 {base:Nat} {w:World} {T:TapeD} (h:TapeAt base w T):(T.O.recs.map (·.1)).Nodup:=by
 rw [h.recs];exact (ng h.fits).2.imp (λh=>Nat.ne_of_lt h)
theorem aci {base:Nat} {T:TapeD} (id:Nat) (m:Msg) (W:World) (h:TapeAt base W T) (hup:T.D.down=false) (hT:TabB base W) (hbase:base<=W.heap.size) (hm:(id,m)∈T.O.recs) :
 Calls Tryz.prog 33 #[.pointer (some ⟨T.O.blk,0,none⟩),.int .i64 (id:Int)] W λe w'=>∃ a c,e=.returned (.tuple #[.agg (af m a c),.int .i64 0])/\Strs w' a (m.keys.map S)/\Below W.heap.size W w'/\∀ M,a=some M->W.heap.size<=M.block:=by
 obtain ⟨r1,r2⟩:=aof h hup hm;obtain ⟨g1,g2,g3,g4,g5,g6⟩:=aaj h hm;obtain ⟨bk,bl⟩:=vv g1 g2;have hp:=abx m;have al:=ad7 (aa9 h) hm;have b2:=h.whole.seg.e_le;obtain ⟨w1,Z⟩:∃ w1:World,w1=W.alloc (.cells #[.int .i64 0,.int .i64 0,.int .i64 0,.int .i64 0,.int .i64 0,.int .i64 0,.string ⟨#[]⟩,.string ⟨#[]⟩,.string ⟨#[]⟩,.slice none 0 0] 71):=⟨_,rfl⟩;have ab:Below W.heap.size W w1:=by rw [Z]; exact (Below.refl _ _).alloc (Nat.le_refl _) _
 have A:=zq (h.below ab);have bm:=zq (hT.below ab);have X:Zq (w1.heap[W.heap.size]?=some (.cells (af om none 0) 71 (0,0))):=by rw [Z]; exact heap_alloc_new W _
 have am:Zq (Below W.heap.size W w1):=ab;have ao:=zq (SegW.begin_any w1 A.o.whole.seg);have c0:w1.cell? ⟨T.O.blk,0,none⟩=some (.pointer (some ⟨T.R.blk,0,none⟩)):=A.o.c0;have c3:w1.cell? ⟨T.O.blk,3,none⟩=some (.map (some T.O.mB)):=A.o.own.cell 3 _ rfl;have bo:=aga A.o.own (id:Int);rw [al] at bo;have ap:Zq (∀ w,Below w1.heap.size w1 w->w.cell? ⟨T.O.blk,0,none⟩=some (.pointer (some ⟨T.R.blk,0,none⟩))):=λw hb=>(A.o.below hb).c0
 have bp:Zq (∀ w,Below w1.heap.size w1 w->w.cell? ⟨T.O.blk,1,none⟩=some (.pointer (some ⟨T.O.sums,0,none⟩))):=λw hb=>(A.o.below hb).own.cell 1 _ rfl
 have ar:Zq (∀ w,Below w1.heap.size w1 w->w.cell? ⟨T.O.blk,3,none⟩=some (.map (some T.O.mB))):=λw hb=>(A.o.below hb).own.cell 3 _ rfl
 have av:Zq (∀ w,Below w1.heap.size w1 w->(Instr.lookup 151 (.map (some T.O.mB)) (.int .i64 (id:Int)) false).run Tryz.prog w=.ok (.int .i64 ((bi m).length:Int)) w):=λw hb=>by
  have:=aga (A.o.below hb).own (id:Int);rw [al] at this; exact this
 have a1:Zq (∀ w,Below w1.heap.size w1 w->Calls Tryz.prog 71 #[.pointer (some ⟨T.R.blk,0,none⟩),.int .i64 (id:Int),.int .i64 ((bi m).length:Int)] w λe w'=>e=.returned (.tuple #[.string (S (bi m)),.int .i64 0])/\Below w.heap.size w w'):=λw hb=>by
  have:=SegW.read_any (id:Int) ((bi m).length:Int) (by omega) (by omega) w (bm.o.below hb).tab (A.o.below hb).whole.seg (A.o.below hb).whole.dsk h.whole.db h.whole.ok;rw [r1,r2] at this; exact this
 have a6:Zq (∀ w,Below w1.heap.size w1 w->Calls Tryz.prog 72 #[.pointer (some ⟨T.O.sums,0,none⟩),.string (S (bi m))] w λe w'=>∃ a c,e=.returned (.tuple #[.agg #[.int .i64 m.kind,.int .i64 m.queue,.int .i64 m.due,.int .i64 m.retry,.int .i64 m.ref,.int .i64 m.born,.string (S m.topic),.string (S m.tag),.string (S m.body),.slice a m.keys.length c],.int .i64 ((bi m).length:Int),.int .i64 0])/\Strs w' a (m.keys.map S)/\Below w.heap.size w w'/\∀ M,a=some M->w.heap.size<=M.block):=λw hb=>by
  have:=get_one T.O.sums m g1 g2 [] (by simp) w (A.o.below hb).own.low.1 (A.o.below hb).own.tabs;rw [List.append_nil] at this; exact this
 have b3:¬ (id:Int) < (T.R.b:Int):=by omega
 have b4:¬ ((bi m).length:Int)=0:=by omega
 clear h hT hm r1 r2 g1 g2 g4 g5 g6 bk al ab bl hup;generalize hpl:bi m=pl at *
 clear hpl;go_enter Tryz.func33,Tryz.ntmps33;go_upto_region 1 with fail
 rw [<- Z];obtain ⟨Bt,an⟩:∃ B,W.heap.size=B:=⟨_,rfl⟩;rw [an] at X ⊢;have br:=zq an;clear Z an;go_wp2_with fail;refine ao.o.mono ?_;rintro e w1 ⟨rfl,rfl⟩;clear ao;go_wp2_with fail;refine GrowN.aj 17 [none,none,none,none,none,none,none,none,none,none,none,some (.inl (.tuple #[.string (S pl),.int .i64 0])),none,none,none,none,none] (RecW.ExtR) (by kernel_rfl) (by kernel_rfl) (by kernel_rfl) (RecW.ExtR.refl) (λ_ _ _=>RecW.ExtR.trans) ?_ ?_
 . exact GrowN.jg rfl
 simp only [List.take_succ_cons,List.take_zero,List.drop_succ_cons,List.drop_zero]
 iterate 3
  refine GrowN.g_det rfl ?_;apply Exists.intro;refine ⟨λw Y J=>?_,?_⟩
  . clear J
    go_simp;exact ⟨rfl,RecW.ExtR.refl _⟩
  go_frame
 refine GrowN.g_det rfl ?_;apply Exists.intro;refine ⟨λw Y J=>?_,?_⟩
 ·
  clear J;have hb:=(Below.refl w1.heap.size w1).drew.trans Y;have c0:=ap.o w hb;go_simp;exact ⟨rfl,RecW.ExtR.refl _⟩
 iterate 4
  go_frame;refine GrowN.g_det rfl ?_;apply Exists.intro;refine ⟨λw Y J=>?_,?_⟩
  . clear J
    go_simp;exact ⟨rfl,RecW.ExtR.refl _⟩
 go_frame;refine GrowN.g_det rfl ?_;apply Exists.intro;refine ⟨λw Y J=>?_,?_⟩
 ·
  clear J;have hb:=(Below.refl w1.heap.size w1).drew.trans Y;have c3:=ar.o w hb;go_simp;exact ⟨rfl,RecW.ExtR.refl _⟩
 go_frame;refine GrowN.g_det rfl ?_;apply Exists.intro;refine ⟨λw Y J=>?_,?_⟩
 . clear J
   go_simp;exact ⟨rfl,RecW.ExtR.refl _⟩
 go_frame;refine GrowN.g_det rfl ?_;apply Exists.intro;refine ⟨λw Y J=>?_,?_⟩
 ·
  clear J;have hb:=(Below.refl w1.heap.size w1).drew.trans Y;have hl:=av.o w hb;go_simp;exact ⟨rfl,RecW.ExtR.refl _⟩
 go_frame;refine GrowN.g_con rfl (λw Y J=>?_) ?_
 ·
  clear J;have hb:=(Below.refl w1.heap.size w1).drew.trans Y;go_simp;exact (a1.o w hb).mono λe w3 h=>⟨_,h.1,rfl,h.2⟩
 iterate 5
  go_frame;refine GrowN.g_det rfl ?_;apply Exists.intro;refine ⟨λw Y J=>?_,?_⟩
  . clear J
    go_simp;exact ⟨rfl,RecW.ExtR.refl _⟩
 go_frame;refine GrowN.g_nil λw2 a7 J=>?_
 clear J;have N:=zq ((Below.refl w1.heap.size w1).drew.trans a7);clear a7 ap ar av a1;have c1:=bp.o w2 N.o;go_wp2_with fail;refine (a6.o w2 N.o).mono ?_;rintro e U ⟨a,c,rfl,a8,hb,ba⟩;have ac:=zq (N.o.trans (hb.mono N.o.size));have bb:=zq a8;have bc:Zq (∀ M,a=some M->w1.heap.size<=M.block):=λM e=>Nat.le_trans N.o.size (ba M e)
 clear hb a8 ba a6 c1 N c0 c3;go_upto_region 11 with fail
 have ak:Zq (Below U.heap.size U (U.alloc (.cells #[.int .i64 m.kind,.int .i64 m.queue,.int .i64 m.due,.int .i64 m.retry,.int .i64 m.ref,.int .i64 m.born,.string (S m.topic),.string (S m.tag),.string (S m.body),.slice a m.keys.length c] 71))):=(Below.refl U.heap.size U).alloc (Nat.le_refl _) _
 have E:Zq ((U.alloc (.cells #[.int .i64 m.kind,.int .i64 m.queue,.int .i64 m.due,.int .i64 m.retry,.int .i64 m.ref,.int .i64 m.born,.string (S m.topic),.string (S m.tag),.string (S m.body),.slice a m.keys.length c] 71)).heap[Bt]?=some (.cells (af om none 0) 71 (0,0))):=by
  show _=_;have h1:=ac.o.block Bt (Array.getElem?_eq_some_iff.1 X.o).1;rw [ak.o.block Bt (by have:=(Array.getElem?_eq_some_iff.1 X.o).1; have:=ac.o.size; omega),h1]; exact X.o
 have F:Zq ((U.alloc (.cells #[.int .i64 m.kind,.int .i64 m.queue,.int .i64 m.due,.int .i64 m.retry,.int .i64 m.ref,.int .i64 m.born,.string (S m.topic),.string (S m.tag),.string (S m.body),.slice a m.keys.length c] 71)).heap[U.heap.size]?=some (.cells #[.int .i64 m.kind,.int .i64 m.queue,.int .i64 m.due,.int .i64 m.retry,.int .i64 m.ref,.int .i64 m.born,.string (S m.topic),.string (S m.tag),.string (S m.body),.slice a m.keys.length c] 71 (0,0))):=heap_alloc_new U _;have bs:=zq (Strs.below bb.o ak.o);have bd:Zq (Below W.heap.size W (U.alloc (.cells #[.int .i64 m.kind,.int .i64 m.queue,.int .i64 m.due,.int .i64 m.retry,.int .i64 m.ref,.int .i64 m.born,.string (S m.topic),.string (S m.tag),.string (S m.body),.slice a m.keys.length c] 71))):=am.o.trans ((ac.o.trans (ak.o.mono ac.o.size)).mono am.o.size);generalize hw8:U.alloc (.cells #[.int .i64 m.kind,.int .i64 m.queue,.int .i64 m.due,.int .i64 m.retry,.int .i64 m.ref,.int .i64 m.born,.string (S m.topic),.string (S m.tag),.string (S m.body),.slice a m.keys.length c] 71)=w8 at *
 obtain ⟨Bn,bh⟩:∃ B,U.heap.size=B:=⟨_,rfl⟩;rw [bh] at F ⊢;clear bh hw8 bb ak;have k0:w8.cell? ⟨Bt,0,none⟩=some (.int .i64 0):=by rw [Lib.cell_of_heap E.o]; rfl
 have k1:w8.cell? ⟨Bt,1,none⟩=some (.int .i64 0):=by rw [Lib.cell_of_heap E.o]; rfl
 have k2:w8.cell? ⟨Bt,2,none⟩=some (.int .i64 0):=by rw [Lib.cell_of_heap E.o]; rfl
 have k3:w8.cell? ⟨Bt,3,none⟩=some (.int .i64 0):=by rw [Lib.cell_of_heap E.o]; rfl
 have k4:w8.cell? ⟨Bt,4,none⟩=some (.int .i64 0):=by rw [Lib.cell_of_heap E.o]; rfl
 have k5:w8.cell? ⟨Bt,5,none⟩=some (.int .i64 0):=by rw [Lib.cell_of_heap E.o]; rfl
 have k6:w8.cell? ⟨Bt,6,none⟩=some (.string ⟨#[]⟩):=by rw [Lib.cell_of_heap E.o]; rfl
 have k7:w8.cell? ⟨Bt,7,none⟩=some (.string ⟨#[]⟩):=by rw [Lib.cell_of_heap E.o]; rfl
 have k8:w8.cell? ⟨Bt,8,none⟩=some (.string ⟨#[]⟩):=by rw [Lib.cell_of_heap E.o]; rfl
 have k9:w8.cell? ⟨Bt,9,none⟩=some (.slice none 0 0):=by rw [Lib.cell_of_heap E.o]; rfl
 have n0:w8.cell? ⟨Bn,0,none⟩=some (.int .i64 m.kind):=by rw [Lib.cell_of_heap F.o]; rfl
 have n1:w8.cell? ⟨Bn,1,none⟩=some (.int .i64 m.queue):=by rw [Lib.cell_of_heap F.o]; rfl
 have n2:w8.cell? ⟨Bn,2,none⟩=some (.int .i64 m.due):=by rw [Lib.cell_of_heap F.o]; rfl
 have n3:w8.cell? ⟨Bn,3,none⟩=some (.int .i64 m.retry):=by rw [Lib.cell_of_heap F.o]; rfl
 have n4:w8.cell? ⟨Bn,4,none⟩=some (.int .i64 m.ref):=by rw [Lib.cell_of_heap F.o]; rfl
 have n5:w8.cell? ⟨Bn,5,none⟩=some (.int .i64 m.born):=by rw [Lib.cell_of_heap F.o]; rfl
 have n6:w8.cell? ⟨Bn,6,none⟩=some (.string (S m.topic)):=by rw [Lib.cell_of_heap F.o]; rfl
 have n7:w8.cell? ⟨Bn,7,none⟩=some (.string (S m.tag)):=by rw [Lib.cell_of_heap F.o]; rfl
 have n8:w8.cell? ⟨Bn,8,none⟩=some (.string (S m.body)):=by rw [Lib.cell_of_heap F.o]; rfl
 have n9:w8.cell? ⟨Bn,9,none⟩=some (.slice a m.keys.length c):=by rw [Lib.cell_of_heap F.o]; rfl
 have bw:∀ j,w8.frozen? ⟨Bt,j,none⟩=false:=λj=>Lib.frozen_of_heap E.o j
 have HH:=zq (kw (z:=af om none 0) rfl E.o (.int .i64 m.kind) (.int .i64 m.queue) (.int .i64 m.due) (.int .i64 m.retry) (.int .i64 m.ref) (.int .i64 m.born) (.string (S m.topic)) (.string (S m.tag)) (.string (S m.body)) (.slice a m.keys.length c));have bj:=zq (mf w8 Bt (.int .i64 m.kind) (.int .i64 m.queue) (.int .i64 m.due) (.int .i64 m.retry) (.int .i64 m.ref) (.int .i64 m.born) (.string (S m.topic)) (.string (S m.tag)) (.string (S m.body)) (.slice a m.keys.length c));go_wp2_with fail;clear k0 k1 k2 k3 k4 k5 k6 k7 k8 k9 bw n0 n1 n2 n3 n4 n5 n6 n7 n8 n9;change bodyPost _ _ _ _ _ (o9 w8 Bt (.int .i64 m.kind) (.int .i64 m.queue) (.int .i64 m.due) (.int .i64 m.retry) (.int .i64 m.ref) (.int .i64 m.born) (.string (S m.topic)) (.string (S m.tag)) (.string (S m.body)) (.slice a m.keys.length c));generalize o9 w8 Bt (.int .i64 m.kind) (.int .i64 m.queue) (.int .i64 m.due) (.int .i64 m.retry) (.int .i64 m.ref) (.int .i64 m.born) (.string (S m.topic)) (.string (S m.tag)) (.string (S m.body)) (.slice a m.keys.length c)=w9 at *
 have I:=HH.o;have c0:w9.cell? ⟨Bt,0,none⟩=some (.int .i64 m.kind):=by rw [Lib.cell_of_heap I]; rfl
 have c1:w9.cell? ⟨Bt,1,none⟩=some (.int .i64 m.queue):=by rw [Lib.cell_of_heap I]; rfl
 have c2:w9.cell? ⟨Bt,2,none⟩=some (.int .i64 m.due):=by rw [Lib.cell_of_heap I]; rfl
 have c3:w9.cell? ⟨Bt,3,none⟩=some (.int .i64 m.retry):=by rw [Lib.cell_of_heap I]; rfl
 have c4:w9.cell? ⟨Bt,4,none⟩=some (.int .i64 m.ref):=by rw [Lib.cell_of_heap I]; rfl
 have c5:w9.cell? ⟨Bt,5,none⟩=some (.int .i64 m.born):=by rw [Lib.cell_of_heap I]; rfl
 have c6:w9.cell? ⟨Bt,6,none⟩=some (.string (S m.topic)):=by rw [Lib.cell_of_heap I]; rfl
 have c7:w9.cell? ⟨Bt,7,none⟩=some (.string (S m.tag)):=by rw [Lib.cell_of_heap I]; rfl
 have c8:w9.cell? ⟨Bt,8,none⟩=some (.string (S m.body)):=by rw [Lib.cell_of_heap I]; rfl
 have c9:w9.cell? ⟨Bt,9,none⟩=some (.slice a m.keys.length c):=by rw [Lib.cell_of_heap I]; rfl
 have bz:Below W.heap.size W w9:=bd.o.trans (bj.o.to_below _ bd.o.size (λk e=>by rw [e,<- br.o]; exact Nat.le_refl _));refine bodyPost_ret (v:=.tuple #[.agg #[.int .i64 m.kind,.int .i64 m.queue,.int .i64 m.due,.int .i64 m.retry,.int .i64 m.ref,.int .i64 m.born,.string (S m.topic),.string (S m.tag),.string (S m.body),.slice a m.keys.length c],.int .i64 0]) ?_ rfl ⟨a,c,rfl,?_,bz,λM e=>by have h1:=bc.o M e; have h2:=am.o.size; omega⟩
 . clear I
   simp [results,Tryz.results33,go_sem,c0,c1,c2,c3,c4,c5,c6,c7,c8,c9]
 . exact aau bs.o bj.o (λM e _=>by have h1:=bc.o M e; have h2:=(Array.getElem?_eq_some_iff.1 X.o).1; omega)
def idI (l:List (Nat×Msg)):List Int:=l.map λp=>(p.1:Int)
def placeL (l:List (Nat×Msg)) (p:Int):Nat:=(idI l).countP (· < p)
theorem al2 (l:List (Nat×Msg)) (p:Int):placeL l p<=l.length:=by
 unfold placeL;have:=List.countP_le_length (p:=λx:Int=>decide (x < p)) (l:=idI l);unfold idI at this ⊢;rw [List.length_map] at this; exact this
theorem afm {base:Nat} {T:OwnD} (p:Int) (w:World) (h:OwnAt base w T) (hs:(T.recs.map (·.1)).Pairwise (· < ·)) (hl:T.recs.length<=1073741824) :
 Calls Tryz.prog 120 #[.pointer (some ⟨T.blk,0,none⟩),.int .i64 p] w λe w'=>e=.returned (.int .i64 ((placeL T.recs p:Nat):Int))/\Drawn w w':=by
 have F:Zq (∃ U:Bool,Calls Tryz.prog 193 #[T.idv,.int .i64 p] w λe w'=>e=.returned (.tuple #[.int .i64 ((placeL T.recs p:Nat):Int),.bool U])/\Drawn w w'):=by
  show ∃ U,_
  by_cases h0:T.recs=[]
  . obtain ⟨a,c,R⟩:=lq h.ids
    have hz:placeL T.recs p=0:=by rw [h0]; rfl
    rw [R,hz,h0];exact ⟨false,(Tryz.slices_BinarySearch_int_empty a c p w).mono λe w' h=>⟨h.1,h.2 ▸ Drawn.refl _⟩⟩
  ·
   have I:0 < T.recs.length:=List.length_pos_iff.2 h0
   have J:∀ i (X:i < T.recs.length),∃ g cap,T.idv=.slice (some ⟨g,0,none⟩) T.recs.length cap/\T.recs.length<=cap/\w.cell? ⟨g,i,none⟩=some (.int .i64 ((T.recs[i].1:Nat):Int)):=λi X =>
    SegW.abt h.ids i X _ (by unfold abw; rw [List.getElem?_map,List.getElem?_eq_getElem X]; rfl)
   obtain ⟨g,cap,R,hc,_⟩:=J 0 I
   have A:∀ j,j < (idI T.recs).length->w.cell? ⟨g,0+j,none⟩=some (.int .i64 ((idI T.recs).getD j 0)):=λj Y=>by
    have M:j < T.recs.length:=by unfold idI at Y; rw [List.length_map] at Y; exact Y
    obtain ⟨g',ab,N,_,Z⟩:=J j M;rw [R] at N;injection N with e1
    injection e1 with e1
    injection e1 with e1
    rw [Nat.zero_add,e1,Z];unfold idI;simp [List.getD,M]
   have E:((idI T.recs).take T.recs.length).Pairwise (·<=·):=by
    rw [List.take_of_length_le (by unfold idI; rw [List.length_map]; exact Nat.le_refl _)];unfold idI;rw [List.pairwise_map] at hs ⊢;exact hs.imp λh=>by omega
   have B:(idI T.recs).length=T.recs.length:=by unfold idI; exact List.length_map _
   have:=Tryz.slices_BinarySearch_int g 0 T.recs.length cap (idI T.recs) p w (by rw [B]; exact Nat.le_refl _) (by omega) A E;rw [List.take_of_length_le (by rw [B]; exact Nat.le_refl _)] at this;rw [R];exact ⟨_,this.mono λe w' h=>⟨h.1,h.2⟩⟩
 obtain ⟨U,O⟩:=F.o;have HB:=zq O;have c2:w.cell? ⟨T.blk,2,none⟩=some T.idv:=h.cell 2 _ rfl;clear h hs hl O F;generalize placeL T.recs p=pl at *
 generalize T.idv=iv at *
 go_enter Tryz.func120,Tryz.ntmps120;go_wp2_with fail;refine HB.o.mono ?_;rintro e w' ⟨rfl,hd⟩;have HD:=zq hd;clear hd HB;go_wp2_with fail;go_ret;exact ⟨rfl,HD.o⟩
def ma (l:List (Nat×Msg)) (p:Int):Int×Bool:=match (l.drop (placeL l p)).head? with | some q=>((q.1:Int),true) | none=>(0,false)
theorem next_any {base:Nat} {T:OwnD} (p:Int) (w:World) (h:OwnAt base w T) (hs:(T.recs.map (·.1)).Pairwise (· < ·)) (hl:T.recs.length<=1073741824) :
 Calls Tryz.prog 54 #[.pointer (some ⟨T.blk,0,none⟩),.int .i64 p] w λe w'=>e=.returned (.tuple #[.int .i64 (ma T.recs p).1,.bool (ma T.recs p).2])/\Drawn w w':=by
 have I:=zq (afm p w h hs hl);have J:=al2 T.recs p;have B:Zq (ma T.recs p=match (T.recs.drop (placeL T.recs p)).head? with | some q=>((q.1:Int),true) | none=>(0,false)):=rfl;have O:=zq h;clear h hs;generalize placeL T.recs p=pl at *
 go_enter Tryz.func54,Tryz.ntmps54;go_wp2_with fail;refine I.o.mono ?_;rintro e w1 ⟨rfl,hd⟩;have N:=zq hd;have h1:OwnAt base w1 T:=O.o.mod (M:=λ_=>False) (Mod.of_below (hd.below _)) (λ_ _ h=>h);clear hd I
 by_cases hlt:pl < T.recs.length
 ·
  obtain ⟨g,cap,A,hc,E⟩:=SegW.abt h1.ids pl hlt (.int .i64 ((T.recs[pl].1:Nat):Int)) (by unfold abw; rw [List.getElem?_map,List.getElem?_eq_getElem hlt]; rfl);have c2:w1.cell? ⟨T.blk,2,none⟩=some (.slice (some ⟨g,0,none⟩) T.recs.length cap):=by rw [<- A]; exact h1.cell 2 _ rfl
  have F:Zq (ma T.recs p=((T.recs[pl].1:Int),true)):=by
   show _=_;rw [B.o,List.head?_drop,List.getElem?_eq_getElem hlt]
  clear h1 A B;generalize T.recs[pl].1=x at *
  generalize T.recs.length=n at *
  go_wp2_with fail;go_ret2;exact ⟨by rw [F.o]; rfl,N.o⟩
 ·
  obtain ⟨a,c,A⟩:=lq h1.ids;have c2:w1.cell? ⟨T.blk,2,none⟩=some (.slice a T.recs.length c):=by rw [<- A]; exact h1.cell 2 _ rfl
  have F:Zq (ma T.recs p=(0,false)):=by
   show _=_;rw [B.o,List.head?_drop,List.getElem?_eq_none (by omega)]
  clear h1 A B;generalize T.recs.length=n at *
  go_wp2_with fail;go_ret2;exact ⟨by rw [F.o]; rfl,N.o⟩
theorem ahb {w:World} {base b n sz:Nat} {e:TypeId} {v:Value} {xs:List Value} (h:w.ownsRow b e sz v n xs) (hb:base<=b):w.ownsRow base e sz v n xs :=
 ⟨h.1,h.2.elim .inl λ⟨g,cap,cur,A,B,r⟩=>.inr ⟨g,cap,cur,A,Nat.le_trans hb B,r⟩⟩
theorem aqt {base:Nat} {T:OwnD} (p:Int) (w1:World) (h:OwnAt base w1 T) (hs:(T.recs.map (·.1)).Pairwise (· < ·)) (hl:T.recs.length<=1073741824) (hp:placeL T.recs p=0) :
 Calls Tryz.prog 89 #[.pointer (some ⟨T.blk,0,none⟩),.int .i64 p] w1 λe w'=>∃ v,e=.returned v/\w'.ownsRow w1.heap.size 3 1 v T.recs.length (abw T.recs)/\Below w1.heap.size w1 w':=by
 have Z:Zq (∀ w,Below w1.heap.size w1 w->Calls Tryz.prog 120 #[.pointer (some ⟨T.blk,0,none⟩),.int .i64 p] w λe w'=>e=.returned (.int .i64 0)/\Drawn w w'):=λw hb=>by
  have:=afm p w (h.below hb) hs hl;rw [hp] at this; exact this
 rcases h.ids.2 with ⟨hv,hz⟩ | ⟨g,cap,cur,hv,hbg,hg,hn,hmx,hsz,ht⟩
 ·
  have h0:T.recs=[]:=List.length_eq_zero_iff.1 hz;have N:Zq (∀ w,Below w1.heap.size w1 w->w.cell? ⟨T.blk,2,none⟩=some (.slice none 0 0)):=λw hb=>by rw [<- hv]; exact (h.below hb).cell 2 _ rfl
  have O:Zq (∀ w,Below w1.heap.size w1 w->Calls Tryz.prog 158 #[.slice none 0 0] w λe w'=>∃ v,e=.returned v/\w'.ownsRow w.heap.size 3 1 v T.recs.length (abw T.recs)/\Below w.heap.size w w'):=λw hb=>by
   refine (Tryz.slices_Clone_int_nil 0 0 w).mono λe w' h=>⟨_,h.1,?_,h.2 ▸ Below.refl _ _⟩
   rw [h0]; exact ⟨rfl,.inl ⟨rfl,rfl⟩⟩
  clear h hs hl hp hv hz h0;go_enter Tryz.func89,Tryz.ntmps89;go_wp2_with fail;refine GrowN.aj 10 [none,none,none,none,none,none,some (.inl (.int .i64 0)),some (.inl (.slice none 0 0)),some (.inr (λ_ v w=>w.ownsRow w1.heap.size 3 1 v T.recs.length (abw T.recs))),none] (RecW.ExtR) (by kernel_rfl) (by kernel_rfl) (by kernel_rfl) (RecW.ExtR.refl) (λ_ _ _=>RecW.ExtR.trans) ?_ ?_
  ·
   intro K hK Y hY l v w w' hR h;simp only [List.mem_cons,List.not_mem_nil,or_false] at hK
   rcases hK with rfl | rfl | rfl | rfl | rfl | rfl | rfl | rfl | rfl | rfl <;> simp only [reduceCtorEq,Option.some.injEq,Sum.inr.injEq] at hY
   subst hY;exact SegW.ownsRow_mod (M:=λ_=>False) h (Mod.of_below hR) (λ_ _ h=>h)
  simp only [List.take_succ_cons,List.take_zero,List.drop_succ_cons,List.drop_zero]
  iterate 3
   refine GrowN.g_det rfl ?_;apply Exists.intro;refine ⟨λw B A=>?_,?_⟩
   . clear A
     go_simp;exact ⟨rfl,RecW.ExtR.refl _⟩
   go_frame
  refine GrowN.g_det rfl ?_;apply Exists.intro;refine ⟨λw B A=>?_,?_⟩
  ·
   clear A;have hb:=(Below.refl w1.heap.size w1).drew.trans B;have c2:=N.o w hb;go_simp;exact ⟨rfl,RecW.ExtR.refl _⟩
  iterate 2
   go_frame;refine GrowN.g_det rfl ?_;apply Exists.intro;refine ⟨λw B A=>?_,?_⟩
   . clear A
     go_simp;exact ⟨rfl,RecW.ExtR.refl _⟩
  go_frame;refine GrowN.g_con rfl (λw B A=>?_) ?_
  . clear A
    have hb:=(Below.refl w1.heap.size w1).drew.trans B;go_simp;exact (Z.o w hb).mono λe w3 h=>⟨_,h.1,rfl,h.2.below _⟩
  go_frame;refine GrowN.g_con rfl (λw B A=>?_) ?_
  . clear A
    go_simp
    all_goals first | exact RecW.ExtR.refl _ | omega
  go_frame;refine GrowN.g_new rfl (λw B A=>?_) (λv=>?_)
  . clear A
    have hb:=(Below.refl w1.heap.size w1).drew.trans B;go_simp;exact (O.o w hb).mono λe w3 ⟨v,h1,R,h3⟩=>⟨_,h1,ahb R hb.size,h3⟩
  go_frame;refine GrowN.g_det rfl ?_;apply Exists.intro;refine ⟨λw B A=>?_,?_⟩
  . clear A
    go_simp;exact ⟨rfl,RecW.ExtR.refl _⟩
  go_frame;refine GrowN.g_nil λw2 I A=>?_
  have E:=A _ (List.mem_singleton.2 rfl);have HO:=zq E;have U:=zq ((Below.refl w1.heap.size w1).drew.trans I);clear I A E;go_wp2_with fail;go_ret;exact ⟨_,rfl,HO.o,U.o⟩
 ·
  have F:(idI T.recs).length=T.recs.length:=by unfold idI; exact List.length_map _
  have N:Zq (∀ w,Below w1.heap.size w1 w->w.cell? ⟨T.blk,2,none⟩=some (.slice (some ⟨g,0,none⟩) T.recs.length cap)):=λw hb=>by rw [<- hv]; exact (h.below hb).cell 2 _ rfl
  have O:Zq (∀ w,Below w1.heap.size w1 w->Calls Tryz.prog 158 #[.slice (some ⟨g,0,none⟩) T.recs.length cap] w λe w'=>∃ v,e=.returned v/\w'.ownsRow w.heap.size 3 1 v T.recs.length (abw T.recs)/\Below w.heap.size w w'):=λw hb=>by
   have J:∀ j,j < (idI T.recs).length->w.cell? ⟨g,0+j,none⟩=some (.int .i64 ((idI T.recs).getD j 0)):=λj hj=>by
    have X:j < T.recs.length:=by rw [F] at hj; exact hj
    obtain ⟨g',ap,ad,_,an⟩:=SegW.abt (h.below hb).ids j X (.int .i64 ((T.recs[j].1:Nat):Int)) (by unfold abw; rw [List.getElem?_map,List.getElem?_eq_getElem X]; rfl);rw [hv] at ad;injection ad with e1
    injection e1 with e1
    injection e1 with e1
    rw [Nat.zero_add,e1,an];unfold idI;simp [List.getD,X]
   have:=Tryz.slices_Clone_int g 0 T.recs.length cap (idI T.recs) w (by rw [F]; exact Nat.le_refl _) (by omega) J;refine this.mono λe w' ⟨v,h1,R,_,h4⟩=>⟨v,h1,?_,h4⟩
   rw [List.take_of_length_le (by rw [F]; exact Nat.le_refl _)] at R;have e:(idI T.recs).map (Value.int .i64)=abw T.recs:=by unfold idI abw; rw [List.map_map]; rfl
   rw [e] at R; exact R
  have ar:=hmx;clear h hs hp hv hbg hg hsz ht F;generalize hnn:T.recs.length=n at *
  go_enter Tryz.func89,Tryz.ntmps89;go_wp2_with fail;refine GrowN.aj 10 [none,none,none,none,none,none,some (.inl (.int .i64 0)),some (.inl (.slice (some ⟨g,0,none⟩) n cap)),some (.inr (λ_ v w=>w.ownsRow w1.heap.size 3 1 v n (abw T.recs))),none] (RecW.ExtR) (by kernel_rfl) (by kernel_rfl) (by kernel_rfl) (RecW.ExtR.refl) (λ_ _ _=>RecW.ExtR.trans) ?_ ?_
  ·
   intro K hK Y hY l v w w' hR h;simp only [List.mem_cons,List.not_mem_nil,or_false] at hK
   rcases hK with rfl | rfl | rfl | rfl | rfl | rfl | rfl | rfl | rfl | rfl <;> simp only [reduceCtorEq,Option.some.injEq,Sum.inr.injEq] at hY
   subst hY;exact SegW.ownsRow_mod (M:=λ_=>False) h (Mod.of_below hR) (λ_ _ h=>h)
  simp only [List.take_succ_cons,List.take_zero,List.drop_succ_cons,List.drop_zero]
  iterate 3
   refine GrowN.g_det rfl ?_;apply Exists.intro;refine ⟨λw B A=>?_,?_⟩
   . clear A
     go_simp;exact ⟨rfl,RecW.ExtR.refl _⟩
   go_frame
  refine GrowN.g_det rfl ?_;apply Exists.intro;refine ⟨λw B A=>?_,?_⟩
  ·
   clear A;have hb:=(Below.refl w1.heap.size w1).drew.trans B;have c2:=N.o w hb;go_simp;exact ⟨rfl,RecW.ExtR.refl _⟩
  iterate 2
   go_frame;refine GrowN.g_det rfl ?_;apply Exists.intro;refine ⟨λw B A=>?_,?_⟩
   . clear A
     go_simp;exact ⟨rfl,RecW.ExtR.refl _⟩
  go_frame;refine GrowN.g_con rfl (λw B A=>?_) ?_
  . clear A
    have hb:=(Below.refl w1.heap.size w1).drew.trans B;go_simp;exact (Z.o w hb).mono λe w3 h=>⟨_,h.1,rfl,h.2.below _⟩
  go_frame;refine GrowN.g_con rfl (λw B A=>?_) ?_
  . clear A
    go_simp
    all_goals first | exact RecW.ExtR.refl _ | omega
  go_frame;refine GrowN.g_new rfl (λw B A=>?_) (λv=>?_)
  . clear A
    have hb:=(Below.refl w1.heap.size w1).drew.trans B;go_simp;exact (O.o w hb).mono λe w3 ⟨v,h1,R,h3⟩=>⟨_,h1,ahb R hb.size,h3⟩
  go_frame;refine GrowN.g_det rfl ?_;apply Exists.intro;refine ⟨λw B A=>?_,?_⟩
  . clear A
    go_simp;exact ⟨rfl,RecW.ExtR.refl _⟩
  go_frame;refine GrowN.g_nil λw2 I A=>?_
  have E:=A _ (List.mem_singleton.2 rfl);have HO:=zq E;have U:=zq ((Below.refl w1.heap.size w1).drew.trans I);clear I A E;go_wp2_with fail;go_ret;exact ⟨_,rfl,HO.o,U.o⟩
end TapeW
namespace RecW
open Go.RowKit OctMath RecMath NameMath
open OctW (Rd One Texts gy cz ll ui)
end RecW
namespace TapeW
open Go.RowKit Go.MapKept OctMath RecMath RecW TapeMath DskW SegW MapG
structure atc (base:Nat) (w0 w:World) (O0:OwnD) (D:DiskD) (R:SegD) (its:List TapeMath.Item) (k:Nat):Prop where
 ex:∃ O:OwnD,OwnAt base w O/\O.blk=O0.blk/\O.rb=O0.rb/\O.sums=O0.sums/\O.mB=O0.mB/\O.recs=gz R.b (its.take k)/\(∀ p,O.recs.getLast?=some p->O.last=p.2.born)/\∀ j,O.foot j->O0.foot j\/w0.heap.size<=j
 whole:Whole base w D R
 mod:Mod O0.foot w0 w
structure aog (base:Nat) (w w':World) (D:DiskD) (its:List TapeMath.Item) (b:Nat) (T:TapeD):Prop where
 tape:TapeAt base w' T
 its:T.its=its
 b:T.R.b=b
 syn:T.R.synced=T.R.e
 waits:T.D.waits=[]
 quiet:Quiet T.D
 dblk:T.D.blk=D.blk
 dfoot:∀ k,T.D.foot k↔D.foot k
 find:∀ n,(T.D.find n).isSome=(D.find n).isSome
 room:T.D.room=D.room
 fresh:∀ k,T.O.foot k\/T.R.foot k->w.heap.size<=k
 mod:Mod D.foot w w'
 kept:∀ n f,D.find n=some f->∃ f',T.D.find n=some f'/\f'.now=f.now
theorem al3:S qf=⟨#[116,97,112,101,45]⟩:=rfl
theorem syncD_room (R:SegD) (D:DiskD) (wv:Value):(R.syncD D wv).room=D.room:=by
 unfold SegD.syncD
 split
 . rfl
 ·
  have:(D.lasts R.syncL wv).size=D.size:=by
   unfold DiskD.size DiskD.lasts gp;simp only [List.map_map];congr 1;refine List.map_congr_left λp _=>?_
   simp only [Function.comp]
   split <;> rfl
  unfold DiskD.room;rw [this]; rfl
theorem aoh {base:Nat} {O0:OwnD} {D:DiskD} {R:SegD} {its:List TapeMath.Item} (w0:World) (h0:its=[]) (hO:OwnAt base w0 O0) (hrb:O0.rb=R.blk) (hrecs:O0.recs=[]) (hW:Whole base w0 D R) (ht:R.txt=gq its) :
 Calls Tryz.prog 150 #[.pointer (some ⟨O0.blk,0,none⟩)] w0 λe w'=>e=.returned (.int .i64 (R.e:Int))/\atc base w0 w' O0 D R its its.length:=by
 subst h0;have S0:Zq (atc base w0 w0 O0 D R [] 0):=⟨⟨O0,hO,rfl,rfl,rfl,rfl,by rw [hrecs]; rfl,(λp hp=>by rw [hrecs] at hp; cases hp),λj F=>.inl F⟩,hW,Mod.refl _ _⟩;have c0:w0.cell? ⟨O0.blk,0,none⟩=some (.pointer (some ⟨R.blk,0,none⟩)):=hO.cell 0 _ (by rw [<- hrb]; rfl);have A:=zq (SegW.begin_any w0 hW.seg);have B:=zq (SegW.end_any w0 hW.seg);have E:R.b=R.e:=by unfold SegD.e; rw [ht]; rfl
 have I:¬ ((R.e:Int) < (R.e:Int)):=by omega
 rw [E] at A;clear hO hrb hrecs hW ht E;generalize (R.e:Int)=z at *
 go_enter Tryz.func150,Tryz.ntmps150;go_wp2_with fail;refine A.o.mono ?_;rintro e w1 ⟨rfl,rfl⟩;go_wp2_with fail;go_loopw [3] (λi wr=>i=.int .i64 z/\wr=w1) (λ_ _=>0)
 case atStart=>exact ⟨rfl,rfl⟩
 case round =>
  obtain ⟨rfl,rfl⟩:=hrel;go_wp2_with fail;refine B.o.mono ?_;rintro e w2 ⟨rfl,rfl⟩;go_wp2_with fail;go_ret;exact ⟨rfl,S0.o⟩
theorem al4 {base:Nat} {D:DiskD} {R:SegD} {its:List TapeMath.Item} (w:World) (h0n:R.n=0) (h0:its=[]) (hL:LaidOn D R) (hD:DiskAt base w D) (hq:Quiet D) (hfl:D.files.length<=1048576) (hnl:∀ p∈D.files,p.1.length<=1073741824) (hbase:base<=w.heap.size) (hT:TabB base w)
 (hh:R.head=qf) (hs:R.size=1024) (ht:R.txt=gq its) (hf:Fits R.b its) (hil:its.length<=1000000) (hwt:D.waits=[]) :
 Calls Tryz.prog 79 #[.pointer (some ⟨D.blk,0,none⟩)] w λe w'=>∃ T,e=.returned (.tuple #[.pointer (some ⟨T.O.blk,0,none⟩),.int .i64 0])/\aog base w w' D its R.b T:=by
 have Y:=zq (ag0 w h0n hL hD hq hfl hnl hbase);have Z:((R.size:Nat):Int)=1024:=by rw [hs]; rfl
 rw [hh,al3,Z] at Y;have HD:=zq hD;have HQ:=zq hq;have HH:=zq hh;have HS:=zq hs;have ap:=zq ht;have HF:=zq hf;have ar:=zq hwt;have b0:=zq hT;have b1:=zq hL;have cg:∀ w:World,(Instr.makeMap 151 none).run Tryz.prog w=.ok (.map (some w.heap.size)) (w.alloc (.map #[] 0)):=λ_=>rfl
 clear hL hD hq hfl hnl hT hh hs Z ht hf hwt;go_enter Tryz.func79,Tryz.ntmps79;go_wp2_with fail;refine Y.o.mono ?_;rintro e w1 ⟨rb,pv,rfl,hW,hb,av⟩;have N:=zq hW;have ab:=zq hb;have a1:=zq av;clear hW hb av Y;go_wp2_with fail;refine (CrcW.new_any w1).mono ?_;rintro e w2 ⟨B,rfl,hl⟩;have I:=zq hl;clear hl;go_upto_region 5 with fail
 obtain ⟨O0,E⟩:∃ O:OwnD,O=⟨w2.heap.size+1,rb,B,.slice none 0 0,w2.heap.size,0,[]⟩:=⟨_,rfl⟩;have ac:Below w.heap.size w w2:=ab.o.trans (I.o.below.mono ab.o.size);have A:Below w2.heap.size w2 ((w2.alloc (Obj.map #[] 0)).alloc (.cells #[.pointer (some ⟨rb,0,none⟩),.pointer (some ⟨B,0,none⟩),.slice none 0 0,.map (some w2.heap.size),.int .i64 0] 153)):=((Below.refl _ _).alloc (Nat.le_refl _) _).alloc (by rw [World.size_alloc]; omega) _
 have a6:((w2.alloc (Obj.map #[] 0)).alloc (.cells #[.pointer (some ⟨rb,0,none⟩),.pointer (some ⟨B,0,none⟩),.slice none 0 0,.map (some w2.heap.size),.int .i64 0] 153)).heap[w2.heap.size+1]?=some (.cells #[.pointer (some ⟨rb,0,none⟩),.pointer (some ⟨B,0,none⟩),.slice none 0 0,.map (some w2.heap.size),.int .i64 0] 153 (0,0)):=by
  have:=heap_alloc_new (w2.alloc (Obj.map #[] 0)) (.cells #[.pointer (some ⟨rb,0,none⟩),.pointer (some ⟨B,0,none⟩),.slice none 0 0,.map (some w2.heap.size),.int .i64 0] 153);rw [World.size_alloc] at this; exact this
 have a7:PairsAt ((w2.alloc (Obj.map #[] 0)).alloc (.cells #[.pointer (some ⟨rb,0,none⟩),.pointer (some ⟨B,0,none⟩),.slice none 0 0,.map (some w2.heap.size),.int .i64 0] 153)) w2.heap.size []:=(PairsAt.new w2).below ((Below.refl _ _).alloc (Nat.le_refl _) _);generalize (w2.alloc (Obj.map #[] 0)).alloc (.cells #[.pointer (some ⟨rb,0,none⟩),.pointer (some ⟨B,0,none⟩),.slice none 0 0,.map (some w2.heap.size),.int .i64 0] 153)=w3 at *
 have a8:Below w.heap.size w w3:=ac.trans (A.mono ac.size);have ba:Whole base w3 D (R.openR rb pv):=(N.o.below (I.o.below)).below A;have bb:=I.o.size;have b2:=I.o.old;have Z:=ab.o.size;have bc:=I.o.below.size;have bd:=A.size
 have hO:OwnAt base w3 O0:=by
  rw [E];refine ⟨a6,⟨rfl,.inl ⟨rfl,rfl⟩⟩,a7,?_,⟨by show B < w3.heap.size; omega,by show base<=B; omega,by show base<=w2.heap.size+1; omega,by show base<=w2.heap.size; omega⟩,by show w2.heap.size+1≠B; omega,by show w2.heap.size+1≠w2.heap.size; omega,by show B≠w2.heap.size; omega,λk hk=>by cases hk⟩;exact RecW.aa8 I.o.tabs bb A
 have J:∀ k,O0.foot k->w1.heap.size<=k:=λk hk=>by
  rw [E] at hk
  rcases hk with hk | hk | hk | hk
  . have:k=w2.heap.size+1:=hk
    omega
  . have:k=B:=hk
    omega
  . have:k=w2.heap.size:=hk
    omega
  . cases hk
 have F:∀ k,O0.foot k->¬ D.foot k/\¬ (R.openR rb pv).foot k:=λk hk=>by
  have h1:=J k hk;exact ⟨λh=>by have:=N.o.dsk.lt h; omega,λh=>by have:=N.o.seg.lt h; omega⟩
 have ad:=zq (aoh (R:=R.openR rb pv) w3 h0 hO (by rw [E]; rfl) (by rw [E]) ba ap.o);have ak:O0.blk=w2.heap.size+1:=by rw [E]
 have al:(R.openR rb pv).e=R.e:=rfl;rw [ak,al] at ad;have b3:=zq ak;have ci:=zq F;have am:=zq J;have an:=zq a8;have bh:Zq (w1.heap.size<=w3.heap.size):=by show _<=_; omega
 have b4:Zq (O0.rb=rb):=by show _=_; rw [E]
 clear E ac A a6 a7 a8 ba bb b2 bc bd hO J F ak;go_wp2_with fail;refine ad.o.mono ?_;rintro e w4 ⟨rfl,M⟩;have U:=zq M;have X:=zq (SegW.end_any w4 M.whole.seg);have bj:TabB base w4:=(b0.o.below an.o).mod M.mod (λk hk=>by have:=am.o k hk; omega)
 have ao:=zq (SegW.sync_any w4 bj M.whole HQ.o (by have:=an.o.size; have:=M.mod.size; omega) (by rw [ar.o]; exact Nat.zero_le _) (by
  show R.n<=_
  rcases Nat.eq_zero_or_pos R.n with h0 | hp
  . omega
  . have h1:=(b1.o.long hp).2.2
    have h2:=HS.o;rw [h2] at h1;omega))
 rw [al] at X;have bk:(R.openR rb pv).blk=rb:=rfl;rw [bk] at X ao;clear M ad bj bk al;go_wp2_with fail;refine X.o.mono ?_;rintro e w5 ⟨rfl,rfl⟩;go_wp2_with fail;refine ao.o.mono ?_;rintro e w6 ⟨rfl,wv,bl,bm,bo⟩;have b6:=zq bm;have bp:=zq bo;have b7:=zq bl;clear bm bo bl ao X;go_wp2_with fail;go_ret2;obtain ⟨O,o1,o2,o3,o4,o5,o6,o7,o8⟩:=U.o.ex;rw [List.take_length] at o6
 have J:∀ k,O.foot k->w1.heap.size<=k:=λk hk=>by
  rcases o8 k hk with h | h
  . exact am.o k h
  . have:=bh.o; omega
 have br:∀ k,((R.openR rb pv).syncD D wv).foot k↔D.foot k:=λk=>by
  unfold SegD.syncD
  split
  . exact Iff.rfl
  . exact uo b7.o k
 have F:∀ k,O.foot k->¬ D.foot k/\¬ (R.openR rb pv).foot k:=λk hk=>by
  have h1:=J k hk;exact ⟨λh=>by have:=N.o.dsk.lt h; omega,λh=>by have:=N.o.seg.lt h; omega⟩
 have bs:((R.openR rb pv).syncD D wv).waits=[]:=Waiting.sync (Waiting.none ar.o) U.o.whole.seg U.o.whole.dsk wv
 have b8:Quiet ((R.openR rb pv).syncD D wv):=by
  unfold SegD.syncD
  split
  . exact HQ.o
  . exact ⟨HQ.o.left,HQ.o.up⟩
 have b9:Mod D.foot w w5:=iw (Mod.of_below an.o) U.o.mod (λk hk=>.inr (by have:=am.o k hk; omega))
 refine ⟨⟨O,(R.openR rb pv).syncD D wv,{ R.openR rb pv with synced:=(R.openR rb pv).e },its⟩,by show _=Ending.returned (.tuple #[.pointer (some ⟨O.blk,0,none⟩),.int .i64 0]); rw [o2,b3.o]; rfl,
  ⟨⟨o1.mod bp.o (λk hk ca=>?_),o3.trans b4.o,o6,λk hk=>⟨λh=>(F k hk).1 ((br k).1 h),(F k hk).2⟩,b6.o,HH.o,HS.o,ap.o,HF.o,o7,Waiting.none bs⟩,rfl,rfl,rfl,bs,b8,?_,br,λn=>?_,syncD_room _ _ _,λk hk=>?_,?_,λn f hf=>?_⟩⟩
 . rcases ca with h | h
   . exact (F k hk).1 h
   . exact (F k hk).2 h
 . show ((R.openR rb pv).syncD D wv).blk=D.blk
   unfold SegD.syncD; split <;> rfl
 . obtain ⟨g,h1,_⟩:=qm (R.openR rb pv) D wv n
   show (((R.openR rb pv).syncD D wv).find n).isSome=_;rw [h1]; cases D.find n <;> rfl
 . rcases hk with h | h
   . have:=J k h; omega
   . exact a1.o k h
 . exact iw b9 bp.o (λk hk=>hk.elim .inl (λh=>.inr (a1.o k h)))
 . obtain ⟨g,h1,h2⟩:=qm (R.openR rb pv) D wv n
   exact ⟨g f,by show ((R.openR rb pv).syncD D wv).find n=_; rw [h1,hf]; rfl,(h2 f).2⟩
end TapeW
namespace PendW
open Go.RowKit Go.MapKept OctMath RecMath MapG
structure PendD where
 blk:Nat
 mB:Nat
 all:List (Int×Int×Int)
def aay (v:Int×Int):Value:=.agg #[.int .i64 v.1,.int .i64 v.2]
def aex (p:Int×Int×Int):Value×Value:=(.int .i64 p.1,aay p.2)
structure PendAt (base:Nat) (w:World) (P:PendD):Prop where
 cells:w.heap[P.blk]?=some (.cells #[.map (some P.mB)] 105 (0,0))
 map:PairsAt w P.mB (P.all.map aex)
 low:base<=P.blk/\base<=P.mB
 ne:P.blk≠P.mB
def PendD.foot (P:PendD) (k:Nat):Prop:=k=P.blk\/k=P.mB
theorem PendAt.lt {base:Nat} {w:World} {P:PendD} (h:PendAt base w P) {k:Nat} (hk:P.foot k):k < w.heap.size:=by
 rcases hk with hk | hk
 . rw [hk]; exact (Array.getElem?_eq_some_iff.1 h.cells).1
 . rw [hk]; exact h.map.lt
theorem PendAt.mod {base:Nat} {w w':World} {P:PendD} {M:Nat->Prop} (h:PendAt base w P) (hm:Mod M w w') (hM:∀ k,P.foot k->¬ M k):PendAt base w' P :=
 ⟨(hm.block _ (h.lt (.inl rfl)) (hM _ (.inl rfl))).trans h.cells,h.map.mod hm (hM _ (.inr rfl)),h.low,h.ne⟩
theorem PendAt.below {base:Nat} {w w':World} {P:PendD} (h:PendAt base w P) (hb:Below w.heap.size w w'):PendAt base w' P :=
 h.mod (M:=λ_=>False) (Mod.of_below hb) (λ_ _ h=>h)
theorem PendAt.cell {base:Nat} {w:World} {P:PendD} (h:PendAt base w P):w.cell? ⟨P.blk,0,none⟩=some (.map (some P.mB)):=by
 unfold World.cell?; rw [show w.heap[(⟨P.blk,0,none⟩:Addr).block]?=_ from h.cells]; rfl
/-! what is kept of a number -/
def aak (all:List (Int×Int×Int)) (id:Int):Int×Int:=((all.find? λp=>decide (p.1=id)).map (·.2)).getD (0,0)
def al5 (all:List (Int×Int×Int)) (id:Int) (v:Int×Int):List (Int×Int×Int) :=
 if all.any (λp=>decide (p.1=id)) then all.map (λp=>if p.1=id then (id,v) else p) else all++[(id,v)]
theorem keyedI:Keyed Tryz.prog 3 (IsKey (.int .i64)):=Keyed.of_isKey Tryz.underlying3
theorem akl (all:List (Int×Int×Int)):∀ p∈all.map aex,IsKey (.int .i64) p.1:=λp hp=>by
 obtain ⟨q,_,rfl⟩:=List.mem_map.1 hp; rfl
theorem aoi (w:World):(zeroValue 102).run Tryz.prog w=.ok (aay (0,0)) w:=by kernel_rfl
theorem ad8 {all:List (Int×Int×Int)} {id:Int} {q:Int×Int×Int} (h:all.find? (λp=>decide (p.1=id))=some q):∃ a b,all=a++q :: b/\q.1=id/\∀ p∈a,p.1≠id:=by
 obtain ⟨h1,a,b,A,B⟩:=List.find?_eq_some_iff_append.1 h;exact ⟨a,b,A,by simpa using h1,λp hp=>by simpa using B p hp⟩
theorem akm {all:List (Int×Int×Int)} {id:Int} (h:all.find? (λp=>decide (p.1=id))=none):∀ p∈all,p.1≠id:=λp hp=>by
 have:=List.find?_eq_none.1 h p hp
 simpa using this
theorem agc {base:Nat} {w:World} {P:PendD} (h:PendAt base w P) (id:Int) :
 (Instr.lookup 103 (.map (some P.mB)) (.int .i64 id) false).run Tryz.prog w=.ok (aay (aak P.all id)) w:=by
 have A:=Tryz.underlying103;unfold aak
 cases hf:P.all.find? (λp=>decide (p.1=id)) with
 | none =>
   have B:=akm hf
   have:=za A keyedI h.map (akl _) (k:=.int .i64 id) rfl (λp hp=>by
    obtain ⟨q,E,rfl⟩:=List.mem_map.1 hp;intro e;exact B q E (by unfold aex at e; simpa using e)) aoi false
   exact this
 | some q =>
   obtain ⟨a,b,h1,F,I⟩:=ad8 hf;have:=yz A keyedI h.map (akl _) (k:=.int .i64 id) (v:=aay q.2) rfl (List.mem_map.2 ⟨q,by rw [h1]; simp,by unfold aex; rw [F]⟩) false;exact this
theorem akn {base:Nat} {w:World} {P:PendD} (h:PendAt base w P) (id:Int) (v:Int×Int) :
 ∃ w',(Instr.mapUpdate 103 (.map (some P.mB)) (.int .i64 id) (aay v)).run Tryz.prog w=.ok () w'/\PendAt base w' { P with all:=al5 P.all id v }/\Mod (λk=>k=P.mB) w w':=by
 have M:=Tryz.underlying103;have A:∀ w',Mod (λk=>k=P.mB) w w'->w'.heap[P.blk]?=some (.cells #[.map (some P.mB)] 105 (0,0)):=λw' E=>(E.block _ (h.lt (.inl rfl)) h.ne).trans h.cells
 have F:=h.map.nodup;unfold al5
 cases hf:P.all.find? (λp=>decide (p.1=id)) with
 | none =>
   have N:=akm hf
   obtain ⟨w',h1,B,I⟩:=ut M keyedI h.map (akl _) (k:=.int .i64 id) rfl (λp hp=>by
    obtain ⟨q,R,rfl⟩:=List.mem_map.1 hp;intro e;exact N q R (by unfold aex at e; simpa using e)) (aay v)
   have J:P.all.any (λp=>decide (p.1=id))=false:=by
    rw [List.any_eq_false];intro p hp; simpa using N p hp
   refine ⟨w',h1,⟨A w' I,?_,h.low,h.ne⟩,I⟩;rw [if_neg (by rw [J]; decide),List.map_append];exact B
 | some q =>
   obtain ⟨a,b,h1,B,I⟩:=ad8 hf;obtain ⟨w',k1,U,O⟩:=ajd M keyedI h.map (akl _) (k:=.int .i64 id) (v0:=aay q.2) (l1:=a.map aex) (l2:=b.map aex) rfl (by rw [h1,List.map_append,List.map_cons]; unfold aex; rw [B]) (aay v)
   have J:P.all.any (λp=>decide (p.1=id))=true:=by
    rw [List.any_eq_true];exact ⟨q,by rw [h1]; simp,by simpa using B⟩
   refine ⟨w',k1,⟨A w' O,?_,h.low,h.ne⟩,O⟩;rw [if_pos J]
   have hb:∀ p∈b,p.1≠id:=by
    intro p hp e;rw [h1,List.map_append,List.map_cons,List.map_append,List.map_cons] at F;have:=(List.nodup_cons.1 (List.nodup_append.1 F).2.1).1;exact this (List.mem_map.2 ⟨aex p,List.mem_map.2 ⟨p,hp,rfl⟩,by unfold aex; rw [B,e]⟩)
   have X:a.map (λp=>if p.1=id then (id,v) else p)=a:=by
    conv=>rhs; rw [<- List.map_id a]
    exact List.map_congr_left λp hp=>if_neg (I p hp)
   have Y:b.map (λp=>if p.1=id then (id,v) else p)=b:=by
    conv=>rhs; rw [<- List.map_id b]
    exact List.map_congr_left λp hp=>if_neg (hb p hp)
   rw [h1,List.map_append,List.map_cons,X,Y,if_pos B,List.map_append,List.map_cons];exact U
theorem al6 (a b:Value) (w:World):(Instr.field 102 (.agg #[a,b]) 0).run Tryz.prog w=.ok a w:=by kernel_rfl
theorem new_any (base:Nat) (w:World) (hb:base<=w.heap.size) :
 Calls Tryz.prog 35 #[] w λe w'=>∃ P,e=.returned (.pointer (some ⟨P.blk,0,none⟩))/\PendAt base w' P/\P.all=[]/\Below w.heap.size w w'/\w.heap.size<=P.blk/\w.heap.size<=P.mB:=by
 have A:Zq (PendAt base ((w.alloc (.map #[] 0)).alloc (.cells #[.map (some w.heap.size)] 105)) ⟨w.heap.size+1,w.heap.size,[]⟩):=by
  refine ⟨?_,?_,⟨by show base<=w.heap.size+1; omega,hb⟩,by show w.heap.size+1≠w.heap.size; omega⟩
  . have:=heap_alloc_new (w.alloc (.map #[] 0)) (.cells #[.map (some w.heap.size)] 105)
    rw [World.size_alloc] at this; exact this
  . exact (PairsAt.new w).below ((Below.refl _ _).alloc (Nat.le_refl _) _)
 have B:Zq (Below w.heap.size w ((w.alloc (.map #[] 0)).alloc (.cells #[.map (some w.heap.size)] 105))):=((Below.refl _ _).alloc (Nat.le_refl _) _).alloc (by rw [World.size_alloc]; omega) _;have E:∀ w:World,(Instr.makeMap 103 none).run Tryz.prog w=.ok (.map (some w.heap.size)) (w.alloc (.map #[] 0)):=λ_=>rfl
 go_enter Tryz.func35,Tryz.ntmps35;go_wp2_with fail;go_ret;exact ⟨⟨w.heap.size+1,w.heap.size,[]⟩,rfl,A.o,rfl,B.o,Nat.le_succ _,Nat.le_refl _⟩
theorem acj {base:Nat} {P:PendD} (id:Int) (w:World) (h:PendAt base w P) :
 Calls Tryz.prog 13 #[.pointer (some ⟨P.blk,0,none⟩),.int .i64 id] w λe w'=>e=.returned (.int .i64 (aak P.all id).1)/\w'=w:=by
 have c0:=h.cell;have A:=agc h id;clear h;unfold aay at A;generalize aak P.all id=g at *
 have B:=al6 (.int .i64 g.1) (.int .i64 g.2);go_enter Tryz.func13,Tryz.ntmps13;go_wp2_with fail;go_ret;exact ⟨rfl,rfl⟩
def afn (all:List (Int×Int×Int)) (id s:Int):List (Int×Int×Int):=if (aak all id).1=1 then al5 all id (s,0) else all
theorem ahc {base:Nat} {P:PendD} (id s:Int) (w:World) (h:PendAt base w P) :
 Calls Tryz.prog 118 #[.pointer (some ⟨P.blk,0,none⟩),.int .i64 id,.int .i64 s] w λe w'=>∃ v,e=.returned v/\PendAt base w' { P with all:=afn P.all id s }/\Mod (λk=>k=P.mB) w w':=by
 have c0:=h.cell;have J:=zq (acj id w h);have M:Zq (afn P.all id s=if (aak P.all id).1=1 then al5 P.all id (s,0) else P.all):=rfl;obtain ⟨w1,E,A,B⟩:=akn h id (s,0);have F:=zq A;have I:=zq B;have N:=zq h;clear h A B;unfold aay at E;generalize aak P.all id=g at *
 go_enter Tryz.func118,Tryz.ntmps118;go_wp2_with fail;refine J.o.mono ?_;rintro e w2 ⟨rfl,rfl⟩;clear J
 by_cases h1:g.1=1
 . go_wp2_with fail
   go_ret;exact ⟨_,rfl,by rw [M.o,if_pos h1]; exact F.o,I.o⟩
 . go_wp2_with fail
   go_ret;exact ⟨_,rfl,by rw [M.o,if_neg h1]; exact N.o,Mod.refl _ _⟩
def su (all:List (Int×Int×Int)) (id:Int) (m:Msg):List (Int×Int×Int) :=
 if id < 0 then all else if m.kind=3 then afn all m.ref 2 else if m.kind=4 then afn all m.ref 3 else if m.kind=2/\aak all id=(0,0) then al5 all id (1,m.due) else all
end PendW
end Go.Proofs.YtckjigopecocaaaGreatDoor
