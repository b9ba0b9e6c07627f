/- name.Hash of any texts. And what follows. -/
import Derived.Test.YtcgonejkkpbepaaGreatDoorR07
set_option linter.unusedVariables false
set_option linter.unusedSimpArgs false
set_option maxHeartbeats 25600000
set_option maxRecDepth 100000
namespace Go.Proofs.YtcgonejkkpbepaaGreatDoor
namespace NameW
open Go.RowKit OctMath NameMath
def adu (h:Nat) (c:UInt8):Nat:=(31 * h+c.toNat) % 4294967296
def aaj (h:Nat) (l:List UInt8):Nat:=l.foldl adu h
def ng (ls:List (List UInt8)):Nat:=ls.foldl aaj 0
theorem wrap_u32 (x:Nat):IntKind.u32.wrap (x:Int)=((x % 4294967296:Nat):Int):=by
 simp [IntKind.wrap,IntKind.signed,IntKind.bits]
theorem an6 (l:List UInt8):∀ h,h < 4294967296->aaj h l < 4294967296:=by
 induction l with
 | nil=>exact λh A=>A
 | cons c l ih=>exact λh A=>ih _ (Nat.mod_lt _ (by decide))
theorem abh (ls:List (List UInt8)):ng ls < 4294967296:=by
 have:∀ (ls:List (List UInt8)) h,h < 4294967296->ls.foldl aaj h < 4294967296:=λls=>by
  induction ls with
  | nil=>exact λh A=>A
  | cons l ls ih=>exact λh A=>ih _ (an6 l h A)
 exact this ls 0 (by decide)
theorem ag5 (ls:List (List UInt8)) (hls:ls.length<=1048576) (hl:∀ l∈ls,l.length<=1073741824) (a:Option Addr) (cp:Nat) (w:World) (h:Strs w a (ls.map S)) :
 Calls Tryz.prog 68 #[.slice a ls.length cp] w λe w'=>e=.returned (.int .i64 ((ng ls:Nat):Int))/\w'=w:=by
 obtain ⟨E,A⟩:∃ E:World,E=w:=⟨_,rfl⟩;have HH:=zq h;have HL:=zq hl;have HT:=zq (abh ls);clear h hl;go_enter Tryz.func68,Tryz.ntmps68;go_wp2_with fail;go_loopw [9,3] (λi s wr=>wr=E/\∃ k u:Nat,k<=ls.length/\i=.int .i64 (k:Int)/\s=.int .u32 (u:Int)/\Zq (u=ng (ls.take k))/\u < 4294967296) (λi _ _=>ls.length+1 - (intOf i).toNat)
 case atStart=>exact ⟨A.symm,0,0,by omega,rfl,rfl,by simp [Zq,ng],by omega⟩
 case round =>
  obtain ⟨rfl,k,u,hk,rfl,rfl,J,hu⟩:=hrel;subst A
  by_cases hlt:k < ls.length
  ·
   obtain ⟨b,off,rfl,B⟩:=HH.o k (by rw [List.length_map]; exact hlt);rw [List.getElem_map] at B
   have F:Zq (ng (ls.take (k+1))=aaj (ng (ls.take k)) ls[k]):=by
    show _=_;rw [List.take_succ_eq_append_getElem hlt];unfold ng;rw [List.foldl_append];rfl
   have ad:=HL.o ls[k] (List.getElem_mem hlt);generalize ls[k]=l at *
   have M:=ah l;go_wp2_with fail;obtain ⟨E,A⟩:∃ N:World,N=wr:=⟨_,rfl⟩;go_loopw [15,3] (λi s O=>O=E/\∃ j v:Nat,j<=l.length/\i=.int .i64 (j:Int)/\s=.int .u32 (v:Int)/\Zq (v=aaj u (l.take j))/\v < 4294967296) (λi _ _=>l.length+1 - (intOf i).toNat)
   case atStart=>exact ⟨A.symm,0,u,by omega,rfl,rfl,by simp [Zq,aaj],hu⟩
   case round =>
    obtain ⟨rfl,j,v,hj,rfl,rfl,R,hv⟩:=hrel;subst A
    by_cases hjl:j < l.length
    ·
     have al:j < (S l).size:=by rw [M]; exact hjl
     have am:=λw=>anh l j (j:Int) rfl hjl .i64 w
     have I:Zq (aaj u (l.take (j+1))=adu (aaj u (l.take j)) l[j]):=by
      show _=_;rw [List.take_succ_eq_append_getElem hjl];unfold aaj;rw [List.foldl_append];rfl
     generalize l[j]=c at *
     have hc:=c.toNat_lt;have w1:IntKind.u32.wrap (31 * (v:Int))=((31 * v % 4294967296:Nat):Int):=by rw [show 31 * (v:Int)=((31 * v:Nat):Int) by omega,wrap_u32]
     have Z:IntKind.u32.wrap (c.toNat:Int)=(c.toNat:Int):=by rw [wrap_u32,Nat.mod_eq_of_lt (by omega)]
     have w2:IntKind.u32.wrap (((31 * v % 4294967296:Nat):Int)+(c.toNat:Int))=((adu v c:Nat):Int):=by
      rw [show (((31 * v % 4294967296:Nat):Int)+(c.toNat:Int))=((31 * v % 4294967296+c.toNat:Nat):Int) by omega,wrap_u32];unfold adu;congr 1;omega
     have U:Zq (adu v c < 4294967296):=Nat.mod_lt _ (by decide);have X:Zq (adu v c=aaj u (l.take (j+1))):=by show _=_; rw [I.o,<- R.o]
     clear I;generalize adu v c=v2 at *
     generalize ((31 * v % 4294967296:Nat):Int)=z at *
     go_wp2_with fail;go_roundw
     case rel=>exact ⟨trivial,j+1,v2,by omega,by go_num,rfl,X,U.o⟩
     case measure=>simp [intOf]; omega
    ·
     obtain rfl:j=l.length:=by omega
     have Y:Zq (v=ng (ls.take (k+1))):=by
      show _=_;rw [F.o,<- J.o,R.o,List.take_length]
     clear R F;go_wp2_with fail;go_roundw
     case rel=>exact ⟨trivial,k+1,v,by omega,by go_num,rfl,Y,hv⟩
     case measure=>simp [intOf]; omega
  ·
   obtain rfl:k=ls.length:=by omega
   rw [List.take_length] at J;go_wp2_with fail;go_ret;exact ⟨by rw [<- J.o]; rfl,rfl⟩
end NameW
namespace KxW
open Go.RowKit OctMath DskW SegW MapG CacheW NameW
structure KxD where
 blk:Nat
 many:Nat
structure KxAt (base:Nat) (w:World) (X:KxD) (D:DiskD):Prop where
 cells:w.heap[X.blk]?=some (.cells #[.pointer (some ⟨D.blk,0,none⟩),.int .i64 (X.many:Int)] 224 (0,0))
 slots:∃ f,D.find gz=some f/\f.now.length=24
 links:∃ f,D.find iq=some f/\f.now.length=20 * X.many
 low:base<=X.blk
 away:¬ D.foot X.blk
theorem KxAt.below {base:Nat} {w w':World} {X:KxD} {D:DiskD} (h:KxAt base w X D) (hb:Below w.heap.size w w'):KxAt base w' X D :=
 { h with cells:=(hb.block _ (Array.getElem?_eq_some_iff.1 h.cells).1).trans h.cells }
def acv (t k:List UInt8):Nat:=ng [t,[35],k]
theorem ajb (t k:List UInt8):acv t k < 4294967296:=abh _
theorem ajc (t k:List UInt8) (ht:t.length<=1073741824) (hk:k.length<=1073741824) (w:World) :
 Calls Tryz.prog 135 #[.string (S t),.string (S k)] w λe w'=>e=.returned (.int .i64 ((acv t k:Nat):Int))/\Below w.heap.size w w':=by
 have E:Zq (Below w.heap.size w (w.alloc (.cells #[.string (S t),.string ⟨#[35]⟩,.string (S k)] 9))):=(Below.refl _ w).alloc (Nat.le_refl _) _
 have A:=zq (ag5 [t,[35],k] (by simp) (λl B=>by
  simp only [List.mem_cons,List.not_mem_nil,or_false] at B
  rcases B with rfl | rfl | rfl
  . exact ht
  . decide
  . exact hk) (some ⟨w.heap.size,0,none⟩) 3 (w.alloc (.cells #[.string (S t),.string ⟨#[35]⟩,.string (S k)] 9)) (λi F=>by
  have I:i < 3:=F;refine ⟨w.heap.size,0,rfl,?_⟩;rw [World.cell?_alloc_new]
  rcases (show i=0\/i=1\/i=2 by omega) with rfl | rfl | rfl <;> rfl))
 rw [show ([t,[35],k]:List (List UInt8)).length=3 from rfl,show ng [t,[35],k]=acv t k from rfl] at A;go_enter Tryz.func135,Tryz.ntmps135;go_wp2_with fail;refine A.o.mono ?_;rintro e w2 ⟨rfl,J⟩;obtain rfl:=J.symm;go_wp2_with fail;go_ret;exact ⟨rfl,E.o⟩
theorem ap1 (s:List UInt8):(dw 3 ⟨s,0⟩).1 < 16777216:=by
 unfold dw;rw [if_neg (by simp),if_neg (by omega)];have h:=ahy (di 3 ⟨s,0⟩).1;have A:=OctW.abp 3 ⟨s,0⟩;have B:256 ^ (di 3 ⟨s,0⟩).1.length<=256 ^ 3:=Nat.pow_le_pow_right (by decide) A;exact Nat.lt_of_lt_of_le h B
theorem ap2 {D:DiskD} {n:List UInt8} {f:FileD} (hq:Quiet D) (hf:D.find n=some f) (o k:Nat) (h:o+k<=f.now.length):D.readE n (o:Int) (k:Int)=0/\D.readT n (o:Int) (k:Int)=(f.now.drop o).take k:=by
 have hb:D.bars [n]=0:=by unfold DiskD.bars; rw [hq.up]; simp [hf]
 have A:D.bytes n=f.now:=by unfold DiskD.bytes; rw [hf]; rfl
 have B:D.readOk n (o:Int) (k:Int)=true:=by
  unfold DiskD.readOk;rw [A];simp;omega
 unfold DiskD.readE DiskD.readT;rw [if_pos hb,if_pos B,if_pos ⟨hb,B⟩,A];exact ⟨rfl,rfl⟩
theorem an7 {base:Nat} {X:KxD} {D:DiskD} (b:Nat) (hb:b < 8) (w:World) (h:KxAt base w X D) (hD:DiskAt base w D) (hq:Quiet D) :
 Calls Tryz.prog 136 #[.pointer (some ⟨X.blk,0,none⟩),.int .i64 (b:Int)] w λe w'=>∃ u:Nat,e=.returned (.tuple #[.int .i64 (u:Int),.int .i64 0])/\u < 16777216/\Below w.heap.size w w':=by
 obtain ⟨f,N,I⟩:=h.slots;obtain ⟨O,R⟩:=ap2 hq N (3 * b) 3 (by omega);have B:=zq (DskW.read_any gz ((3 * b:Nat):Int) ((3:Nat):Int) (by omega) (by omega) w hD);rw [O,R] at B;rw [show ((3 * b:Nat):Int)=3 * (b:Int) by omega,show ((3:Nat):Int)=3 from rfl] at B;have c0:w.cell? ⟨X.blk,0,none⟩=some (.pointer (some ⟨D.blk,0,none⟩)):=by rw [Lib.cell_of_heap h.cells]; rfl
 have U:Zq (S gz=⟨#[120,45,115,108,111,116,115]⟩):=rfl;rw [U.o] at B;have Y:IntKind.i64.wrap (3 * (b:Int))=3 * (b:Int):=IntWalk.i64_in _ (by omega);clear h hD hq N I O R;have Z:((f.now.drop (3 * b)).take 3).length<=3:=List.length_take_le ..
 generalize (f.now.drop (3 * b)).take 3=s at *
 go_enter Tryz.func136,Tryz.ntmps136;go_wp2_with fail;refine B.o.mono ?_;rintro e w2 ⟨rfl,E⟩;have A:=zq E;clear E B c0;go_wp2_with fail;refine (OctW.new_any s w2).mono ?_;rintro e w3 ⟨rfl,J,M⟩;have HN:=zq (OctW.pz w2.heap.size ⟨s,0⟩ 3 (by omega) (by omega) (by show s.length<=_; omega) w3 J);have F:=zq (A.o.trans (M.mono A.o.size));go_wp2_with fail;refine HN.o.mono ?_;rintro e w4 ⟨rfl,_,ho⟩;go_wp2_with fail;go_ret2;exact ⟨_,rfl,ap1 s,F.o.trans (ho.to_below _ F.o.size λk e=>e ▸ A.o.size)⟩
end KxW
namespace CacheW
open Go.RowKit OctMath DskW SegW MapG
theorem aq2 {base:Nat} {D:DiskD} (n:List UInt8) (f:FileD) (t:List UInt8) (o:Nat) (w:World) (h:DiskAt base w D) (hq:Quiet D) (hf:D.find n=some f) (ho:o+t.length<=f.now.length) (ht:t≠[]) (htl:t.length<=1048576) (hwl:D.waits.length<=1048576) (hbase:base<=w.heap.size) :
 Calls Tryz.prog 138 #[.pointer (some ⟨D.blk,0,none⟩),.string (S n),.int .i64 (o:Int),.string (S t)] w λe w'=>e=.returned (.int .i64 0)/\∃ D',DiskAt base w' D'/\Grows D D' [] 0 1/\Mod D.foot w w'/\(∀ k,D'.foot k->D.foot k\/w.heap.size<=k)/\(∃ f',D'.find n=some f'/\f'.now.length=f.now.length)/\∀ m,m≠n->D'.find m=D.find m:=by
 have A:=h.small n
 have N:f.now.length<=16777216:=by
  unfold DiskD.bytes at A; rw [hf] at A; exact A
 refine (zw n (o:Int) (by omega) t (by omega) hwl w h hbase).mono ?_;rintro e w' ⟨wv,rfl,hd,O,hk⟩;have hb:D.bars [n]=0:=by rw [rz,hq.up,hf]; rfl
 have R:0<=D.room:=by
  have:=h.fits;unfold DiskD.room;omega
 have B:D.fitB f (o:Int) t=0:=by
  unfold DiskD.fitB;rw [if_neg (by omega),if_neg (by omega)]
 have h1:D.writeE n (o:Int) t=0:=by
  unfold DiskD.writeE;rw [if_pos hb,hf];simp only;rw [if_pos B,hq.done]
 have F:D.write n (o:Int) t wv={ D with files:=setNow D.files n (laidL f.now o t),wv:=wv,waits:=D.waits++[⟨f.blk,o,t⟩] }:=by
  unfold DiskD.write;rw [if_pos hb,hf];simp only;rw [if_pos B,if_neg (by rw [hq.left]; simp [ht]),hq.burn,Int.toNat_natCast]
 have I:(laidL f.now o t).length=f.now.length:=by
  unfold laidL;rw [if_neg ht,show o+t.length - f.now.length=0 by omega,List.replicate_zero,List.append_nil,qg _ _ _ (by omega)];omega
 have E:=lm hf;refine ⟨by rw [h1],D.write n (o:Int) t wv,hd,?_,O,hk,?_,λm J=>?_⟩
 ·
  rw [F];refine ⟨⟨hq.left,hq.up⟩,rfl,rfl,by rw [List.append_nil]; exact aap _ _ _,?_,by simp⟩;have:=zu D.files n (laidL f.now o t) f h.names E;show fe (setNow D.files n (laidL f.now o t))=fe D.files+0;omega
 ·
  rw [F];have:=qh D.files n (laidL f.now o t) n;rw [if_pos rfl] at this;refine ⟨{ f with now:=laidL f.now o t },?_,I⟩;have M:(D.files.find? λp=>p.1 == n).map (·.2)=some f:=hf;show (((setNow D.files n (laidL f.now o t)).find? λp=>p.1 == n).map (·.2))=_;rw [this,M]; rfl
 ·
  rw [F];have:=qh D.files n (laidL f.now o t) m;rw [if_neg J] at this;exact this
end CacheW
namespace TlW
open Go.RowKit OctMath DskW SegW MapG CacheW KxW
structure ar3 (w:World) (wb p:Nat) (D:DiskD):Prop where
 cells:w.heap[wb]?=some (.cells #[.pointer (some ⟨D.blk,0,none⟩),.int .i64 (p:Int)] 312 (0,0))
 slots:∃ f,D.find lh=some f/\f.now.length=96
open EntW
structure TlD where
 blk:Nat
 wb:Nat
 p:Nat
 many:Nat
structure ar4 (base:Nat) (w:World) (L:TlD) (D:DiskD):Prop where
 cells:w.heap[L.blk]?=some (.cells #[.pointer (some ⟨L.wb,0,none⟩),.int .i64 (L.many:Int)] 251 (0,0))
 wheel:ar3 w L.wb L.p D
 marks:∃ f,D.find qj=some f/\f.now.length=20 * L.many
 low:base<=L.blk/\base<=L.wb
 away:¬ D.foot L.blk/\¬ D.foot L.wb/\L.blk≠L.wb
end TlW
namespace StoW
open Go.RowKit Go.MapKept OctMath RecMath RecW TapeMath DskW SegW MapG TapeW PendW CacheW CqW KxW TlW
structure an8 (base B kb:Nat) (w w':World) (D D':DiskD) (C:CqD):Prop where
 cq:CqAt base w' C
 qs:C.qs=[]
 db:C.db=D.blk
 dsk:DiskAt base w' D'
 grow:Grows D D' [iq,gz,lh,qj] 120 2
 cnew:∀ k,C.foot k->w.heap.size<=k
 dnew:∀ k,D'.foot k->D.foot k\/w.heap.size<=k
 away:∀ k,C.foot k->¬ D'.foot k
 mod:Mod (λk=>D.foot k\/k=B) w w'
 kx:KxAt base w' ⟨kb,0⟩ D'
 knew:w.heap.size<=kb
 kaway:¬ C.foot kb
structure aru (base tb wb now kb:Nat) (w w':World) (D':DiskD) (C:CqD):Prop where
 tl:ar4 base w' ⟨tb,wb,now,0⟩ D'
 tnew:w.heap.size<=tb/\w.heap.size<=wb
 away:¬ C.foot tb/\¬ C.foot wb
 kne:tb≠kb/\wb≠kb
theorem al6 {base B:Nat} {D:DiskD} (v0 v1 v2 v3 v4 v5 v6 v7 v8 v9 v10:Value) (now:Nat) (hnow:now<=1099511627776) (w:World) (hB:w.heap[B]?=some (.cells #[v0,v1,v2,v3,v4,v5,v6,v7,v8,v9,v10,.int .i64 (now:Int)] 63 (0,0))) (hBD:¬ D.foot B)
 (h:DiskAt base w D) (hq:Quiet D) (hf:D.files=[]) (hr:120<=D.room) (hwl:D.waits=[]) (hbase:base<=w.heap.size) :
 Calls Tryz.prog 44 #[.pointer (some ⟨B,0,none⟩),.pointer (some ⟨D.blk,0,none⟩)] w λe w'=>e=.returned (.int .i64 0)/\∃ C D' kb tb wb,an8 base B kb w w' D D' C/\aru base tb wb now kb w w' D' C /\
  w'.heap[B]?=some (.cells #[v0,.pointer (some ⟨C.blk,0,none⟩),.pointer (some ⟨kb,0,none⟩),v3,v4,.pointer (some ⟨tb,0,none⟩),v6,v7,v8,v9,v10,.int .i64 (now:Int)] 63 (0,0)):=by
 have b1:=zq (apw w h (by rw [hf]; simp) (by rw [hf]; intro p hp; cases hp) (by rw [hf]; intro p hp; cases hp) hbase);have HB:=zq hB;have ab:=zq hBD;have HD:=zq h;have HQ:=zq hq;have HF:=zq hf;have b2:=zq hr;have b3:=zq hwl;have ac:=zq hbase;have c7:=zq hnow;have c8:=(Array.getElem?_eq_some_iff.1 hB).1;clear hB hBD h hq hf hr hwl hbase hnow;go_enter Tryz.func44,Tryz.ntmps44;go_wp2_with fail;refine b1.o.mono ?_;rintro e w2 ⟨C,rfl,hC,b4,b5,R,bb⟩;have ad:w2.heap[B]?=_:=(R.block B c8).trans HB.o;have f1:=aj ad 1;have d1:=aa ad 1 _ rfl;have J:Mod (λk=>k=B) w2 (w2.setCell ⟨B,1,none⟩ (.pointer (some ⟨C.blk,0,none⟩))):=(Mod.refl (λk=>k=B) w2).setCell (.inl rfl) _;have b6:=heap_setCell_same w2 B 1 _ _ (.pointer (some ⟨C.blk,0,none⟩)) ad;have da:=zq J;have U:=zq b6;have bc:=zq R;have E:=zq bb;have b7:CqAt base (w2.setCell ⟨B,1,none⟩ (.pointer (some ⟨C.blk,0,none⟩))) C:=hC.mod J (λk hk e=>by have:=bb k hk; omega);have b8:=zq b7;have bd:DiskAt base (w2.setCell ⟨B,1,none⟩ (.pointer (some ⟨C.blk,0,none⟩))) D:=(HD.o.below R).mod J (λk hk e=>ab.o (e ▸ hk));have d8:=zq bd;have db:=zq b4;have dc:=zq b5;have b9:=zq (aly _ bd HQ.o (by rw [HF.o]; simp) (by rw [HF.o]; intro p hp; cases hp) (by rw [HF.o]; intro p hp; cases hp) (by have:=b2.o; omega) (by rw [b3.o]; simp) (Nat.le_trans ac.o (Nat.le_trans R.size J.size)));have ca:w2.heap.size<=(w2.setCell ⟨B,1,none⟩ (.pointer (some ⟨C.blk,0,none⟩))).heap.size:=J.size;have cb:=zq ca;clear hC b4 b5 R bb ad J b6 b7 bd ca b1;go_wp2_with fail;generalize w2.setCell ⟨B,1,none⟩ (.pointer (some ⟨C.blk,0,none⟩))=w3 at *
 refine b9.o.mono ?_;rintro e w4 ⟨kb,rfl,bh,cc,D1,cd,F,X,bj,ak,ar,av⟩;have al:w4.heap[B]?=_:=(X.block B (Array.getElem?_eq_some_iff.1 U.o).1 ab.o).trans U.o;have f2:=aj al 2;have d2:=aa al 2 _ rfl;have N:Mod (λk=>k=B) w4 (w4.setCell ⟨B,2,none⟩ (.pointer (some ⟨kb,0,none⟩))):=(Mod.refl (λk=>k=B) w4).setCell (.inl rfl) _;have bk:=heap_setCell_same w4 B 2 _ _ (.pointer (some ⟨kb,0,none⟩)) al;have dd:=aa bk 11 _ rfl;have ce:B < w3.heap.size:=(Array.getElem?_eq_some_iff.1 U.o).1;have bl:∀ k,C.foot k->¬ D.foot k:=λk hk A=>by have:=E.o k hk; have:=HD.o.lt A; omega
 have bm:∀ k,C.foot k->k≠B:=λk hk e=>by have:=E.o k hk; omega
 have cf:=zq bl;have de:=zq bm;have cg:CqAt base (w4.setCell ⟨B,2,none⟩ (.pointer (some ⟨kb,0,none⟩))) C:=(b8.o.mod X bl).mod N bm
 have Y:¬ D1.foot B:=λA=>by
  rcases (bj B A).1 with h3 | h3
  . exact ab.o h3
  . omega
 have bo:DiskAt base (w4.setCell ⟨B,2,none⟩ (.pointer (some ⟨kb,0,none⟩))) D1:=cd.mod N (λk hk e=>Y (e ▸ hk));have am:D1.files.map (·.1)=[iq,gz]:=by rw [F.names,HF.o]; rfl
 have dj:D1.files.length=2:=by have:=congrArg List.length am; rw [List.length_map] at this; exact this
 have ci:D1.waits.length=1:=by rw [F.waits,b3.o]; rfl
 have bp:=zq (alx now c7.o _ bo F.quiet (by omega) (λp hp=>by
  have:p.1∈D1.files.map (·.1):=List.mem_map.2 ⟨p,hp,rfl⟩;rw [am] at this
  rcases List.mem_cons.1 this with e | A
  . rw [e]; decide
  . rcases List.mem_cons.1 A with e | A
    . rw [e]; decide
    . cases A) (λx hx=>by
  rw [am] at hx
  rcases List.mem_cons.1 hx with e | A
  . rw [e]; rfl
  . rcases List.mem_cons.1 A with e | A
    . rw [e]; rfl
    . cases A) (by rw [F.room]; have:=b2.o; omega) (by omega) (Nat.le_trans ac.o (Nat.le_trans bc.o.size (Nat.le_trans cb.o (Nat.le_trans X.size N.size)))))
 rw [F.blk] at bp;have cj:=zq bk;have dk:=zq cg;have ea:=zq bo;have br:=zq F;have ck:=zq Y;have bs:=zq X;have bw:=zq N;have cm:=zq bj;have dl:=zq (show w3.heap.size<=kb/\(w4.setCell ⟨B,2,none⟩ (.pointer (some ⟨kb,0,none⟩))).heap[kb]?=some (.cells #[.pointer (some ⟨D.blk,0,none⟩),.int .i64 0] 224 (0,0))/\(∃ f,D1.find gz=some f/\f.now.length=24)/\∃ f,D1.find iq=some f/\f.now.length=0 from ⟨cc,(N.block kb (Array.getElem?_eq_some_iff.1 bh).1 (λe=>by omega)).trans bh,ar,av⟩);clear al N bk bl bm cg Y bo am dj ci cd F X bj ak bh cc ar av b9 f1 d1 ce;go_wp2_with fail;generalize w4.setCell ⟨B,2,none⟩ (.pointer (some ⟨kb,0,none⟩))=w5 at *
 refine bp.o.mono ?_;rintro e w6 ⟨tb,wb,rfl,cn,co,cp,cq,cr,D2,cs,cv,bz,cw,I,a7,a8⟩;have an:w6.heap[B]?=_:=(bz.block B (Array.getElem?_eq_some_iff.1 cj.o).1 ck.o).trans cj.o;have f5:=aj an 5;have d5:=aa an 5 _ rfl;have dn:=zq an;have ao:=zq bz;have ap:=zq cw;have b0:=zq cv;have dp:=zq cs;have ba:=zq I;have dq:=zq (And.intro cn (And.intro co (And.intro cp (And.intro cq (And.intro cr (And.intro a7 a8))))));clear a7 a8 cn co cp cq cr cs cv bz cw I an bp f2 d2 dd;go_wp2_with fail;go_ret;have O:Mod (λk=>k=B) w6 (w6.setCell ⟨B,5,none⟩ (.pointer (some ⟨tb,0,none⟩))):=(Mod.refl (λk=>k=B) w6).setCell (.inl rfl) _;have g1:∀ k,D1.foot k->D.foot k\/w3.heap.size<=k:=λk hk=>(cm.o k hk).1
 have g2:∀ k,D2.foot k->D.foot k\/w3.heap.size<=k:=λk hk=>by
  rcases (ap.o k hk).1 with A | A
  . exact g1 k A
  . have:=bs.o.size; have:=bw.o.size; exact .inr (by omega)
 have Z:∀ k,C.foot k->k < w3.heap.size:=λk hk=>b8.o.lt hk
 have g3:∀ k,C.foot k->¬ D1.foot k:=λk hk A=>by
  rcases g1 k A with h3 | h3
  . exact cf.o k hk h3
  . have:=Z k hk; omega
 have g4:∀ k,C.foot k->¬ D2.foot k:=λk hk A=>by
  rcases g2 k A with h3 | h3
  . exact cf.o k hk h3
  . have:=Z k hk; omega
 have dv:w.heap.size<=w3.heap.size:=Nat.le_trans bc.o.size cb.o;obtain ⟨k1,k2,k3,k4⟩:=dl.o;have cx:kb < w5.heap.size:=(Array.getElem?_eq_some_iff.1 k2).1;have cy:¬ D1.foot kb:=λA=>(cm.o kb A).2 rfl
 have dy:B < w3.heap.size:=(Array.getElem?_eq_some_iff.1 U.o).1;have hM:Mod (λk=>(D.foot k\/k=B)\/w.heap.size<=k) w w3:=(Mod.of_below (M:=λk=>(D.foot k\/k=B)\/w.heap.size<=k) bc.o).trans (da.o.mono λk _ e=>.inl (.inr e));have dr:Mod (λk=>(D.foot k\/k=B)\/w.heap.size<=k) w3 w6:=((bs.o.mono λk _ e=>.inl (.inl e)).trans (bw.o.mono λk _ e=>.inl (.inr e))).trans (ao.o.mono λk _ e=>(g1 k e).elim (λh=>.inl (.inl h)) λh=>.inr (by omega));have ds:Mod (λk=>D.foot k\/k=B) w (w6.setCell ⟨B,5,none⟩ (.pointer (some ⟨tb,0,none⟩))):=((hM.trans dr).trans (O.mono λk _ e=>.inl (.inr e))).mono λk hk e=>e.elim (λh=>h) λh=>by omega
 obtain ⟨n1,n2,n3,n4,n5,n6,n7⟩:=dq.o;have ef:=Nat.le_trans bs.o.size bw.o.size;refine ⟨rfl,C,D2,kb,tb,wb,⟨(dk.o.mod ao.o g3).mod O de.o,db.o,dc.o,dp.o.mod O (λk hk e=>?_),br.o.trans b0.o,E.o,λk hk=>(g2 k hk).imp (λh=>h) λh=>by omega,g4,ds,⟨?_,?_,?_,?_,?_⟩,by omega,λh=>by have:=Z kb h; omega⟩,⟨⟨?_,⟨?_,n6⟩,?_,by have:=ac.o; show base<=tb/\base<=wb; omega,⟨λA=>(ap.o tb A).2.1 rfl,λA=>(ap.o wb A).2.2 rfl,n5⟩⟩,by omega,⟨λA=>by have:=Z tb A; omega,λA=>by have:=Z wb A; omega⟩,by omega⟩,heap_setCell_same _ B 5 _ _ _ dn.o⟩
 ·
  subst e
  rcases g2 _ hk with h3 | h3
  . exact ab.o h3
  . have:=(Array.getElem?_eq_some_iff.1 U.o).1; omega
 . show (w6.setCell ⟨B,5,none⟩ (.pointer (some ⟨tb,0,none⟩))).heap[kb]?=some (.cells #[.pointer (some ⟨D2.blk,0,none⟩),.int .i64 0] 224 (0,0))
   rw [(br.o.trans b0.o).blk];exact (O.block kb (Nat.lt_of_lt_of_le cx ao.o.size) (λe=>by omega)).trans ((ao.o.block kb cx cy).trans k2)
 . rw [ba.o gz (by decide) (by decide)]; exact k3
 . rw [ba.o iq (by decide) (by decide)]; exact k4
 . have:=ac.o; show base<=kb; omega
 . exact λA=>(ap.o kb A).1.elim cy λh=>by omega
 . exact (O.block tb (Array.getElem?_eq_some_iff.1 n1).1 (λe=>by omega)).trans n1
 . show (w6.setCell ⟨B,5,none⟩ (.pointer (some ⟨tb,0,none⟩))).heap[wb]?=some (.cells #[.pointer (some ⟨D2.blk,0,none⟩),.int .i64 (now:Int)] 312 (0,0))
   rw [(br.o.trans b0.o).blk];exact (O.block wb (Array.getElem?_eq_some_iff.1 n2).1 (λe=>by omega)).trans n2
 . obtain ⟨f,a1,a2⟩:=n7
   exact ⟨f,a1,a2⟩
def uf (l:List (Nat×Msg)) (all:List (Int×Int×Int)):List (Int×Int×Int):=l.foldl (λa p=>aah a (p.1:Int) p.2) all
theorem eu {M:Nat->Prop} {u v:World} (h:Mod M u v) {b:Nat} {o:Obj} (hb:u.heap[b]?=some o) (hM:¬ M b):v.heap[b]?=some o :=
 (h.block b (Array.getElem?_eq_some_iff.1 hb).1 hM).trans hb
theorem jd {u v:World} (h:Below u.heap.size u v) {b:Nat} {o:Obj} (hb:u.heap[b]?=some o):v.heap[b]?=some o :=
 (h.block b (Array.getElem?_eq_some_iff.1 hb).1).trans hb
def OnceG (B s0:Nat) (o:Nat->Obj) (n:Obj) (u v:World):Prop:=Mod (λk=>k=B) u v/\(v.heap[B]?=u.heap[B]?\/∃ b,v.heap[B]?=some (o b)/\v.heap[b]?=some n/\s0<=b)
theorem OnceG.refl (B s0:Nat) (o:Nat->Obj) (n:Obj) (w:World):OnceG B s0 o n w w:=⟨Mod.refl _ _,.inl rfl⟩
theorem OnceG.keep {B s0:Nat} {o:Nat->Obj} {n:Obj} (hB:B < s0) {u v:World} (h:OnceG B s0 o n u v) {b:Nat} (hb:s0<=b) (hn:u.heap[b]?=some n):v.heap[b]?=some n:=eu h.1 hn (by omega)
theorem OnceG.trans {B s0:Nat} {o:Nat->Obj} {n:Obj} (hB:B < s0) {u v w:World} (h:OnceG B s0 o n u v) (k:OnceG B s0 o n v w):OnceG B s0 o n u w :=
 ⟨h.1.trans k.1,k.2.elim (λe=>h.2.elim (λE=>.inl (e.trans E)) λ⟨b,h1,F,A⟩=>.inr ⟨b,e.trans h1,k.keep hB A F,A⟩) .inr⟩
theorem OnceG.below {B s0:Nat} {o:Nat->Obj} {n:Obj} {u v:World} (h:Below u.heap.size u v) (hB:B < u.heap.size):OnceG B s0 o n u v:=⟨Mod.of_below h,.inl (h.block B hB)⟩
def YT (s0:Nat) (n:Obj) (v:Value) (w:World):Prop:=∃ b,v=.tuple #[.pointer (some ⟨b,0,none⟩),.int .i64 0]/\w.heap[b]?=some n/\s0<=b
def YP (s0:Nat) (n:Obj) (v:Value) (w:World):Prop:=∃ b,v=.pointer (some ⟨b,0,none⟩)/\w.heap[b]?=some n/\s0<=b
def YS (B s0:Nat) (o:Nat->Obj) (n:Obj) (w:World):Prop:=∃ b,w.heap[B]?=some (o b)/\w.heap[b]?=some n/\s0<=b
theorem ajd {base B cb kb tb:Nat} {T:TapeD} {P:PendD} (v3 v4 now:Value) (W:World) (h0r:T.O.recs=[]) (hB:W.heap[B]?=some (.cells #[.pointer (some ⟨T.O.blk,0,none⟩),.pointer (some ⟨cb,0,none⟩),.pointer (some ⟨kb,0,none⟩),v3,v4,.pointer (some ⟨tb,0,none⟩),.pointer (some ⟨P.blk,0,none⟩),.pointer none,.pointer none,.pointer none,.pointer (some ⟨T.D.blk,0,none⟩),now] 63 (0,0))) (h:TapeAt base W T) (hP:PendAt base W P) (haw:(∀ k,T.foot k->k≠B/\¬ P.foot k)/\∀ k,P.foot k->k≠B)
 (hT:TabB base W) (hbase:base<=W.heap.size) (hq:Quiet T.D) (hn:T.D.find TopW.agw=none) (hl:T.O.recs.length<=1000000) (hk2:∀ p∈T.O.recs,p.2.kind≠2)
 (hBb:base<=B) {M:Nat->Prop} {Post:Nat->World->World->Prop} (hMb:∀ k,M k->base<=k) (hM:∀ k,M k->k < W.heap.size/\k≠B/\¬ T.foot k/\¬ P.foot k)
 (hall:∀ (w:World) (Z:Nat),Mod (λk=>k=B\/P.foot k) W w->W.heap.size<=Z->w.heap[Z]?=some (.cells #[.pointer (some ⟨T.O.blk,0,none⟩),.pointer (some ⟨cb,0,none⟩),.pointer (some ⟨kb,0,none⟩),.int .i64 (T.R.b:Int)] 91 (0,0)) ->
  Calls Tryz.prog 94 #[.pointer (some ⟨Z,0,none⟩)] w λe w'=>∃ n:Int,e=.returned (.tuple #[.int .i64 n,.int .i64 0])/\Post Z w w'/\Mod (λk=>M k\/k=Z) w w')
 (hstab:∀ Z w0 w1 w2 b8 b9,Post Z w0 w1->W.heap.size<=b8->b8 < w0.heap.size->W.heap.size<=b9->b9 < w0.heap.size->b8≠Z->b9≠Z->Mod (λk=>k=b8\/k=b9) w1 w2->Post Z w0 w2) :
 Calls Tryz.prog 45 #[.pointer (some ⟨B,0,none⟩)] W λe w'=>e=.returned (.int .i64 0)/\∃ Z b8 b9 w0,w'.heap[B]?=some (.cells #[.pointer (some ⟨T.O.blk,0,none⟩),.pointer (some ⟨cb,0,none⟩),.pointer (some ⟨kb,0,none⟩),v3,v4,.pointer (some ⟨tb,0,none⟩),.pointer (some ⟨P.blk,0,none⟩),.pointer (some ⟨Z,0,none⟩),.pointer (some ⟨b8,0,none⟩),.pointer (some ⟨b9,0,none⟩),.pointer (some ⟨T.D.blk,0,none⟩),now] 63 (0,0))/\TapeAt base w' T/\PendAt base w' { P with all:=uf T.O.recs P.all } /\
  Post Z w0 w'/\W.heap.size<=Z/\Z < w0.heap.size/\Mod (λk=>k=B\/P.foot k\/M k) W w':=by
 have d7:=zq h0r;clear h0r;have ea:=zq (TopW.acf W h.whole.dsk hq.up hn);have eb:(T.O.recs.map (·.1)).Pairwise (· < ·):=by rw [h.recs]; exact (ku h.fits).2
 have ec:TapeW.placeL T.O.recs 0=0:=by
  unfold TapeW.placeL idI;rw [List.countP_eq_zero];intro i hi;obtain ⟨y,hy,rfl⟩:=List.mem_map.1 hi;simp
 have ee:Zq (∀ w,Below W.heap.size W w->Calls Tryz.prog 36 #[.pointer (some ⟨T.O.blk,0,none⟩),.int .i64 0] w λe w'=>∃ v,e=.returned v/\w'.ownsRow w.heap.size 3 1 v T.O.recs.length (uu T.O.recs)/\Below w.heap.size w w'):=λw hb=>aj6 0 w (h.own.below hb) eb (by omega) ec
 have f2:=aa hB 10 _ rfl;have HB:=zq hB;have HH:=zq h;have HP:=zq hP;have a6:=zq haw;have ga:=zq hT;have gb:=zq hbase;have HQ:=zq hq;have HL:=zq hl;have gd:=zq hk2;have HM:=zq hM;have cr:=zq hall;have ge:=zq hMb;have gf:=zq hBb;have dp:=zq hstab;have eh:=(Array.getElem?_eq_some_iff.1 hB).1;clear hMb hBb hB h hP haw hT hbase hq hn hl hk2 hM hall hstab eb ec;go_enter Tryz.func45,Tryz.ntmps45;go_wp2_with fail;refine ea.o.mono ?_;rintro e w2 ⟨rfl,hb⟩;have co:Zq (Below W.heap.size W (w2.alloc (.cells #[.int .i64 0,.slice none 0 0] 127))):=hb.alloc hb.size _;clear hb ea f2;go_wp2_with fail;generalize w2.alloc (.cells #[.int .i64 0,.slice none 0 0] 127)=w3 at *
 obtain ⟨wo,ei⟩:∃ wo:World,wo=w3:=⟨_,rfl⟩;go_loopw [30] (λi wr=>wr=wo/\i=.int .i64 0) (λ_ _=>0)
 case atStart=>exact ⟨ei.symm,rfl⟩
 case round =>
  obtain ⟨rfl,rfl⟩:=hrel;subst ei;obtain ⟨wA,rfl⟩:∃ wA:World,wA=wr:=⟨_,rfl⟩;have c0:wA.cell? ⟨B,0,none⟩=some (.pointer (some ⟨T.O.blk,0,none⟩)):=aa ((co.o.block B eh).trans HB.o) 0 _ rfl;have HI:=zq (ee.o wA co.o);clear ee;go_wp2_with fail;refine HI.o.mono ?_;rintro e w4 ⟨idv,rfl,br,ej⟩;obtain ⟨ia,ic,dq⟩:=kg br;have ek:=zq br;have em:Zq (Below W.heap.size W w4):=co.o.trans (ej.mono co.o.size);have gh:=zq dq;rw [dq];clear br ej HI c0 dq;go_wp2_with fail;generalize w2.heap.size=g2 at *
  go_loopw [55] (λi wl=>∃ k:Nat,k<=T.O.recs.length/\i=.int .i64 (k:Int)/\Zq (PendAt base wl { P with all:=uf (T.O.recs.take k) P.all }/\Mod P.foot w4 wl)) (λi _=>T.O.recs.length - (intOf i).toNat)
  case atStart=>exact ⟨0,Nat.zero_le _,rfl,HP.o.below em.o,Mod.refl _ _⟩
  case round =>
   obtain ⟨k,hk,rfl,HS⟩:=hrel;have hl:=HL.o;have cp:Mod P.foot W wr:=(Mod.of_below (M:=P.foot) em.o).trans HS.o.2;have gi:=zq cp;have gj:TapeAt base wr T:=HH.o.mod cp (λj hj=>(a6.o.1 j hj).2);have en:=zq gj;have dr:wr.heap[B]?=_:=(cp.block B eh (λF=>a6.o.2 B F rfl)).trans HB.o;have ds:=zq dr;have c0:wr.cell? ⟨B,0,none⟩=some (.pointer (some ⟨T.O.blk,0,none⟩)):=aa dr 0 _ rfl;clear dr cp
   by_cases hlt:k < T.O.recs.length
   . exact absurd hlt (by rw [d7.o]; exact Nat.not_lt_zero _)
   ·
    have gk:k=T.O.recs.length:=by omega
    subst gk;rw [List.take_length] at HS;have eo:Zq (Mod (λk=>k=B\/P.foot k) W wr):=gi.o.mono λk _ e=>.inr e
    have gl:Zq (PendAt base wr { P with all:=uf T.O.recs P.all }):=HS.o.1;clear HS ek gh c0;have a7:B < wr.heap.size:=(Array.getElem?_eq_some_iff.1 ds.o).1
    have am:Zq (∀ w,OnceG B wr.heap.size (λb=>.cells #[.pointer (some ⟨T.O.blk,0,none⟩),.pointer (some ⟨cb,0,none⟩),.pointer (some ⟨kb,0,none⟩),v3,v4,.pointer (some ⟨tb,0,none⟩),.pointer (some ⟨P.blk,0,none⟩),.pointer (some ⟨b,0,none⟩),.pointer none,.pointer none,.pointer (some ⟨T.D.blk,0,none⟩),now] 63 (0,0)) (.cells #[.pointer (some ⟨T.O.blk,0,none⟩),.pointer (some ⟨cb,0,none⟩),.pointer (some ⟨kb,0,none⟩),.int .i64 (T.R.b:Int)] 91 (0,0)) wr.drew w->w.cell? ⟨B,0,none⟩=some (.pointer (some ⟨T.O.blk,0,none⟩))/\w.cell? ⟨B,1,none⟩=some (.pointer (some ⟨cb,0,none⟩))/\w.cell? ⟨B,2,none⟩=some (.pointer (some ⟨kb,0,none⟩))):=λw E=>by
     rcases E.2 with e | ⟨b,e,_⟩
     . have hb:=e.trans (show wr.drew.heap[B]?=_ from ds.o)
       exact ⟨aa hb 0 _ rfl,aa hb 1 _ rfl,aa hb 2 _ rfl⟩
     . exact ⟨aa e 0 _ rfl,aa e 1 _ rfl,aa e 2 _ rfl⟩
    have al:Zq (∀ w,OnceG B wr.heap.size (λb=>.cells #[.pointer (some ⟨T.O.blk,0,none⟩),.pointer (some ⟨cb,0,none⟩),.pointer (some ⟨kb,0,none⟩),v3,v4,.pointer (some ⟨tb,0,none⟩),.pointer (some ⟨P.blk,0,none⟩),.pointer (some ⟨b,0,none⟩),.pointer none,.pointer none,.pointer (some ⟨T.D.blk,0,none⟩),now] 63 (0,0)) (.cells #[.pointer (some ⟨T.O.blk,0,none⟩),.pointer (some ⟨cb,0,none⟩),.pointer (some ⟨kb,0,none⟩),.int .i64 (T.R.b:Int)] 91 (0,0)) wr.drew w->Calls Tryz.prog 91 #[.pointer (some ⟨T.O.blk,0,none⟩),.pointer (some ⟨cb,0,none⟩),.pointer (some ⟨kb,0,none⟩)] w λe w'=>∃ b,e=.returned (.tuple #[.pointer (some ⟨b,0,none⟩),.int .i64 0])/\w'.heap[b]?=some (.cells #[.pointer (some ⟨T.O.blk,0,none⟩),.pointer (some ⟨cb,0,none⟩),.pointer (some ⟨kb,0,none⟩),.int .i64 (T.R.b:Int)] 91 (0,0))/\wr.heap.size<=b/\OnceG B wr.heap.size (λb=>.cells #[.pointer (some ⟨T.O.blk,0,none⟩),.pointer (some ⟨cb,0,none⟩),.pointer (some ⟨kb,0,none⟩),v3,v4,.pointer (some ⟨tb,0,none⟩),.pointer (some ⟨P.blk,0,none⟩),.pointer (some ⟨b,0,none⟩),.pointer none,.pointer none,.pointer (some ⟨T.D.blk,0,none⟩),now] 63 (0,0)) (.cells #[.pointer (some ⟨T.O.blk,0,none⟩),.pointer (some ⟨cb,0,none⟩),.pointer (some ⟨kb,0,none⟩),.int .i64 (T.R.b:Int)] 91 (0,0)) w w'):=λw E =>
     (agt cb kb w ((en.o.below ((Below.refl _ wr).drew)).mod E.1 (λj hj=>(a6.o.1 j hj).1))).mono λe w' ⟨b,h1,F⟩=>⟨b,h1,F.cells,Nat.le_trans E.1.size F.new,OnceG.below F.below (Nat.lt_of_lt_of_le a7 E.1.size)⟩
    go_upto_region 19 with fail
    refine GrowN.au 20 [none,none,none,none,none,none,none,none,none,none,none,none,none,some (.inr (λ_=>YT wr.heap.size (.cells #[.pointer (some ⟨T.O.blk,0,none⟩),.pointer (some ⟨cb,0,none⟩),.pointer (some ⟨kb,0,none⟩),.int .i64 (T.R.b:Int)] 91 (0,0)))),some (.inr (λ_=>YT wr.heap.size (.cells #[.pointer (some ⟨T.O.blk,0,none⟩),.pointer (some ⟨cb,0,none⟩),.pointer (some ⟨kb,0,none⟩),.int .i64 (T.R.b:Int)] 91 (0,0)))),some (.inr (λ_=>YP wr.heap.size (.cells #[.pointer (some ⟨T.O.blk,0,none⟩),.pointer (some ⟨cb,0,none⟩),.pointer (some ⟨kb,0,none⟩),.int .i64 (T.R.b:Int)] 91 (0,0)))),some (.inl (.int .i64 0)),none,none,some (.inr (λ_ _=>YS B wr.heap.size (λb=>.cells #[.pointer (some ⟨T.O.blk,0,none⟩),.pointer (some ⟨cb,0,none⟩),.pointer (some ⟨kb,0,none⟩),v3,v4,.pointer (some ⟨tb,0,none⟩),.pointer (some ⟨P.blk,0,none⟩),.pointer (some ⟨b,0,none⟩),.pointer none,.pointer none,.pointer (some ⟨T.D.blk,0,none⟩),now] 63 (0,0)) (.cells #[.pointer (some ⟨T.O.blk,0,none⟩),.pointer (some ⟨cb,0,none⟩),.pointer (some ⟨kb,0,none⟩),.int .i64 (T.R.b:Int)] 91 (0,0))))] (OnceG B wr.heap.size (λb=>.cells #[.pointer (some ⟨T.O.blk,0,none⟩),.pointer (some ⟨cb,0,none⟩),.pointer (some ⟨kb,0,none⟩),v3,v4,.pointer (some ⟨tb,0,none⟩),.pointer (some ⟨P.blk,0,none⟩),.pointer (some ⟨b,0,none⟩),.pointer none,.pointer none,.pointer (some ⟨T.D.blk,0,none⟩),now] 63 (0,0)) (.cells #[.pointer (some ⟨T.O.blk,0,none⟩),.pointer (some ⟨cb,0,none⟩),.pointer (some ⟨kb,0,none⟩),.int .i64 (T.R.b:Int)] 91 (0,0))) (by kernel_rfl) (by kernel_rfl) (by kernel_rfl) (OnceG.refl _ _ _ _) (λ_ _ _=>OnceG.trans a7) ?_ ?_
    . intro K hK Y hY l v w w' hR
      simp only [List.mem_cons,List.not_mem_nil,or_false] at hK
      rcases hK with rfl | rfl | rfl | rfl | rfl | rfl | rfl | rfl | rfl | rfl | rfl | rfl | rfl | rfl | rfl | rfl | rfl | rfl | rfl | rfl <;> simp only [reduceCtorEq,Option.some.injEq,Sum.inr.injEq] at hY
      iterate 3
       . subst hY; exact λ⟨b,h1,F,I⟩=>⟨b,h1,OnceG.keep a7 hR I F,I⟩
      . subst hY; exact λ⟨b,h1,F,I⟩=>hR.2.elim (λe=>⟨b,e.trans h1,OnceG.keep a7 hR I F,I⟩) λh=>h
    simp only [List.take_succ_cons,List.take_zero,List.drop_succ_cons,List.drop_zero]
    iterate 4
     refine GrowN.g_det rfl ?_;apply Exists.intro;refine ⟨λw E A=>?_,?_⟩
     . clear A
       go_simp;exact ⟨rfl,OnceG.refl _ _ _ _ _⟩
     go_frame
    iterate 2
     refine GrowN.g_det rfl ?_;apply Exists.intro;refine ⟨λw E A=>?_,?_⟩
     . clear A
       have hc:=(am.o w E);obtain ⟨e0,e1,e2⟩:=hc;go_simp;exact ⟨rfl,OnceG.refl _ _ _ _ _⟩
     go_frame;refine GrowN.g_det rfl ?_;apply Exists.intro;refine ⟨λw E A=>?_,?_⟩
     . clear A
       go_simp;exact ⟨rfl,OnceG.refl _ _ _ _ _⟩
     go_frame;refine GrowN.g_det rfl ?_;apply Exists.intro;refine ⟨λw E A=>?_,?_⟩
     . clear A
       go_simp;exact ⟨rfl,OnceG.refl _ _ _ _ _⟩
     go_frame;refine GrowN.g_det rfl ?_;apply Exists.intro;refine ⟨λw E A=>?_,?_⟩
     . clear A
       go_simp;exact ⟨rfl,OnceG.refl _ _ _ _ _⟩
     go_frame
    refine GrowN.g_det rfl ?_;apply Exists.intro;refine ⟨λw E A=>?_,?_⟩
    . clear A
      have hc:=(am.o w E);obtain ⟨e0,e1,e2⟩:=hc;go_simp;exact ⟨rfl,OnceG.refl _ _ _ _ _⟩
    go_frame;refine GrowN.g_new rfl (λw E A=>?_) (λv13=>?_)
    . clear A
      go_simp;exact (al.o w E).mono λe w' ⟨b,h1,F,I,h4⟩=>⟨_,h1,⟨b,rfl,F,I⟩,h4⟩
    go_frame;refine GrowN.g_new rfl (λw E A=>?_) (λv14=>?_)
    . skip
      obtain ⟨b,rfl,F,I⟩:=A _ (.head _) (by kernel_rfl);clear A;go_simp;exact ⟨⟨b,rfl,F,I⟩,OnceG.refl _ _ _ _ _⟩
    go_frame;refine GrowN.g_new rfl (λw E A=>?_) (λv15=>?_)
    . skip
      obtain ⟨b,rfl,F,I⟩:=A _ (.head _) (by kernel_rfl);clear A;go_simp;exact ⟨⟨b,rfl,F,I⟩,OnceG.refl _ _ _ _ _⟩
    go_frame;refine GrowN.g_con rfl (λw E A=>?_) ?_
    . obtain ⟨b,rfl,F,I⟩:=A _ (.tail _ (.head _)) (by kernel_rfl)
      clear A;go_simp;exact OnceG.refl _ _ _ _ _
    iterate 2
     go_frame;refine GrowN.g_det rfl ?_;apply Exists.intro;refine ⟨λw E A=>?_,?_⟩
     . clear A
       go_simp;exact ⟨rfl,OnceG.refl _ _ _ _ _⟩
    go_frame;refine GrowN.g_new rfl (λw E A=>?_) (λvS=>?_)
    ·
     obtain ⟨b,rfl,F,I⟩:=A _ (.head _) (by kernel_rfl);clear A
     rcases E.2 with e | ⟨b',e,_⟩
     . have J:=e.trans (show wr.drew.heap[B]?=_ from ds.o)
       have fz:=aj J 7;have dz:=aa J 7 _ rfl;go_simp;have hs:=heap_setCell_same w B 7 _ _ (.pointer (some ⟨b,0,none⟩)) J;have hm:Mod (λk=>k=B) w (w.setCell ⟨B,7,none⟩ (.pointer (some ⟨b,0,none⟩))):=(Mod.refl (λk=>k=B) w).setCell (.inl rfl) _;exact ⟨⟨b,hs,eu hm F (by omega),I⟩,hm,.inr ⟨b,hs,eu hm F (by omega),I⟩⟩
     . have J:=e
       have fz:=aj J 7;have dz:=aa J 7 _ rfl;go_simp;have hs:=heap_setCell_same w B 7 _ _ (.pointer (some ⟨b,0,none⟩)) J;have hm:Mod (λk=>k=B) w (w.setCell ⟨B,7,none⟩ (.pointer (some ⟨b,0,none⟩))):=(Mod.refl (λk=>k=B) w).setCell (.inl rfl) _;exact ⟨⟨b,hs,eu hm F (by omega),I⟩,hm,.inr ⟨b,hs,eu hm F (by omega),I⟩⟩
    go_frame;refine GrowN.g_nil λU bd A=>?_
    obtain ⟨Z,bz,cv,b0⟩:=A _ (.head _);clear A;have ao:Mod (λk=>k=B) wr U:=(Mod.of_below (M:=λk=>k=B) ((Below.refl wr.heap.size wr).drew)).trans bd.1;have fy:=zq ao;have bl:=zq cv;have gn:=zq b0;have cw:Zq (Mod (λk=>k=B\/P.foot k) W U):=eo.o.trans (ao.mono λk _ e=>.inl e);have b1:Zq (U.heap[B]?=_):=bz;have cx:Zq (TapeAt base U T):=en.o.mod ao (λj hj=>(a6.o.1 j hj).1);have ey:Zq (PendAt base U { P with all:=uf T.O.recs P.all }):=gl.o.mod ao (λj hj=>a6.o.2 j hj);have bh:Zq (W.heap.size<=Z):=Nat.le_trans eo.o.size b0;clear bd bz ao cv b0 am al vS;have a8:B < U.heap.size:=(Array.getElem?_eq_some_iff.1 b1.o).1
    have am:Zq (∀ w,OnceG B U.heap.size (λb=>.cells #[.pointer (some ⟨T.O.blk,0,none⟩),.pointer (some ⟨cb,0,none⟩),.pointer (some ⟨kb,0,none⟩),v3,v4,.pointer (some ⟨tb,0,none⟩),.pointer (some ⟨P.blk,0,none⟩),.pointer (some ⟨Z,0,none⟩),.pointer (some ⟨b,0,none⟩),.pointer none,.pointer (some ⟨T.D.blk,0,none⟩),now] 63 (0,0)) (.cells #[.pointer (some ⟨T.O.blk,0,none⟩),.pointer (some ⟨P.blk,0,none⟩),.pointer (some ⟨tb,0,none⟩),.int .i64 (T.R.b:Int),.slice none 0 0] 253 (0,0)) U.drew w->w.cell? ⟨B,0,none⟩=some (.pointer (some ⟨T.O.blk,0,none⟩))/\w.cell? ⟨B,6,none⟩=some (.pointer (some ⟨P.blk,0,none⟩))/\w.cell? ⟨B,5,none⟩=some (.pointer (some ⟨tb,0,none⟩))):=λw E=>by
     rcases E.2 with e | ⟨b,e,_⟩
     . have hb:=e.trans (show U.drew.heap[B]?=_ from b1.o)
       exact ⟨aa hb 0 _ rfl,aa hb 6 _ rfl,aa hb 5 _ rfl⟩
     . exact ⟨aa e 0 _ rfl,aa e 6 _ rfl,aa e 5 _ rfl⟩
    have al:Zq (∀ w,OnceG B U.heap.size (λb=>.cells #[.pointer (some ⟨T.O.blk,0,none⟩),.pointer (some ⟨cb,0,none⟩),.pointer (some ⟨kb,0,none⟩),v3,v4,.pointer (some ⟨tb,0,none⟩),.pointer (some ⟨P.blk,0,none⟩),.pointer (some ⟨Z,0,none⟩),.pointer (some ⟨b,0,none⟩),.pointer none,.pointer (some ⟨T.D.blk,0,none⟩),now] 63 (0,0)) (.cells #[.pointer (some ⟨T.O.blk,0,none⟩),.pointer (some ⟨P.blk,0,none⟩),.pointer (some ⟨tb,0,none⟩),.int .i64 (T.R.b:Int),.slice none 0 0] 253 (0,0)) U.drew w->Calls Tryz.prog 92 #[.pointer (some ⟨T.O.blk,0,none⟩),.pointer (some ⟨P.blk,0,none⟩),.pointer (some ⟨tb,0,none⟩)] w λe w'=>∃ b,e=.returned (.tuple #[.pointer (some ⟨b,0,none⟩),.int .i64 0])/\w'.heap[b]?=some (.cells #[.pointer (some ⟨T.O.blk,0,none⟩),.pointer (some ⟨P.blk,0,none⟩),.pointer (some ⟨tb,0,none⟩),.int .i64 (T.R.b:Int),.slice none 0 0] 253 (0,0))/\U.heap.size<=b/\OnceG B U.heap.size (λb=>.cells #[.pointer (some ⟨T.O.blk,0,none⟩),.pointer (some ⟨cb,0,none⟩),.pointer (some ⟨kb,0,none⟩),v3,v4,.pointer (some ⟨tb,0,none⟩),.pointer (some ⟨P.blk,0,none⟩),.pointer (some ⟨Z,0,none⟩),.pointer (some ⟨b,0,none⟩),.pointer none,.pointer (some ⟨T.D.blk,0,none⟩),now] 63 (0,0)) (.cells #[.pointer (some ⟨T.O.blk,0,none⟩),.pointer (some ⟨P.blk,0,none⟩),.pointer (some ⟨tb,0,none⟩),.int .i64 (T.R.b:Int),.slice none 0 0] 253 (0,0)) w w'):=λw E =>
     (ai0 P.blk tb w ((cx.o.below ((Below.refl _ U).drew)).mod E.1 (λj hj=>(a6.o.1 j hj).1))).mono λe w' ⟨b,h1,F⟩=>⟨b,h1,F.cells,Nat.le_trans E.1.size F.new,OnceG.below F.below (Nat.lt_of_lt_of_le a8 E.1.size)⟩
    go_upto_region 20 with fail
    refine GrowN.au 20 [none,none,none,none,none,none,none,none,none,none,none,none,none,some (.inr (λ_=>YT U.heap.size (.cells #[.pointer (some ⟨T.O.blk,0,none⟩),.pointer (some ⟨P.blk,0,none⟩),.pointer (some ⟨tb,0,none⟩),.int .i64 (T.R.b:Int),.slice none 0 0] 253 (0,0)))),some (.inr (λ_=>YT U.heap.size (.cells #[.pointer (some ⟨T.O.blk,0,none⟩),.pointer (some ⟨P.blk,0,none⟩),.pointer (some ⟨tb,0,none⟩),.int .i64 (T.R.b:Int),.slice none 0 0] 253 (0,0)))),some (.inr (λ_=>YP U.heap.size (.cells #[.pointer (some ⟨T.O.blk,0,none⟩),.pointer (some ⟨P.blk,0,none⟩),.pointer (some ⟨tb,0,none⟩),.int .i64 (T.R.b:Int),.slice none 0 0] 253 (0,0)))),some (.inl (.int .i64 0)),none,none,some (.inr (λ_ _=>YS B U.heap.size (λb=>.cells #[.pointer (some ⟨T.O.blk,0,none⟩),.pointer (some ⟨cb,0,none⟩),.pointer (some ⟨kb,0,none⟩),v3,v4,.pointer (some ⟨tb,0,none⟩),.pointer (some ⟨P.blk,0,none⟩),.pointer (some ⟨Z,0,none⟩),.pointer (some ⟨b,0,none⟩),.pointer none,.pointer (some ⟨T.D.blk,0,none⟩),now] 63 (0,0)) (.cells #[.pointer (some ⟨T.O.blk,0,none⟩),.pointer (some ⟨P.blk,0,none⟩),.pointer (some ⟨tb,0,none⟩),.int .i64 (T.R.b:Int),.slice none 0 0] 253 (0,0))))] (OnceG B U.heap.size (λb=>.cells #[.pointer (some ⟨T.O.blk,0,none⟩),.pointer (some ⟨cb,0,none⟩),.pointer (some ⟨kb,0,none⟩),v3,v4,.pointer (some ⟨tb,0,none⟩),.pointer (some ⟨P.blk,0,none⟩),.pointer (some ⟨Z,0,none⟩),.pointer (some ⟨b,0,none⟩),.pointer none,.pointer (some ⟨T.D.blk,0,none⟩),now] 63 (0,0)) (.cells #[.pointer (some ⟨T.O.blk,0,none⟩),.pointer (some ⟨P.blk,0,none⟩),.pointer (some ⟨tb,0,none⟩),.int .i64 (T.R.b:Int),.slice none 0 0] 253 (0,0))) (by kernel_rfl) (by kernel_rfl) (by kernel_rfl) (OnceG.refl _ _ _ _) (λ_ _ _=>OnceG.trans a8) ?_ ?_
    . intro K hK Y hY l v w w' hR
      simp only [List.mem_cons,List.not_mem_nil,or_false] at hK
      rcases hK with rfl | rfl | rfl | rfl | rfl | rfl | rfl | rfl | rfl | rfl | rfl | rfl | rfl | rfl | rfl | rfl | rfl | rfl | rfl | rfl <;> simp only [reduceCtorEq,Option.some.injEq,Sum.inr.injEq] at hY
      iterate 3
       . subst hY; exact λ⟨b,h1,F,I⟩=>⟨b,h1,OnceG.keep a8 hR I F,I⟩
      . subst hY; exact λ⟨b,h1,F,I⟩=>hR.2.elim (λe=>⟨b,e.trans h1,OnceG.keep a8 hR I F,I⟩) λh=>h
    simp only [List.take_succ_cons,List.take_zero,List.drop_succ_cons,List.drop_zero]
    iterate 4
     refine GrowN.g_det rfl ?_;apply Exists.intro;refine ⟨λw E A=>?_,?_⟩
     . clear A
       go_simp;exact ⟨rfl,OnceG.refl _ _ _ _ _⟩
     go_frame
    iterate 2
     refine GrowN.g_det rfl ?_;apply Exists.intro;refine ⟨λw E A=>?_,?_⟩
     . clear A
       have hc:=(am.o w E);obtain ⟨e0,e6,e5⟩:=hc;go_simp;exact ⟨rfl,OnceG.refl _ _ _ _ _⟩
     go_frame;refine GrowN.g_det rfl ?_;apply Exists.intro;refine ⟨λw E A=>?_,?_⟩
     . clear A
       go_simp;exact ⟨rfl,OnceG.refl _ _ _ _ _⟩
     go_frame;refine GrowN.g_det rfl ?_;apply Exists.intro;refine ⟨λw E A=>?_,?_⟩
     . clear A
       go_simp;exact ⟨rfl,OnceG.refl _ _ _ _ _⟩
     go_frame;refine GrowN.g_det rfl ?_;apply Exists.intro;refine ⟨λw E A=>?_,?_⟩
     . clear A
       go_simp;exact ⟨rfl,OnceG.refl _ _ _ _ _⟩
     go_frame
    refine GrowN.g_det rfl ?_;apply Exists.intro;refine ⟨λw E A=>?_,?_⟩
    . clear A
      have hc:=(am.o w E);obtain ⟨e0,e6,e5⟩:=hc;go_simp;exact ⟨rfl,OnceG.refl _ _ _ _ _⟩
    go_frame;refine GrowN.g_new rfl (λw E A=>?_) (λv13=>?_)
    . clear A
      go_simp;exact (al.o w E).mono λe w' ⟨b,h1,F,I,h4⟩=>⟨_,h1,⟨b,rfl,F,I⟩,h4⟩
    go_frame;refine GrowN.g_new rfl (λw E A=>?_) (λv14=>?_)
    . skip
      obtain ⟨b,rfl,F,I⟩:=A _ (.head _) (by kernel_rfl);clear A;go_simp;exact ⟨⟨b,rfl,F,I⟩,OnceG.refl _ _ _ _ _⟩
    go_frame;refine GrowN.g_new rfl (λw E A=>?_) (λv15=>?_)
    . skip
      obtain ⟨b,rfl,F,I⟩:=A _ (.head _) (by kernel_rfl);clear A;go_simp;exact ⟨⟨b,rfl,F,I⟩,OnceG.refl _ _ _ _ _⟩
    go_frame;refine GrowN.g_con rfl (λw E A=>?_) ?_
    . obtain ⟨b,rfl,F,I⟩:=A _ (.tail _ (.head _)) (by kernel_rfl)
      clear A;go_simp;exact OnceG.refl _ _ _ _ _
    iterate 2
     go_frame;refine GrowN.g_det rfl ?_;apply Exists.intro;refine ⟨λw E A=>?_,?_⟩
     . clear A
       go_simp;exact ⟨rfl,OnceG.refl _ _ _ _ _⟩
    go_frame;refine GrowN.g_new rfl (λw E A=>?_) (λvS=>?_)
    ·
     obtain ⟨b,rfl,F,I⟩:=A _ (.head _) (by kernel_rfl);clear A
     rcases E.2 with e | ⟨b',e,_⟩
     . have J:=e.trans (show U.drew.heap[B]?=_ from b1.o)
       have fz:=aj J 8;have dz:=aa J 8 _ rfl;go_simp;have hs:=heap_setCell_same w B 8 _ _ (.pointer (some ⟨b,0,none⟩)) J;have hm:Mod (λk=>k=B) w (w.setCell ⟨B,8,none⟩ (.pointer (some ⟨b,0,none⟩))):=(Mod.refl (λk=>k=B) w).setCell (.inl rfl) _;exact ⟨⟨b,hs,eu hm F (by omega),I⟩,hm,.inr ⟨b,hs,eu hm F (by omega),I⟩⟩
     . have J:=e
       have fz:=aj J 8;have dz:=aa J 8 _ rfl;go_simp;have hs:=heap_setCell_same w B 8 _ _ (.pointer (some ⟨b,0,none⟩)) J;have hm:Mod (λk=>k=B) w (w.setCell ⟨B,8,none⟩ (.pointer (some ⟨b,0,none⟩))):=(Mod.refl (λk=>k=B) w).setCell (.inl rfl) _;exact ⟨⟨b,hs,eu hm F (by omega),I⟩,hm,.inr ⟨b,hs,eu hm F (by omega),I⟩⟩
    go_frame;refine GrowN.g_nil λX bd A=>?_
    obtain ⟨b8,b2,cy,b3⟩:=A _ (.head _);clear A;have ap:Mod (λk=>k=B) U X:=(Mod.of_below (M:=λk=>k=B) ((Below.refl U.heap.size U).drew)).trans bd.1;have bm:=zq ap;have b4:=zq cy;have dt:=zq b3;have c6:Zq (Mod (λk=>k=B\/P.foot k) W X):=cw.o.trans (ap.mono λk _ e=>.inl e);have b5:Zq (X.heap[B]?=_):=b2;have ez:Zq (TapeAt base X T):=cx.o.mod ap (λj hj=>(a6.o.1 j hj).1);have e3:Zq (PendAt base X { P with all:=uf T.O.recs P.all }):=ey.o.mod ap (λj hj=>a6.o.2 j hj);have cq:Zq (W.heap.size<=b8):=Nat.le_trans cw.o.size b3;clear bd b2 ap cy b3 am al vS;have ba:B < X.heap.size:=(Array.getElem?_eq_some_iff.1 b5.o).1
    have am:Zq (∀ w,OnceG B X.heap.size (λb=>.cells #[.pointer (some ⟨T.O.blk,0,none⟩),.pointer (some ⟨cb,0,none⟩),.pointer (some ⟨kb,0,none⟩),v3,v4,.pointer (some ⟨tb,0,none⟩),.pointer (some ⟨P.blk,0,none⟩),.pointer (some ⟨Z,0,none⟩),.pointer (some ⟨b8,0,none⟩),.pointer (some ⟨b,0,none⟩),.pointer (some ⟨T.D.blk,0,none⟩),now] 63 (0,0)) (.cells #[.pointer (some ⟨T.O.blk,0,none⟩),.pointer (some ⟨P.blk,0,none⟩),.pointer (some ⟨tb,0,none⟩),.slice none 0 0] 255 (0,0)) X.drew w->w.cell? ⟨B,0,none⟩=some (.pointer (some ⟨T.O.blk,0,none⟩))/\w.cell? ⟨B,6,none⟩=some (.pointer (some ⟨P.blk,0,none⟩))/\w.cell? ⟨B,5,none⟩=some (.pointer (some ⟨tb,0,none⟩))):=λw E=>by
     rcases E.2 with e | ⟨b,e,_⟩
     . have hb:=e.trans (show X.drew.heap[B]?=_ from b5.o)
       exact ⟨aa hb 0 _ rfl,aa hb 6 _ rfl,aa hb 5 _ rfl⟩
     . exact ⟨aa e 0 _ rfl,aa e 6 _ rfl,aa e 5 _ rfl⟩
    have al:Zq (∀ w,OnceG B X.heap.size (λb=>.cells #[.pointer (some ⟨T.O.blk,0,none⟩),.pointer (some ⟨cb,0,none⟩),.pointer (some ⟨kb,0,none⟩),v3,v4,.pointer (some ⟨tb,0,none⟩),.pointer (some ⟨P.blk,0,none⟩),.pointer (some ⟨Z,0,none⟩),.pointer (some ⟨b8,0,none⟩),.pointer (some ⟨b,0,none⟩),.pointer (some ⟨T.D.blk,0,none⟩),now] 63 (0,0)) (.cells #[.pointer (some ⟨T.O.blk,0,none⟩),.pointer (some ⟨P.blk,0,none⟩),.pointer (some ⟨tb,0,none⟩),.slice none 0 0] 255 (0,0)) X.drew w->Calls Tryz.prog 93 #[.pointer (some ⟨T.O.blk,0,none⟩),.pointer (some ⟨P.blk,0,none⟩),.pointer (some ⟨tb,0,none⟩)] w λe w'=>∃ b,e=.returned (.tuple #[.pointer (some ⟨b,0,none⟩),.int .i64 0])/\w'.heap[b]?=some (.cells #[.pointer (some ⟨T.O.blk,0,none⟩),.pointer (some ⟨P.blk,0,none⟩),.pointer (some ⟨tb,0,none⟩),.slice none 0 0] 255 (0,0))/\X.heap.size<=b/\OnceG B X.heap.size (λb=>.cells #[.pointer (some ⟨T.O.blk,0,none⟩),.pointer (some ⟨cb,0,none⟩),.pointer (some ⟨kb,0,none⟩),v3,v4,.pointer (some ⟨tb,0,none⟩),.pointer (some ⟨P.blk,0,none⟩),.pointer (some ⟨Z,0,none⟩),.pointer (some ⟨b8,0,none⟩),.pointer (some ⟨b,0,none⟩),.pointer (some ⟨T.D.blk,0,none⟩),now] 63 (0,0)) (.cells #[.pointer (some ⟨T.O.blk,0,none⟩),.pointer (some ⟨P.blk,0,none⟩),.pointer (some ⟨tb,0,none⟩),.slice none 0 0] 255 (0,0)) w w'):=λw E =>
     (ai1 T.O.blk P.blk tb w).mono λe w' ⟨b,h1,F⟩=>⟨b,h1,F.cells,Nat.le_trans E.1.size F.new,OnceG.below F.below (Nat.lt_of_lt_of_le ba E.1.size)⟩
    go_upto_region 21 with fail
    refine GrowN.au 20 [none,none,none,none,none,none,none,none,none,none,none,none,none,some (.inr (λ_=>YT X.heap.size (.cells #[.pointer (some ⟨T.O.blk,0,none⟩),.pointer (some ⟨P.blk,0,none⟩),.pointer (some ⟨tb,0,none⟩),.slice none 0 0] 255 (0,0)))),some (.inr (λ_=>YT X.heap.size (.cells #[.pointer (some ⟨T.O.blk,0,none⟩),.pointer (some ⟨P.blk,0,none⟩),.pointer (some ⟨tb,0,none⟩),.slice none 0 0] 255 (0,0)))),some (.inr (λ_=>YP X.heap.size (.cells #[.pointer (some ⟨T.O.blk,0,none⟩),.pointer (some ⟨P.blk,0,none⟩),.pointer (some ⟨tb,0,none⟩),.slice none 0 0] 255 (0,0)))),some (.inl (.int .i64 0)),none,none,some (.inr (λ_ _=>YS B X.heap.size (λb=>.cells #[.pointer (some ⟨T.O.blk,0,none⟩),.pointer (some ⟨cb,0,none⟩),.pointer (some ⟨kb,0,none⟩),v3,v4,.pointer (some ⟨tb,0,none⟩),.pointer (some ⟨P.blk,0,none⟩),.pointer (some ⟨Z,0,none⟩),.pointer (some ⟨b8,0,none⟩),.pointer (some ⟨b,0,none⟩),.pointer (some ⟨T.D.blk,0,none⟩),now] 63 (0,0)) (.cells #[.pointer (some ⟨T.O.blk,0,none⟩),.pointer (some ⟨P.blk,0,none⟩),.pointer (some ⟨tb,0,none⟩),.slice none 0 0] 255 (0,0))))] (OnceG B X.heap.size (λb=>.cells #[.pointer (some ⟨T.O.blk,0,none⟩),.pointer (some ⟨cb,0,none⟩),.pointer (some ⟨kb,0,none⟩),v3,v4,.pointer (some ⟨tb,0,none⟩),.pointer (some ⟨P.blk,0,none⟩),.pointer (some ⟨Z,0,none⟩),.pointer (some ⟨b8,0,none⟩),.pointer (some ⟨b,0,none⟩),.pointer (some ⟨T.D.blk,0,none⟩),now] 63 (0,0)) (.cells #[.pointer (some ⟨T.O.blk,0,none⟩),.pointer (some ⟨P.blk,0,none⟩),.pointer (some ⟨tb,0,none⟩),.slice none 0 0] 255 (0,0))) (by kernel_rfl) (by kernel_rfl) (by kernel_rfl) (OnceG.refl _ _ _ _) (λ_ _ _=>OnceG.trans ba) ?_ ?_
    . intro K hK Y hY l v w w' hR
      simp only [List.mem_cons,List.not_mem_nil,or_false] at hK
      rcases hK with rfl | rfl | rfl | rfl | rfl | rfl | rfl | rfl | rfl | rfl | rfl | rfl | rfl | rfl | rfl | rfl | rfl | rfl | rfl | rfl <;> simp only [reduceCtorEq,Option.some.injEq,Sum.inr.injEq] at hY
      iterate 3
       . subst hY; exact λ⟨b,h1,F,I⟩=>⟨b,h1,OnceG.keep ba hR I F,I⟩
      . subst hY; exact λ⟨b,h1,F,I⟩=>hR.2.elim (λe=>⟨b,e.trans h1,OnceG.keep ba hR I F,I⟩) λh=>h
    simp only [List.take_succ_cons,List.take_zero,List.drop_succ_cons,List.drop_zero]
    iterate 4
     refine GrowN.g_det rfl ?_;apply Exists.intro;refine ⟨λw E A=>?_,?_⟩
     . clear A
       go_simp;exact ⟨rfl,OnceG.refl _ _ _ _ _⟩
     go_frame
    iterate 2
     refine GrowN.g_det rfl ?_;apply Exists.intro;refine ⟨λw E A=>?_,?_⟩
     . clear A
       have hc:=(am.o w E);obtain ⟨e0,e6,e5⟩:=hc;go_simp;exact ⟨rfl,OnceG.refl _ _ _ _ _⟩
     go_frame;refine GrowN.g_det rfl ?_;apply Exists.intro;refine ⟨λw E A=>?_,?_⟩
     . clear A
       go_simp;exact ⟨rfl,OnceG.refl _ _ _ _ _⟩
     go_frame;refine GrowN.g_det rfl ?_;apply Exists.intro;refine ⟨λw E A=>?_,?_⟩
     . clear A
       go_simp;exact ⟨rfl,OnceG.refl _ _ _ _ _⟩
     go_frame;refine GrowN.g_det rfl ?_;apply Exists.intro;refine ⟨λw E A=>?_,?_⟩
     . clear A
       go_simp;exact ⟨rfl,OnceG.refl _ _ _ _ _⟩
     go_frame
    refine GrowN.g_det rfl ?_;apply Exists.intro;refine ⟨λw E A=>?_,?_⟩
    . clear A
      have hc:=(am.o w E);obtain ⟨e0,e6,e5⟩:=hc;go_simp;exact ⟨rfl,OnceG.refl _ _ _ _ _⟩
    go_frame;refine GrowN.g_new rfl (λw E A=>?_) (λv13=>?_)
    . clear A
      go_simp;exact (al.o w E).mono λe w' ⟨b,h1,F,I,h4⟩=>⟨_,h1,⟨b,rfl,F,I⟩,h4⟩
    go_frame;refine GrowN.g_new rfl (λw E A=>?_) (λv14=>?_)
    . skip
      obtain ⟨b,rfl,F,I⟩:=A _ (.head _) (by kernel_rfl);clear A;go_simp;exact ⟨⟨b,rfl,F,I⟩,OnceG.refl _ _ _ _ _⟩
    go_frame;refine GrowN.g_new rfl (λw E A=>?_) (λv15=>?_)
    . skip
      obtain ⟨b,rfl,F,I⟩:=A _ (.head _) (by kernel_rfl);clear A;go_simp;exact ⟨⟨b,rfl,F,I⟩,OnceG.refl _ _ _ _ _⟩
    go_frame;refine GrowN.g_con rfl (λw E A=>?_) ?_
    . obtain ⟨b,rfl,F,I⟩:=A _ (.tail _ (.head _)) (by kernel_rfl)
      clear A;go_simp;exact OnceG.refl _ _ _ _ _
    iterate 2
     go_frame;refine GrowN.g_det rfl ?_;apply Exists.intro;refine ⟨λw E A=>?_,?_⟩
     . clear A
       go_simp;exact ⟨rfl,OnceG.refl _ _ _ _ _⟩
    go_frame;refine GrowN.g_new rfl (λw E A=>?_) (λvS=>?_)
    ·
     obtain ⟨b,rfl,F,I⟩:=A _ (.head _) (by kernel_rfl);clear A
     rcases E.2 with e | ⟨b',e,_⟩
     . have J:=e.trans (show X.drew.heap[B]?=_ from b5.o)
       have fz:=aj J 9;have dz:=aa J 9 _ rfl;go_simp;have hs:=heap_setCell_same w B 9 _ _ (.pointer (some ⟨b,0,none⟩)) J;have hm:Mod (λk=>k=B) w (w.setCell ⟨B,9,none⟩ (.pointer (some ⟨b,0,none⟩))):=(Mod.refl (λk=>k=B) w).setCell (.inl rfl) _;exact ⟨⟨b,hs,eu hm F (by omega),I⟩,hm,.inr ⟨b,hs,eu hm F (by omega),I⟩⟩
     . have J:=e
       have fz:=aj J 9;have dz:=aa J 9 _ rfl;go_simp;have hs:=heap_setCell_same w B 9 _ _ (.pointer (some ⟨b,0,none⟩)) J;have hm:Mod (λk=>k=B) w (w.setCell ⟨B,9,none⟩ (.pointer (some ⟨b,0,none⟩))):=(Mod.refl (λk=>k=B) w).setCell (.inl rfl) _;exact ⟨⟨b,hs,eu hm F (by omega),I⟩,hm,.inr ⟨b,hs,eu hm F (by omega),I⟩⟩
    go_frame;refine GrowN.g_nil λak bd A=>?_
    obtain ⟨b9,b6,da,ca⟩:=A _ (.head _);clear A;have ar:Mod (λk=>k=B) X ak:=(Mod.of_below (M:=λk=>k=B) ((Below.refl X.heap.size X).drew)).trans bd.1;have bo:=zq ar;have du:=zq da;have cc:=zq ca;have db:Zq (Mod (λk=>k=B\/P.foot k) W ak):=c6.o.trans (ar.mono λk _ e=>.inl e);have dc:Zq (ak.heap[B]?=_):=b6;have e4:Zq (TapeAt base ak T):=ez.o.mod ar (λj hj=>(a6.o.1 j hj).1);have e7:Zq (PendAt base ak { P with all:=uf T.O.recs P.all }):=e3.o.mod ar (λj hj=>a6.o.2 j hj);have e8:Zq (W.heap.size<=b9):=Nat.le_trans c6.o.size ca;clear bd b6 ar da ca am al vS;have cd:∀ b,W.heap.size<=b->b≠B:=λb hb=>by omega
    have dd:Zq (ak.heap[Z]?=_):=eu bo.o (eu bm.o bl.o (cd _ bh.o)) (cd _ bh.o);have de:Zq (ak.heap[b8]?=_):=eu bo.o b4.o (cd _ cq.o);have dj:Zq (ak.heap[b9]?=_):=du.o;have gv:Zq (b8 < ak.heap.size):=(Array.getElem?_eq_some_iff.1 de.o).1;have gw:Zq (b9 < ak.heap.size):=(Array.getElem?_eq_some_iff.1 dj.o).1;have e9:Z≠b8:=by have:=dt.o; have:=(Array.getElem?_eq_some_iff.1 bl.o).1; omega
    have fa:Z≠b9:=by have:=cc.o; have:=(Array.getElem?_eq_some_iff.1 bl.o).1; have:=bm.o.size; omega
    have fb:b8≠b9:=by have:=cc.o; have:=(Array.getElem?_eq_some_iff.1 b4.o).1; omega
    have ce:=zq (show Z≠b8/\Z≠b9/\b8≠b9 from ⟨e9,fa,fb⟩);have bp:=zq cd;have c7:=aa dc.o 7 _ rfl;have HA:=zq (cr.o ak Z db.o bh.o dd.o);clear cd e9 fa fb;go_wp2_with fail;refine HA.o.mono ?_;rintro e av ⟨n,rfl,cf,a1⟩;have fc:¬ (M B\/B=Z):=λh=>h.elim (λh=>(HM.o B h).2.1 rfl) λe=>bp.o Z bh.o e.symm
    have ff:¬ (M b8\/b8=Z):=λh=>h.elim (λh=>by have:=(HM.o b8 h).1; have:=cq.o; omega) λe=>ce.o.1 e.symm
    have fg:¬ (M b9\/b9=Z):=λh=>h.elim (λh=>by have:=(HM.o b9 h).1; have:=e8.o; omega) λe=>ce.o.2.1 e.symm
    have cg:Zq (av.heap[B]?=_):=eu a1 dc.o fc;have ci:Zq (av.heap[b8]?=_):=eu a1 de.o ff;have dv:Zq (av.heap[b9]?=_):=eu a1 dj.o fg;have cj:Zq (TapeAt base av T):=e4.o.mod a1 (λj hj h=>h.elim (λh=>(HM.o j h).2.2.1 hj) λe=>by have:=HH.o.lt hj; have:=bh.o; omega);have fh:Zq (PendAt base av { P with all:=uf T.O.recs P.all }):=e7.o.mod a1 (λj hj h=>h.elim (λh=>(HM.o j h).2.2.2 hj) λe=>by have:=HP.o.lt (show P.foot j from hj); have:=bh.o; omega);have ck:Zq (Mod (λk=>k=B\/P.foot k\/M k) W av):=((db.o.mono (N:=λk=>(k=B\/P.foot k\/M k)\/W.heap.size<=k) (λk _ e=>.inl (e.imp (λh=>h) λh=>.inl h))).trans (a1.mono (λk _ e=>e.elim (λh=>.inl (.inr (.inr h))) λe=>.inr (by have:=bh.o; omega)))).mono (λk hk e=>e.elim (λh=>h) λh=>by omega);have fi:=zq cf;have dk:W.heap.size<=av.heap.size:=ck.o.size;have dx:Zq (TabB base av):=ga.o.mod (M:=λk=>(k=B\/P.foot k\/M k)/\base<=k) (ck.o.mono (λk hk e=>⟨e,e.elim (λh=>h ▸ gf.o) λh=>h.elim (λh=>h.elim (λe=>e ▸ HP.o.low.1) λe=>e ▸ HP.o.low.2) λh=>ge.o k h⟩)) (λk h=>h.2)
    have gx:0<=(T.R.b:Int)/\(T.R.b:Int)<=200000000:=by
     have h1:=cj.o.whole.seg.e_le;have F:T.R.b<=T.R.e:=by unfold SegD.e; omega
     omega
    have fj:=zq (alu (B:=b8) _ _ _ _ av d7.o cj.o dx.o (Nat.le_trans gb.o dk) HQ.o.up ci.o (by have:=HL.o; omega) gd.o gx);have c8:=aa cg.o 8 _ rfl;clear cf a1 fc ff fg dk c7 HA cr;go_wp2_with fail;refine fj.o.mono ?_;rintro e bb ⟨rfl,bj⟩;have cm:Zq (bb.heap[B]?=_):=jd bj cg.o;have dy:Zq (bb.heap[b8]?=_):=jd bj ci.o;have d0:Zq (bb.heap[b9]?=_):=jd bj dv.o;have d5:=zq bj;have d8:=aa cm.o 8 _ rfl;have d9:=aa cm.o 9 _ rfl;clear bj fj c8;go_upto_region 26 with fail
    have fl:bb.drew.heap[b8]?=_:=dy.o
    have fo:Zq (∀ w,Once b8 (.cells #[.pointer (some ⟨T.O.blk,0,none⟩),.pointer (some ⟨P.blk,0,none⟩),.pointer (some ⟨tb,0,none⟩),.int .i64 (T.R.b:Int),.slice none 0 0] 253 (0,0)) bb.drew w->Calls Tryz.prog 97 #[.pointer (some ⟨b8,0,none⟩)] w λe w'=>e=.returned (.slice none 0 0)/\Once b8 (.cells #[.pointer (some ⟨T.O.blk,0,none⟩),.pointer (some ⟨P.blk,0,none⟩),.pointer (some ⟨tb,0,none⟩),.int .i64 (T.R.b:Int),.slice none 0 0] 253 (0,0)) w w'):=λw E =>
     (anz w (E.stays fl)).mono λe w' h=>⟨h.1,h.2.2,.inr h.2.1⟩
    have d6:Zq (∀ w,Once b8 (.cells #[.pointer (some ⟨T.O.blk,0,none⟩),.pointer (some ⟨P.blk,0,none⟩),.pointer (some ⟨tb,0,none⟩),.int .i64 (T.R.b:Int),.slice none 0 0] 253 (0,0)) bb.drew w->w.cell? ⟨B,8,none⟩=some (.pointer (some ⟨b8,0,none⟩))/\w.cell? ⟨B,9,none⟩=some (.pointer (some ⟨b9,0,none⟩))):=λw E=>by
     have J:=eu E.1 (show bb.drew.heap[B]?=_ from cm.o) (λe=>bp.o b8 cq.o e.symm);exact ⟨aa J 8 _ rfl,aa J 9 _ rfl⟩
    clear fl d8 d9;refine GrowM.jh (by kernel_rfl) ?_;refine GrowM.jl 9 [none,none,none,none,none,none,none,none,some (.inl (.slice none 0 0))] (Once b8 (.cells #[.pointer (some ⟨T.O.blk,0,none⟩),.pointer (some ⟨P.blk,0,none⟩),.pointer (some ⟨tb,0,none⟩),.int .i64 (T.R.b:Int),.slice none 0 0] 253 (0,0))) (by kernel_rfl) (by kernel_rfl) (Once.refl _ _) (λ_ _ _=>Once.trans) ?_ ?_
    . exact GrowN.jo rfl
    simp only [List.take_succ_cons,List.take_zero,List.drop_succ_cons,List.drop_zero,Nat.reduceSub]
    iterate 3
     refine GrowN.g_det rfl ?_;apply Exists.intro;refine ⟨λw E A=>?_,?_⟩
     . clear A
       go_simp;exact ⟨rfl,Once.refl _ _ _⟩
     go_frame
    refine GrowN.g_det rfl ?_;apply Exists.intro;refine ⟨λw E A=>?_,?_⟩
    . clear A
      have c9:=(d6.o w E).2;go_simp;exact ⟨rfl,Once.refl _ _ _⟩
    iterate 3
     go_frame;refine GrowN.g_det rfl ?_;apply Exists.intro;refine ⟨λw E A=>?_,?_⟩
     . clear A
       go_simp;exact ⟨rfl,Once.refl _ _ _⟩
    go_frame;refine GrowN.g_det rfl ?_;apply Exists.intro;refine ⟨λw E A=>?_,?_⟩
    . clear A
      have c8:=(d6.o w E).1;go_simp;exact ⟨rfl,Once.refl _ _ _⟩
    go_frame;refine GrowN.g_con rfl (λw E A=>?_) ?_
    . clear A
      go_simp;exact (fo.o w E).mono λe w' h=>⟨_,h.1,rfl,h.2⟩
    go_frame;refine GrowN.g_nil λfp cn A=>?_
    clear A;have fs:=zq (an0 fp (eu cn.1 (show bb.drew.heap[b9]?=_ from d0.o) (λe=>ce.o.2.2 e.symm)));refine GrowM.nu (λv w'=>w'.heap[b9]?=some (.cells #[.pointer (some ⟨T.O.blk,0,none⟩),.pointer (some ⟨P.blk,0,none⟩),.pointer (some ⟨tb,0,none⟩),.slice none 0 0] 255 (0,0))/\Mod (λk=>k=b9) fp w') (by kernel_rfl) rfl rfl ?_ ?_
    . go_simp
      refine fs.o.mono ?_;rintro e w' ⟨v,rfl,hb⟩
      first | exact ⟨⟨_,rfl⟩,hb⟩ | exact ⟨_,hb⟩
    rintro v ft dl;go_frame;refine GrowM.qz rfl ?_;have dn:Mod (λk=>k=b8\/k=b9) av ft:=(((Mod.of_below (M:=λk=>k=b8\/k=b9) d5.o).trans (Mod.of_below (M:=λk=>k=b8\/k=b9) ((Below.refl _ bb).drew))).trans (cn.1.mono λk _ e=>.inl e)).trans (dl.2.mono λk _ e=>.inr e);have bk:=zq dn;clear dn dl cn fs fo d6;go_wp2_with fail;go_ret;have h8:=cq.o;have h9:=e8.o;refine ⟨rfl,Z,b8,b9,ak,eu bk.o cg.o (λe=>e.elim (λe=>bp.o b8 h8 e.symm) λe=>bp.o b9 h9 e.symm),cj.o.mod bk.o (λj hj e=>?_),fh.o.mod bk.o (λj hj e=>?_),dp.o Z ak av ft b8 b9 fi.o h8 gv.o h9 gw.o (λe=>ce.o.1 e.symm) (λe=>ce.o.2.1 e.symm) bk.o,bh.o,(Array.getElem?_eq_some_iff.1 dd.o).1,?_⟩
    . have:=HH.o.lt hj
      rcases e with e | e <;> omega
    . have:=HP.o.lt (show P.foot j from hj)
      rcases e with e | e <;> omega
    . exact ((ck.o.mono (N:=λk=>(k=B\/P.foot k\/M k)\/W.heap.size<=k) (λk _ e=>.inl e)).trans (bk.o.mono (λk _ e=>.inr (by rcases e with e | e <;> omega)))).mono (λk hk e=>e.elim (λh=>h) λh=>by omega)
theorem al7:(Tryz.prog.info? 83).map (·.size)=some 5:=by kernel_rfl
theorem an9 {a b:Nat} {ca cb:Array Value} {ta tb:TypeId} {w:World} (h:a≠b) (ha:w.heap[a]?=some (.cells ca ta (0,0))) (hb:w.heap[b]?=some (.cells cb tb (0,0))):Sem.run Tryz.prog (binOp .eql 35 (.pointer (some ⟨a,0,none⟩)) (.pointer (some ⟨b,0,none⟩))) w=.ok (.bool false) w:=by
 obtain ⟨j,A,B⟩:=Option.map_eq_some_iff.1 al7;exact run_eql_ptr_other w Tryz.underlying35 A (by rw [B]; decide) (λe=>h (congrArg Addr.block e)) ha hb
theorem al8 {base:Nat} {D D2:DiskD} {R:SegD} {its:List TapeMath.Item} (now:Nat) (W:World) (h0n:R.n=0) (h0:its=[]) (hL:LaidOn D R) (hD:DiskAt base W D) (hq:Quiet D) (hfl:D.files.length<=1048576) (hnl:∀ p∈D.files,p.1.length<=1073741824) (hbase:base<=W.heap.size) (hT:TabB base W)
 (hh:R.head=ol) (hs:R.size=1024) (ht:R.txt=fu its) (hf:Fits R.b its) (hil:its.length<=1000000) (hwt:D.waits=[]) {tl:List (List UInt8×Nat)} (hn1:ag2 D tl) (hn2:D.find TopW.acs=none) (hn3:D.find TopW.agw=none)
 (h2:DiskAt base W D2) (hq2:Quiet D2) (hf2:D2.files=[]) (hr2:120<=D2.room) (hw2:D2.waits=[]) (hdd:∀ k,D.foot k->¬ D2.foot k) (hnow:now<=1099511626776) (hk2:∀ p∈gy R.b its,p.2.kind≠2) (hrl:(gy R.b its).length<=1000000)
 {Post:TapeD->CqD->DiskD->Nat->Nat->World->World->Prop}
 (hall:∀ (T:TapeD) (C:CqD) (D':DiskD) (kb:Nat) (w:World) (F:Nat),TapeAt base w T->T.its=its->T.R.b=R.b->T.R.synced=T.R.e->Quiet T.D->TabB base w->base<=w.heap.size->CqAt base w C->C.qs=[]->C.db=D'.blk->DiskAt base w D'->Grows D2 D' [iq,gz,lh,qj] 120 2->(∀ k,C.foot k->¬ D'.foot k)->(∀ k,T.foot k->¬ C.foot k/\¬ D'.foot k/\k≠kb)->(¬ T.foot F/\¬ C.foot F/\¬ D'.foot F/\kb≠F)->KxAt base w ⟨kb,0⟩ D'->¬ C.foot kb->base<=F ->
  w.heap[F]?=some (.cells #[.pointer (some ⟨T.O.blk,0,none⟩),.pointer (some ⟨C.blk,0,none⟩),.pointer (some ⟨kb,0,none⟩),.int .i64 (T.R.b:Int)] 91 (0,0)) ->
  Calls Tryz.prog 94 #[.pointer (some ⟨F,0,none⟩)] w λe w'=>∃ n:Int,e=.returned (.tuple #[.int .i64 n,.int .i64 0])/\Post T C D' kb F w w'/\Mod (λk=>(C.foot k\/D'.foot k\/k=kb)\/k=F) w w')
 (hstab:∀ T C D' kb F w0 w1 w2 (M:Nat->Prop),Post T C D' kb F w0 w1->Mod M w1 w2->(∀ k,M k->k < w0.heap.size/\¬ C.foot k/\¬ D'.foot k/\k≠kb/\k≠F)->Post T C D' kb F w0 w2) :
 Calls Tryz.prog 24 #[.pointer (some ⟨D.blk,0,none⟩),.pointer (some ⟨D2.blk,0,none⟩),.int .i64 (now:Int)] W λe w'=>∃ S C D' kb F w0,e=.returned (.tuple #[.pointer (some ⟨S.blk,0,none⟩),.int .i64 0])/\StoAt base w' S/\S.now=(now:Int)/\S.cq=.pointer (some ⟨C.blk,0,none⟩)/\(S.kx=.pointer (some ⟨kb,0,none⟩)/\S.dp=.pointer (some ⟨F,0,none⟩)/\W.heap.size<=F/\(∀ k,S.foot k->k < w0.heap.size/\¬ C.foot k/\¬ D'.foot k/\k≠kb/\k≠F)/\(∀ k,C.foot k\/D'.foot k\/k=kb->D2.foot k\/W.heap.size<=k))/\S.T.its=its/\S.T.R.b=R.b/\S.T.R.synced=S.T.R.e/\S.T.D.waits=[]/\Quiet S.T.D/\S.T.D.blk=D.blk/\S.T.D.room=D.room/\(∀ n,(S.T.D.find n).isSome=(D.find n).isSome) /\
  (∃ Z b4 v,S.top=.pointer (some ⟨Z,0,none⟩)/\S.off=.pointer (some ⟨b4,0,none⟩)/\S.dk=.pointer (some ⟨D.blk,0,none⟩)/\Pair w' W.heap.size Z b4 D.blk v tl S.T/\S.P.all=uf S.T.O.recs []/\∀ b,PB Z b4 v b->¬ S.foot b/\¬ (C.foot b\/D'.foot b\/b=kb\/b=F)/\b < w0.heap.size)/\Post S.T C D' kb F w0 w'/\Mod (λk=>D.foot k\/D2.foot k) W w'/\(∀ k,S.foot k->D.foot k\/W.heap.size<=k):=by
 have dz:=zq h0;have co:=zq (PendW.new_any base W hbase);have d0:D.blk≠D2.blk:=λe=>hdd D.blk (.inl rfl) (e ▸ .inl rfl)
 have e0:=an9 (w:=W) d0 hD.head h2.head;have d5:(0:Int)<=(now:Int)/\(now:Int)<=1099511626776:=by omega
 have cp:Zq (∀ w B v6,Below W.heap.size W w->w.heap[B]?=some (.cells #[.pointer none,.pointer none,.pointer none,.pointer none,.pointer none,.pointer none,v6,.pointer none,.pointer none,.pointer none,.pointer (some ⟨D.blk,0,none⟩),.int .i64 (now:Int)] 63 (0,0))->W.heap.size<=B ->
  Calls Tryz.prog 42 #[.pointer (some ⟨B,0,none⟩)] w λe w'=>e=.returned (.int .i64 0)/\∃ T Z b4 v,Lasts base B w w' D its R.b T/\Pair w' w.heap.size Z b4 D.blk v tl T /\
  w'.heap[B]?=some (.cells #[.pointer (some ⟨T.O.blk,0,none⟩),.pointer none,.pointer none,.pointer (some ⟨Z,0,none⟩),.pointer (some ⟨b4,0,none⟩),.pointer none,v6,.pointer none,.pointer none,.pointer none,.pointer (some ⟨D.blk,0,none⟩),.int .i64 (now:Int)] 63 (0,0))):=λw B v6 hb hB bj =>
  ag3 _ _ _ _ _ _ _ _ w h0n h0 hB (λh=>by have:=hD.lt h; omega) hL (hD.below hb) hq hfl hnl (Nat.le_trans hbase hb.size) (hT.below hb) hh hs ht hf hil hwt hn1 hn2
 have bw:Zq (∀ w B v0 v3 v4 v6 (hw:DiskAt base w D2) (hz:base<=w.heap.size),¬ D2.foot B->w.heap[B]?=some (.cells #[v0,.pointer none,.pointer none,v3,v4,.pointer none,v6,.pointer none,.pointer none,.pointer none,.pointer (some ⟨D.blk,0,none⟩),.int .i64 (now:Int)] 63 (0,0))->Calls Tryz.prog 44 #[.pointer (some ⟨B,0,none⟩),.pointer (some ⟨D2.blk,0,none⟩)] w λe w'=>e=.returned (.int .i64 0)/\∃ C D' kb tb,an8 base B kb w w' D2 D' C /\
  w'.heap[B]?=some (.cells #[v0,.pointer (some ⟨C.blk,0,none⟩),.pointer (some ⟨kb,0,none⟩),v3,v4,.pointer (some ⟨tb,0,none⟩),v6,.pointer none,.pointer none,.pointer none,.pointer (some ⟨D.blk,0,none⟩),.int .i64 (now:Int)] 63 (0,0))):=λw B v0 v3 v4 v6 hw hz b2 hB =>
  (al6 _ _ _ _ _ _ _ _ _ _ _ now (by omega) w hB b2 hw hq2 hf2 hr2 hw2 hz).mono λe w' ⟨h1,C,D',kb,tb,wb,h2,_,h3⟩=>⟨h1,C,D',kb,tb,h2,h3⟩
 have bl:=zq h2;have cr:=zq hdd;have ac:=zq hbase;have cs:=zq hall;have b5:=zq hstab;have d7:=zq hk2;have d8:=zq hrl;have d9:=zq hT;have cv:=zq hn3;have HD:=zq hD;have HQ:=zq hq;have b6:Zq (∀ k,D.foot k->k < W.heap.size):=λk hk=>hD.lt hk
 clear hL hD hq hfl hnl hbase hT hh hs ht hf hil hwt hn1 hn2 hn3 h2 hq2 hf2 hr2 hw2 hdd hk2 hrl hall hstab;go_enter Tryz.func24,Tryz.ntmps24;go_wp2_with fail;refine co.o.mono ?_;rintro e w2 ⟨P,rfl,hP,ca,a6,eb,ec⟩;clear co;go_wp2_with fail;have cc:Below W.heap.size W ((w2.alloc (.cells #[.pointer none,.pointer none,.pointer none,.pointer none,.pointer none,.pointer none,.pointer (some ⟨P.blk,0,none⟩),.pointer none,.pointer none,.pointer none,.pointer (some ⟨D.blk,0,none⟩),.int .i64 (now:Int)] 63)).alloc (.cells #[.func (.func 42) #[] #[],.func (.func 43) #[] #[]] 106)):=(a6.alloc a6.size _).alloc (Nat.le_trans a6.size (by rw [World.size_alloc]; omega)) _;have cd:((w2.alloc (.cells #[.pointer none,.pointer none,.pointer none,.pointer none,.pointer none,.pointer none,.pointer (some ⟨P.blk,0,none⟩),.pointer none,.pointer none,.pointer none,.pointer (some ⟨D.blk,0,none⟩),.int .i64 (now:Int)] 63)).alloc (.cells #[.func (.func 42) #[] #[],.func (.func 43) #[] #[]] 106)).heap[w2.heap.size]?=some (.cells #[.pointer none,.pointer none,.pointer none,.pointer none,.pointer none,.pointer none,.pointer (some ⟨P.blk,0,none⟩),.pointer none,.pointer none,.pointer none,.pointer (some ⟨D.blk,0,none⟩),.int .i64 (now:Int)] 63 (0,0)):=jd ((Below.refl _ _).alloc (Nat.le_refl _) _) (heap_alloc_new w2 _)
 have cw:((w2.alloc (.cells #[.pointer none,.pointer none,.pointer none,.pointer none,.pointer none,.pointer none,.pointer (some ⟨P.blk,0,none⟩),.pointer none,.pointer none,.pointer none,.pointer (some ⟨D.blk,0,none⟩),.int .i64 (now:Int)] 63)).alloc (.cells #[.func (.func 42) #[] #[],.func (.func 43) #[] #[]] 106)).heap[w2.heap.size+1]?=some (.cells #[.func (.func 42) #[] #[],.func (.func 43) #[] #[]] 106 (0,0)):=by
  have:=heap_alloc_new (w2.alloc (.cells #[.pointer none,.pointer none,.pointer none,.pointer none,.pointer none,.pointer none,.pointer (some ⟨P.blk,0,none⟩),.pointer none,.pointer none,.pointer none,.pointer (some ⟨D.blk,0,none⟩),.int .i64 (now:Int)] 63)) (.cells #[.func (.func 42) #[] #[],.func (.func 43) #[] #[]] 106);rw [World.size_alloc] at this;exact this
 have ee:=(hP.below ((Below.refl w2.heap.size w2).alloc (Nat.le_refl _) (.cells #[.pointer none,.pointer none,.pointer none,.pointer none,.pointer none,.pointer none,.pointer (some ⟨P.blk,0,none⟩),.pointer none,.pointer none,.pointer none,.pointer (some ⟨D.blk,0,none⟩),.int .i64 (now:Int)] 63))).below ((Below.refl (w2.alloc (.cells #[.pointer none,.pointer none,.pointer none,.pointer none,.pointer none,.pointer none,.pointer (some ⟨P.blk,0,none⟩),.pointer none,.pointer none,.pointer none,.pointer (some ⟨D.blk,0,none⟩),.int .i64 (now:Int)] 63)).heap.size _).alloc (Nat.le_refl _) (.cells #[.func (.func 42) #[] #[],.func (.func 43) #[] #[]] 106));generalize (w2.alloc (.cells #[.pointer none,.pointer none,.pointer none,.pointer none,.pointer none,.pointer none,.pointer (some ⟨P.blk,0,none⟩),.pointer none,.pointer none,.pointer none,.pointer (some ⟨D.blk,0,none⟩),.int .i64 (now:Int)] 63)).alloc (.cells #[.func (.func 42) #[] #[],.func (.func 43) #[] #[]] 106)=w3 at *
 have bj:W.heap.size<=w2.heap.size:=a6.size;have ef:Zq (∀ k,P.foot k->W.heap.size<=k/\k < w2.heap.size):=λk hk=>⟨hk.elim (λe=>e ▸ eb) λe=>e ▸ ec,hP.lt hk⟩
 generalize w2.heap.size=B at *
 have cx:=zq cd;have cy:=zq cw;have ar:=zq bj;have av:=zq cc;have bm:=zq (cp.o w3 B _ cc cd bj);clear cd cw bj cc cp a6 hP;go_loopw [41] (λi wr=>∃ k:Nat,k<=2/\i=.int .i64 (k:Int)/\Zq ((k=0->wr=w3)/\(1<=k->∃ T Z b4 v,Lasts base B w3 wr D its R.b T/\Pair wr w3.heap.size Z b4 D.blk v tl T/\wr.heap[B]?=some (.cells #[.pointer (some ⟨T.O.blk,0,none⟩),.pointer none,.pointer none,.pointer (some ⟨Z,0,none⟩),.pointer (some ⟨b4,0,none⟩),.pointer none,.pointer (some ⟨P.blk,0,none⟩),.pointer none,.pointer none,.pointer none,.pointer (some ⟨D.blk,0,none⟩),.int .i64 (now:Int)] 63 (0,0))))) (λi _=>2 - (intOf i).toNat)
 case atStart=>exact ⟨0,by omega,rfl,λ_=>rfl,λh=>by omega⟩
 case round =>
  obtain ⟨k,hk,rfl,HS⟩:=hrel
  rcases (show k=0\/k=1\/k=2 by omega) with rfl | rfl | rfl
  ·
   obtain rfl:=(HS.o.1 rfl).symm;have g0:=aa cy.o 0 _ rfl;clear HS;go_wp2_with fail;refine bm.o.mono ?_;rintro e w4 ⟨rfl,X⟩;have eg:=zq X;clear X bm g0;go_wp2_with fail;go_roundw
   case rel=>exact ⟨1,by omega,by go_num,λh=>by omega,λ_=>eg.o⟩
   case measure=>simp [intOf]
  ·
   obtain ⟨T,Z,b4,tv,I,a7,al⟩:=HS.o.2 (by omega);have ce:=zq a7;clear a7;have cf:=(Array.getElem?_eq_some_iff.1 cx.o).1;have b2:¬ D.foot B:=λh=>by have:=b6.o B h; have:=ar.o; omega
   have c6:wr.heap[B+1]?=_:=eu I.mod cy.o (λh=>h.elim (λh=>by have:=b6.o _ h; have:=ar.o; omega) λh=>by omega);have g1:=aa c6 1 _ rfl;have c7:=zq (ai9 (D:=T.D) wr al (by rw [I.dblk]; rfl) I.tape.whole.dsk I.quiet.up (I.none cv.o));have A:=zq I;have c8:=zq al;clear I al c6 HS bm;go_wp2_with fail;refine c7.o.mono ?_;rintro e w4 ⟨rfl,da⟩;have cg:=zq da;clear da c7 g1;go_wp2_with fail;go_roundw
   case rel=>exact ⟨2,by omega,by go_num,λh=>by omega,λ_=>⟨T,Z,b4,tv,A.o.then (Mod.of_below (M:=λk=>k=B) cg.o) cf b2,ce.o.mod (M:=λ_=>False) (Mod.of_below cg.o) (λ_ _ h=>h),jd cg.o c8.o⟩⟩
   case measure=>simp [intOf]
  ·
   obtain ⟨T,Z,b4,tv,I,a7,al⟩:=HS.o.2 (by omega);have ce:=zq a7;clear a7;have A:=zq I;have c8:=zq al;have U:∀ k,D2.foot k->k < W.heap.size:=λk hk=>bl.o.lt hk
   have bz:DiskAt base wr D2:=(bl.o.below av.o).mod I.mod (λk hk h=>h.elim (λh=>cr.o k h hk) λh=>by have:=U k hk; have:=ar.o; omega);have dc:¬ D2.foot B:=λh=>by have:=U B h; have:=ar.o; omega
   have dd:=zq (bw.o wr B _ _ _ _ bz (Nat.le_trans ac.o (Nat.le_trans av.o.size I.mod.size)) dc al);clear I al HS bm U bz dc bw;go_wp2_with fail;refine dd.o.mono ?_;rintro e w5 ⟨rfl,C,D',kb,tb,b0,de⟩;have E:=zq b0;have eh:=zq de;clear b0 de dd;have cf:B < w3.heap.size:=(Array.getElem?_eq_some_iff.1 cx.o).1;have a8:=ar.o;have bo:=b6.o;have U:∀ k,D2.foot k->k < W.heap.size:=λk hk=>bl.o.lt hk
   have e2:W.heap.size<=w3.heap.size:=av.o.size;have ei:w3.heap.size<=wr.heap.size:=A.o.mod.size
   have bp:∀ k,T.foot k->D.foot k\/w3.heap.size<=k:=λk hk=>by
    rcases hk with h | h | h
    . exact .inr (A.o.fresh k (.inl h))
    . exact .inl ((A.o.dfoot k).1 h)
    . exact .inr (A.o.fresh k (.inr h))
   have J:∀ k,P.foot k->W.heap.size<=k/\k < B:=ef.o;have br:∀ k,T.foot k->k < wr.heap.size:=λk hk=>A.o.tape.lt hk
   have ba:∀ k,C.foot k->wr.heap.size<=k:=E.o.cnew;have ao:∀ k,D'.foot k->D2.foot k\/wr.heap.size<=k:=E.o.dnew
   have ci:∀ k,T.foot k->¬ (D2.foot k\/k=B):=λk hk h=>by
    rcases bp k hk with h1 | h1
    . exact h.elim (λh=>cr.o k h1 h) λh=>by have:=bo k h1; omega
    . exact h.elim (λh=>by have:=U k h; omega) λh=>by omega
   have bb:TapeAt base w5 T:=A.o.tape.mod E.o.mod ci
   have dj:PendAt base w5 P:=(ee.mod A.o.mod (λk hk h=>by
    have h1:=J k hk
    rcases h with h | h
    . have:=bo k h; omega
    . omega)).mod E.o.mod (λk hk h=>by
    have h1:=J k hk
    rcases h with h | h
    . have:=U k h; omega
    . omega)
   have ad:(∀ k,T.foot k->k≠B/\¬ P.foot k)/\∀ k,P.foot k->k≠B:=⟨λk hk=>by
    rcases bp k hk with h1 | h1
    . have h2:=bo k h1
      exact ⟨by omega,λh=>by have:=J k h; omega⟩
    . exact ⟨by omega,λh=>by have:=J k h; omega⟩,λk hk=>by have:=J k hk; omega⟩
   have bs:base<=B:=Nat.le_trans ac.o a8;have bc:TabB base w5:=((d9.o.below av.o).mod A.o.mod (λk hk=>hk.elim (λh=>HD.o.base_le h) λe=>e ▸ bs)).mod E.o.mod (λk hk=>hk.elim (λh=>bl.o.base_le h) λe=>e ▸ bs);have ej:wr.heap.size<=w5.heap.size:=E.o.mod.size;have dl:∀ k,C.foot k\/D'.foot k\/k=kb->base<=k:=λk hk=>hk.elim (λh=>by have:=ba k h; have:=ac.o; omega) λh=>h.elim (λh=>E.o.dsk.base_le h) λh=>h ▸ E.o.kx.low
   have Y:∀ k,C.foot k\/D'.foot k\/k=kb->k < w5.heap.size/\k≠B/\¬ T.foot k/\¬ P.foot k:=λk hk=>by
    have dn:k < w5.heap.size:=hk.elim (λh=>E.o.cq.lt h) λh=>h.elim (λh=>E.o.dsk.lt h) λh=>h ▸ (Array.getElem?_eq_some_iff.1 E.o.kx.cells).1
    have ho:D2.foot k\/wr.heap.size<=k:=hk.elim (λh=>.inr (ba k h)) λh=>h.elim (λh=>ao k h) λh=>.inr (h ▸ E.o.knew)
    rcases ho with h | h
    . have:=U k h
      exact ⟨dn,by omega,λh3=>ci k h3 (.inl h),λh3=>by have:=J k h3; omega⟩
    . exact ⟨dn,by omega,λh3=>by have:=br k h3; omega,λh3=>by have:=J k h3; omega⟩
   have dq:C.db=D'.blk:=by rw [E.o.db,E.o.grow.blk]
   have bd:∀ (w:World) (F:Nat),Mod (λk=>k=B\/P.foot k) w5 w->w5.heap.size<=F->w.heap[F]?=some (.cells #[.pointer (some ⟨T.O.blk,0,none⟩),.pointer (some ⟨C.blk,0,none⟩),.pointer (some ⟨kb,0,none⟩),.int .i64 (T.R.b:Int)] 91 (0,0)) ->
    Calls Tryz.prog 94 #[.pointer (some ⟨F,0,none⟩)] w λe w'=>∃ n:Int,e=.returned (.tuple #[.int .i64 n,.int .i64 0])/\Post T C D' kb F w w'/\Mod (λk=>(C.foot k\/D'.foot k\/k=kb)\/k=F) w w':=λw F hm ek hc =>
    cs.o T C D' kb w F (bb.mod hm (λk hk h=>h.elim (λh=>(ad.1 k hk).1 h) λh=>(ad.1 k hk).2 h)) A.o.its A.o.b A.o.syn A.o.quiet
     (bc.mod hm (λk hk=>hk.elim (λe=>e ▸ bs) λh=>by have:=J k h; have:=ac.o; omega)) (by have:=hm.size; have:=ac.o; omega) (E.o.cq.mod hm (λk hk h=>h.elim (λh=>(Y k (.inl hk)).2.1 h) λh=>(Y k (.inl hk)).2.2.2 h)) E.o.qs dq
     (E.o.dsk.mod hm (λk hk h=>h.elim (λh=>(Y k (.inr (.inl hk))).2.1 h) λh=>(Y k (.inr (.inl hk))).2.2.2 h)) E.o.grow E.o.away (λk hk=>⟨λh=>(Y k (.inl h)).2.2.1 hk,λh=>(Y k (.inr (.inl h))).2.2.1 hk,λh=>(Y k (.inr (.inr h))).2.2.1 hk⟩)
     ⟨λh=>by have:=br _ h; omega,λh=>by have:=(Y _ (.inl h)).1; omega,λh=>by have:=(Y _ (.inr (.inl h))).1; omega,λh=>by have:=(Y kb (.inr (.inr rfl))).1; omega⟩
     { E.o.kx with cells:=(hm.block kb (Y kb (.inr (.inr rfl))).1 (λh=>h.elim (Y kb (.inr (.inr rfl))).2.1 (Y kb (.inr (.inr rfl))).2.2.2)).trans E.o.kx.cells } E.o.kaway (by have:=ac.o; omega) hc
   have ap:∀ F w0 w1 w2 b8 b9,Post T C D' kb F w0 w1->w5.heap.size<=b8->b8 < w0.heap.size->w5.heap.size<=b9->b9 < w0.heap.size->b8≠F->b9≠F->Mod (λk=>k=b8\/k=b9) w1 w2->Post T C D' kb F w0 w2:=λF w0 w1 w2 b8 b9 hp i1 i2 i3 i4 i5 i6 hm =>
    b5.o T C D' kb F w0 w1 w2 _ hp hm (λk hk=>⟨by rcases hk with e | e <;> omega,λh=>by have:=(Y _ (.inl h)).1; rcases hk with e | e <;> omega,λh=>by have:=(Y _ (.inr (.inl h))).1; rcases hk with e | e <;> omega,λh=>by have:=(Y kb (.inr (.inr rfl))).1; rcases hk with e | e <;> omega,λh=>by rcases hk with e | e <;> omega⟩)
   have an:T.O.recs=gy R.b its:=by rw [bb.recs,A.o.its,A.o.b]
   have dr:=zq (ajd (M:=λk=>C.foot k\/D'.foot k\/k=kb) (Post:=Post T C D' kb) (T:=T) (P:=P) (cb:=C.blk) (kb:=kb) (tb:=tb) _ _ _ w5 (by rw [bb.recs,A.o.its,dz.o]; rfl) (by rw [A.o.dblk]; exact eh.o) bb dj ad bc (by have:=ac.o; omega) A.o.quiet (A.o.none cv.o) (by rw [an]; exact d8.o) (by rw [an]; exact d7.o) bs dl Y bd ap);have HF:Zq ((∀ k,T.foot k->D.foot k\/w3.heap.size<=k)/\(∀ k,P.foot k->W.heap.size<=k/\k < B)/\(∀ k,C.foot k->wr.heap.size<=k)/\(∀ k,D'.foot k->D2.foot k\/wr.heap.size<=k)/\wr.heap.size<=kb/\(∀ k,C.foot k\/D'.foot k\/k=kb->k < w5.heap.size/\k≠B/\¬ T.foot k/\¬ P.foot k)/\w3.heap.size<=wr.heap.size/\wr.heap.size<=w5.heap.size/\B < w3.heap.size/\(∀ k,T.foot k->k < wr.heap.size)):=⟨bp,J,ba,ao,E.o.knew,Y,ei,ej,cf,br⟩;have ds:=zq ad
   have b1:∀ b,w3.heap.size<=b->b < wr.heap.size->¬ (D2.foot b\/b=B)/\¬ (b=B\/P.foot b\/C.foot b\/D'.foot b\/b=kb):=λb h1 h2 =>
    ⟨λh=>h.elim (λh=>by have:=U b h; omega) λh=>by omega,λh=>h.elim (λh=>by omega) λh=>h.elim (λh=>by have:=J b h; omega) λh=>h.elim (λh=>by have:=ba b h; omega) λh=>h.elim (λh=>(ao b h).elim (λh=>by have:=U b h; omega) λh=>by omega) λh=>by have:=E.o.knew; omega⟩
   have dt:Zq (∀ w6,Mod (λk=>k=B\/P.foot k\/C.foot k\/D'.foot k\/k=kb) w5 w6->Pair w6 W.heap.size Z b4 D.blk tv tl T/\∀ b,PB Z b4 tv b->¬ (b=B\/T.foot b\/P.foot b)/\¬ (C.foot b\/D'.foot b\/b=kb)/\b < wr.heap.size):=λw6 hm=>by
    have q:=ce.o;have q1:∀ b,PB Z b4 tv b->¬ (D2.foot b\/b=B)/\¬ (b=B\/P.foot b\/C.foot b\/D'.foot b\/b=kb):=λb hb=>b1 b (q.lo_all hb).1 (q.lo_all hb).2
    have q3:=(q.mod E.o.mod (λk hk=>(q1 k hk).1)).mod hm (λk hk=>(q1 k hk).2);refine ⟨{ q3 with lo:=⟨by have:=q.lo; omega,by have:=q.lo; omega,q.lo.2.2⟩,r:=agq q3.r (by omega) },λb hb=>⟨λh=>?_,λh=>(q1 b hb).2 (.inr (.inr h)),(q.lo_all hb).2⟩⟩
    rcases h with h | h | h
    . exact (q1 b hb).2 (.inl h)
    . exact q.away _ h hb
    . exact (q1 b hb).2 (.inr (.inl h))
   clear b1;clear bp J br ba ao ci bd ap Y dl dq bc ad bb dj an U bo;go_wp2_with fail;refine dr.o.mono ?_;rintro e w6 ⟨rfl,F,b8,b9,w0,em,en,eo,X,ek,ew,dx⟩;clear dr;have dy:=zq (dt.o w6 dx);go_wp2_with fail;go_ret2;obtain ⟨f1,f2,f3,f4,f5,f6,f7,f8,f9,f10⟩:=HF.o;have ez:W.heap.size<=w3.heap.size:=av.o.size;have a8:=ar.o
   refine ⟨⟨B,T,{ P with all:=uf T.O.recs P.all },.pointer (some ⟨C.blk,0,none⟩),.pointer (some ⟨kb,0,none⟩),.pointer (some ⟨Z,0,none⟩),.pointer (some ⟨b4,0,none⟩),.pointer (some ⟨tb,0,none⟩),.pointer (some ⟨F,0,none⟩),.pointer (some ⟨b8,0,none⟩),.pointer (some ⟨b9,0,none⟩),.pointer (some ⟨T.D.blk,0,none⟩),(now:Int)⟩,C,D',kb,F,w0,rfl,
    ⟨em,en,eo,Nat.le_trans ac.o a8,ds.o⟩,rfl,rfl,⟨rfl,rfl,by omega,λk hk=>?_,λk hk=>?_⟩,A.o.its,A.o.b,A.o.syn,A.o.waits,A.o.quiet,A.o.dblk,A.o.room,A.o.find,?_,X,?_,λk hk=>?_⟩
   ·
    have h1:k < w5.heap.size:=by
     rcases hk with h | h | h
     . have h':k=B:=h; omega
     . have:=f10 k h; omega
     . have:=f2 k h; omega
    have h2:∀ j,C.foot j\/D'.foot j\/j=kb->k≠j:=λj hj e=>by
     subst e;have g:=f6 _ hj
     rcases hk with h | h | h
     . exact g.2.1 h
     . exact g.2.2.1 h
     . exact g.2.2.2 h
    exact ⟨by omega,λh=>h2 k (.inl h) rfl,λh=>h2 k (.inr (.inl h)) rfl,λh=>h2 kb (.inr (.inr rfl)) h,λh=>by omega⟩
   . rcases hk with h | h | h
     . exact .inr (by have:=f3 k h; omega)
     . exact (f4 k h).imp (λh=>h) λh=>by omega
     . exact .inr (by omega)
   . refine ⟨Z,b4,tv,rfl,rfl,by show Value.pointer (some ⟨T.D.blk,0,none⟩)=_; rw [A.o.dblk],dy.o.1,by show uf T.O.recs P.all=_; rw [ca],λb hb=>?_⟩
     obtain ⟨g0,g1,g2⟩:=dy.o.2 b hb;exact ⟨g0,λh=>h.elim (λh=>g1 (.inl h)) λh=>h.elim (λh=>g1 (.inr (.inl h))) λh=>h.elim (λh=>g1 (.inr (.inr h))) λh=>by omega,by omega⟩
   . have m1:Mod (λk=>(D.foot k\/D2.foot k)\/W.heap.size<=k) W w3:=Mod.of_below av.o
     have m2:=m1.trans (A.o.mod.mono (N:=λk=>(D.foot k\/D2.foot k)\/W.heap.size<=k) λk _ h=>h.elim (λh=>.inl (.inl h)) λh=>.inr (by omega));have m3:=m2.trans (E.o.mod.mono (N:=λk=>(D.foot k\/D2.foot k)\/W.heap.size<=k) λk _ h=>h.elim (λh=>.inl (.inr h)) λh=>.inr (by omega));have m4:=m3.trans (dx.mono (N:=λk=>(D.foot k\/D2.foot k)\/W.heap.size<=k) λk _ h=>h.elim (λh=>.inr (by omega)) λh=>h.elim (λh=>.inr (f2 k h).1) λh=>h.elim (λh=>.inr (by have:=f3 k h; omega)) λh=>h.elim (λh=>(f4 k h).elim (λh=>.inl (.inr h)) λh=>.inr (by omega)) λh=>.inr (by omega));exact m4.mono λk hk h=>h.elim (λh=>h) λh=>by omega
   . rcases hk with h | h | h
     . exact .inr (by have h':k=B:=h; omega)
     . exact (f1 k h).imp (λh=>h) λh=>by omega
     . exact .inr (f2 k h).1
end StoW
namespace KxW
open Go.RowKit OctMath DskW SegW MapG CacheW NameW EntW OctW
theorem aoa (a b c d:Nat) (ha:a < 4294967296) (hb:b<=1099511627776) (hc:c<=1099511627776) (hd:d < 16777216):aai (nz (a:Int) (b:Int) (c:Int) (d:Int))=true/\(acm (nz (a:Int) (b:Int) (c:Int) (d:Int))).length=20:=by
 have A:aai (nz (a:Int) (b:Int) (c:Int) (d:Int))=true:=by
  refine decide_eq_true λp hp=>?_
  simp only [nz,List.mem_cons,List.not_mem_nil,or_false] at hp
  rcases hp with rfl | rfl | rfl | rfl
  . exact ⟨Int.natCast_nonneg _,by show (a:Int) < ((1099511627776:Nat):Int); omega⟩
  . exact ⟨Int.natCast_nonneg _,by show (b:Int) < ((281474976710656:Nat):Int); omega⟩
  . exact ⟨Int.natCast_nonneg _,by show (c:Int) < ((281474976710656:Nat):Int); omega⟩
  . exact ⟨Int.natCast_nonneg _,by show (d:Int) < ((16777216:Nat):Int); omega⟩
 refine ⟨A,?_⟩;unfold acm;rw [A,if_pos rfl];simp [nz,zi,bf]
structure aq3 (base:Nat) (W w':World) (X:KxD) (D D':DiskD):Prop where
 kx:KxAt base w' { X with many:=X.many+1 } D'
 dsk:DiskAt base w' D'
 grows:Grows D D' [] 20 2
 mod:Mod (λk=>D.foot k\/k=X.blk) W w'
 foot:∀ k,D'.foot k->D.foot k\/W.heap.size<=k
 other:∀ m,m≠gz->m≠iq->D'.find m=D.find m
theorem aq4 {base:Nat} {X:KxD} {D:DiskD} (t k:List UInt8) (a b:Nat) (W:World) (h:KxAt base W X D) (hD:DiskAt base W D) (hq:Quiet D) (hbase:base<=W.heap.size) (ht:NameMath.lc t=true) (hk:RecMath.og k=true) (htl:t.length<=1000) (hkl:k.length<=1000)
 (ha:a<=1099511627776) (hb:b<=1099511627776) (hm:X.many<=700000) (hroom:20<=D.room) (hwl:D.waits.length<=1000000) :
 Calls Tryz.prog 70 #[.pointer (some ⟨X.blk,0,none⟩),.string (S t),.string (S k),.int .i64 (a:Int),.int .i64 (b:Int)] W λe w'=>e=.returned (.int .i64 0)/\∃ D',aq3 base W w' X D D':=by
 have ad:=zq (λw=>abw t (by omega) w);rw [ht] at ad;have ak:=zq (λw=>RecW.aj1 k (by omega) w);rw [hk] at ak;have a8:=zq (λw=>ajc t k (by omega) (by omega) w);have ba:=ajb t k;generalize acv t k=n at *
 have bb:=zq (λ(w:World) (hb:Below W.heap.size W w)=>an7 (X:=X) (n % 8) (Nat.mod_lt _ (by decide)) w (h.below hb) (hD.below hb) hq);have dl:IntKind.i64.wrap ((n:Int) % 8)=((n % 8:Nat):Int):=IntWalk.i64_in _ (by omega);have dn:(decide ((a:Int) < 0))=false:=by simp
 have dp:(decide ((1099511627776:Int) < (a:Int)))=false:=by simp; omega
 have dq:(decide ((b:Int) < 0))=false:=by simp
 have dr:(decide ((1099511627776:Int) < (b:Int)))=false:=by simp; omega
 obtain ⟨fs,bc,Z⟩:=h.slots;obtain ⟨fl,bd,I⟩:=h.links;have F:=zq h;have HD:=zq hD;have HQ:=zq hq;have cf:=zq hbase;have cg:=zq bc;have ab:=zq Z;have bh:=zq I;have ci:=zq hwl;have da:IntKind.i64.wrap ((X.many:Int) * 20)=((20 * X.many:Nat):Int):=by rw [IntWalk.i64_in _ (by omega)]; omega
 have ds:IntKind.i64.wrap ((X.many:Int)+1)=((X.many+1:Nat):Int):=by rw [IntWalk.i64_in _ (by omega)]; omega
 have cj:IntKind.i64.wrap (3 * ((n:Int) % 8))=((3 * (n % 8):Nat):Int):=by rw [IntWalk.i64_in _ (by omega)]; omega
 have bj:=zq (λ(s:List UInt8) (hs:s.length=20) (w:World) (hb:Below W.heap.size W w)=>afs iq fl s w (hD.below hb) hq bd (20 * X.many) I.symm (by intro e; rw [e] at hs; cases hs) (by omega) (by rw [hs]; exact hroom) (by omega) (Nat.le_trans hbase hb.size));have HM:=zq hm;have HN:=zq ba;have HA:=zq ha;have HB:=zq hb;clear h hD hq hbase ht hk htl hkl hroom hwl bc Z bd I hm ba ha hb;go_enter Tryz.func70,Tryz.ntmps70;go_wp2_with fail;refine (ad.o _).mono ?_;rintro e w1 ⟨rfl,hb⟩;have al:=zq hb;clear hb ad;go_wp2_with fail;refine (ak.o _).mono ?_;rintro e w2 ⟨rfl,hb⟩;have am:=zq (al.o.trans (hb.mono al.o.size));clear hb ak al;go_wp2_with fail;refine (a8.o _).mono ?_;rintro e w3 ⟨rfl,hb⟩;have J:=zq (am.o.trans (hb.mono am.o.size));clear hb a8 am;go_wp2_with fail;refine (bb.o _ J.o).mono ?_;rintro e w4 ⟨u,rfl,hu,hb⟩;have an:=zq (J.o.trans (hb.mono J.o.size));clear hb bb J;obtain ⟨l1,l2⟩:=aoa n a b u HN.o HA.o HB.o hu;have ao:=zq (λw=>an4 (n:Int) (a:Int) (b:Int) (u:Int) (by have:=HN.o; omega) (by have:=HA.o; omega) (by have:=HB.o; omega) (by omega) w);rw [l1] at ao;generalize acm (nz (n:Int) (a:Int) (b:Int) (u:Int))=s at *
 have HS:=zq l2;clear l1 l2;go_wp2_with fail;refine (ao.o _).mono ?_;rintro e w5 ⟨rfl,hb⟩;have O:=zq (an.o.trans (hb.mono an.o.size));clear hb ao an;go_upto_region 13 with fail
 have c5:w5.heap[X.blk]?=some (.cells #[.pointer (some ⟨D.blk,0,none⟩),.int .i64 (X.many:Int)] 224 (0,0)):=(F.o.below O.o).cells;have k0:w5.drew.cell? ⟨X.blk,0,none⟩=some (.pointer (some ⟨D.blk,0,none⟩)):=by rw [Lib.cell_of_heap (show w5.drew.heap[X.blk]?=_ from c5)]; rfl
 have k1:w5.drew.cell? ⟨X.blk,1,none⟩=some (.int .i64 (X.many:Int)):=by rw [Lib.cell_of_heap (show w5.drew.heap[X.blk]?=_ from c5)]; rfl
 clear c5;have ap:=zq (bj.o s HS.o w5.drew (O.o.drew));rw [show S iq=⟨#[120,45,108,105,110,107,115]⟩ from rfl,HS.o] at ap;clear bj;refine GrowM.jh (by kernel_rfl) ?_;refine GrowM.jl 10 [none,none,none,none,none,none,none,none,none,none] (λu v=>v=u) (by kernel_rfl) (by kernel_rfl) (λ_=>rfl) (λ_ _ _ h k=>k.trans h) ?_ ?_
 . exact GrowN.jo rfl
 simp only [List.take_succ_cons,List.take_zero,List.drop_succ_cons,List.drop_zero,Nat.reduceSub]
 iterate 10
  refine GrowN.g_det rfl ?_;apply Exists.intro;refine ⟨λw hw hF=>?_,?_⟩
  . obtain rfl:=hw.symm
    clear hF;go_simp
    first | exact rfl | exact ⟨rfl,rfl⟩
  go_frame
 refine GrowN.g_nil λwz av hF=>?_
 obtain rfl:=av.symm;clear hF;refine GrowM.nu (λv w'=>v=.int .i64 0/\∃ D',DiskAt base w' D'/\Grows D D' [] 20 1/\Mod D.foot w5.drew w'/\(∀ k,D'.foot k->D.foot k\/w5.drew.heap.size<=k)/\(∃ f',D'.find iq=some f'/\f'.now=fl.now++s)/\∀ m,m≠iq->D'.find m=D.find m) (by kernel_rfl) rfl rfl ?_ ?_
 ·
  go_simp;refine ap.o.mono ?_;rintro e w' ⟨rfl,hb⟩;exact ⟨_,rfl,rfl,hb⟩
 rintro v R ⟨rfl,D1,bk,bl,bm,bo,bp,br⟩;go_frame;have co:=zq bk;have U:=zq bl;have E:Zq (Mod D.foot W R):=(Mod.of_below (M:=D.foot) O.o.drew).trans bm;have bs:Zq (∀ k,D1.foot k->D.foot k\/W.heap.size<=k):=λk hk=>(bo k hk).imp_right λh=>Nat.le_trans O.o.size h
 have cp:=zq bp;have bw:=zq br;clear bk bl bm bo bp br ap k0 k1;refine GrowM.jl 12 [none] (λu v=>v=u) (by kernel_rfl) (by kernel_rfl) (λ_=>rfl) (λ_ _ _ h k=>k.trans h) ?_ ?_
 . exact GrowN.jo rfl
 simp only [List.take_succ_cons,List.take_zero,List.drop_succ_cons,List.drop_zero,Nat.reduceSub];refine GrowN.g_det rfl ?_;apply Exists.intro;refine ⟨λw hw hF=>?_,?_⟩
 ·
  obtain rfl:=hw.symm;clear hF;go_simp
  first | exact rfl | exact ⟨rfl,rfl⟩
 go_frame;refine GrowN.g_nil λwz av hF=>?_
 obtain rfl:=av.symm;clear hF;refine GrowM.qz rfl ?_;have A:=(Array.getElem?_eq_some_iff.1 F.o.cells).1;have c6:R.heap[X.blk]?=some (.cells #[.pointer (some ⟨D.blk,0,none⟩),.int .i64 (X.many:Int)] 224 (0,0)):=(E.o.block _ A F.o.away).trans F.o.cells;have k0:R.cell? ⟨X.blk,0,none⟩=some (.pointer (some ⟨D.blk,0,none⟩)):=by rw [Lib.cell_of_heap c6]; rfl
 have k1:R.cell? ⟨X.blk,1,none⟩=some (.int .i64 (X.many:Int)):=by rw [Lib.cell_of_heap c6]; rfl
 clear c6 A;go_upto_region 16 with fail
 go_wp2_with fail
 have a1:=zq (OctW.nums_any 3 (by omega) (by omega) (some ⟨R.heap.size,0,none⟩) 1 [(X.many:Int)+1] (by simp) (λy hy=>by
  have hm:=HM.o;have e:y=(X.many:Int)+1:=by simpa using hy
  omega) (R.alloc (.cells #[.int .i64 ((X.many:Int)+1)] 3)) (λi hi=>by
  obtain rfl:i=0:=by simpa using hi
  refine ⟨_,_,rfl,?_⟩;rw [World.cell?_alloc_new]; rfl))
 have bz:ma 3 [(X.many:Int)+1]=(be 3 (X.many+1),0):=by
  have:=abg 3 ((X.many:Int)+1) (by decide) (by decide);rw [if_pos ⟨by omega,by show (X.many:Int)+1 < ((16777216:Nat):Int); have:=HM.o; omega⟩] at this;rw [show ((X.many:Int)+1).toNat=X.many+1 by omega] at this;exact this
 rw [bz] at a1;have B:Zq (Below R.heap.size R (R.alloc (.cells #[.int .i64 ((X.many:Int)+1)] 3))):=(Below.refl _ _).alloc (Nat.le_refl _) _;clear bz;refine a1.o.mono ?_;rintro e w7 ⟨rfl,hb⟩;have B:=zq (B.o.trans (hb.mono B.o.size));clear hb a1;have A:=(Array.getElem?_eq_some_iff.1 F.o.cells).1;have c7:w7.heap[X.blk]?=some (.cells #[.pointer (some ⟨D.blk,0,none⟩),.int .i64 (X.many:Int)] 224 (0,0)):=(B.o.block _ (Nat.lt_of_lt_of_le A E.o.size)).trans ((E.o.block _ A F.o.away).trans F.o.cells);have k0:w7.cell? ⟨X.blk,0,none⟩=some (.pointer (some ⟨D.blk,0,none⟩)):=by rw [Lib.cell_of_heap c7]; rfl
 clear c7 A k1;have cs:D1.find gz=some fs:=(bw.o gz (by decide)).trans cg.o;have Y:(be 3 (X.many+1)).length=3:=bf _ _;have a6:=zq (aq2 gz fs (be 3 (X.many+1)) (3 * (n % 8)) w7 (co.o.below B.o) U.o.quiet cs (by rw [Y,ab.o]; omega) (by intro e; rw [e] at Y; cases Y) (by rw [Y]; omega) (by rw [U.o.waits]; have:=ci.o; omega) (by have h1:=cf.o; have h2:=E.o.size; have h3:=B.o.size; omega));rw [show S gz=⟨#[120,45,115,108,111,116,115]⟩ from rfl,U.o.blk,show ((3 * (n % 8):Nat):Int)=3 * ((n:Int) % 8) by omega] at a6;rw [show ((3 * (n % 8):Nat):Int)=3 * ((n:Int) % 8) by omega] at cj;go_wp2_with fail;refine a6.o.mono ?_;rintro e w8 ⟨rfl,D2,b0,b1,b2,b3,b4,b5⟩;have cv:=zq b0;have b6:=zq (U.o.trans b1);have b7:Zq (∀ k,D2.foot k->D.foot k\/W.heap.size<=k):=λk hk=>(b3 k hk).elim (λh=>bs.o k h) λh=>.inr (Nat.le_trans E.o.size (Nat.le_trans B.o.size h))
 have b8:Zq (Mod D.foot W w8):=(((E.o.mono (N:=λk=>D.foot k\/W.heap.size<=k) (λk _ h=>.inl h)).trans (Mod.of_below (M:=λk=>D.foot k\/W.heap.size<=k) B.o)).trans (b2.mono (λk _ h=>bs.o k h))).mono (λk hk h=>h.elim (λh=>h) λh=>by omega);have cw:=zq b4;have b9:=zq b5;clear b0 b1 b2 b3 b4 b5 a6 k0;have A:=(Array.getElem?_eq_some_iff.1 F.o.cells).1;have c8:w8.heap[X.blk]?=some (.cells #[.pointer (some ⟨D.blk,0,none⟩),.int .i64 (X.many:Int)] 224 (0,0)):=(b8.o.block _ A F.o.away).trans F.o.cells;have cx:=zq c8;have k1:w8.cell? ⟨X.blk,1,none⟩=some (.int .i64 (X.many:Int)):=by rw [Lib.cell_of_heap c8]; rfl
 have f1:w8.frozen? ⟨X.blk,1,none⟩=false:=Lib.frozen_of_heap c8 1;clear c8;go_wp2_with fail;go_ret;have ca:Mod (λk=>k=X.blk) w8 (w8.setCell ⟨X.blk,1,none⟩ (.int .i64 ((X.many:Int)+1))):=jm _ _ _ _;have cb:¬ D2.foot X.blk:=λh=>(b7.o _ h).elim F.o.away λh=>by omega
 obtain ⟨f1,x1,x2⟩:=cp.o;obtain ⟨f2,y1,y2⟩:=cw.o;refine ⟨rfl,D2,⟨?_,⟨f2,y1,y2.trans ab.o⟩,⟨f1,(b9.o iq (by decide)).trans x1,by rw [x2,List.length_append,HS.o,bh.o]; show _=20 * (X.many+1); omega⟩,F.o.low,cb⟩,cv.o.mod ca (λk hk e=>cb (e ▸ hk)),b6.o,(b8.o.mono (λk _ h=>.inl h)).trans (ca.mono (λk _ h=>.inr h)),b7.o,λm h1 h2=>(b9.o m h1).trans (bw.o m h2)⟩;rw [b6.o.blk];exact heap_set1 cx.o _ rfl
end KxW
namespace CqW
open Go.RowKit Go.MapKept OctMath RecMath DskW SegW MapG CacheW EntW NameW KxW
theorem ab3 {t t':List UInt8} {q q' n n':Nat} (hq:q < 3) (hq':q' < 3) (hn:n<=99999999) (hn':n'<=99999999) (h:af (jy t q) n=af (jy t' q') n'):t=t'/\q=q':=by
 have h1:jy t q=jy t' q':=(List.append_inj' h (by rw [acr n hn,acr n' hn'])).1;have hd:∀ k < 3,Lib.decDigits k=[UInt8.ofNat (48+k)]:=λk hk=>Lib.decDigits_one (by omega)
 unfold jy at h1;rw [hd q hq,hd q' hq'] at h1;have B:=(List.append_inj' h1 rfl).1;have A:=List.append_inj' B rfl;have E:=(List.append_inj' A.1 rfl).1;refine ⟨(List.append_inj E rfl).2,?_⟩;have F:=A.2;have:q=0\/q=1\/q=2:=by omega
 have:q'=0\/q'=1\/q'=2:=by omega
 rcases ‹q=0\/q=1\/q=2› with rfl | rfl | rfl <;> rcases ‹q'=0\/q'=1\/q'=2› with rfl | rfl | rfl <;> first | rfl | (exact absurd F (by decide))
theorem ae5 (t:List UInt8) {q:Nat} (hq:q < 3):(jy t q).length=t.length+5:=by
 have hd:∀ k < 3,(Lib.decDigits k).length=1:=λk hk=>by rw [Lib.decDigits_one (by omega)]; rfl
 unfold jy;simp only [List.length_append,hd q hq,List.length_cons,List.length_nil];omega
theorem aab (t:List UInt8) (q n:Nat):af (jy t q) n≠gz/\af (jy t q) n≠iq:=by
 constructor <;> (intro h; injection h with h1 h2; exact absurd h1 (by decide))
theorem acw (t:List UInt8) (q n:Nat):af (jy t q) n≠lh/\af (jy t q) n≠qj:=by
 constructor <;> (intro h; injection h with h1 h2; exact absurd h1 (by decide))
def TmS (D D':DiskD):Prop:=D'.blk=D.blk/\∀ n,n=lh\/n=qj->D'.find n=D.find n
theorem TmS.trans {D D1 D2:DiskD} (k:TmS D1 D2) (h:TmS D D1):TmS D D2:=⟨k.1.trans h.1,λn A=>(k.2 n A).trans (h.2 n A)⟩
def aje (p:Nat×Msg):List UInt8:=acm (lq (p.1:Int) ((bg p.2).length:Int) ((ng [p.2.tag]:Nat):Int) p.2.born)
def isQ (t:List UInt8) (q:Int) (p:Nat×Msg):Bool:=decide (p.2.topic=t) && decide (p.2.queue=q)
def ofQ (t:List UInt8) (q:Int) (l:List (Nat×Msg)):List UInt8:=(l.filter (isQ t q)).flatMap aje
theorem akd {t:List UInt8} {q:Int} (l:List (Nat×Msg)) {p:Nat×Msg} (h1:p.2.topic=t) (h2:p.2.queue=q):ofQ t q (l++[p])=ofQ t q l++aje p:=by
 have h:isQ t q p=true:=by unfold isQ; simp [h1,h2]
 unfold ofQ;rw [List.filter_append,List.filter_cons_of_pos h,List.filter_nil,List.flatMap_append];simp
theorem aq5 {t:List UInt8} {q:Int} (l:List (Nat×Msg)) {p:Nat×Msg} (h:¬ (p.2.topic=t/\p.2.queue=q)):ofQ t q (l++[p])=ofQ t q l:=by
 have h:¬ isQ t q p=true:=by unfold isQ; simpa using λh1 A=>h ⟨h1,A⟩
 unfold ofQ;rw [List.filter_append,List.filter_cons_of_neg h,List.filter_nil,List.append_nil]
theorem aob {t:List UInt8} {q:Int} {l:List (Nat×Msg)} (h:∀ p∈l,¬ (p.2.topic=t/\p.2.queue=q)):ofQ t q l=[]:=by
 have:l.filter (isQ t q)=[]:=List.filter_eq_nil_iff.2 λp hp=>by unfold isQ; simpa using λh1 A=>h p hp ⟨h1,A⟩
 unfold ofQ;rw [this]; rfl
structure ae6 (p:Nat×Msg):Prop where
 id:p.1<=99999999
 len:(bg p.2).length<=1024
 born:0<=p.2.born/\p.2.born<=1099511627776
 top:NameMath.lc p.2.topic=true
 tl:p.2.topic.length<=1000
 q:∃ q:Nat,p.2.queue=(q:Int)/\q < 3
theorem ag6 {p:Nat×Msg} (h:ae6 p):aai (lq (p.1:Int) ((bg p.2).length:Int) ((ng [p.2.tag]:Nat):Int) p.2.born)=true/\(aje p).length=20:=by
 have h1:=h.id;have F:=h.len;have E:=h.born;have I:=abh [p.2.tag]
 have A:aai (lq (p.1:Int) ((bg p.2).length:Int) ((ng [p.2.tag]:Nat):Int) p.2.born)=true:=by
  refine decide_eq_true λx B=>?_
  simp only [lq,List.mem_cons,List.not_mem_nil,or_false] at B
  rcases B with rfl | rfl | rfl | rfl
  . exact ⟨Int.natCast_nonneg _,by show (p.1:Int) < ((281474976710656:Nat):Int); omega⟩
  . exact ⟨Int.natCast_nonneg _,by show ((bg p.2).length:Int) < ((65536:Nat):Int); omega⟩
  . exact ⟨Int.natCast_nonneg _,by show ((ng [p.2.tag]:Nat):Int) < ((1099511627776:Nat):Int); omega⟩
  . exact ⟨E.1,by show p.2.born < ((72057594037927936:Nat):Int); omega⟩
 refine ⟨A,?_⟩;unfold aje acm;rw [A,if_pos rfl];simp [lq,zi,bf]
theorem ake (t:List UInt8) (q:Int):∀ (l:List (Nat×Msg)),(∀ p∈l,ae6 p)->(ofQ t q l).length=20 * (l.filter (isQ t q)).length
 | [],_=>rfl
 | p :: l,h=>by
   have A:=ake t q l (λx B=>h x (.tail _ B));unfold ofQ at *
   by_cases hp:isQ t q p=true
   . rw [List.filter_cons_of_pos hp,List.flatMap_cons,List.length_append,A,(ag6 (h p (.head _))).2,List.length_cons]; omega
   . rw [List.filter_cons_of_neg hp]; exact A
structure QueOk (D:DiskD) (x:QueD) (done:List (Nat×Msg)):Prop where
 q:∃ q:Nat,x.q=(q:Int)/\q < 3/\x.R.head=jy x.topic q
 top:NameMath.lc x.topic=true
 tl:x.topic.length<=1000
 b0:x.b0=0
 least:x.least=0
 b:x.R.b=0
 sz:x.R.size=200
 ok:aad D x.R
 only:ul D x.R
 txt:x.R.txt=ofQ x.topic x.q done
structure DisI (base:Nat) (w:World) (C:CqD) (D:DiskD) (X:KxD) (done:List (Nat×Msg)) (mk:Nat):Prop where
 cq:CqAt base w C
 dsk:DiskAt base w D
 kx:KxAt base w X D
 db:C.db=D.blk
 quiet:Quiet D
 awc:∀ k,C.foot k->¬ D.foot k
 awx:¬ C.foot X.blk
 ents:∀ p∈done,ae6 p
 que:∀ x∈C.qs,QueOk D x done
 uniq:C.qs.Pairwise λx y=>¬ (x.topic=y.topic/\x.q=y.q)
 has:∀ p∈done,∃ x∈C.qs,x.topic=p.2.topic/\x.q=p.2.queue
 absent:∀ (t:List UInt8) (q:Nat),q < 3->(∀ x∈C.qs,¬ (x.topic=t/\x.q=(q:Int)))->∀ n,n<=99999999->D.find (af (jy t q) n)=none
 files:D.files.length<=4+done.length
 names:∀ p∈D.files,p.1.length<=2000
 many:X.many=mk
 waits:D.waits.length<=10+done.length+2 * mk
 src:∀ x∈C.qs,∃ p∈done,x.topic=p.2.topic/\x.q=p.2.queue
def ni (C:CqD) (D:DiskD) (X:KxD) (k:Nat):Prop:=C.foot k\/D.foot k\/k=X.blk
theorem DisI.lt {base:Nat} {w:World} {C:CqD} {D:DiskD} {X:KxD} {done:List (Nat×Msg)} {mk:Nat} (h:DisI base w C D X done mk) {k:Nat} (hk:ni C D X k):k < w.heap.size:=by
 rcases hk with hk | hk | rfl
 . exact h.cq.lt hk
 . exact h.dsk.lt hk
 . exact (Array.getElem?_eq_some_iff.1 h.kx.cells).1
theorem DisI.mod {base:Nat} {w w':World} {C:CqD} {D:DiskD} {X:KxD} {done:List (Nat×Msg)} {mk:Nat} {M:Nat->Prop} (h:DisI base w C D X done mk) (hm:Mod M w w') (hM:∀ k,ni C D X k->¬ M k):DisI base w' C D X done mk :=
 { h with cq:=h.cq.mod hm (λk hk=>hM k (.inl hk)),dsk:=h.dsk.mod hm (λk hk=>hM k (.inr (.inl hk))),
          kx:={ h.kx with cells:=(hm.block _ (Array.getElem?_eq_some_iff.1 h.kx.cells).1 (hM _ (.inr (.inr rfl)))).trans h.kx.cells } }
theorem DisI.below {base:Nat} {w w':World} {C:CqD} {D:DiskD} {X:KxD} {done:List (Nat×Msg)} {mk:Nat} (h:DisI base w C D X done mk) (hb:Below w.heap.size w w'):DisI base w' C D X done mk :=
 h.mod (M:=λ_=>False) (Mod.of_below hb) (λ_ _ h=>h)
theorem QueOk.other {D D':DiskD} {x:QueD} {done:List (Nat×Msg)} {p:Nat×Msg} {t:List UInt8} {q:Nat} (hq:q < 3) (h:QueOk D x done) (hl:0 < x.R.n->x.R.b+(x.R.n - 1) * x.R.size<=99999999) (ht:p.2.topic=t) (hpq:p.2.queue=(q:Int)) (hne:¬ (x.topic=t/\x.q=(q:Int)))
 (ho:∀ n,(∀ m,m<=99999999->n≠af (jy t q) m)->D'.find n=D.find n):QueOk D' x (done++[p]):=by
 obtain ⟨X,h1,M,N⟩:=h.q
 have A:∀ n,n<=99999999->D'.find (af x.R.head n)=D.find (af x.R.head n):=λn I=>ho _ λm F e=>by
  rw [N] at e;obtain ⟨O,U⟩:=ab3 M hq I F e;exact hne ⟨O,by rw [h1,U]⟩
 have E:∀ i,i < x.R.n->x.R.b+i * x.R.size<=99999999:=λi B=>by
  have Y:=hl (by omega);have Z:i * x.R.size<=(x.R.n - 1) * x.R.size:=Nat.mul_le_mul_right _ (by omega);omega
 have J:∀ n,n<=99999999->D'.bytes (af x.R.head n)=D.bytes (af x.R.head n):=λn I=>by unfold DiskD.bytes; rw [A n I]
 refine { h with ok:=λi B=>?_,only:=λm F B=>?_,txt:=?_ }
 . rw [J _ (E i B),A _ (E i B)]; exact h.ok i B
 . rw [A m F]; exact h.only m F B
 . rw [aq5 done (λe=>hne ⟨e.1.symm.trans ht |>.symm ▸ rfl,e.2.symm.trans hpq⟩)]; exact h.txt
theorem QueOk.keep {D D':DiskD} {x:QueD} {done:List (Nat×Msg)} (h:QueOk D x done) (ho:∀ (t:List UInt8) (q n:Nat),D'.find (af (jy t q) n)=D.find (af (jy t q) n)):QueOk D' x done:=by
 obtain ⟨I,h1,J,E⟩:=h.q;refine { h with ok:=λi B=>?_,only:=λm F B=>?_ }
 ·
  have A:=h.ok i B;unfold DiskD.bytes at A ⊢;rw [E] at A ⊢;rw [ho]; exact A
 . have A:=h.only m F B
   rw [E] at A ⊢;rw [ho]; exact A
theorem aq6 {x:QueD} {t:List UInt8} {q:Int} (h:¬ (x.topic=t/\x.q=q)):x.key≠.agg #[.string (S t),.int .i64 q]:=λe=>by
 unfold QueD.key at e;injection e with e
 injection e with e
 injection e with e1 e2
 injection e2 with e2 _
 injection e1 with e1
 injection e2 with _ e2
 exact h ⟨OctMath.S_inj e1,e2⟩
theorem akf {base:Nat} {w w':World} {X:KxD} {D D':DiskD} {M:Nat->Prop} (h:KxAt base w X D) (hm:Mod M w w') (hM:¬ M X.blk) (hb:D'.blk=D.blk) (h1:D'.find gz=D.find gz) (h2:D'.find iq=D.find iq) (hf:∀ k,D'.foot k->D.foot k\/w.heap.size<=k):KxAt base w' X D' where
 cells:=by rw [hb]; exact (hm.block _ (Array.getElem?_eq_some_iff.1 h.cells).1 hM).trans h.cells
 slots:=by rw [h1]; exact h.slots
 links:=by rw [h2]; exact h.links
 low:=h.low
 away:=λhk=>(hf _ hk).elim h.away λA=>by have:=(Array.getElem?_eq_some_iff.1 h.cells).1; omega
structure arv (base:Nat) (W w':World) (C:CqD) (D:DiskD) (X:KxD) (done:List (Nat×Msg)) (mk:Nat) (C':CqD) (D':DiskD) (X':KxD):Prop where
 inv:DisI base w' C' D' X' done mk
 cb:C'.blk=C.blk
 db:TmS D D'
 xb:X'.blk=X.blk
 room:D'.room=D.room - 20
 foot:∀ k,ni C' D' X' k->ni C D X k\/W.heap.size<=k
 mod:Mod (ni C D X) W w'
theorem ap3 {base:Nat} {C:CqD} {D:DiskD} {X:KxD} {done:List (Nat×Msg)} {mk:Nat} (p:Nat×Msg) (t:List UInt8) (qi sz hv born:Int) (W:World) (h:DisI base W C D X done mk) (hp:ae6 p) (ht:p.2.topic=t) (hqi:p.2.queue=qi) (hsz:((bg p.2).length:Int)=sz) (hhv:((ng [p.2.tag]:Nat):Int)=hv) (hborn:p.2.born=born)
 (hT:TabB base W) (hbase:base<=W.heap.size) (hroom:20<=D.room) (hdl:done.length<=10000) (hmk:mk<=100000) :
 Calls Tryz.prog 69 #[.pointer (some ⟨C.blk,0,none⟩),.string (S t),.int .i64 qi,.agg #[.int .i64 (p.1:Int),.int .i64 sz,.int .i64 hv,.int .i64 born]] W λe w'=>∃ pos:Int,e=.returned (.tuple #[.int .i64 pos,.int .i64 0])/\∃ C' D',arv base W w' C D X (done++[p]) mk C' D' X:=by
 obtain ⟨q,hq,J⟩:=hp.q;have bs:qi=(q:Int):=hqi.symm.trans hq;subst bs;have am:NameMath.lc t=true:=by rw [<- ht]; exact hp.top
 have bm:t.length<=1000:=by rw [<- ht]; exact hp.tl
 obtain ⟨cd,a8⟩:=ag6 hp
 have bc:∀ w,Calls Tryz.prog 131 #[.agg #[.int .i64 (p.1:Int),.int .i64 sz,.int .i64 hv,.int .i64 born]] w λe w'=>e=.returned (.tuple #[.string (S (aje p)),.bool true])/\Below w.heap.size w w':=λw=>by
  have h1:=hp.id;have E:=hp.len;have h3:=hp.born;have h4:=abh [p.2.tag];have h5:=al3 (p.1:Int) ((bg p.2).length:Int) ((ng [p.2.tag]:Nat):Int) p.2.born (by omega) (by omega) (by omega) (by omega) w;rw [cd] at h5;rw [<- hsz,<- hhv,<- hborn];exact h5
 have bw:D.waits.length<=1000000:=by have:=h.waits; omega
 have an:∀ y∈done++[p],ae6 y:=λy A=>by
  rcases List.mem_append.1 A with A | A
  . exact h.ents y A
  . rw [List.mem_singleton] at A; subst A; exact hp
 have bo:∀ k,C.foot k->k < W.heap.size:=λk hk=>h.cq.lt hk
 have ci:X.blk < W.heap.size:=h.lt (.inr (.inr rfl))
 by_cases hex:∃ x∈C.qs,x.topic=t/\x.q=(q:Int)
 ·
  obtain ⟨x,hx,Y,Z⟩:=hex;obtain ⟨l1,l2,hl⟩:=List.append_of_mem hx;have ho:=h.que x hx;have bd:x.R.txt.length=20 * (done.filter (isQ x.topic x.q)).length:=by rw [ho.txt,ake _ _ done h.ents]
  have cj:(done.filter (isQ x.topic x.q)).length<=done.length:=List.length_filter_le ..
  refine (ap0 t q (p.1:Int) sz hv born W h.cq h.dsk h.db h.quiet hbase hT hl ⟨Y,Z⟩ am bm J h.awc ho.ok ho.only ho.sz (by rw [bd]; omega) (by unfold SegD.e; rw [ho.b,bd]; omega) (by rw [ho.b0]; omega) (aje p) a8 bc hroom bw).mono ?_;rintro e w' ⟨rfl,R',D',B⟩;have F:=B.app;have ak:=B.row;obtain ⟨xq,b1,bj,bp⟩:=ho.q;have b2:xq=q:=by rw [b1] at Z; omega
  subst b2;have ao:∀ n,(∀ m,m<=99999999->n≠af (jy t xq) m)->D'.find n=D.find n:=λn hn=>F.other n (by rw [bp,Y]; exact hn)
  have b3:=h.uniq;rw [hl] at b3;have O:=List.pairwise_append.1 b3;have ar:=List.pairwise_cons.1 O.2.1
  have ce:∀ y,y∈l1\/y∈l2->¬ (y.topic=t/\y.q=(xq:Int)):=λy A e=>by
   rcases A with A | A
   . exact O.2.2 y A x (.head _) ⟨e.1.trans Y.symm,e.2.trans Z.symm⟩
   . exact ar.1 y A ⟨Y.trans e.1.symm,Z.trans e.2.symm⟩
  have U:∀ y,y∈l1\/y∈l2->y∈C.qs:=λy A=>by
   rw [hl]
   rcases A with A | A
   . exact List.mem_append_left _ A
   . exact List.mem_append_right _ (.tail _ A)
  have av:∀ k,CqD.foot { C with qs:=l1++{ x with R:=R' } :: l2 } k->C.foot k\/W.heap.size<=k:=λk hk=>by
   rcases hk with hk | hk | ⟨y,A,hk⟩
   . exact .inl (.inl hk)
   . exact .inl (.inr (.inl hk))
   ·
    have M:y∈l1++{ x with R:=R' } :: l2:=A
    rcases List.mem_append.1 M with A | A
    . exact .inl (.inr (.inr ⟨y,U y (.inl A),hk⟩))
    . rcases List.mem_cons.1 A with rfl | A
      . rcases hk with hk | hk
        . exact .inl (.inr (.inr ⟨x,hx,.inl hk⟩))
        . exact (B.rfoot k hk).imp_left λE=>.inr (.inr ⟨x,hx,.inr E⟩)
      . exact .inl (.inr (.inr ⟨y,U y (.inr A),hk⟩))
  have br:QueOk D' { x with R:=R' } (done++[p]):=by
   refine ⟨⟨xq,b1,bj,by show R'.head=_; rw [ak]; exact bp⟩,ho.top,ho.tl,ho.b0,ho.least,by show R'.b=0; rw [ak]; exact ho.b,by show R'.size=200; rw [ak]; exact ho.sz,F.ok,F.only,?_⟩;show R'.txt=ofQ x.topic x.q (done++[p]);rw [akd done (ht.trans Y.symm) (hq.trans Z.symm),<- ho.txt,ak]
  refine ⟨_,rfl,{ C with qs:=l1++{ x with R:=R' } :: l2 },D',⟨⟨B.cq,B.whole.dsk,?_,h.db.trans F.blk.symm,F.quiet,?_,?_,an,?_,?_,?_,?_,?_,?_,h.many,?_,λy A=>by
   obtain ⟨y0,h0,e1,e2⟩:∃ y0∈C.qs,y0.topic=y.topic/\y0.q=y.q:=by
    rcases List.mem_append.1 (show y∈l1++{ x with R:=R' } :: l2 from A) with A | A
    . exact ⟨y,U y (.inl A),rfl,rfl⟩
    . rcases List.mem_cons.1 A with rfl | A
      . exact ⟨x,hx,rfl,rfl⟩
      . exact ⟨y,U y (.inr A),rfl,rfl⟩
   obtain ⟨r,I,e3,e4⟩:=h.src y0 h0;exact ⟨r,List.mem_append_left _ I,e1.symm.trans e3,e2.symm.trans e4⟩⟩,rfl,⟨F.blk,λn hn=>ao n λm _ e=>hn.elim (λE=>(acw t xq m).1 (e.symm.trans E)) λE=>(acw t xq m).2 (e.symm.trans E)⟩,rfl,?_,?_,?_⟩⟩
  . refine akf h.kx B.mod ?_ F.blk (ao _ λm _=>(aab t xq m).1.symm) (ao _ λm _=>(aab t xq m).2.symm) B.dfoot
    rintro (h1 | h1)
    . exact h.kx.away h1
    . exact h.awx (.inr (.inr ⟨x,hx,.inr h1⟩))
  ·
   intro k hk ba
   rcases hk with hk | hk | ⟨y,A,hk⟩
   . rcases B.dfoot k ba with E | E
     . exact h.awc k (.inl hk) E
     . have:=bo k (.inl hk); omega
   . rcases B.dfoot k ba with E | E
     . exact h.awc k (.inr (.inl hk)) E
     . have:=bo k (.inr (.inl hk)); omega
   ·
    have hold:∀ y∈C.qs,(k=y.blk\/y.R.foot k)->False:=λy A hk=>by
     rcases B.dfoot k ba with E | E
     . exact h.awc k (.inr (.inr ⟨y,A,hk⟩)) E
     . have:=bo k (.inr (.inr ⟨y,A,hk⟩)); omega
    have M:y∈l1++{ x with R:=R' } :: l2:=A
    rcases List.mem_append.1 M with A | A
    . exact hold y (U y (.inl A)) hk
    . rcases List.mem_cons.1 A with rfl | A
      . rcases hk with hk | hk
        . exact hold x hx (.inl hk)
        . exact B.whole.ap k ba hk
      . exact hold y (U y (.inr A)) hk
  . exact λhk=>(av _ hk).elim h.awx λE=>by omega
  ·
   intro y A;have M:y∈l1++{ x with R:=R' } :: l2:=A;have bk:y∈l1\/y∈l2->QueOk D' y (done++[p]):=λA=>(h.que y (U y A)).other J (λhn=>((h.cq.que y (U y A)).2.1.long hn).2.2) ht hq (ce y A) ao
   rcases List.mem_append.1 M with A | A
   . exact bk (.inl A)
   . rcases List.mem_cons.1 A with rfl | A
     . exact br
     . exact bk (.inr A)
  . exact List.pairwise_append.2 ⟨O.1,List.pairwise_cons.2 ⟨λy A=>ar.1 y A,ar.2⟩,λy A z hz=>by
     rcases List.mem_cons.1 hz with rfl | hz
     . exact O.2.2 y A x (.head _)
     . exact O.2.2 y A z (.tail _ hz)⟩
  ·
   have b6:∀ y∈C.qs,∃ z∈l1++{ x with R:=R' } :: l2,z.topic=y.topic/\z.q=y.q:=λy A=>by
    rw [hl] at A
    rcases List.mem_append.1 A with A | A
    . exact ⟨y,List.mem_append_left _ A,rfl,rfl⟩
    . rcases List.mem_cons.1 A with rfl | A
      . exact ⟨_,List.mem_append_right _ (.head _),rfl,rfl⟩
      . exact ⟨y,List.mem_append_right _ (.tail _ A),rfl,rfl⟩
   intro r I
   rcases List.mem_append.1 I with I | I
   . obtain ⟨y,A,e1,e2⟩:=h.has r I
     obtain ⟨z,hz,e3,e4⟩:=b6 y A;exact ⟨z,hz,e3.trans e1,e4.trans e2⟩
   . rw [List.mem_singleton] at I
     subst I;obtain ⟨z,hz,e3,e4⟩:=b6 x hx;exact ⟨z,hz,e3.trans (Y.trans ht.symm),e4.trans (Z.trans hq.symm)⟩
  ·
   intro t' q' a7 N n hn
   have bl:∀ y∈C.qs,¬ (y.topic=t'/\y.q=(q':Int)):=λy A=>by
    rw [hl] at A
    rcases List.mem_append.1 A with A | A
    . exact N y (List.mem_append_left _ A)
    . rcases List.mem_cons.1 A with rfl | A
      . exact N { y with R:=R' } (List.mem_append_right _ (.head _))
      . exact N y (List.mem_append_right _ (.tail _ A))
   rw [ao _ λm hm e=>by
    obtain ⟨e1,e2⟩:=ab3 a7 J hn hm e;exact bl x hx ⟨Y.trans e1.symm,by rw [Z,e2]⟩]
   exact h.absent t' q' a7 bl n hn
  . have:=F.files; have:=h.files; rw [List.length_append]; show _<=4+(done.length+1); omega
  . intro r I
    rcases F.names r I with E | ⟨r2,h3,h4⟩
    . rw [bp,ae5 _ bj] at E; have:=ho.tl; omega
    . rw [<- h4]; exact h.names r2 h3
  ·
   obtain ⟨f,o,_,hw⟩:=F.waits;rw [hw,List.length_append,List.length_append];have:=h.waits;show _+1<=10+(_+1)+_;omega
  . rw [F.room,a8]; rfl
  ·
   intro k hk
   rcases hk with hk | hk | hk
   . exact (av k hk).imp_left .inl
   . exact (B.dfoot k hk).imp_left λE=>.inr (.inl E)
   . exact .inl (.inr (.inr hk))
  . exact B.mod.mono λk _ hk=>hk.elim (λE=>.inr (.inl E)) λE=>.inl (.inr (.inr ⟨x,hx,.inr E⟩))
 ·
  have N:∀ x∈C.qs,¬ (x.topic=t/\x.q=(q:Int)):=λx hx e=>hex ⟨x,hx,e⟩
  refine (apz t q (p.1:Int) sz hv born W h.cq h.dsk h.db h.quiet (by have:=h.files; omega) (λr I=>by have:=h.names r I; omega) hbase hT (λx hx=>aq6 (N x hx)) am bm J (h.absent t q J N) h.awc (aje p) a8 bc hroom bw).mono ?_;rintro e w' ⟨rfl,x,D',B⟩
  have av:∀ k,CqD.foot { C with qs:=C.qs++[x] } k->C.foot k\/W.heap.size<=k:=λk hk=>by
   rcases hk with hk | hk | ⟨y,A,hk⟩
   . exact .inl (.inl hk)
   . exact .inl (.inr (.inl hk))
   ·
    have M:y∈C.qs++[x]:=A
    rcases List.mem_append.1 M with A | A
    . exact .inl (.inr (.inr ⟨y,A,hk⟩))
    . rw [List.mem_singleton] at A
      subst A;exact .inr (B.xfoot k hk)
  refine ⟨_,rfl,{ C with qs:=C.qs++[x] },D',⟨⟨B.cq,B.dsk,?_,h.db.trans B.dblk.symm,B.quiet,B.away,?_,an,?_,?_,?_,?_,?_,?_,h.many,?_,λy A=>by
   rcases List.mem_append.1 (show y∈C.qs++[x] from A) with A | A
   . obtain ⟨r,I,e⟩:=h.src y A
     exact ⟨r,List.mem_append_left _ I,e⟩
   . rw [List.mem_singleton] at A
     subst A;exact ⟨p,List.mem_append_right _ (.head _),B.topic.trans ht.symm,B.qq.trans hq.symm⟩⟩,rfl,⟨B.dblk,λn hn=>B.other n λm _ e=>hn.elim (λE=>(acw t q m).1 (e.symm.trans E)) λE=>(acw t q m).2 (e.symm.trans E)⟩,rfl,?_,?_,?_⟩⟩
  . refine akf h.kx B.mod ?_ B.dblk (B.other _ λm _=>(aab t q m).1.symm) (B.other _ λm _=>(aab t q m).2.symm) B.dfoot
    rintro (h1 | h1)
    . exact h.awx (.inr (.inl h1))
    . exact h.kx.away h1
  . exact λhk=>(av _ hk).elim h.awx λE=>by omega
  ·
   intro y A;have M:y∈C.qs++[x]:=A
   rcases List.mem_append.1 M with A | A
   . exact (h.que y A).other J (λhn=>((h.cq.que y A).2.1.long hn).2.2) ht hq (N y A) B.other
   ·
    rw [List.mem_singleton] at A;subst A;refine ⟨⟨q,B.qq,J,by rw [B.topic]; exact B.hd⟩,by rw [B.topic]; exact am,by rw [B.topic]; exact bm,B.b0,B.least,B.b,B.sz,B.whole.ok,B.whole.only,?_⟩
    rw [akd done (ht.trans B.topic.symm) (hq.trans B.qq.symm),aob λr I e=>by
     obtain ⟨z,hz,e1,e2⟩:=h.has r I;exact N z hz ⟨e1.trans (e.1.trans B.topic),e2.trans (e.2.trans B.qq)⟩]
    rw [List.nil_append]; exact B.txt
  . refine List.pairwise_append.2 ⟨h.uniq,List.pairwise_singleton ..,λy A z hz e=>?_⟩
    rw [List.mem_singleton] at hz;subst hz;exact N y A ⟨e.1.trans B.topic,e.2.trans B.qq⟩
  ·
   intro r I
   rcases List.mem_append.1 I with I | I
   . obtain ⟨y,A,e1,e2⟩:=h.has r I
     exact ⟨y,List.mem_append_left _ A,e1,e2⟩
   . rw [List.mem_singleton] at I
     subst I;exact ⟨x,List.mem_append_right _ (.head _),B.topic.trans ht.symm,B.qq.trans hq.symm⟩
  ·
   intro t' q' a7 b7 n hn;have br:=b7 x (List.mem_append_right _ (.head _))
   rw [B.other _ λm hm e=>by
    obtain ⟨e1,e2⟩:=ab3 a7 J hn hm e;exact br ⟨B.topic.trans e1.symm,by rw [B.qq,e2]⟩]
   exact h.absent t' q' a7 (λy A=>b7 y (List.mem_append_left _ A)) n hn
  . have:=B.files; have:=h.files; rw [List.length_append]; show _<=4+(done.length+1); omega
  . intro r I
    rcases B.names r I with E | ⟨r2,h3,h4⟩
    . rw [ae5 _ J] at E; omega
    . rw [<- h4]; exact h.names r2 h3
  . rw [B.waits,List.length_append]
    have:=h.waits;show _+1<=10+(_+1)+_;omega
  . rw [B.room,a8]; rfl
  ·
   intro k hk
   rcases hk with hk | hk | hk
   . exact (av k hk).imp_left .inl
   . exact (B.dfoot k hk).imp_left λE=>.inr (.inl E)
   . exact .inl (.inr (.inr hk))
  . exact B.mod.mono λk _ hk=>hk.elim (λE=>.inl (.inr (.inl E))) λE=>.inr (.inl E)
theorem ap4 {base:Nat} {C:CqD} {D:DiskD} {X:KxD} {done:List (Nat×Msg)} {mk:Nat} (t k:List UInt8) (id:Nat) (born:Int) (W:World) (h:DisI base W C D X done mk) (ht:NameMath.lc t=true) (hk:RecMath.og k=true) (htl:t.length<=1000) (hkl:k.length<=1000)
 (hid:id<=99999999) (hborn:0<=born/\born<=1099511627776) (hbase:base<=W.heap.size) (hroom:20<=D.room) (hdl:done.length<=10000) (hmk:mk<=100000) :
 Calls Tryz.prog 70 #[.pointer (some ⟨X.blk,0,none⟩),.string (S t),.string (S k),.int .i64 (id:Int),.int .i64 born] W λe w'=>e=.returned (.int .i64 0)/\∃ D' X',arv base W w' C D X done (mk+1) C D' X':=by
 obtain ⟨b,rfl⟩:∃ b:Nat,born=(b:Int):=⟨born.toNat,by omega⟩;refine (aq4 t k id b W h.kx h.dsk h.quiet hbase ht hk htl hkl (by omega) (by omega) (by have:=h.many; omega) hroom (by have:=h.waits; omega)).mono ?_;rintro e w' ⟨rfl,D',F⟩;have J:=F.grows;have I:D'.files.map (·.1)=D.files.map (·.1):=by have:=J.names; rw [List.append_nil] at this; exact this
 have B:∀ (t:List UInt8) (q n:Nat),D'.find (af (jy t q) n)=D.find (af (jy t q) n):=λt q n=>F.other _ (aab t q n).1 (aab t q n).2
 have M:∀ k,C.foot k->k < W.heap.size:=λk hk=>h.cq.lt hk
 refine ⟨rfl,D',{ X with many:=X.many+1 },⟨⟨h.cq.mod F.mod ?_,F.dsk,F.kx,h.db.trans J.blk.symm,J.quiet,?_,h.awx,h.ents,λx O=>(h.que x O).keep B,h.uniq,h.has,λt q R N n I=>?_,?_,?_,?_,?_,h.src⟩,rfl,⟨J.blk,λn I=>F.other n (I.elim (λe=>by rw [e]; decide) λe=>by rw [e]; decide) (I.elim (λe=>by rw [e]; decide) λe=>by rw [e]; decide)⟩,rfl,J.room,?_,?_⟩⟩
 . rintro j A (h1 | h1)
   . exact h.awc j A h1
   . rw [h1] at A; exact h.awx A
 ·
  intro j A h1
  rcases F.foot j h1 with E | E
  . exact h.awc j A E
  . have:=M j A; omega
 . rw [B]; exact h.absent t q R N n I
 . have:=congrArg List.length I; rw [List.length_map,List.length_map] at this; have:=h.files; omega
 ·
  intro r U;have h1:r.1∈D.files.map (·.1):=by rw [<- I]; exact List.mem_map.2 ⟨r,U,rfl⟩
  obtain ⟨Y,E,Z⟩:=List.mem_map.1 h1;rw [<- Z]; exact h.names Y E
 . show X.many+1=mk+1; rw [h.many]
 . rw [J.waits]; have:=h.waits; omega
 ·
  intro j A
  rcases A with A | A | A
  . exact .inl (.inl A)
  . exact (F.foot j A).imp_left λE=>.inr (.inl E)
  . exact .inl (.inr (.inr A))
 . exact F.mod.mono λj _ A=>A.elim (λE=>.inr (.inl E)) λE=>.inr (.inr E)
end CqW
end Go.Proofs.YtcgonejkkpbepaaGreatDoor
