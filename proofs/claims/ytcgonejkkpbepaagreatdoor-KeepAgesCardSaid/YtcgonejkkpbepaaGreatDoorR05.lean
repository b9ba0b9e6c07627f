/- rec: inside. And what follows. -/
import Derived.Test.YtcgonejkkpbepaaGreatDoorR04
set_option linter.unusedVariables false
set_option linter.unusedSimpArgs false
set_option maxHeartbeats 25600000
set_option maxRecDepth 100000
namespace Go.Proofs.YtcgonejkkpbepaaGreatDoor
namespace RecW
open Go.RowKit OctMath RecMath NameMath
open OctW (fw bn j5 rq)
theorem aqf (n:Nat) (h1:1<=n) (h7:n<=7) (a b c:Int) (ha:OctW.fits n a) (hb:OctW.fits n b) (hc:OctW.fits n c):OctW.ma (n:Int) [a,b,c]=(be n a.toNat++(be n b.toNat++be n c.toNat),0):=by
 rw [abb n _ h1 h7 (λx A=>by
  simp only [List.mem_cons,List.not_mem_nil,or_false] at A
  rcases A with rfl | rfl | rfl <;> assumption)]
 simp [OctW.numsL]
theorem ae0 (ts:List (List UInt8)) (n:Nat) (h:∀ t∈ts,t.length<=n):(bn ts).length<=ts.length * (n+2):=by
 induction ts with
 | nil=>unfold bn; simp
 | cons t ts ih =>
   rw [OctW.yn,List.length_append,OctW.je,List.length_cons,Nat.add_mul,Nat.one_mul];have:=h t (.head _);have:=ih λt A=>h t (.tail _ A)
   omega
theorem ais (m:Msg) (hm:df m=true) (hk0:m.kind≠0) (a:Option Addr) (c:Nat) (W:World) (hS:Strs W a (m.keys.map S)) :
 Calls Tryz.prog 227 #[.agg (ae m a c)] W λe w'=>e=.returned (.string (S (ai m)))/\Below W.heap.size W w':=by
 obtain ⟨⟨d1,d2⟩,⟨r1,r2⟩,⟨b1,b2⟩,⟨k1,k2⟩,⟨q1,q2⟩,⟨t1,t2⟩,l1,l2,l3,l4,l5⟩:=qd hm hk0;have E:Zq (Below W.heap.size W (W.alloc (.cells (ae m a c) 69))):=(Below.refl _ W).alloc (Nat.le_refl _) _;have X:Zq (Boxed (W.alloc (.cells (ae m a c) 69)) W.heap.size (ae m a c)):=Boxed.new W _ _;have al:=zq (Strs.below hS E.o);have n1:OctW.ma 1 [m.kind,m.queue,m.retry]=(be 1 m.kind.toNat++(be 1 m.queue.toNat++be 1 m.retry.toNat),0):=aqf 1 (by omega) (by omega) _ _ _ ⟨by omega,by show m.kind < ((256 ^ 1:Nat):Int); omega⟩ ⟨by omega,by show m.queue < ((256 ^ 1:Nat):Int); omega⟩ ⟨by omega,by show m.retry < ((256 ^ 1:Nat):Int); omega⟩;have n6:OctW.ma 6 [m.born,m.due,m.ref]=(be 6 m.born.toNat++(be 6 m.due.toNat++be 6 m.ref.toNat),0):=aqf 6 (by omega) (by omega) _ _ _ ⟨by omega,by show m.born < ((256 ^ 6:Nat):Int); omega⟩ ⟨by omega,by show m.due < ((256 ^ 6:Nat):Int); omega⟩ ⟨by omega,by show m.ref < ((256 ^ 6:Nat):Int); omega⟩
 have O:∀ t∈[m.topic,m.tag,m.body],t.length<=200:=by
  intro t U;simp only [List.mem_cons,List.not_mem_nil,or_false] at U
  rcases U with rfl | rfl | rfl <;> omega
 have x3:j5 [m.topic,m.tag,m.body]=(fw m.topic++(fw m.tag++fw m.body),0):=by
  unfold OctW.j5;rw [if_pos (λt U=>by have:=O t U; omega)];simp [bn]
 have Y:(bn [m.topic,m.tag,m.body]).length<=1073741824:=by have:=ae0 _ 200 O; simp at this; omega
 have xk:rq m.keys=(be 1 m.keys.length++bn m.keys,0):=by
  unfold OctW.rq;rw [if_neg (by omega),if_pos (λt U=>by have:=l5 t U; omega)]
 have am:(bn m.keys).length<=54:=by
  have:=ae0 _ 16 l5;have:m.keys.length * (16+2)<=3 * 18:=Nat.mul_le_mul_right _ l4;omega
 have an:Zq (S (be 1 m.kind.toNat++(be 1 m.queue.toNat++be 1 m.retry.toNat))++S (be 6 m.born.toNat++(be 6 m.due.toNat++be 6 m.ref.toNat))++S (fw m.topic++(fw m.tag++fw m.body))++S (be 1 m.keys.length++bn m.keys)=S (ai m)):=by
  show _=_;rw [gm,gm,gm];unfold ai;simp only [List.append_assoc]
 have z1:(S (be 1 m.kind.toNat++(be 1 m.queue.toNat++be 1 m.retry.toNat))).size<=1000:=by rw [ah]; simp [bf]
 have z2:(S (be 6 m.born.toNat++(be 6 m.due.toNat++be 6 m.ref.toNat))).size<=1000:=by rw [ah]; simp [bf]
 have z3:(S (fw m.topic++(fw m.tag++fw m.body))).size<=1000:=by rw [ah]; simp [OctW.je]; omega
 have z4:(S (be 1 m.keys.length++bn m.keys)).size<=1000:=by rw [ah]; simp [bf]; omega
 have F:=zq (λ(w:World)=>OctW.nums_any 1 (by omega) (by omega) (some ⟨w.heap.size,0,none⟩) 3 [m.kind,m.queue,m.retry] (by simp) (λx hx=>by simp at hx; omega) _ (zb w [m.kind,m.queue,m.retry] 3));have I:=zq (λ(w:World)=>OctW.nums_any 6 (by omega) (by omega) (some ⟨w.heap.size,0,none⟩) 3 [m.born,m.due,m.ref] (by simp) (λx hx=>by simp at hx; omega) _ (zb w [m.born,m.due,m.ref] 3));have J:=zq (λ(w:World)=>OctW.abr (some ⟨w.heap.size,0,none⟩) 3 [m.topic,m.tag,m.body] (by simp) Y _ (agf w [S m.topic,S m.tag,S m.body] 9));have R:=zq (λ(w:World) (h:Strs w a (m.keys.map S))=>OctW.akj a c m.keys (by omega) (by omega) w h);rw [n1] at F;rw [n6] at I;rw [x3] at J;rw [xk] at R;change Zq (∀ w:World,Calls _ _ #[.int .i64 1,.slice (some ⟨w.heap.size,0,none⟩) 3 3] (w.alloc (.cells #[.int .i64 m.kind,.int .i64 m.queue,.int .i64 m.retry] _)) _) at F;change Zq (∀ w:World,Calls _ _ #[.int .i64 6,.slice (some ⟨w.heap.size,0,none⟩) 3 3] (w.alloc (.cells #[.int .i64 m.born,.int .i64 m.due,.int .i64 m.ref] _)) _) at I;change Zq (∀ w:World,Calls _ _ #[.slice (some ⟨w.heap.size,0,none⟩) 3 3] (w.alloc (.cells #[.string (S m.topic),.string (S m.tag),.string (S m.body)] _)) _) at J;generalize S (be 1 m.kind.toNat++(be 1 m.queue.toNat++be 1 m.retry.toNat))=s1 at *
 generalize S (be 6 m.born.toNat++(be 6 m.due.toNat++be 6 m.ref.toNat))=s2 at *
 generalize S (fw m.topic++(fw m.tag++fw m.body))=s3 at *
 generalize S (be 1 m.keys.length++bn m.keys)=s4 at *
 have ap:(ae m a c).size=10:=rfl;clear hm hk0 hS d1 d2 r1 r2 b1 b2 k1 k2 q1 q2 t1 t2 l1 l2 l3 l4 l5 n1 n6 O x3 Y xk am;go_enter Tryz.func227,Tryz.ntmps227;go_upto_region 1 with fail
 generalize W.alloc (.cells (ae m a c) 69)=w1 at *
 clear ap;obtain ⟨A,hA⟩:∃ A,W.heap.size=A:=⟨_,rfl⟩;rw [hA] at X E ⊢;have k0:w1.cell? ⟨A,0,none⟩=some (.int .i64 m.kind):=X.o 0 _ rfl;have k1:w1.cell? ⟨A,1,none⟩=some (.int .i64 m.queue):=X.o 1 _ rfl;have k3:w1.cell? ⟨A,3,none⟩=some (.int .i64 m.retry):=X.o 3 _ rfl;go_wp2_with fail;refine (F.o w1).mono ?_;rintro e w2 ⟨rfl,hb⟩;have B:Below w1.heap.size w1 w2:=((Below.refl _ _).alloc (Nat.le_refl _) _).trans (hb.mono (by rw [World.size_alloc]; omega));have Z:=zq (E.o.trans (B.mono (by have:=E.o.size; omega)));have M:=zq (X.o.below B);have ar:=zq (Strs.below al.o B);clear hb B F k0 k1 k3;have k5:w2.cell? ⟨A,5,none⟩=some (.int .i64 m.born):=M.o 5 _ rfl;have k2:w2.cell? ⟨A,2,none⟩=some (.int .i64 m.due):=M.o 2 _ rfl;have k4:w2.cell? ⟨A,4,none⟩=some (.int .i64 m.ref):=M.o 4 _ rfl;go_wp2_with fail;refine (I.o w2).mono ?_;rintro e w3 ⟨rfl,hb⟩;have B:Below w2.heap.size w2 w3:=((Below.refl _ _).alloc (Nat.le_refl _) _).trans (hb.mono (by rw [World.size_alloc]; omega));have ab:=zq (Z.o.trans (B.mono (by have:=Z.o.size; omega)));have N:=zq (M.o.below B);have av:=zq (Strs.below ar.o B);clear hb B I k5 k2 k4;have k6:w3.cell? ⟨A,6,none⟩=some (.string (S m.topic)):=N.o 6 _ rfl;have k7:w3.cell? ⟨A,7,none⟩=some (.string (S m.tag)):=N.o 7 _ rfl;have k8:w3.cell? ⟨A,8,none⟩=some (.string (S m.body)):=N.o 8 _ rfl;go_wp2_with fail;refine (J.o w3).mono ?_;rintro e w4 ⟨rfl,hb⟩;have B:Below w3.heap.size w3 w4:=((Below.refl _ _).alloc (Nat.le_refl _) _).trans (hb.mono (by rw [World.size_alloc]; omega));have ac:=zq (ab.o.trans (B.mono (by have:=ab.o.size; omega)));have a1:=zq (N.o.below B);have a6:=zq (Strs.below av.o B);clear hb B J k6 k7 k8;have k9:w4.cell? ⟨A,9,none⟩=some (.slice a m.keys.length c):=a1.o 9 _ rfl;go_wp2_with fail;refine (R.o w4 a6.o).mono ?_;rintro e w5 ⟨rfl,hb⟩;have a7:=zq (ac.o.trans (hb.mono (by have:=ac.o.size; omega)));clear hb R k9;go_wp2_with fail;go_ret;exact ⟨by rw [<- an.o]; rfl,hA ▸ a7.o⟩
end RecW
namespace CrcW
open Go.RowKit CrcMath
theorem agk (x:BitVec 32):0<=(x.toNat:Int)/\(x.toNat:Int) < 4294967296:=by have:=x.isLt; omega
theorem aj2 (x y:BitVec 32):bits .and .u32 (x.toNat:Int) (y.toNat:Int)=((x &&& y).toNat:Int):=by
 rw [u32_and_nat _ _ x.isLt y.isLt,BitVec.toNat_and]
theorem ait (x y:BitVec 32):bits .or .u32 (x.toNat:Int) (y.toNat:Int)=((x ||| y).toNat:Int):=by
 rw [u32_or_nat _ _ x.isLt y.isLt,BitVec.toNat_or]
theorem uo (x y:BitVec 32):bits .xor .u32 (x.toNat:Int) (y.toNat:Int)=((x ^^^ y).toNat:Int):=by
 rw [u32_xor_nat _ _ x.isLt y.isLt,BitVec.toNat_xor]
theorem aqx (x y:BitVec 8):bits .xor .u8 (x.toNat:Int) (y.toNat:Int)=((x ^^^ y).toNat:Int):=by
 rw [u8_xor_nat _ _ x.isLt y.isLt,BitVec.toNat_xor]
theorem half (x:BitVec 32):(x.toNat:Int) / (2:Int)=((x >>> 1).toNat:Int):=by simp [BitVec.toNat_ushiftRight,Nat.shiftRight_eq_div_pow]
theorem aro (x:BitVec 32):(x.toNat:Int) / (256:Int)=((x >>> 8).toNat:Int):=by simp [BitVec.toNat_ushiftRight,Nat.shiftRight_eq_div_pow]
theorem ar0 (x:BitVec 32):(x.toNat:Int) % (256:Int)=((x.setWidth 8).toNat:Int):=by simp
theorem and_one (x:BitVec 32):(bits .and .u32 (x.toNat:Int) 1 == 1)=x.getLsbD 0:=by
 have h:=aj2 x 1#32;simp only [BitVec.toNat_ofNat] at h;rw [show ((1 % 2 ^ 32:Nat):Int)=1 from rfl] at h;rw [h,BitVec.toNat_and];simp only [BitVec.toNat_ofNat];rw [show 1 % 2 ^ 32=1 from rfl,Nat.and_one_is_mod];rw [BitVec.getLsbD,Nat.testBit_zero]
 cases Nat.mod_two_eq_zero_or_one x.toNat with
 | inl e=>rw [e]; rfl
 | inr e=>rw [e]; rfl
theorem ank (x:BitVec 32) (h:(bits .and .u32 (x.toNat:Int) 1 == 1)=true):bits .xor .u32 ((x.toNat:Int) / (2:Int)) 3988292384=((xy x).toNat:Int):=by
 rw [and_one] at h;unfold xy; rw [if_pos h,half];exact uo (x >>> 1) poly
theorem agl (x:BitVec 32) (h:(bits .and .u32 (x.toNat:Int) 1 == 1)=false):(x.toNat:Int) / (2:Int)=((xy x).toNat:Int):=by
 rw [and_one] at h;unfold xy; rw [h,half,if_neg (by simp)]
theorem ala (b:BitVec 32) (w:World) :
 Calls Tryz.prog 171 #[.int .u32 b.toNat] w λe w'=>e=.returned (.int .u32 (steps 8 b).toNat)/\w=w':=by
 go_enter Tryz.func171,Tryz.ntmps171;go_wp2;go_loop [0,4] (λv i=>∃ k:Nat,k<=8/\i=.int .i64 k/\v=.int .u32 (steps k b).toNat) (λ_ i=>8 - (intOf i).toNat)
 case atStart=>exact ⟨0,by omega,rfl,rfl⟩
 case round =>
  obtain ⟨k,hk,rfl,rfl⟩:=hrel;have A:=agk (steps k b)
  by_cases hlt:k < 8
  ·
   go_wp2
   . go_round
     case rel=>exact ⟨k+1,by omega,by go_num,by rw [ab7,ank _ (by assumption)]⟩
     case measure=>simp [intOf]; omega
   . go_round
     case rel=>exact ⟨k+1,by omega,by go_num,by rw [ab7,agl _ (by assumption)]⟩
     case measure=>simp [intOf]; omega
  . go_wp2
    go_ret;exact ⟨by simp [show k=8 by omega],rfl⟩
def Tabs (w:World) (B:Nat):Prop:=∀ k j,k < 4->j < 256->w.cell? ⟨B,256 * k+j,none⟩=some (.int .u32 (tab k (BitVec.ofNat 8 j)).toNat)
theorem Tabs.at {w:World} {B:Nat} (h:Tabs w B) (k:Nat) (hk:k < 4) (x:BitVec 8):w.cell? ⟨B,256 * k+x.toNat,none⟩=some (.int .u32 (tab k x).toNat):=by
 have:=h k x.toNat hk x.isLt
 rwa [BitVec.ofNat_toNat,BitVec.setWidth_eq] at this
theorem apo (B:Nat) (x:BitVec 32) (c:UInt8) (w:World) (hT:Tabs w B) :
 Calls Tryz.prog 200 #[.pointer (some ⟨B,0,none⟩),.int .u32 x.toNat,.int .u8 c.toNat] w λe w'=>e=.returned (.int .u32 (upd x c.toBitVec).toNat)/\w=w':=by
 have E:=agk x
 have F:bits .xor .u8 ((x.toNat:Int) % (256:Int)) (c.toNat:Int)=(((x.setWidth 8 ^^^ c.toBitVec).toNat:Nat):Int):=by
  rw [ar0]; exact aqx _ _
 have hc:=hT.at 0 (by omega) (x.setWidth 8 ^^^ c.toBitVec);have A:=aqn x c.toBitVec;generalize x.setWidth 8 ^^^ c.toBitVec=i at *
 have I:(i.toNat:Int) < 256:=by have:=i.isLt; omega
 simp only [Nat.mul_zero,Nat.zero_add] at hc;have E2:=zq A; clear A;have J:=zq hT; clear hT;go_enter Tryz.func200,Tryz.ntmps200;go_wp2;go_ret;exact ⟨vz (by rw [E2.o,aro,uo]),rfl⟩
theorem aj3 (b:UInt8):(b.toNat:Int) % 4294967296=((ext b.toBitVec).toNat:Int):=by
 have:=b.toNat_lt;simp [ext]; omega
theorem afm (b:UInt8) (n:Nat):(b.toNat:Int) % 4294967296 * ((2 ^ n:Nat):Int) % 4294967296=((ext b.toBitVec <<< n).toNat:Int):=by
 rw [aj3,BitVec.toNat_shiftLeft,Nat.shiftLeft_eq];simp
theorem anl (x:BitVec 32) (a b c d:UInt8) :
 bits .xor .u32 (x.toNat:Int) (bits .or .u32 (bits .or .u32 (bits .or .u32 ((a.toNat:Int) % 4294967296) ((b.toNat:Int) % 4294967296 * 256 % 4294967296)) ((c.toNat:Int) % 4294967296 * 65536 % 4294967296)) ((d.toNat:Int) % 4294967296 * 16777216 % 4294967296))=((x ^^^ yo a.toBitVec b.toBitVec c.toBitVec d.toBitVec).toNat:Int):=by
 have h1:(b.toNat:Int) % 4294967296 * 256 % 4294967296=_:=afm b 8;have A:(c.toNat:Int) % 4294967296 * 65536 % 4294967296=_:=afm c 16;have B:(d.toNat:Int) % 4294967296 * 16777216 % 4294967296=_:=afm d 24;rw [aj3,h1,A,B,ait,ait,ait,uo]; rfl
theorem afn (y:BitVec 32):bits .and .u32 (y.toNat:Int) 255=((y.setWidth 8).toNat:Int):=by
 have h:=aj2 y 255#32;simp only [BitVec.toNat_ofNat] at h;rw [show ((255 % 2 ^ 32:Nat):Int)=255 from rfl] at h;rw [h,BitVec.toNat_and];simp only [BitVec.toNat_ofNat,BitVec.toNat_setWidth];rw [show 255 % 2 ^ 32=2 ^ 8 - 1 from rfl,Nat.and_two_pow_sub_one_eq_mod]
theorem afo (y:BitVec 32) (n:Nat):(y.toNat:Int) / ((2 ^ n:Nat):Int)=((y >>> n).toNat:Int):=by
 rw [BitVec.toNat_ushiftRight,Nat.shiftRight_eq_div_pow]; rfl
theorem ar1 (y:BitVec 32):((y >>> 24).toNat:Int)=(((y >>> 24).setWidth 8).toNat:Int):=by
 have:=y.isLt;simp [BitVec.toNat_ushiftRight,Nat.shiftRight_eq_div_pow]; omega
theorem aqg (s:ByteArray) (h:4<=s.size):s.data.toList.take 4=[s[0]'(by omega),s[1]'(by omega),s[2]'(by omega),s[3]'(by omega)]:=by
 obtain ⟨⟨l⟩⟩:=s
 match l,h with
 | a :: b :: c :: d :: l,_=>rfl
theorem anm (B:Nat) (x:BitVec 32) (s:ByteArray) (h4:4<=s.size) (w:World) (hT:Tabs w B) :
 Calls Tryz.prog 199 #[.pointer (some ⟨B,0,none⟩),.int .u32 x.toNat,.string s] w λe w'=>e=.returned (.int .u32 (reg x (s.data.toList.take 4)).toNat)/\Drawn w w':=by
 have E:=anl x (s[0]'(by omega)) (s[1]'(by omega)) (s[2]'(by omega)) (s[3]'(by omega));have A:Zq (reg x (s.data.toList.take 4)=_):=(congrArg (reg x) (aqg s h4)).trans (ao9 x (s[0]'(by omega)).toBitVec (s[1]'(by omega)).toBitVec (s[2]'(by omega)).toBitVec (s[3]'(by omega)).toBitVec);generalize x ^^^ yo (s[0]'(by omega)).toBitVec (s[1]'(by omega)).toBitVec (s[2]'(by omega)).toBitVec (s[3]'(by omega)).toBitVec=y at E A;have F:=agk x;have I:=agk y;have i3:=afn y;have s2:(y.toNat:Int) / (256:Int)=_:=afo y 8;have s1:(y.toNat:Int) / (65536:Int)=_:=afo y 16;have s0:(y.toNat:Int) / (16777216:Int)=_:=afo y 24;have i2:bits .and .u32 ((y.toNat:Int) / (256:Int)) 255=(((y >>> 8).setWidth 8).toNat:Int):=by rw [s2]; exact afn (y >>> 8)
 have J:bits .and .u32 ((y.toNat:Int) / (65536:Int)) 255=(((y >>> 16).setWidth 8).toNat:Int):=by rw [s1]; exact afn (y >>> 16)
 have i0:(y.toNat:Int) / (16777216:Int)=(((y >>> 24).setWidth 8).toNat:Int):=by rw [s0]; exact ar1 y
 clear s0 s1 s2;have c3:=hT.at 3 (by omega) (y.setWidth 8);have c2:=hT.at 2 (by omega) ((y >>> 8).setWidth 8);have c1:=hT.at 1 (by omega) ((y >>> 16).setWidth 8);have c0:=hT.at 0 (by omega) ((y >>> 24).setWidth 8);generalize y.setWidth 8=a3 at *
 generalize (y >>> 8).setWidth 8=a2 at *
 generalize (y >>> 16).setWidth 8=a1 at *
 generalize (y >>> 24).setWidth 8=a0 at *
 simp only [Nat.reduceMul,Nat.zero_add] at c0 c1 c2 c3;have M:(a3.toNat:Int) < 256:=by have:=a3.isLt; omega
 have N:(a2.toNat:Int) < 256:=by have:=a2.isLt; omega
 have O:(a1.toNat:Int) < 256:=by have:=a1.isLt; omega
 have b0:(a0.toNat:Int) < 256:=by have:=a0.isLt; omega
 have h0:0 < s.size:=by omega
 have h1:(1:Int) < (s.size:Int):=by omega
 have R:(2:Int) < (s.size:Int):=by omega
 have U:(3:Int) < (s.size:Int):=by omega
 have X:=zq hT; clear hT;go_enter Tryz.func199,Tryz.ntmps199;go_wp2_with fail;go_quiet (fail);go_wp2_with fail;go_quiet (fail);go_wp2_with fail;go_ret;exact ⟨vz (by rw [A.o,uo,uo,uo]),_,World.drewN_drewN ..⟩
def noughts:Array Value:=Array.replicate 1024 (.int .u32 0)
theorem aiu (i:Nat) (h:i < 1024):noughts[i]?=some (.int .u32 0):=by
 unfold noughts; rw [Array.getElem?_replicate]; simp [h]
theorem agm (w:World):(zeroValue 269).run Tryz.prog w=.ok (.agg noughts) w:=by kernel_rfl
def TE (i:Nat):Int:=((tab (i / 256) (BitVec.ofNat 8 i)).toNat:Int)
theorem aiv (k:Nat) (h:k < 256) (w:World) :
 Calls Tryz.prog 171 #[.int .u32 (k:Int)] w λe w'=>e=.returned (.int .u32 (TE k))/\w=w':=by
 have h1:=ala (BitVec.ofNat 32 k) w;rw [BitVec.toNat_ofNat,Nat.mod_eq_of_lt (by omega)] at h1
 have A:steps 8 (BitVec.ofNat 32 k)=tab (k / 256) (BitVec.ofNat 8 k):=by
  rw [Nat.div_eq_of_lt h];unfold tab ext;congr 1;apply BitVec.eq_of_toNat_eq;simp; omega
 rw [A] at h1;exact h1
structure Laid (B n:Nat) (W w:World):Prop where
 below:Below W.heap.size W w
 old:W.heap.size<=B
 size:B < w.heap.size
 there:∀ i,i < 1024->∃ v,w.cell? ⟨B,i,none⟩=some v
 free:∀ i,w.frozen? ⟨B,i,none⟩=false
 has:∀ i,i < n->w.cell? ⟨B,i,none⟩=some (.int .u32 (TE i))
theorem Laid.drew {B n:Nat} {W w:World} (h:Laid B n W w) (m:Nat):Laid B n W (w.drewN m) :=
 ⟨h.below.trans (Drawn.below (⟨m,rfl⟩:Drawn w (w.drewN m)) _),h.old,h.size,h.there,h.free,h.has⟩
theorem Laid.set {B n:Nat} {W w:World} (h:Laid B n W w) (hn:n < 1024):Laid B (n+1) W (w.setCell ⟨B,n,none⟩ (.int .u32 (TE n))):=by
 obtain ⟨v,E⟩:=h.there n hn
 have key:∀ i,(w.setCell ⟨B,n,none⟩ (.int .u32 (TE n))).cell? ⟨B,i,none⟩=if i=n then some (.int .u32 (TE n)) else w.cell? ⟨B,i,none⟩:=by
  intro i
  by_cases e:i=n
  . subst e; rw [if_pos rfl]; exact World.cell?_setCell_same _ _ _ E
  . rw [if_neg e]; exact World.cell?_setCell_other _ _ _ _ (λh=>e (by simpa using h.symm))
 refine ⟨h.below.setCell (by have:=h.old; simpa using this) _,h.old,by simpa using h.size,λi A=>?_,λi=>?_,λi A=>?_⟩
 . rw [key]; split
   . exact ⟨_,rfl⟩
   . exact h.there i A
 . rw [World.frozen?_setCell]; exact h.free i
 . rw [key]; split
   . rename_i e; rw [e]
   . exact h.has i (by omega)
theorem Laid.tabs {B:Nat} {W w:World} (h:Laid B 1024 W w):Tabs w B:=by
 intro k j hk A;have:=h.has (256 * k+j) (by omega);rw [this]; unfold TE;rw [show (256 * k+j) / 256=k by omega];rw [show BitVec.ofNat 8 (256 * k+j)=BitVec.ofNat 8 j from by apply BitVec.eq_of_toNat_eq; rw [BitVec.toNat_ofNat,BitVec.toNat_ofNat]; omega]
theorem apq (k b:Nat) (hk:1<=k) (hb:b < 256) :
 ∃ x:BitVec 32,TE ((k - 1) * 256+b)=(x.toNat:Int)/\bits .xor .u32 (TE (x.setWidth 8).toNat) ((x.toNat:Int) / (256:Int))=TE (256 * k+b):=by
 obtain ⟨j,rfl⟩:∃ j,k=j+1:=⟨k - 1,by omega⟩;refine ⟨tab j (BitVec.ofNat 8 b),?_,?_⟩
 . unfold TE
   rw [show (j+1 - 1) * 256+b=256 * j+b by omega,show (256 * j+b) / 256=j by omega,show BitVec.ofNat 8 (256 * j+b)=BitVec.ofNat 8 b from by apply BitVec.eq_of_toNat_eq; rw [BitVec.toNat_ofNat,BitVec.toNat_ofNat]; omega]
 ·
  unfold TE;rw [show (256 * (j+1)+b) / 256=j+1 by omega,show BitVec.ofNat 8 (256 * (j+1)+b)=BitVec.ofNat 8 b from by apply BitVec.eq_of_toNat_eq; rw [BitVec.toNat_ofNat,BitVec.toNat_ofNat]; omega,ams,aro];have A:((tab j (BitVec.ofNat 8 b)).setWidth 8).toNat < 256:=((tab j (BitVec.ofNat 8 b)).setWidth 8).isLt;rw [Nat.div_eq_of_lt A,BitVec.ofNat_toNat,BitVec.setWidth_eq,uo]
theorem new_any (W:World) :
 Calls Tryz.prog 105 #[] W λe w'=>∃ B,e=.returned (.pointer (some ⟨B,0,none⟩))/\Laid B 1024 W w':=by
 have hb:=agm;go_enter Tryz.func105,Tryz.ntmps105;go_wp2_with fail;clear hb;go_loopw [8] (λi wr=>∃ k:Nat,k<=256/\i=.int .i64 k/\Laid W.heap.size k W wr) (λi _=>256 - (intOf i).toNat)
 case atStart =>
  refine ⟨0,by omega,rfl,?_⟩;refine ⟨(Below.refl _ _).alloc (Nat.le_refl _) _,Nat.le_refl _,by simp,λi N=>⟨.int .u32 0,?_⟩,λi=>?_,λi N=>by omega⟩
  . rw [World.cell?_alloc_new]; exact aiu i N
  . simp [go_sem]
 case round =>
  obtain ⟨k,hk,rfl,A⟩:=hrel
  by_cases hlt:k < 256
  ·
   obtain ⟨v,R⟩:=A.there k (by omega);have U:=A.free k;have E:=zq A; clear A;go_wp2_with fail;have X:IntKind.u32.wrap (k:Int)=(k:Int):=by rw [IntKind.wrap_u32']; omega
   go_region_with (go_at_call 171; refine (aiv k (by omega) _).mono ?_; rintro e w' ⟨rfl,rfl⟩);go_wp2_with fail;go_roundw
   case rel=>exact ⟨k+1,by omega,by go_num,(E.o.set (by omega)).drew 1⟩
   case measure=>simp [intOf]; omega
  ·
   have Y:k=256:=by omega
   subst Y;go_wp2_with fail;go_loopw [3] (λi wr=>∃ k:Nat,1<=k/\k<=4/\i=.int .i64 k/\Laid W.heap.size (256 * k) W wr) (λi _=>4 - (intOf i).toNat)
   case atStart=>exact ⟨1,by omega,by omega,rfl,A⟩
   case round =>
    clear A;obtain ⟨k,I,Z,rfl,A⟩:=hrel
    by_cases hlt:k < 4
    ·
     have E:=zq A; clear A;go_wp2_with fail;obtain ⟨O,rfl⟩:∃ O:World,O=wr:=⟨_,rfl⟩;go_loopw [25] (λi wr=>∃ b:Nat,b<=256/\i=.int .i64 b/\Laid W.heap.size (256 * k+b) W wr) (λi _=>256 - (intOf i).toNat)
     case atStart=>exact ⟨0,by omega,rfl,E.o⟩
     case round =>
      clear E;obtain ⟨b,hb,rfl,A⟩:=hrel
      by_cases hb2:b < 256
      ·
       obtain ⟨x,J,F⟩:=apq k b I hb2;have hc:=A.has ((k - 1) * 256+b) (by omega);rw [J] at hc;have h8:(x.setWidth 8).toNat < 256:=(x.setWidth 8).isLt;have ab:=A.has (x.setWidth 8).toNat (by omega);have ha:=afn x;have ac:=agk x;generalize (x.setWidth 8).toNat=i at *
       obtain ⟨v,R⟩:=A.there (k * 256+b) (by omega);have U:=A.free (k * 256+b);have E:=zq A; clear A;have M:=zq F; clear F;have HX:=zq J; clear J;go_wp2_with fail;go_region;go_wp2_with fail;go_roundw
       case rel => 
        refine ⟨b+1,by omega,by go_num,?_⟩;have:=(E.o.set (by omega)).drew 1;rw [<- M.o,show 256 * k+b=k * 256+b by omega] at this;rw [show 256 * k+(b+1)=k * 256+b+1 by omega];exact this
       case measure=>simp [intOf]; omega
      . go_wp2_with fail
        go_roundw
        case rel=>exact ⟨k+1,by omega,by omega,by go_num,by rw [show 256 * (k+1)=256 * k+b by omega]; exact A⟩
        case measure=>simp [intOf]; omega
    . go_wp2_with fail
      go_ret;exact ⟨_,rfl,by rw [show 1024=256 * k by omega]; exact A⟩
def flat (ss:List ByteArray):List UInt8:=(ss.map λs=>s.data.toList).flatten
theorem arp (t:ByteArray):(t.extract 4 t.size).data.toList=t.data.toList.drop 4:=by
 exact Lib.extract_to_end t 4
theorem ann (x:BitVec 32) (t:ByteArray):reg (reg x (t.data.toList.take 4)) (t.extract 4 t.size).data.toList=reg x t.data.toList:=by
 rw [arp,<- aan,List.take_append_drop]
theorem ano (x:BitVec 32) (t:ByteArray) (i:Nat) (h:i < t.size):upd (reg x (t.data.toList.take i)) (t[i]).toBitVec=reg x (t.data.toList.take (i+1)):=by
 rw [List.take_succ_eq_append_getElem (by simpa using h),aan,amr,ao8]; rfl
theorem alb (ss:List ByteArray) (k:Nat) (h:k < ss.length):flat (ss.take (k+1))=flat (ss.take k)++ss[k].data.toList:=by
 unfold flat; rw [List.take_succ_eq_append_getElem h,List.map_append,List.flatten_append]; simp
theorem Tabs.drawn {w u:World} {B:Nat} (h:Tabs w B) (hd:Drawn w u):Tabs u B:=by obtain ⟨n,rfl⟩:=hd; exact h
theorem ae1 (B:Nat) (b off cap:Nat) (ss:List ByteArray) (hn:ss.length<=maxLen) (hs:∀ i (h:i < ss.length),ss[i].size<=maxLen) (W:World)
 (hcell:∀ i (h:i < ss.length),W.cell? ⟨b,off+i,none⟩=some (.string ss[i])) (hT:Tabs W B) :
 Calls Tryz.prog 144 #[.pointer (some ⟨B,0,none⟩),.slice (some ⟨b,off,none⟩) ss.length cap] W λe w'=>e=.returned (.int .i64 (sum (flat ss)).toNat)/\Drawn W w':=by
 unfold maxLen at hn hs;have M:=zq hT; clear hT;have U:=zq hcell; clear hcell;have Z:=zq hs; clear hs;go_enter Tryz.func144,Tryz.ntmps144;go_wp2_with fail;go_loopw [5,13] (λx i wr=>∃ k:Nat,k<=ss.length/\i=.int .i64 k/\x=.int .u32 (reg (BitVec.allOnes 32) (flat (ss.take k))).toNat/\Drawn W wr) (λ_ i _=>ss.length - (intOf i).toNat)
 case atStart=>exact ⟨0,by omega,rfl,rfl,Drawn.refl _⟩
 case round =>
  obtain ⟨k,hk,rfl,rfl,A⟩:=hrel;generalize hX:reg (BitVec.allOnes 32) (flat (ss.take k))=X;have N:=zq hX; clear hX
  by_cases hlt:k < ss.length
  ·
   have hc:=U.o k hlt;rw [<- A.cell] at hc;have hz:=Z.o k hlt;generalize hsk:ss[k]=s at *
   have F:=zq hsk; clear hsk;go_wp2_with fail;obtain ⟨E,rfl⟩:∃ E:World,E=wr:=⟨_,rfl⟩;go_loopw [5,7] (λx t wr=>∃ (q:ByteArray) (y:BitVec 32),q.size<=s.size/\t=.string q/\x=.int .u32 y.toNat/\Drawn W wr/\Zq (reg X s.data.toList=reg y q.data.toList)) (λ_ t _=>match t with | .string q=>q.size | _=>0)
   case atStart=>exact ⟨s,X,Nat.le_refl _,rfl,rfl,A,rfl⟩
   case round =>
    clear hc A;obtain ⟨q,y,hq,rfl,rfl,A,O⟩:=hrel
    by_cases h4:4<=q.size
    . go_wp2_with (go_at_call 199; refine (anm B y q h4 _ (M.o.drawn A)).mono ?_; rintro e w' ⟨rfl,I⟩)
      go_roundw
      case rel => 
       exact ⟨q.extract 4 q.size,_,by simp; omega,rfl,rfl,A.trans I,O.o.trans (ann y q).symm⟩
      case measure=>simp; omega
    ·
     go_wp2_with fail;obtain ⟨E,rfl⟩:∃ E:World,E=wr:=⟨_,rfl⟩;go_loopw [5,30] (λx i wr=>∃ (k:Nat),k<=q.size/\i=.int .i64 k/\x=.int .u32 (reg y (q.data.toList.take k)).toNat/\Drawn W wr) (λ_ i _=>q.size - (intOf i).toNat)
     case atStart=>exact ⟨0,by omega,rfl,rfl,A⟩
     case round =>
      clear A;obtain ⟨j,hj,rfl,rfl,A⟩:=hrel
      by_cases hj2:j < q.size
      ·
       generalize hY:reg y (q.data.toList.take j)=Y;have HY:=zq hY; clear hY;go_wp2_with fail;go_quiet ((go_at_call 200; exact ahx (apo B Y q[j] _ (M.o.drawn (A.drewN _)))));go_wp2_with fail;go_roundw
       case rel =>
        exact ⟨j+1,by omega,by go_num,by rw [<- ano y q j hj2,HY.o],A.drewN _⟩
       case measure=>simp [intOf]; omega
      . go_wp2_with fail
        go_roundw
        case rel =>
         refine ⟨k+1,by omega,by go_num,?_,A⟩;have h1:j=q.size:=by omega
         have h2:q.data.toList.take j=q.data.toList:=List.take_of_length_le (by rw [h1]; exact Nat.le_refl _);rw [h2,<- O.o,alb ss k hlt,aan,N.o,F.o]
        case measure=>simp [intOf]; omega
  ·
   have R:k=ss.length:=by omega
   have J:=zq R; clear R;go_wp2_with fail;go_ret;refine ⟨vz ?_,A⟩
   have hu:bits .xor .u32 IntKind.u32.max (X.toNat:Int)=((~~~X).toNat:Int):=by
    rw [show IntKind.u32.max=((BitVec.allOnes 32).toNat:Int) from by decide,uo,BitVec.allOnes_xor]
   have:=(~~~X).isLt;rw [hu];unfold sum;rw [<- N.o,J.o,List.take_of_length_le (Nat.le_refl _)] at *
   exact IntWalk.wrap64_in _ (by omega)
theorem abx (n:Nat) (hn:n < 4294967296):∃ c0 c1 c2 c3:UInt8,Zq (be4 n=[c0,c1,c2,c3]) /\
 (n:Int) / 16777216=(c0.toNat:Int)/\(n:Int) / 65536 % 256=(c1.toNat:Int)/\(n:Int) / 256 % 256=(c2.toNat:Int)/\(n:Int) % 256=(c3.toNat:Int):=by
 refine ⟨_,_,_,_,rfl,?_,?_,?_,?_⟩ <;> simp only [UInt8.toNat_ofNat'] <;> omega
theorem aj4 (n:Nat) (hn:n < 4294967296) (c0 c1 c2 c3:UInt8) (hb:Zq (be4 n=[c0,c1,c2,c3])) (w:World) :
 Calls Tryz.prog 143 #[.int .i64 (n:Int)] w λe w'=>e=.returned (.agg #[.int .u8 c0.toNat,.int .u8 c1.toNat,.int .u8 c2.toNat,.int .u8 c3.toNat])/\Below w.heap.size w w':=by
 obtain ⟨B,d1,d2,d3,A,E,F,I,J⟩:=abx n hn;obtain ⟨rfl,rfl,rfl,rfl⟩:c0=B/\c1=d1/\c2=d2/\c3=d3:=by have:=hb.o.symm.trans A.o; simpa using this
 clear hb A;go_enter Tryz.func143,Tryz.ntmps143;go_wp2_with fail
 exact bodyPost_ret (v:=.agg #[.int .u8 c0.toNat,.int .u8 c1.toNat,.int .u8 c2.toNat,.int .u8 c3.toNat]) (by simp [results,Tryz.results143,go_sem]) rfl
  ⟨rfl,(Below.refl _ _).alloc (Nat.le_refl _) _⟩
theorem anp (n:Nat) (hn:n < 4294967296) (w:World) :
 Calls Tryz.prog 143 #[.int .i64 (n:Int)] w λe w'=>∃ c0 c1 c2 c3:UInt8,Zq (be4 n=[c0,c1,c2,c3]) /\
  e=.returned (.agg #[.int .u8 c0.toNat,.int .u8 c1.toNat,.int .u8 c2.toNat,.int .u8 c3.toNat])/\Below w.heap.size w w':=by
 obtain ⟨c0,c1,c2,c3,hb,_⟩:=abx n hn;exact (aj4 n hn c0 c1 c2 c3 hb w).mono λe w' h=>⟨c0,c1,c2,c3,hb,h⟩
theorem agn (B:Nat) (s:ByteArray) (hs:s.size<=140737488355328) (w:World) (hB:B < w.heap.size) (hT:Tabs w B) :
 Calls Tryz.prog 106 #[.pointer (some ⟨B,0,none⟩),.string s] w λe w'=>e=.returned (.string ⟨(ag s.data.toList).toArray⟩)/\Below w.heap.size w w':=by
 have N:=zq hT; clear hT;go_enter Tryz.func106,Tryz.ntmps106;go_wp2_with fail;have A:Below w.heap.size w (w.alloc (.cells #[.string s] 9)):=(Below.refl _ _).alloc (Nat.le_refl _) _;have F:Tabs (w.alloc (.cells #[.string s] 9)) B:=λk j hk O=>by rw [A.cell (by simpa using hB)]; exact N.o k j hk O
 refine (ae1 B w.heap.size 0 1 [s] (by simp [maxLen]) (by simp [maxLen]; omega) _ (λi M=>?_) F).mono ?_
 . have:i=0:=by simpa using M
   subst this; simp [go_sem]
 rintro e w1 ⟨rfl,hd⟩;have R:=(sum (flat [s])).isLt;have I:Below w.heap.size w w1:=A.trans (hd.below _);have U:Zq ((sum (flat [s])).toNat=(sum s.data.toList).toNat):=by unfold flat; simp [Zq]
 generalize (sum (flat [s])).toNat=n at *
 have E:=zq I;clear I A F hd;go_wp2_with (go_at_call 143; refine (anp n R _).mono ?_; rintro e w2 ⟨c0,c1,c2,c3,hb,rfl,J⟩)
 rw [aa0 (P:=Tryz.prog) _ 231 5 9 Tryz.underlying231 Tryz.underlying5 Tryz.underlying9 w2.heap.size 0 4 [c0,c1,c2,c3] (λi M=>by
  rw [World.cell?_alloc_new]; match i,M with | 0,_=>rfl | 1,_=>rfl | 2,_=>rfl | 3,_=>rfl) 4 rfl]
 go_wp2_with fail;go_ret;refine ⟨wh ?_,(E.o.trans (J.mono E.o.size)).alloc (Nat.le_trans E.o.size J.size) _⟩;unfold ag;rw [<- U.o,hb.o];apply ByteArray.ext;apply Array.ext';simp
def Ext (w w':World):Prop:=Below w.heap.size w w'
theorem Ext.refl (w:World):Ext w w:=Below.refl _ _
theorem Ext.trans {u v w:World} (h:Ext u v) (k:Ext v w):Ext u w:=Below.trans h (Below.mono k h.size)
def Four (b:Nat) (c0 c1 c2 c3:UInt8) (w:World):Prop:=b < w.heap.size/\w.cell? ⟨b,0,none⟩=some (.int .u8 c0.toNat)/\w.cell? ⟨b,1,none⟩=some (.int .u8 c1.toNat)/\w.cell? ⟨b,2,none⟩=some (.int .u8 c2.toNat)/\w.cell? ⟨b,3,none⟩=some (.int .u8 c3.toNat)
theorem eq4 (x0 x1 x2 x3 y0 y1 y2 y3:Int) (w:World):(Op.equalIn 10000 230 (.agg #[.int .u8 x0,.int .u8 x1,.int .u8 x2,.int .u8 x3]) (.agg #[.int .u8 y0,.int .u8 y1,.int .u8 y2,.int .u8 y3])).run Tryz.prog w
 = .ok (x0 == y0 && x1 == y1 && x2 == y2 && x3 == y3) w:=by
 show (Op.equalIn (9999+1) _ _ _).run _ _=_;unfold Op.equalIn;have A:(sizeOf 5).run Tryz.prog w=.ok 1 w:=by kernel_rfl
 simp only [go_sem,Sem.run_bind,run_underlying Tryz.underlying230,A,Result.andThen,Std.Legacy.Range.forIn_eq_forIn_range',Std.Legacy.Range.size];simp [List.range',go_sem,run_equalIn_int _ 9998 _ _ _ _ _ Tryz.underlying5]
 by_cases h0:x0=y0 <;> by_cases h1:x1=y1 <;> by_cases h2:x2=y2 <;> by_cases h3:x3=y3 <;> simp [h0,h1,h2,h3]
theorem Tabs.ext {w w':World} {B:Nat} (h:Tabs w B) (hB:B < w.heap.size) (he:Ext w w'):Tabs w' B:=λk j hk A=>by rw [Below.cell he (by simpa using hB)]; exact h k j hk A
theorem alc (s:ByteArray) (hs4:4<=s.size) (n:Nat) (c0 c1 c2 c3:UInt8) (hb:be4 n=[c0,c1,c2,c3]) :
 ((s[0].toNat:Int) == (c0.toNat:Int) && (s[1].toNat:Int) == (c1.toNat:Int) && (s[2].toNat:Int) == (c2.toNat:Int) && (s[3].toNat:Int) == (c3.toNat:Int))=decide (s.data.toList=be4 n++s.data.toList.drop 4):=by
 have h:s.data.toList=[s[0],s[1],s[2],s[3]]++s.data.toList.drop 4:=by
  conv=>lhs; rw [<- List.take_append_drop 4 s.data.toList]
  rw [aqg s hs4]
 rw [hb]
 conv=>rhs; arg 1; lhs; rw [h]
 rw [Bool.eq_iff_iff];simp [Int.ofNat_inj,UInt8.toNat_inj,and_assoc]
theorem Four.ext {b:Nat} {c0 c1 c2 c3:UInt8} {w w':World} (h:Four b c0 c1 c2 c3 w) (hR:Below w.heap.size w w'):Four b c0 c1 c2 c3 w':=by
 obtain ⟨h0,h1,A,B,E⟩:=h;exact ⟨Nat.lt_of_lt_of_le h0 hR.size,by rw [hR.cell h0]; exact h1,by rw [hR.cell h0]; exact A,by rw [hR.cell h0]; exact B,by rw [hR.cell h0]; exact E⟩
theorem ald (B:Nat) (s:ByteArray) (hs4:4<=s.size) (hs:s.size<=140737488355328) (w:World) (hB:B < w.heap.size) (hT:Tabs w B) :
 Calls Tryz.prog 81 #[.pointer (some ⟨B,0,none⟩),.string s] w λe w' => 
  e=.returned (if s.data.toList=ag (s.data.toList.drop 4) then .tuple #[.string (s.extract 4 s.size),.bool true] else .tuple #[.string ⟨#[]⟩,.bool false])/\Below w.heap.size w w':=by
 have HT:=zq hT; clear hT;have hn:=(sum (s.data.toList.drop 4)).isLt;obtain ⟨c0,c1,c2,c3,hb,-⟩:=abx (sum (s.data.toList.drop 4)).toNat hn;generalize hN:(sum (s.data.toList.drop 4)).toNat=n at *
 have HN:=zq hN; clear hN;go_enter Tryz.func81,Tryz.ntmps81;go_wp2_with fail;have hd:decide ((s.size:Int) < 4)=false:=by simp; omega
 have U:(4:Int)<=(s.size:Int):=by omega
 refine Grow.ja 21 [none,none,none,none,none,none,none,none,none,none,
  some (.inr λv w=>∃ b c,v=.slice (some ⟨b,0,none⟩) 4 c/\Four b s[0] s[1] s[2] s[3] w),
  some (.inr λv w=>∃ b,v=.pointer (some ⟨b,0,none⟩)/\Four b s[0] s[1] s[2] s[3] w),
  some (.inl (.agg #[.int .u8 s[0].toNat,.int .u8 s[1].toNat,.int .u8 s[2].toNat,.int .u8 s[3].toNat])),
  none,none,none,
  some (.inr λv w=>∃ b,v=.slice (some ⟨b,0,none⟩) 1 1/\b < w.heap.size/\w.cell? ⟨b,0,none⟩=some (.string (s.extract 4 s.size))),
  some (.inl (.int .i64 (n:Int))),
  some (.inl (.agg #[.int .u8 c0.toNat,.int .u8 c1.toNat,.int .u8 c2.toNat,.int .u8 c3.toNat])),
  none,none] Ext (by kernel_rfl) (by kernel_rfl) (by kernel_rfl) Ext.refl (λ_ _ _=>Ext.trans) ?_ ?_
 ·
  intro K hK Y hY v w w' R h;have R:Below w.heap.size w w':=R;simp only [List.mem_cons,List.not_mem_nil,or_false] at hK
  rcases hK with rfl | rfl | rfl | rfl | rfl | rfl | rfl | rfl | rfl | rfl | rfl | rfl | rfl | rfl | rfl | rfl | rfl | rfl | rfl | rfl | rfl <;> simp only [reduceCtorEq,Option.some.injEq,Sum.inr.injEq] at hY
  . subst hY; obtain ⟨b,c,rfl,hf⟩:=h; exact ⟨b,c,rfl,hf.ext R⟩
  . subst hY; obtain ⟨b,rfl,hf⟩:=h; exact ⟨b,rfl,hf.ext R⟩
  . subst hY; obtain ⟨b,rfl,hb,hc⟩:=h; exact ⟨b,rfl,Nat.lt_of_lt_of_le hb R.size,by rw [R.cell hb]; exact hc⟩
 simp only [List.take_succ_cons,List.take_zero,List.drop_succ_cons,List.drop_zero]
 iterate 10 (
  refine Grow.g_det rfl ?_;apply Exists.intro;refine ⟨λw I A=>?_,?_⟩
  . clear A
    go_simp;exact ⟨rfl,Ext.refl _⟩
  go_frame)
 refine Grow.g_new rfl (λw2 I A=>?_) (λv10=>?_)
 ·
  clear A;obtain ⟨c,w3,X,N,a1,_,E,_⟩:=afa (P:=Tryz.prog) w2 9 231 5 (s.extract 0 4) Tryz.underlying9 Tryz.underlying231 Tryz.underlying5;have O:(s.extract 0 4).size=4:=by simp; omega
  rw [O] at X;have HC:=zq E; clear E;have al:=zq O; clear O;go_simp;refine ⟨⟨by omega,?_,?_,?_,?_⟩,N⟩
  all_goals (rw [HC.o _ (by rw [al.o]; omega)]; simp [ByteArray.getElem_extract])
 simp only [Act.put,List.setIfInBounds_toArray,List.set_cons_zero,List.set_cons_succ,Grow.ae9];refine Grow.g_new rfl (λw2 I A=>?_) (λv11=>?_)
 ·
  obtain ⟨b,c,rfl,F⟩:=A _ (List.Mem.head _) (by simp [Oper.looksAt,Op.operands,Call.operands]);clear A;have ar:∀ w,(Instr.arrayAt 230 (.slice (some ⟨b,0,none⟩) 4 c)).run Tryz.prog w=.ok (.pointer (some ⟨b,0,none⟩)) w:=λw=>by kernel_rfl
  go_simp;exact Ext.refl _
 simp only [Act.put,List.setIfInBounds_toArray,List.set_cons_zero,List.set_cons_succ,Grow.ae9];refine Grow.g_con rfl (λw2 I A=>?_) ?_
 ·
  obtain ⟨b,rfl,F⟩:=A _ (List.Mem.head _) (by simp [Oper.looksAt,Op.operands,Call.operands]);clear A;obtain ⟨h0,h1,h2,h3,h4⟩:=F;go_simp;exact Ext.refl _
 simp only [Act.put,List.setIfInBounds_toArray,List.set_cons_zero,List.set_cons_succ,Grow.ae9]
 iterate 3 (
  refine Grow.g_det rfl ?_;apply Exists.intro;refine ⟨λw I A=>?_,?_⟩
  . clear A
    go_simp;exact ⟨rfl,Ext.refl _⟩
  go_frame)
 refine Grow.g_new rfl (λw2 I A=>?_) (λv16=>?_)
 . clear A
   go_simp;exact (Below.refl _ _).alloc (Nat.le_refl _) _
 simp only [Act.put,List.setIfInBounds_toArray,List.set_cons_zero,List.set_cons_succ,Grow.ae9];refine Grow.g_con rfl (λw2 I A=>?_) ?_
 ·
  obtain ⟨b,rfl,a7,am⟩:=A _ (List.Mem.head _) (by simp [Oper.looksAt,Op.operands,Call.operands]);clear A;go_simp;refine (ae1 B b 0 1 [s.extract 4 s.size] (by simp [maxLen]) (by simp [maxLen]; omega) w2 (λi hi=>?_) (Tabs.ext (w:=w.drew) HT.o (by simpa using hB) I)).mono ?_
  . have:i=0:=by simpa using hi
    subst this; simpa using am
  . rintro e w3 ⟨rfl,hd⟩
    exact ⟨_,rfl,by rw [<- HN.o]; unfold flat; rw [List.map_cons,List.map_nil,Lib.extract_to_end]; simp,hd.below _⟩
 go_frame;refine Grow.g_con rfl (λw2 I A=>?_) ?_
 . clear A
   go_simp;exact (aj4 n hn c0 c1 c2 c3 hb w2).mono λe w3 ⟨he,N⟩=>⟨_,he,rfl,N⟩
 go_frame;have HQ:=λw=>eq4 (s[0].toNat:Int) (s[1].toNat:Int) (s[2].toNat:Int) (s[3].toNat:Int) (c0.toNat:Int) (c1.toNat:Int) (c2.toNat:Int) (c3.toNat:Int) w
 rw [alc s hs4 n c0 c1 c2 c3 hb.o] at HQ;generalize htst:decide (s.data.toList=be4 n++s.data.toList.drop 4)=tst at HQ;have J:=zq htst; clear htst
 iterate 2
  refine Grow.g_det rfl ?_;apply Exists.intro;refine ⟨λw I A=>?_,?_⟩
  . clear A
    go_simp;exact ⟨rfl,Ext.refl _⟩
  go_frame
 refine Grow.g_nil λw3 Z A=>?_
 clear A HQ;refine wpList_nil ?_;have HW:Zq (Below w.heap.size w w3):=(Below.refl _ _).drew.trans Z;clear Z;have M:Zq (tst=decide (s.data.toList=ag (s.data.toList.drop 4))):=by unfold ag; rw [HN.o]; exact J.o.symm
 clear J;clear HN HT hb hd U hn
 cases tst
 ·
  simp only [Bool.not_false]
  repeat go_step
  go_ret2;refine ⟨?_,HW.o⟩;rw [if_neg (of_decide_eq_false M.o.symm)];rfl
 ·
  simp only [Bool.not_true]
  repeat go_step
  go_ret2;refine ⟨?_,HW.o⟩;rw [if_pos (of_decide_eq_true M.o.symm)];rfl
end CrcW
namespace RecW
open Go.RowKit OctMath RecMath NameMath
theorem aaq {w w':World} {B:Nat} (h:CrcW.Tabs w B) (hB:B < w.heap.size) (hb:Below w.heap.size w w'):CrcW.Tabs w' B :=
 λk j hk A=>by rw [hb.cell (by simpa using hB)]; exact h k j hk A
theorem put_any (B:Nat) (m:Msg) (hm:um m) (a:Option Addr) (c:Nat) (W:World) (hB:B < W.heap.size) (hT:CrcW.Tabs W B) (hS:Strs W a (m.keys.map S)) :
 Calls Tryz.prog 179 #[.pointer (some ⟨B,0,none⟩),.agg (ae m a c)] W λe w'=>e=.returned (.tuple #[.string (S (abt m).1),.int .i64 (abt m).2])/\Below W.heap.size W w':=by
 have N:Zq (Below W.heap.size W (W.alloc (.cells (ae m a c) 69))):=(Below.refl _ W).alloc (Nat.le_refl _) _;have HX:Zq (Boxed (W.alloc (.cells (ae m a c) 69)) W.heap.size (ae m a c)):=Boxed.new W _ _;have Y:=zq (Strs.below hS N.o);have HT:=zq hT;have O:=zq hB;have HM:=zq hm;have M:Zq (abt m=if df m=false then ([],1) else if m.kind=0 then (if m.body.length < 3 then ([],1) else (mg m.body.length,0)) else (bg m,0)):=rfl;have bo:=ah;have bp:m.body.length<=1073741824:=hm.body;have am:(ae m a c).size=10:=rfl;clear hm hS hT hB;go_enter Tryz.func179,Tryz.ntmps179;go_upto_region 1 with fail
 generalize W.alloc (.cells (ae m a c) 69)=w1 at *
 clear am;obtain ⟨A,R⟩:∃ A,W.heap.size=A:=⟨_,rfl⟩;rw [R] at HX N ⊢ O;obtain ⟨k0,k1,k2,k3,k4,k5,k6,k7,k8,k9⟩:=RecW.mr HX.o;have HR:=zq (right_any m HM.o a c w1 Y.o);generalize hrl:df m=rl at *
 go_wp2_with fail;refine HR.o.mono ?_;rintro e w2 ⟨rfl,hb⟩;have F:=zq (N.o.trans (hb.mono (by have:=N.o.size; omega)));have E:=zq (HX.o.below hb);have ba:=zq (Strs.below Y.o hb);clear hb HR k0 k1 k2 k3 k4 k5 k6 k7 k8 k9
 cases rl with
 | false =>
   have U:Zq (abt m=([],1)):=by show _=_; rw [M.o,if_pos rfl]
   clear M;go_wp2_with fail;go_ret2;exact ⟨by rw [U.o]; rfl,R ▸ F.o⟩
 | true =>
   replace M:Zq (abt m=if m.kind=0 then (if m.body.length < 3 then ([],1) else (mg m.body.length,0)) else (bg m,0)):=by show _=_; rw [M.o,if_neg (by simp)]
   have k0:w2.cell? ⟨A,0,none⟩=some (.int .i64 m.kind):=E.o 0 _ rfl;have k8:w2.cell? ⟨A,8,none⟩=some (.string (S m.body)):=E.o 8 _ rfl
   by_cases h0:m.kind=0
   case pos =>
    replace M:Zq (abt m=if m.body.length < 3 then ([],1) else (mg m.body.length,0)):=by show _=_; rw [M.o,if_pos h0]
    have ad:m.body.length<=1024:=by
     have h:=hrl;unfold df at h
     split at h
     . cases h
     . simp [h0] at h
       exact h.1.1
    have J:=zq (agh (m.body.length:Int) (by omega) (by omega) w2);clear hrl
    by_cases h3:m.body.length < 3
    ·
     rw [decide_eq_false (by omega)] at J;have U:Zq (abt m=([],1)):=by show _=_; rw [M.o,if_pos h3]
     clear M;go_wp2_with fail;refine J.o.mono ?_;rintro e w3 ⟨rfl,hb⟩;have I:=zq (F.o.trans (hb.mono (by have:=F.o.size; omega)));clear hb J;go_wp2_with fail;go_ret2;exact ⟨by rw [U.o]; rfl,R ▸ I.o⟩
    ·
     rw [decide_eq_true (by omega)] at J;have U:Zq (abt m=(mg m.body.length,0)):=by show _=_; rw [M.o,if_neg h3]
     clear M;go_wp2_with fail;refine J.o.mono ?_;rintro e w3 ⟨rfl,hb⟩;have I:=zq (F.o.trans (hb.mono (by have:=F.o.size; omega)));clear hb J;go_wp2_with fail;go_ret2;exact ⟨by rw [U.o]; rfl,R ▸ I.o⟩
   case neg =>
    have U:Zq (abt m=(bg m,0)):=by show _=_; rw [M.o,if_neg h0]
    have k1:w2.cell? ⟨A,1,none⟩=some (.int .i64 m.queue):=E.o 1 _ rfl;have k2:w2.cell? ⟨A,2,none⟩=some (.int .i64 m.due):=E.o 2 _ rfl;have k3:w2.cell? ⟨A,3,none⟩=some (.int .i64 m.retry):=E.o 3 _ rfl;have k4:w2.cell? ⟨A,4,none⟩=some (.int .i64 m.ref):=E.o 4 _ rfl;have k5:w2.cell? ⟨A,5,none⟩=some (.int .i64 m.born):=E.o 5 _ rfl;have k6:w2.cell? ⟨A,6,none⟩=some (.string (S m.topic)):=E.o 6 _ rfl;have k7:w2.cell? ⟨A,7,none⟩=some (.string (S m.tag)):=E.o 7 _ rfl;have k9:w2.cell? ⟨A,9,none⟩=some (.slice a m.keys.length c):=E.o 9 _ rfl;have br:=wy hrl h0;have HI:=zq (ais m hrl h0 a c w2 ba.o);have X:=zq (λ(w':World) (hb:Below A W w')=>CrcW.agn B (S (ai m)) (by rw [ah]; omega) w' (by have:=hb.size; have:=O.o; omega) (aaq HT.o (by rw [R]; exact O.o) (by rw [R]; exact hb)));have Z:(⟨(CrcMath.ag (S (ai m)).data.toList).toArray⟩:ByteArray)=S (CrcMath.ag (ai m)):=by rw [jv]; rfl
    rw [Z] at X;have bb:(S (CrcMath.ag (ai m))).size=4+(ai m).length:=by rw [ah,CrcMath.jf]
    have n2:OctW.ma 2 [(3:Int)+((S (CrcMath.ag (ai m))).size:Int)]=(be 2 (3+(CrcMath.ag (ai m)).length),0):=by
     have e:(3:Int)+((S (CrcMath.ag (ai m))).size:Int)=((3+(CrcMath.ag (ai m)).length:Nat):Int):=by rw [ah]; omega
     have hl:=CrcMath.jf (ai m);rw [e,show (2:Int)=((2:Nat):Int) from rfl,abb 2 _ (by omega) (by omega) (λx hx=>by rw [List.mem_singleton] at hx; subst hx; exact ⟨by omega,by show _ < ((256 ^ 2:Nat):Int); omega⟩)];show ([((3+(CrcMath.ag (ai m)).length:Nat):Int)].flatMap λx=>be 2 x.toNat,0)=_;rw [List.flatMap_cons,List.flatMap_nil,List.append_nil,Int.toNat_natCast]
    have HN:=zq (λ(w:World)=>OctW.nums_any 2 (by omega) (by omega) (some ⟨w.heap.size,0,none⟩) 1 [(3:Int)+((S (CrcMath.ag (ai m))).size:Int)] (by simp) (λx hx=>by simp at hx; omega) _ (zb w _ 3));rw [n2] at HN;change Zq (∀ w:World,Calls _ _ #[.int .i64 2,.slice (some ⟨w.heap.size,0,none⟩) 1 1] (w.alloc (.cells #[.int .i64 ((3:Int)+((S (CrcMath.ag (ai m))).size:Int))] _)) _) at HN
    have bc:Zq (S [165]++S (be 2 (3+(CrcMath.ag (ai m)).length))++S (CrcMath.ag (ai m))=S (bg m)):=by
     show _=_;rw [gm,gm]; rfl
    have z2:(S (be 2 (3+(CrcMath.ag (ai m)).length))).size=2:=by rw [ah,bf]
    generalize S (be 2 (3+(CrcMath.ag (ai m)).length))=s2 at *
    generalize S (CrcMath.ag (ai m))=se at *
    generalize S (ai m)=si at *
    generalize (ai m).length=il at *
    clear Z n2 hrl M;rw [bb] at HN;go_wp2_with fail;refine HI.o.mono ?_;rintro e w3 ⟨rfl,hb⟩;have I:=zq (F.o.trans (hb.mono (by have:=F.o.size; omega)));clear hb HI k0 k1 k2 k3 k4 k5 k6 k7 k8 k9;go_wp2_with fail;refine (X.o w3 I.o).mono ?_;rintro e w4 ⟨rfl,hb⟩;have ac:=zq (I.o.trans (hb.mono (by have:=I.o.size; omega)));clear hb X;go_wp2_with fail;refine (HN.o w4).mono ?_;rintro e w5 ⟨rfl,hb⟩;have bd:=zq (ac.o.trans ((((Below.refl w4.heap.size w4).alloc (Nat.le_refl _) _).trans (hb.mono (by rw [World.size_alloc]; omega))).mono (by have:=ac.o.size; omega)));clear hb HN;go_wp2_with fail;go_ret2;exact ⟨by rw [U.o,<- bc.o]; rfl,R ▸ bd.o⟩
end RecW
namespace MapG
open Go.RowKit Go.MapKept
variable {P:Program}
structure Keyed (P:Program) (kt:TypeId) (K:Value->Prop):Prop where
 check:∀ k,K k->∀ e w,(Instr.checkKey e 10000 kt k).run P w=.ok () w
 find:∀ k,K k->∀ l:List MapEntry,(∀ x∈l,K x.key)->∀ w,((∀ x∈l,x.key≠k)/\(Instr.findKey kt k l).run P w=.ok none w)\/∃ j e,(Instr.findKey kt k l).run P w=.ok (some (j,e.val)) w/\l[j]?=some e/\e.key=k
 stays:∀ k,K k->∀ w,(Instr.keyThatStays k k).run P w=.ok k w
theorem Keyed.of_isKey {kt:TypeId} {d:TypeDesc} (hd:P.underlying kt=some d):Keyed P kt (IsKey d):=by
 refine ⟨λk hk e w=>Go.MapKept.run_checkKey hd hk e 9999,λk hk l A w=>?_,λk hk w=>Go.MapKept.run_keyThatStays hk⟩
 rcases findNow_spec hk l 0 A with ⟨h1,h2⟩ | ⟨j,e,h1,h2,h3⟩
 . exact .inl ⟨h2,Go.MapKept.run_findKey hd h1⟩
 . exact .inr ⟨j,e,by rw [Go.MapKept.run_findKey hd h1,Nat.zero_add],h2,h3⟩
theorem adl {kt:TypeId} {K:Value->Prop} (heq:∀ a b,K a->K b->∀ w,∃ r,(Op.equal kt a b).run P w=.ok r w/\(r=true↔a=b)) {k:Value} (hk:K k) (w:World):∀ (l:List MapEntry) (i:Nat),(∀ x∈l,K x.key) ->
 ((∀ x∈l,x.key≠k)/\(Instr.findAsking kt k l i).run P w=.ok none w)\/∃ j e,(Instr.findAsking kt k l i).run P w=.ok (some (i+j,e.val)) w/\l[j]?=some e/\e.key=k
 | [],i,_=>.inl ⟨by simp,by simp [Instr.findAsking]⟩
 | e :: es,i,h=>by
   obtain ⟨r,E,A⟩:=heq k e.key hk (h e (.head _)) w
   cases r with
   | true=>exact .inr ⟨0,e,by simp [Instr.findAsking,Sem.run_bind,E,Result.andThen],rfl,(A.1 rfl).symm⟩
   | false =>
     have F:e.key≠k:=λq=>by have:=A.2 q.symm; cases this
     rcases adl heq hk w es (i+1) (λx B=>h x (.tail _ B)) with ⟨h1,h2⟩ | ⟨j,e',h1,h2,h3⟩
     . exact .inl ⟨λx B=>by
        cases B with
        | head=>exact F
        | tail _ B=>exact h1 x B,by simp [Instr.findAsking,Sem.run_bind,E,Result.andThen,h2]⟩
     . exact .inr ⟨j+1,e',by simp [Instr.findAsking,Sem.run_bind,E,Result.andThen,h1]; omega,by simpa using h2,h3⟩
theorem Keyed.of_equal {kt:TypeId} {d:TypeDesc} {K:Value->Prop} (hd:P.underlying kt=some d) (hnow:∀ a b,K a->K b->Instr.sameNow d a b=none) (heq:∀ a b,K a->K b->∀ w,∃ r,(Op.equal kt a b).run P w=.ok r w/\(r=true↔a=b))
 (hc:∀ k,K k->∀ e w,(Instr.checkKey e 10000 kt k).run P w=.ok () w) (hs:∀ k,K k->Instr.sameBits 10000 k k=true):Keyed P kt K:=by
 refine ⟨hc,λk hk l A w=>?_,λk hk w=>by simp [Instr.keyThatStays,hs k hk]⟩
 cases l with
 | nil=>exact .inl ⟨by simp,by simp [Instr.findKey,run_underlying hd,Result.andThen,Instr.findNow]⟩
 | cons e es =>
   have B:Instr.findNow d k (e :: es) 0=none:=by simp [Instr.findNow,hnow k e.key hk (A e (.head _))]
   have E:(Instr.findKey kt k (e :: es)).run P w=(Instr.findAsking kt k (e :: es) 0).run P w:=by simp [Instr.findKey,run_underlying hd,Result.andThen,B]
   rw [E]
   rcases adl heq hk w (e :: es) 0 A with ⟨h1,h2⟩ | ⟨j,e',h1,h2,h3⟩
   . exact .inl ⟨h1,h2⟩
   . exact .inr ⟨j,e',by rw [h1,Nat.zero_add],h2,h3⟩
def PairsAt (w:World) (b:Nat) (l:List (Value×Value)):Prop:=∃ es c,w.heap[b]?=some (.map es c)/\Stamped es c/\es.toList.map (λe=>(e.key,e.val))=l
theorem PairsAt.lt {w:World} {b:Nat} {l:List (Value×Value)} (h:PairsAt w b l):b < w.heap.size:=by
 obtain ⟨es,c,h1,_⟩:=h; exact (Array.getElem?_eq_some_iff.1 h1).1
theorem PairsAt.mod {w w':World} {b:Nat} {l:List (Value×Value)} {M:Nat->Prop} (h:PairsAt w b l) (hm:Mod M w w') (hM:¬ M b):PairsAt w' b l:=by
 obtain ⟨es,c,h1,A,B⟩:=h;exact ⟨es,c,(hm.block b (Array.getElem?_eq_some_iff.1 h1).1 hM).trans h1,A,B⟩
theorem PairsAt.below {w w':World} {b:Nat} {l:List (Value×Value)} (h:PairsAt w b l) (hb:Below w.heap.size w w'):PairsAt w' b l:=h.mod (M:=λ_=>False) (Mod.of_below hb) (λh=>h)
theorem PairsAt.new (w:World):PairsAt (w.alloc (.map #[] 0)) w.heap.size []:=⟨#[],0,heap_alloc_new w _,stamped_empty 0,rfl⟩
theorem PairsAt.nodup {w:World} {b:Nat} {l:List (Value×Value)} (h:PairsAt w b l):(l.map (·.1)).Nodup:=by
 obtain ⟨es,c,h1,A,B⟩:=h;rw [<- B,List.map_map];exact A.2.2
theorem abd {K:Value->Prop} {es:List MapEntry} {l:List (Value×Value)} (h:es.map (λe=>(e.key,e.val))=l) (hl:∀ p∈l,K p.1):∀ x∈es,K x.key:=λx A=>hl (x.key,x.val) (h ▸ List.mem_map.2 ⟨x,A,rfl⟩)
theorem anq {l:List (Value×Value)} (h:(l.map (·.1)).Nodup) {k a b:Value} (ha:(k,a)∈l) (hb:(k,b)∈l):a=b:=by
 induction l with
 | nil=>cases ha
 | cons p l ih =>
   simp only [List.map_cons,List.nodup_cons] at h
   rcases List.mem_cons.1 ha with e1 | h1 <;> rcases List.mem_cons.1 hb with e2 | h2
   . rw [<- e1] at e2; exact (Prod.mk.inj e2).2.symm
   . exact absurd (List.mem_map.2 ⟨_,h2,rfl⟩) (by rw [<- e1] at h; exact h.1)
   . exact absurd (List.mem_map.2 ⟨_,h1,rfl⟩) (by rw [<- e2] at h; exact h.1)
   . exact ih h.2 h1 h2
theorem aar {mt kt et:TypeId} {K:Value->Prop} (hm:P.underlying mt=some (.map kt et)) (hK:Keyed P kt K) {w:World} {b:Nat} {l:List (Value×Value)} (h:PairsAt w b l) (hl:∀ p∈l,K p.1) {k v:Value} (hk:K k) (hv:(k,v)∈l) (ok:Bool) :
 (Instr.lookup mt (.map (some b)) k ok).run P w=.ok (if ok then .tuple #[v,.bool true] else v) w:=by
 have B:=h.nodup;obtain ⟨es,c,hb,I,A⟩:=h
 rcases hK.find k hk es.toList (abd A hl) w with ⟨h1,h2⟩ | ⟨j,e,h1,h2,h3⟩
 ·
  exfalso;rw [<- A] at hv;obtain ⟨x,J,M⟩:=List.mem_map.1 hv;exact h1 x J (Prod.mk.inj M).1
 ·
  have E:e.val=v:=by
   have F:(k,e.val)∈l:=by rw [<- A,<- h3]; exact List.mem_map.2 ⟨e,List.mem_of_getElem? h2,rfl⟩
   exact anq B F hv
  cases ok <;> simp [Instr.lookup,run_underlying hm,Go.MapKept.run_getObj_map hb,hK.check k hk,h1,Result.andThen,E]
theorem aas {mt kt et:TypeId} {K:Value->Prop} (hm:P.underlying mt=some (.map kt et)) (hK:Keyed P kt K) {w:World} {b:Nat} {l:List (Value×Value)} (h:PairsAt w b l) (hl:∀ p∈l,K p.1) {k:Value} (hk:K k) (hn:∀ p∈l,p.1≠k)
 {z:Value} (hz:∀ w,(zeroValue et).run P w=.ok z w) (ok:Bool) :
 (Instr.lookup mt (.map (some b)) k ok).run P w=.ok (if ok then .tuple #[z,.bool false] else z) w:=by
 obtain ⟨es,c,hb,B,A⟩:=h
 rcases hK.find k hk es.toList (abd A hl) w with ⟨h1,h2⟩ | ⟨j,e,h1,h2,h3⟩
 . cases ok <;> simp [Instr.lookup,run_underlying hm,Go.MapKept.run_getObj_map hb,hK.check k hk,h2,Result.andThen,hz]
 . exfalso
   exact hn (e.key,e.val) (A ▸ List.mem_map.2 ⟨e,List.mem_of_getElem? h2,rfl⟩) h3
theorem sw {mt kt et:TypeId} {K:Value->Prop} (hm:P.underlying mt=some (.map kt et)) (hK:Keyed P kt K) {w:World} {b:Nat} {l:List (Value×Value)} (h:PairsAt w b l) (hl:∀ p∈l,K p.1) {k:Value} (hk:K k) (hn:∀ p∈l,p.1≠k) (v:Value) :
 ∃ w',(Instr.mapUpdate mt (.map (some b)) k v).run P w=.ok () w'/\PairsAt w' b (l++[(k,v)])/\Mod (λx=>x=b) w w':=by
 obtain ⟨es,c,hb,E,A⟩:=h
 rcases hK.find k hk es.toList (abd A hl) w with ⟨h1,h2⟩ | ⟨j,e,h1,h2,h3⟩
 ·
  have B:(Instr.mapUpdate mt (.map (some b)) k v).run P w=.ok () { w with heap:=w.heap.setIfInBounds b (.map (es.push ⟨k,v,c⟩) (c+1)) }:=by
   simp [Instr.mapUpdate,run_underlying hm,Go.MapKept.run_getObj_map hb,hK.check k hk,h2,Go.MapKept.run_setObj_map _ hb,Result.andThen]
  refine ⟨_,B,⟨es.push ⟨k,v,c⟩,c+1,(heap_set hb).1,stamped_push E h1,?_⟩,⟨rfl,rfl,rfl,by simp,λr _ F=>(heap_set hb).2 r F⟩⟩;rw [Array.toList_push,List.map_append,A]; rfl
 . exfalso
   exact hn (e.key,e.val) (A ▸ List.mem_map.2 ⟨e,List.mem_of_getElem? h2,rfl⟩) h3
theorem aiw {mt kt et:TypeId} {K:Value->Prop} (hm:P.underlying mt=some (.map kt et)) (hK:Keyed P kt K) {w:World} {b:Nat} {l l1 l2:List (Value×Value)} (h:PairsAt w b l) (hl:∀ p∈l,K p.1) {k v0:Value} (hk:K k) (he:l=l1++(k,v0) :: l2) (v:Value) :
 ∃ w',(Instr.mapUpdate mt (.map (some b)) k v).run P w=.ok () w'/\PairsAt w' b (l1++(k,v) :: l2)/\Mod (λx=>x=b) w w':=by
 have F:=h.nodup;obtain ⟨es,c,hb,N,A⟩:=h
 rcases hK.find k hk es.toList (abd A hl) w with ⟨h1,h2⟩ | ⟨j,e,h1,h2,h3⟩
 ·
  exfalso;have:(k,v0)∈es.toList.map (λe=>(e.key,e.val)):=by rw [A,he]; simp
  obtain ⟨x,O,R⟩:=List.mem_map.1 this;exact h1 x O (Prod.mk.inj R).1
 ·
  have U:es[j]?=some e:=by simpa using h2
  have I:(Instr.mapUpdate mt (.map (some b)) k v).run P w=.ok () { w with heap:=w.heap.setIfInBounds b (.map (es.modify j λe=>{ e with key:=k,val:=v }) c) }:=by
   simp [Instr.mapUpdate,run_underlying hm,Go.MapKept.run_getObj_map hb,hK.check k hk,h1,U,h3,hK.stays k hk,Go.MapKept.run_setObj_map _ hb,Result.andThen]
  have J:∀ E,es[j]?=some E->({ E with key:=k,val:=v }:MapEntry).key=E.key:=λE B=>by rw [U] at B; cases B; exact h3.symm
  refine ⟨_,I,⟨_,c,(heap_set hb).1,stamped_modify N _ _ (λ_ _=>rfl) (λE _ B=>J E B),?_⟩,⟨rfl,rfl,rfl,by simp,λr _ hr=>(heap_set hb).2 r hr⟩⟩;have X:l[j]?=some (k,e.val):=by rw [<- A,List.getElem?_map,h2,Option.map_some,h3]
  have M:l1.length=j:=by
   have O:l[l1.length]?=some (k,v0):=by rw [he]; simp
   have Y:(l.map (·.1))[l1.length]?=some k:=by rw [List.getElem?_map,O]; rfl
   have Z:(l.map (·.1))[j]?=some k:=by rw [List.getElem?_map,X]; rfl
   obtain ⟨p1,q1⟩:=List.getElem?_eq_some_iff.1 Y;obtain ⟨p2,q2⟩:=List.getElem?_eq_some_iff.1 Z
   rcases Nat.lt_trichotomy l1.length j with h | h | h
   . exact absurd (q1.trans q2.symm) (List.pairwise_iff_getElem.1 F _ _ p1 p2 h)
   . exact h
   . exact absurd (q2.trans q1.symm) (List.pairwise_iff_getElem.1 F _ _ p2 p1 h)
  apply List.ext_getElem?;intro i;rw [List.getElem?_map,Array.getElem?_toList,Array.getElem?_modify]
  by_cases hi:j=i
  . subst hi
    rw [if_pos rfl,U,<- M];simp
  ·
   rw [if_neg hi];have h1:(es[i]?.map λe=>(e.key,e.val))=l[i]?:=by rw [<- A,List.getElem?_map,Array.getElem?_toList]
   rw [h1,he];have am:i≠l1.length:=λe=>hi (e ▸ M.symm)
   rcases Nat.lt_or_ge i l1.length with hlt | hge
   . rw [List.getElem?_append_left hlt,List.getElem?_append_left hlt]
   . rw [List.getElem?_append_right hge,List.getElem?_append_right hge]
     obtain ⟨m,ab⟩:∃ m,i - l1.length=m+1:=⟨i - l1.length - 1,by omega⟩;rw [ab,List.getElem?_cons_succ,List.getElem?_cons_succ]
end MapG
namespace TapeW
open Go.RowKit Go.MapKept OctMath RecMath TapeMath DskW SegW MapG
def ol:List UInt8:=[116,97,112,101,45]
def Waiting (D:DiskD) (R:SegD):Prop:=∀ x∈D.waits,R.synced < R.e/\∃ i,i < R.n/\R.synced < R.b+i * R.size+R.size/\∃ f,D.find (af R.head (R.b+i * R.size))=some f/\f.blk=x.blk
def uu (l:List (Nat×Msg)):List Value:=l.map λp=>.int .i64 (p.1:Int)
def aby (l:List (Nat×Msg)):List (Value×Value):=l.map λp=>(.int .i64 (p.1:Int),.int .i64 ((bg p.2).length:Int))
structure OwnD where
 blk:Nat
 rb:Nat
 sums:Nat
 idv:Value
 mB:Nat
 last:Int
 recs:List (Nat×Msg)
def OwnD.cells (T:OwnD):Array Value:=#[.pointer (some ⟨T.rb,0,none⟩),.pointer (some ⟨T.sums,0,none⟩),T.idv,.map (some T.mB),.int .i64 T.last]
def OwnD.foot (T:OwnD) (k:Nat):Prop:=k=T.blk\/k=T.sums\/k=T.mB\/T.idv.ownBlock=some k
structure OwnAt (base:Nat) (w:World) (T:OwnD):Prop where
 cells:w.heap[T.blk]?=some (.cells T.cells 99 (0,0))
 ids:w.ownsRow base 3 1 T.idv T.recs.length (uu T.recs)
 sizes:PairsAt w T.mB (aby T.recs)
 tabs:CrcW.Tabs w T.sums
 low:T.sums < w.heap.size/\base<=T.sums/\base<=T.blk/\base<=T.mB
 apart:T.blk≠T.sums/\T.blk≠T.mB/\T.sums≠T.mB/\∀ k,T.idv.ownBlock=some k->k≠T.blk/\k≠T.sums/\k≠T.mB
theorem OwnAt.lt {base:Nat} {w:World} {T:OwnD} (h:OwnAt base w T) {k:Nat} (hk:T.foot k):k < w.heap.size:=by
 rcases hk with hk | hk | hk | hk
 . rw [hk]; exact (Array.getElem?_eq_some_iff.1 h.cells).1
 . rw [hk]; exact h.low.1
 . rw [hk]; exact h.sizes.lt
 . rcases h.ids.2 with ⟨e,_⟩ | ⟨g,cap,cur,e,_,hg,_⟩
   . rw [e] at hk; cases hk
   . rw [e] at hk; cases hk; exact (Array.getElem?_eq_some_iff.1 hg).1
theorem OwnAt.base_le {base:Nat} {w:World} {T:OwnD} (h:OwnAt base w T) {k:Nat} (hk:T.foot k):base<=k:=by
 rcases hk with hk | hk | hk | hk
 . rw [hk]; exact h.low.2.2.1
 . rw [hk]; exact h.low.2.1
 . rw [hk]; exact h.low.2.2.2
 . exact ay h.ids k hk
theorem zf {M:Nat->Prop} {w w':World} {B:Nat} (h:CrcW.Tabs w B) (hB:B < w.heap.size) (hm:Mod M w w') (hM:¬ M B):CrcW.Tabs w' B :=
 λk j hk A=>by rw [hm.cell (by simpa using hB) (by simpa using hM)]; exact h k j hk A
theorem OwnAt.mod {base:Nat} {w w':World} {T:OwnD} {M:Nat->Prop} (h:OwnAt base w T) (hm:Mod M w w') (hM:∀ k,T.foot k->¬ M k):OwnAt base w' T :=
 { h with
  cells:=(hm.block _ (h.lt (.inl rfl)) (hM _ (.inl rfl))).trans h.cells
  ids:=SegW.ownsRow_mod h.ids hm (λk hk=>hM k (.inr (.inr (.inr hk))))
  sizes:=h.sizes.mod hm (hM _ (.inr (.inr (.inl rfl))))
  tabs:=zf h.tabs h.low.1 hm (hM _ (.inr (.inl rfl)))
  low:=⟨Nat.lt_of_lt_of_le h.low.1 hm.size,h.low.2⟩ }
theorem OwnAt.below {base:Nat} {w w':World} {T:OwnD} (h:OwnAt base w T) (hb:Below w.heap.size w w'):OwnAt base w' T :=
 h.mod (M:=λ_=>False) (Mod.of_below hb) (λ_ _ h=>h)
theorem OwnAt.cell {base:Nat} {w:World} {T:OwnD} (h:OwnAt base w T) (k:Nat) (v:Value) (hv:T.cells[k]?=some v):w.cell? ⟨T.blk,k,Option.none⟩=some v:=by
 unfold World.cell?; rw [show w.heap[(⟨T.blk,k,Option.none⟩:Addr).block]?=_ from h.cells]; simpa using hv
structure TapeD where
 O:OwnD
 D:DiskD
 R:SegD
 its:List TapeMath.Item
def TapeD.foot (T:TapeD) (k:Nat):Prop:=T.O.foot k\/T.D.foot k\/T.R.foot k
structure TapeAt (base:Nat) (w:World) (T:TapeD):Prop where
 own:OwnAt base w T.O
 rb:T.O.rb=T.R.blk
 recs:T.O.recs=gy T.R.b T.its
 away:∀ k,T.O.foot k->¬ T.D.foot k/\¬ T.R.foot k
 whole:Whole base w T.D T.R
 head:T.R.head=ol
 size:T.R.size=1024
 txt:T.R.txt=fu T.its
 fits:Fits T.R.b T.its
 last:∀ p,T.O.recs.getLast?=some p->T.O.last=p.2.born
 wait:Waiting T.D T.R
theorem TapeAt.lt {base:Nat} {w:World} {T:TapeD} (h:TapeAt base w T) {k:Nat} (hk:T.foot k):k < w.heap.size:=by
 rcases hk with hk | hk | hk
 . exact h.own.lt hk
 . exact h.whole.dsk.lt hk
 . exact h.whole.seg.lt hk
theorem TapeAt.base_le {base:Nat} {w:World} {T:TapeD} (h:TapeAt base w T) {k:Nat} (hk:T.foot k):base<=k:=by
 rcases hk with hk | hk | hk
 . exact h.own.base_le hk
 . exact h.whole.dsk.base_le hk
 . rcases hk with hk | hk
   . rw [hk]; exact h.whole.seg.above
   . exact ay h.whole.seg.row k hk
theorem TapeAt.mod {base:Nat} {w w':World} {T:TapeD} {M:Nat->Prop} (h:TapeAt base w T) (hm:Mod M w w') (hM:∀ k,T.foot k->¬ M k):TapeAt base w' T :=
 { h with
  own:=h.own.mod hm (λk hk=>hM k (.inl hk))
  whole:=h.whole.mod hm (λk hk=>hM k (.inr (.inl hk))) (λk hk=>hM k (.inr (.inr hk))) }
theorem TapeAt.below {base:Nat} {w w':World} {T:TapeD} (h:TapeAt base w T) (hb:Below w.heap.size w w'):TapeAt base w' T :=
 h.mod (M:=λ_=>False) (Mod.of_below hb) (λ_ _ h=>h)
theorem aj5 {base:Nat} {w:World} {R:SegD} (h:SegAt base w R) (hs:R.size=1024):R.room=ik R.e:=by
 have A:=h.mult;rw [hs] at A;unfold SegD.room ik SegD.e;rw [hs]
 rcases Nat.eq_zero_or_pos R.n with h0 | hp
 . rw [if_neg (by omega),(h.empty h0).2,(h.empty h0).1]; rfl
 . obtain ⟨l1,l2,B⟩:=h.long hp
   rw [hs] at l1 l2
   split <;> omega
theorem room_le (e:Nat):1<=ik e/\ik e<=1024:=by unfold ik; omega
theorem Waiting.app {base:Nat} {w w':World} {D D':DiskD} {R R':SegD} {s:List UInt8} (h:Waiting D R) (hR:SegAt base w R) (hR':SegAt base w' R') (ha:AppOk D D' R R' s) (h0:s≠[]) (he:R'={ R with n:=R'.n,pv:=R'.pv,txt:=R.txt++s }) (hp:0 < R'.n):Waiting D' R':=by
 have J:R'.synced=R.synced:=by rw [he]
 have B:R'.b=R.b:=by rw [he]
 have E:R'.size=R.size:=by rw [he]
 have M:R'.head=R.head:=by rw [he]
 have I:R'.txt=R.txt++s:=by rw [he]
 have N:0 < s.length:=List.length_pos_iff.2 h0;have O:R'.e=R.e+s.length:=by unfold SegD.e; rw [B,I,List.length_append]; omega
 have U:=hR.syn;obtain ⟨l1,l2,Z⟩:=hR'.long hp
 have X:R.n<=R'.n:=by
  rcases Nat.lt_or_ge R'.n R.n with hlt | hge
  ·
   exfalso;obtain ⟨k1,k2,k3⟩:=hR.long (by omega);have:R'.n * R.size<=(R.n - 1) * R.size:=Nat.mul_le_mul_right _ (by omega);rw [I,List.length_append,E] at l2;omega
  . exact hge
 obtain ⟨f,o,F,Y⟩:=ha.waits;intro x A;rw [Y] at A;rw [J,B,E,M,O];refine ⟨by omega,?_⟩
 rcases List.mem_append.1 A with A | A
 . obtain ⟨g1,i,g2,g3,f0,g4,g5⟩:=h x A
   obtain ⟨f1,g6,g7,_⟩:=ha.blks _ _ g4;exact ⟨i,by omega,g3,f1,g6,g7.trans g5⟩
 ·
  rw [List.mem_singleton] at A;subst A;refine ⟨R'.n - 1,by omega,?_,f,?_,rfl⟩
  ·
   have h1:=vv (s:=R.size) hp;have:R'.e=R'.b+R'.txt.length:=rfl;rw [E] at l2;rw [B] at this;omega
  . unfold SegD.lastP at F
    rw [B,E] at F;exact F
theorem Waiting.none {D:DiskD} {R:SegD} (h:D.waits=[]):Waiting D R:=λx A=>by rw [h] at A; cases A
theorem Waiting.sync {base:Nat} {w:World} {D:DiskD} {R:SegD} (h:Waiting D R) (hR:SegAt base w R) (hD:DiskAt base w D) (wv:Value):(R.syncD D wv).waits=[]:=by
 unfold SegD.syncD
 by_cases hn:R.syncL=[]
 ·
  rw [if_pos hn];have F:=(aew hR).1 hn
  cases hw:D.waits with
  | nil=>rfl
  | cons x l =>
    have:=(h x (by rw [hw]; exact .head _)).1;omega
 ·
  rw [if_neg hn];unfold DiskD.lasts;simp only;rw [List.filter_eq_nil_iff];intro x E;obtain ⟨g1,i,g2,g3,f,g4,g5⟩:=h x E;simp only [Bool.not_eq_true,Bool.not_eq_false',Bool.not_eq_eq_eq_not,Bool.not_true,Bool.not_false];have A:=lm g4
  have B:af R.head (R.b+i * R.size)∈R.syncL:=by
   unfold SegD.syncL SegD.syncK;rw [if_pos g1];exact List.mem_map.2 ⟨i,List.mem_filter.2 ⟨List.mem_range.2 g2,decide_eq_true g3⟩,rfl⟩
  have:D.files.any (λp=>decide (p.1∈R.syncL) && decide (x.blk=p.2.blk))=true:=List.any_eq_true.2 ⟨_,A,by rw [decide_eq_true B,decide_eq_true g5.symm]; rfl⟩;simp [this]
open RecW
theorem TapeAt.c0 {base:Nat} {w:World} {T:TapeD} (h:TapeAt base w T):w.cell? ⟨T.O.blk,0,none⟩=some (.pointer (some ⟨T.R.blk,0,none⟩)):=h.own.cell 0 _ (by rw [<- h.rb]; rfl)
theorem begin_any {base:Nat} {T:TapeD} (w:World) (h:TapeAt base w T) :
 Calls Tryz.prog 23 #[.pointer (some ⟨T.O.blk,0,none⟩)] w λe w'=>e=.returned (.int .i64 (T.R.b:Int))/\w'=w:=by
 have A:=zq (SegW.begin_any w h.whole.seg);have c0:=h.c0;clear h;go_enter Tryz.func23,Tryz.ntmps23;go_wp2_with fail;refine A.o.mono ?_;rintro e w' ⟨rfl,rfl⟩;go_wp2_with fail;go_ret;exact ⟨rfl,rfl⟩
theorem end_any {base:Nat} {T:TapeD} (w:World) (h:TapeAt base w T) :
 Calls Tryz.prog 22 #[.pointer (some ⟨T.O.blk,0,none⟩)] w λe w'=>e=.returned (.int .i64 (T.R.e:Int))/\w'=w:=by
 have A:=zq (SegW.end_any w h.whole.seg);have c0:=h.c0;clear h;go_enter Tryz.func22,Tryz.ntmps22;go_wp2_with fail;refine A.o.mono ?_;rintro e w' ⟨rfl,rfl⟩;go_wp2_with fail;go_ret;exact ⟨rfl,rfl⟩
theorem synced_any {base:Nat} {T:TapeD} (w:World) (h:TapeAt base w T) :
 Calls Tryz.prog 32 #[.pointer (some ⟨T.O.blk,0,none⟩)] w λe w'=>e=.returned (.int .i64 (T.R.synced:Int))/\w'=w:=by
 have A:=zq (SegW.synced_any w h.whole.seg);have c0:=h.c0;clear h;go_enter Tryz.func32,Tryz.ntmps32;go_wp2_with fail;refine A.o.mono ?_;rintro e w' ⟨rfl,rfl⟩;go_wp2_with fail;go_ret;exact ⟨rfl,rfl⟩
def aag (l:List (Nat×Msg)) (id:Int):Int:=((l.find? λp=>decide ((p.1:Int)=id)).map λp=>((bg p.2).length:Int)).getD 0
theorem keyedI:Keyed Tryz.prog 3 (IsKey (.int .i64)):=Keyed.of_isKey Tryz.underlying3
theorem anr (l:List (Nat×Msg)):∀ p∈aby l,IsKey (.int .i64) p.1:=λp hp=>by
 obtain ⟨q,_,rfl⟩:=List.mem_map.1 hp; rfl
theorem afp {base:Nat} {w:World} {T:OwnD} (h:OwnAt base w T) (id:Int) :
 (Instr.lookup 97 (.map (some T.mB)) (.int .i64 id) false).run Tryz.prog w=.ok (.int .i64 (aag T.recs id)) w:=by
 have A:=Tryz.underlying97;unfold aag
 cases hf:T.recs.find? (λp=>decide ((p.1:Int)=id)) with
 | none =>
   have B:=List.find?_eq_none.1 hf
   exact aas A keyedI h.sizes (anr _) (k:=.int .i64 id) rfl (λp hp=>by
    obtain ⟨q,E,rfl⟩:=List.mem_map.1 hp;intro e;exact B q E (by simpa using e)) (z:=.int .i64 0) (λw=>by kernel_rfl) false
 | some q =>
   obtain ⟨h1,a,b,F,I⟩:=List.find?_eq_some_iff_append.1 hf;exact aar A keyedI h.sizes (anr _) (k:=.int .i64 id) (v:=.int .i64 ((bg q.2).length:Int)) rfl (List.mem_map.2 ⟨q,by rw [F]; simp,by rw [show ((q.1:Int))=id by simpa using h1]⟩) false
theorem size_any {base:Nat} {T:OwnD} (id:Int) (w:World) (h:OwnAt base w T) :
 Calls Tryz.prog 34 #[.pointer (some ⟨T.blk,0,none⟩),.int .i64 id] w λe w'=>e=.returned (.int .i64 (aag T.recs id))/\w'=w:=by
 have A:=afp h id;have c3:w.cell? ⟨T.blk,3,none⟩=some (.map (some T.mB)):=h.cell 3 _ rfl;clear h;generalize aag T.recs id=z at *
 go_enter Tryz.func34,Tryz.ntmps34;go_wp2_with fail;go_ret;exact ⟨rfl,rfl⟩
theorem apr {w:World} {l:List (Nat×Msg)} {mB:Nat} (h:PairsAt w mB (aby l)) (id:Nat) (m:Msg) (hn:∀ p∈l,p.1≠id) :
 ∃ w',(Instr.mapUpdate 97 (.map (some mB)) (.int .i64 (id:Int)) (.int .i64 ((bg m).length:Int))).run Tryz.prog w=.ok () w'/\PairsAt w' mB (aby (l++[(id,m)]))/\Mod (λk=>k=mB) w w':=by
 obtain ⟨w',h1,A,B⟩:=sw Tryz.underlying97 keyedI h (anr _) (k:=.int .i64 (id:Int)) rfl (λp hp=>by
  obtain ⟨q,E,rfl⟩:=List.mem_map.1 hp;intro e;have:(q.1:Int)=(id:Int):=by simpa using e
  exact hn q E (by omega)) (.int .i64 ((bg m).length:Int))
 refine ⟨w',h1,?_,B⟩;unfold aby at A ⊢;rw [List.map_append]; exact A
theorem adm {base:Nat} {w:World} {v:Value} {n:Nat} {xs:List Value} (h:w.ownsRow base 3 1 v n xs) (x:Int) (hn:n<=1073741824) (hbase:base<=w.heap.size) :
 ∃ F I,(Builtin.append_ #[65,65] 65 #[v,.slice (some ⟨w.heap.size,0,none⟩) 1 1]).run Tryz.prog (w.alloc (.cells #[.int .i64 x] 3))=.ok F I /\
  I.ownsRow base 3 1 F (n+1) (xs++[.int .i64 x])/\Mod (λk=>v.ownBlock=some k) w I/\(∃ a cp,F=.slice a (n+1) cp)/\∀ k,F.ownBlock=some k->v.ownBlock=some k\/w.heap.size<=k:=by
 have E:Below w.heap.size w (w.alloc (.cells #[.int .i64 x] 3)):=(Below.refl _ _).alloc (Nat.le_refl _) _;have N:=SegW.ownsRow_mod (M:=λ_=>False) h (Mod.of_below E) (λ_ _ h=>h)
 obtain ⟨i0,O,R,U,X⟩:∃ i,Tryz.prog.info? 3=some i/\i.zero=some (.int .i64 0)/\i.size=1/\i.bytes=8:=by
  have:=(show (Tryz.prog.info? 3).map (λi=>(i.zero,i.size,i.bytes))=some (some (.int .i64 0),1,8) by kernel_rfl)
  cases hh:Tryz.prog.info? 3 with
  | none=>rw [hh] at this; cases this
  | some i=>rw [hh] at this; have Y:=Option.some.inj this; exact ⟨i,rfl,congrArg (·.1) Y,congrArg (·.2.1) Y,congrArg (·.2.2) Y⟩
 obtain ⟨F,I,hr,B,A,_,Z⟩:=run_append_own_at (P:=Tryz.prog) _ base 65 65 3 i0 (.int .i64 0) 1 8 Tryz.underlying65 O R U X rfl (by omega) _ _ _ N
  ⟨w.heap.size,0,none⟩ 1 1 [.int .i64 x] rfl (λj u hu=>by
   have J:(⟨w.heap.size,0,none⟩:Addr).add j=⟨w.heap.size,j,none⟩:=by unfold Addr.add; split <;> simp_all
   rw [J,World.cell?_alloc_new]
   match j,hu with
   | 0,hu=>exact hu
   | j+1,hu=>cases hu) (λu hu=>by
   rw [List.mem_singleton] at hu; subst hu; rfl) (by unfold maxLen; omega) (by omega) (Nat.le_trans hbase E.size)
 have ac:(w.alloc (.cells #[.int .i64 x] 3)).heap.size=w.heap.size+1:=World.size_alloc _ _;refine ⟨F,I,hr,B,(Mod.of_below E).trans ⟨A.os,A.tape,A.output,A.size,λk hk ab=>A.block k hk (λe=>ab e.symm)⟩,kg B,λk hk=>?_⟩
 rcases Z with e | e
 . exact .inl (e ▸ hk)
 . rw [e] at hk; cases hk; right; omega
theorem wpList_append_run {P:Program} (w:World) {ops:Array Oper} {rest:List Oper} {o:Oper} {a:Act} {Q:Exit->Act->World->Prop} (hgd:o.guard=none) (s x:Operand) (t tn:TypeId)
 (ho:o.op=.call { callee:=.builtin .append,args:=#[s,x],argTypes:=#[t,tn] }) (vs vx:Value) (hs:a.eval s=vs) (hx:a.eval x=vx)
 (v':Value) (w':World) (hr:(Builtin.append_ #[t,tn] o.type #[vs,vx]).run P w=.ok v' w') (h:wpList P ops Q rest (a.put o.dst v') w'):wpList P ops Q (o :: rest) a w:=by
 refine wpList_plain hgd λK A=>?_
 unfold Oper.wp;simp [execOp,ho,resolve,invoke,builtin,hs,hx,hr,Result.andThen];exact A _ _ h
def OwnD.add (T:OwnD) (idv:Value) (id:Nat) (m:Msg):OwnD:={ T with idv:=idv,last:=m.born,recs:=T.recs++[(id,m)] }
theorem agp {base:Nat} {T:OwnD} (id:Nat) (m:Msg) (a:Option Addr) (c:Nat) (W:World) (h:OwnAt base W T) (h0:m.kind≠0) (hn:∀ p∈T.recs,p.1≠id) (hl:T.recs.length<=1048576) (hbase:base<=W.heap.size) :
 Calls Tryz.prog 119 #[.pointer (some ⟨T.blk,0,none⟩),.int .i64 (id:Int),.int .i64 ((bg m).length:Int),.agg (ae m a c)] W λe w'=>e=.returned (.tuple #[]) /\
  ∃ idv,OwnAt base w' (T.add idv id m)/\Mod T.foot W w'/\∀ k,idv.ownBlock=some k->T.foot k\/W.heap.size<=k:=by
 have a6:Zq (Below W.heap.size W (W.alloc (.cells (ae m a c) 69))):=(Below.refl _ W).alloc (Nat.le_refl _) _;have HX:Zq (RecW.Boxed (W.alloc (.cells (ae m a c) 69)) W.heap.size (ae m a c)):=RecW.Boxed.new W _ _;have a7:(W.alloc (.cells (ae m a c) 69)).heap.size=W.heap.size+1:=World.size_alloc _ _;have E:=zq (h.below a6.o);have J:Zq (∀ k,T.foot k->k < W.heap.size):=λk hk=>h.lt hk
 have b9:(ae m a c).size=10:=rfl;have ca:=zq hbase;clear h hbase;go_enter Tryz.func119,Tryz.ntmps119;go_upto_region 1 with fail
 generalize W.alloc (.cells (ae m a c) 69)=w1 at *
 clear b9;obtain ⟨A,hA⟩:∃ A,W.heap.size=A:=⟨_,rfl⟩;rw [hA] at HX a7 ⊢;have k0:w1.cell? ⟨A,0,none⟩=some (.int .i64 m.kind):=HX.o 0 _ rfl;obtain ⟨v',O,hr,ao,R,⟨av,cv,bh⟩,bj⟩:=adm E.o.ids (id:Int) (by omega) (Nat.le_trans ca.o a6.o.size);obtain ⟨a0,cd,ab⟩:=kg E.o.ids;have B:=E.o.apart;have a8:∀ k,T.idv.ownBlock=some k->k < A:=λk hk=>by have:=J.o k (.inr (.inr (.inr hk))); omega
 have ba:∀ k,k < w1.heap.size->T.idv.ownBlock≠some k->O.heap[k]?=w1.heap[k]?:=λk hk Z=>R.block k hk Z
 have ad:O.heap[T.blk]?=some (.cells T.cells 99 (0,0)):=(ba _ (E.o.lt (.inl rfl)) (λe=>(B.2.2.2 _ e).1 rfl)).trans E.o.cells;have bk:PairsAt O T.mB (aby T.recs):=E.o.sizes.mod R (λe=>(B.2.2.2 _ e).2.2 rfl);have bl:CrcW.Tabs O T.sums:=zf E.o.tabs E.o.low.1 R (λe=>(B.2.2.2 _ e).2.1 rfl);have ak:(O.setCell ⟨T.blk,2,none⟩ v').heap[T.blk]?=some (.cells #[.pointer (some ⟨T.rb,0,none⟩),.pointer (some ⟨T.sums,0,none⟩),v',.map (some T.mB),.int .i64 T.last] 99 (0,0)):=heap_set1 ad _ rfl;have ac:Mod (λk=>k=T.blk) O (O.setCell ⟨T.blk,2,none⟩ v'):=jm _ _ _ _;have bm:=bk.mod ac (λe=>B.2.1 e.symm);obtain ⟨F,cw,ap,U⟩:=apr bm id m hn;have bo:A < O.heap.size:=by have:=R.size; omega
 have bp:∀ (w:World),w.heap[A]?=w1.heap[A]?->RecW.Boxed w A (ae m a c):=λw e i v hv=>by
  rw [World.cell?_of_block (w:=w1) e]; exact HX.o i v hv
 have br:=ba A (by omega) (λe=>by have:=a8 A e; omega);have bs:(O.setCell ⟨T.blk,2,none⟩ v').heap[A]?=O.heap[A]?:=ac.block A bo (λe=>by have:=J.o _ (.inl rfl); omega);have ar:F.heap[A]?=w1.heap[A]?:=((U.block A (by have:=ac.size; omega) (λe=>by have:=J.o _ (.inr (.inr (.inl rfl))); omega)).trans bs).trans br;have k5:F.cell? ⟨A,5,none⟩=some (.int .i64 m.born):=bp F ar 5 _ rfl;have c2:w1.cell? ⟨T.blk,2,none⟩=some (.slice a0 T.recs.length cd):=by rw [<- ab]; exact E.o.cell 2 _ rfl
 have c28:O.cell? ⟨T.blk,2,none⟩=some T.idv:=by rw [Lib.cell_of_heap ad]; rfl
 have f28:O.frozen? ⟨T.blk,2,none⟩=false:=Lib.frozen_of_heap ad 2;have cy:(O.setCell ⟨T.blk,2,none⟩ v').cell? ⟨T.blk,3,none⟩=some (.map (some T.mB)):=by rw [Lib.cell_of_heap ak]; rfl
 have X:F.heap[T.blk]?=some (.cells #[.pointer (some ⟨T.rb,0,none⟩),.pointer (some ⟨T.sums,0,none⟩),v',.map (some T.mB),.int .i64 T.last] 99 (0,0)):=(U.block _ (Array.getElem?_eq_some_iff.1 ak).1 B.2.1).trans ak;have cp:F.cell? ⟨T.blk,4,none⟩=some (.int .i64 T.last):=by rw [Lib.cell_of_heap X]; rfl
 have cq:F.frozen? ⟨T.blk,4,none⟩=false:=Lib.frozen_of_heap X 4;have ce:=zq bj;have bw:=zq ao;have cf:=zq R;have al:=zq ac;have Y:=zq U;have bz:=zq ap;have b0:=zq X;have cg:=zq bl;have ci:=zq B;have c6:=zq a8;have bb:=zq hA;have cj:=zq a7;have c7:=zq bh;have am:Zq (∀ k,T.foot k->k < O.heap.size):=λk hk=>by have h1:=J.o k hk; have h2:=R.size; omega
 rw [ab] at hr;clear ab bj ao R ac U ap ad ak X bl B a8 br bs ar bp bo ba bk bm hn hl hA a7;generalize (bg m).length=L at *
 subst bh;have HR:=zq hr;clear hr;go_wp2_with (at_builtin; refine wpList_append_run _ rfl (.tmp 15) (.tmp 17) 65 65 rfl _ _ rfl rfl _ _ HR.o ?_);go_end0;have B:=ci.o;have I:Mod (λk=>k=T.blk) F (F.setCell ⟨T.blk,4,none⟩ (.int .i64 m.born)):=jm _ _ _ _;have a1:∀ k,(Value.slice av (T.recs.length+1) cv).ownBlock=some k->(T.idv.ownBlock=some k\/A < k):=λk hk=>(ce.o k hk).imp_right λh=>by have:=cj.o; omega
 have Z:∀ k,(Value.slice av (T.recs.length+1) cv).ownBlock=some k->k≠T.blk/\k≠T.sums/\k≠T.mB:=λk hk=>by
  rcases a1 k hk with h | h
  . exact B.2.2.2 k h
  ·
   have h1:=J.o _ (.inl rfl);have h2:=J.o _ (.inr (.inl rfl));have h3:=J.o _ (.inr (.inr (.inl rfl)));have h4:=bb.o;omega
 have db:=al.o.size;have cr:=Y.o.size;have cs:=I.size;have b1:Mod T.foot w1 O:=cf.o.mono (λk _ hk=>.inr (.inr (.inr hk)));have b2:=al.o.mono (N:=T.foot) (λk _ hk=>.inl hk);have bc:=Y.o.mono (N:=T.foot) (λk _ hk=>.inr (.inr (.inl hk)));have an:=I.mono (N:=T.foot) (λk _ hk=>.inl hk);have hm:Mod T.foot W (F.setCell ⟨T.blk,4,none⟩ (.int .i64 m.born)):=((((Mod.of_below (M:=T.foot) (bb.o ▸ a6.o)).trans b1).trans b2).trans bc).trans an;have ck:=SegW.ownsRow_mod bw.o al.o (λk hk e=>(Z k hk).1 e);have b3:=SegW.ownsRow_mod ck Y.o (λk hk e=>(Z k hk).2.2 e);have b4:=SegW.ownsRow_mod b3 I (λk hk e=>(Z k hk).1 e);have cm:=zf cg.o (am.o _ (.inr (.inl rfl))) al.o (λe=>B.1 e.symm);have b5:=zf cm (by have:=am.o _ (.inr (.inl rfl)); omega) Y.o (λe=>B.2.2.1 e);have b6:=zf b5 (by have:=am.o _ (.inr (.inl rfl)); omega) I (λe=>B.1 e.symm);have b7:=E.o.low;refine ⟨rfl,_,⟨heap_set1 b0.o _ rfl,?_,bz.o.mod I (λe=>B.2.1 e.symm),b6,⟨by have:=am.o _ (.inr (.inl rfl)); show T.sums < _; omega,b7.2⟩,B.1,B.2.1,B.2.2.1,Z⟩,hm,λk hk=>?_⟩
 ·
  show World.ownsRow _ base _ 1 _ (T.recs++[(id,m)]).length (uu (T.recs++[(id,m)]));unfold uu;rw [List.length_append,List.map_append];exact b4
 . rcases a1 k hk with h | h
   . exact .inl (.inr (.inr (.inr h)))
   . right; have:=bb.o; omega
end TapeW
namespace RecW
open Go.RowKit OctMath RecMath NameMath
open OctW (Rd One Texts fw bn j5 rq)
theorem heap_set1 {w:World} {B i:Nat} {cs:Array Value} {ty:TypeId} (h:w.heap[B]?=some (.cells cs ty (0,0))) (v:Value) {cs':Array Value} (he:cs.setIfInBounds i v=cs'):(w.setCell ⟨B,i,none⟩ v).heap[B]?=some (.cells cs' ty (0,0)):=DskW.heap_set1 h v he
def yh (w:World) (B:Nat) (x0 x1 x2 x3 x4 x5 x6 x7 x8 x9:Value):World:=(((((((((w.setCell ⟨B,0,none⟩ x0).setCell ⟨B,1,none⟩ x1).setCell ⟨B,2,none⟩ x2).setCell ⟨B,3,none⟩ x3).setCell ⟨B,4,none⟩ x4).setCell ⟨B,5,none⟩ x5).setCell ⟨B,6,none⟩ x6).setCell ⟨B,7,none⟩ x7).setCell ⟨B,8,none⟩ x8).setCell ⟨B,9,none⟩ x9
theorem ten (z:Array Value) (h:z.size=10):∃ x0 x1 x2 x3 x4 x5 x6 x7 x8 x9:Value,z=#[x0,x1,x2,x3,x4,x5,x6,x7,x8,x9]:=by
 rcases z with ⟨l⟩
 rcases l with _ | ⟨x0,_ | ⟨x1,_ | ⟨x2,_ | ⟨x3,_ | ⟨x4,_ | ⟨x5,_ | ⟨x6,_ | ⟨x7,_ | ⟨x8,_ | ⟨x9,_ | ⟨y,l⟩⟩⟩⟩⟩⟩⟩⟩⟩⟩⟩ <;> simp at h
 exact ⟨x0,x1,x2,x3,x4,x5,x6,x7,x8,x9,rfl⟩
theorem mi {w:World} {B:Nat} {z:Array Value} {t:TypeId} (hz:z.size=10) (h:w.heap[B]?=some (.cells z t (0,0))) (x0 x1 x2 x3 x4 x5 x6 x7 x8 x9:Value):(yh w B x0 x1 x2 x3 x4 x5 x6 x7 x8 x9).heap[B]?=some (.cells #[x0,x1,x2,x3,x4,x5,x6,x7,x8,x9] t (0,0)):=by
 obtain ⟨z0,R,z2,z3,z4,z5,U,X,Y,z9,rfl⟩:=ten z hz;unfold yh;have h0:=heap_set1 (i:=0) h x0 rfl;simp only [List.setIfInBounds_toArray,List.set_cons_zero,List.set_cons_succ] at h0;have h1:=heap_set1 (i:=1) h0 x1 rfl;simp only [List.setIfInBounds_toArray,List.set_cons_zero,List.set_cons_succ] at h1;have A:=heap_set1 (i:=2) h1 x2 rfl;simp only [List.setIfInBounds_toArray,List.set_cons_zero,List.set_cons_succ] at A;have E:=heap_set1 (i:=3) A x3 rfl;simp only [List.setIfInBounds_toArray,List.set_cons_zero,List.set_cons_succ] at E;have F:=heap_set1 (i:=4) E x4 rfl;simp only [List.setIfInBounds_toArray,List.set_cons_zero,List.set_cons_succ] at F;have I:=heap_set1 (i:=5) F x5 rfl;simp only [List.setIfInBounds_toArray,List.set_cons_zero,List.set_cons_succ] at I;have J:=heap_set1 (i:=6) I x6 rfl;simp only [List.setIfInBounds_toArray,List.set_cons_zero,List.set_cons_succ] at J;have M:=heap_set1 (i:=7) J x7 rfl;simp only [List.setIfInBounds_toArray,List.set_cons_zero,List.set_cons_succ] at M;have N:=heap_set1 (i:=8) M x8 rfl;simp only [List.setIfInBounds_toArray,List.set_cons_zero,List.set_cons_succ] at N;have O:=heap_set1 (i:=9) N x9 rfl;simp only [List.setIfInBounds_toArray,List.set_cons_zero,List.set_cons_succ] at O;exact O
theorem aqy {w w':World} {B:Nat} (h:Mod (λk=>k=B) w w') (i:Nat) (v:Value):Mod (λk=>k=B) w (w'.setCell ⟨B,i,none⟩ v):=h.setCell (a:=⟨B,i,none⟩) (.inl rfl) v
theorem oz (w:World) (B:Nat) (x0 x1 x2 x3 x4 x5 x6 x7 x8 x9:Value):Mod (λk=>k=B) w (yh w B x0 x1 x2 x3 x4 x5 x6 x7 x8 x9):=by
 unfold yh
 iterate 10 refine aqy ?_ _ _
 exact Mod.refl _ _
structure Mid (W:World) (Bt Br Bm:Nat) (cs:Array Value) (r:RS) (w:World):Prop where
 t:w.heap[Bt]?=some (.cells (ae mf none 0) 69 (0,0))
 m:w.heap[Bm]?=some (.cells cs 69 (0,0))
 r:Rd Br r w
 b:Below W.heap.size W w
theorem Mid.one {W w w':World} {Bt Br Bm:Nat} {cs:Array Value} {r r':RS} (h:Mid W Bt Br Bm cs r w) (hr:Rd Br r' w') (hm:One Br w w') (h1:Bt≠Br) (h2:Bm≠Br) (h3:W.heap.size<=Br):Mid W Bt Br Bm cs r' w' :=
 ⟨(hm.block Bt (Array.getElem?_eq_some_iff.1 h.t).1 h1).trans h.t,(hm.block Bm (Array.getElem?_eq_some_iff.1 h.m).1 h2).trans h.m,hr,h.b.trans (hm.to_below _ h.b.size (λk e=>e ▸ h3))⟩
theorem Mid.set {W w:World} {Bt Br Bm:Nat} {cs cs':Array Value} {r:RS} (h:Mid W Bt Br Bm cs r w) (i:Nat) (v:Value) (he:cs.setIfInBounds i v=cs') (h1:Bt≠Bm) (h2:Bm≠Br) (h3:W.heap.size<=Bm):Mid W Bt Br Bm cs' r (w.setCell ⟨Bm,i,none⟩ v):=by
 have A:Mod (λk=>k=Bm) w (w.setCell ⟨Bm,i,none⟩ v):=aqy (Mod.refl _ w) i v;exact ⟨(A.block Bt (Array.getElem?_eq_some_iff.1 h.t).1 h1).trans h.t,heap_set1 h.m v he,h.r.mod A (λe=>h2 e.symm),h.b.trans (A.to_below _ h.b.size (λk e=>e ▸ h3))⟩
theorem Mid.cell {W w:World} {Bt Br Bm:Nat} {cs:Array Value} {r:RS} (h:Mid W Bt Br Bm cs r w) (i:Nat) (v:Value) (hv:cs[i]?=some v):w.cell? ⟨Bm,i,none⟩=some v:=by
 unfold World.cell?; rw [show w.heap[(⟨Bm,i,none⟩:Addr).block]?=_ from h.m]; simpa using hv
theorem Mid.free {W w:World} {Bt Br Bm:Nat} {cs:Array Value} {r:RS} (h:Mid W Bt Br Bm cs r w) (i:Nat):w.frozen? ⟨Bm,i,none⟩=false:=by
 unfold World.frozen?; rw [show w.heap[(⟨Bm,i,none⟩:Addr).block]?=_ from h.m]; rfl
theorem ale (n:Int) (r:RS):(di n r).1.length<=r.s.length:=by
 unfold di
 split
 . exact Nat.zero_le _
 ·
  split
  . exact Nat.zero_le _
  . split
    . exact Nat.zero_le _
    . simp only [List.length_take]; omega
theorem zy (most:Int) (r:RS):(ib most r).1.length<=r.s.length:=by
 by_cases h:r.e≠0
 . unfold ib; rw [if_pos h]; exact Nat.zero_le _
 ·
  rw [OctW.aa2 most r h];have h1:=ale ((dw 2 r).1:Int) (cz (decide (most < ((dw 2 r).1:Int))) (dw 2 r).2);have A:=OctW.om (decide (most < ((dw 2 r).1:Int))) (dw 2 r).2;have B:=OctW.ji 2 r
  split <;> (try simp only) <;> omega
theorem aix (most:Int) (k:Nat):∀ r:RS,∀ t∈(az most k r).1,t.length<=r.s.length:=by
 induction k with
 | zero=>intro r t A; cases A
 | succ k ih =>
   intro r t A;rw [OctW.ui] at A
   rcases List.mem_append.1 A with A | A
   . exact ih r t A
   . rw [List.mem_singleton] at A
     subst A;exact Nat.le_trans (zy _ _) (OctW.wu most k r)
theorem alf (many most:Int) (r:RS):(ql many most r).1.length<=255/\∀ t∈(ql many most r).1,t.length<=r.s.length:=by
 by_cases h:r.e≠0
 . unfold ql; rw [if_pos h]; exact ⟨Nat.zero_le _,λt A=>by cases A⟩
 ·
  rw [OctW.acz many most r h];have B:(dw 1 r).1 < 256:=OctW.aa1 1 r;have E:=OctW.om (decide (many < ((dw 1 r).1:Int))) (dw 1 r).2;have F:=OctW.ji 1 r
  split
  . exact ⟨Nat.zero_le _,λt A=>by cases A⟩
  . refine ⟨by rw [OctW.j3]; omega,λt A=>?_⟩
    have:=aix most _ _ t A;omega
theorem alg (s:List UInt8) (hs:s.length<=1073741824):um (ny s).1:=by
 have A:∀ r,inI ((dw 1 r).1:Int):=λr=>by have:(dw 1 r).1 < 256:=OctW.aa1 1 r; unfold inI; omega
 have B:∀ r,inI ((dw 6 r).1:Int):=λr=>by have:(dw 6 r).1 < 256 ^ 6:=OctW.aa1 6 r; unfold inI; omega
 have I:(⟨s,0⟩:RS).s.length=s.length:=rfl;unfold ny;dsimp only;have J:=OctW.ji 1 ⟨s,0⟩;generalize (dw 1 ⟨s,0⟩).2=r1 at *
 have l1:=OctW.ji 1 r1;generalize (dw 1 r1).2=r2 at *
 have l2:=OctW.ji 1 r2;generalize (dw 1 r2).2=r3 at *
 have M:=OctW.ji 6 r3;generalize (dw 6 r3).2=r4 at *
 have N:=OctW.ji 6 r4;generalize (dw 6 r4).2=r5 at *
 have O:=OctW.ji 6 r5;generalize (dw 6 r5).2=r6 at *
 have R:=OctW.oo 16 r6;have E:=zy 16 r6;generalize (ib 16 r6).2=r7 at *
 have U:=OctW.oo 16 r7;have t2:=zy 16 r7;generalize (ib 16 r7).2=r8 at *
 have X:=OctW.oo 200 r8;have t3:=zy 200 r8;generalize (ib 200 r8).2=r9 at *
 have k1:=alf 3 16 r9;refine ⟨A _,A _,B _,A _,B _,B _,?_,?_,?_,?_,λt F=>?_⟩
 . exact Nat.le_trans E (by omega)
 . exact Nat.le_trans t2 (by omega)
 . exact Nat.le_trans t3 (by omega)
 . exact Nat.le_trans k1.1 (by omega)
 . exact Nat.le_trans (k1.2 t F) (by omega)
end RecW
section
open Go.RowKit
def Once (B:Nat) (o:Obj) (u v:World):Prop:=Mod (λk=>k=B) u v/\(v.heap[B]?=u.heap[B]?\/v.heap[B]?=some o)
theorem Once.refl (B:Nat) (o:Obj) (w:World):Once B o w w:=⟨Mod.refl _ _,.inl rfl⟩
theorem Once.trans {B:Nat} {o:Obj} {u v w:World} (h:Once B o u v) (k:Once B o v w):Once B o u w :=
 ⟨h.1.trans k.1,k.2.elim (λe=>h.2.elim (λA=>.inl (e.trans A)) λA=>.inr (e.trans A)) .inr⟩
theorem Once.below {B:Nat} {o:Obj} {u v:World} (h:Below u.heap.size u v) (hB:B < u.heap.size):Once B o u v:=⟨Mod.of_below h,.inl (h.block B hB)⟩
theorem Once.drawn {B:Nat} {o:Obj} {u v:World} (h:Drawn u v):Once B o u v:=⟨Mod.of_below (h.below _),.inl (by rw [h.heap])⟩
theorem Once.stays {B:Nat} {o:Obj} {u v:World} (h:Once B o u v) (k:u.heap[B]?=some o):v.heap[B]?=some o:=h.2.elim (λe=>e.trans k) id
theorem Once.drew {B:Nat} {o:Obj} {u v:World} (h:Once B o u.drew v):Once B o u v:=Once.trans (Once.drawn ((Drawn.refl u).drew)) h
theorem Once.cells {B:Nat} {t:TypeId} {a z:Array Value} {u v:World} (h:Once B (.cells z t (0,0)) u v) (hu:u.heap[B]?=some (.cells a t (0,0))) (hz:z.size=a.size):∃ b:Array Value,b.size=a.size/\v.heap[B]?=some (.cells b t (0,0)) :=
 h.2.elim (λe=>⟨a,rfl,e.trans hu⟩) λe=>⟨z,hz,e⟩
end
namespace RecW
open Go.RowKit OctMath RecMath NameMath
open OctW (Rd One Texts fw bn j5 rq)
def ExtR (u v:World):Prop:=Below u.heap.size u v
theorem ExtR.refl (w:World):ExtR w w:=Below.refl _ _
theorem ExtR.trans {u v w:World} (h:ExtR u v) (k:ExtR v w):ExtR u w:=Below.trans h (Below.mono k h.size)
theorem zz {w w':World} {a:Option Addr} {ts:List ByteArray} {B:Nat} (h:Strs w a ts) (hm:Mod (λk=>k=B) w w') (ha:∀ ad,a=some ad->ts≠[]->ad.block≠B):Strs w' a ts:=by
 intro i A;obtain ⟨b,off,rfl,hc⟩:=h i A;refine ⟨b,off,rfl,?_⟩;rw [hm.cell (bq hc) (λe=>ha _ rfl (λE=>by rw [E] at A; exact absurd A (Nat.not_lt_zero _)) e)];exact hc
structure Mid0 (W:World) (Bt Br:Nat) (r:RS) (w:World):Prop where
 t:w.heap[Bt]?=some (.cells (ae mf none 0) 69 (0,0))
 r:Rd Br r w
 b:Below W.heap.size W w
theorem Mid0.one {W w w':World} {Bt Br:Nat} {r r':RS} (h:Mid0 W Bt Br r w) (hr:Rd Br r' w') (hm:One Br w w') (h1:Bt≠Br) (h3:W.heap.size<=Br):Mid0 W Bt Br r' w' :=
 ⟨(hm.block Bt (Array.getElem?_eq_some_iff.1 h.t).1 h1).trans h.t,hr,h.b.trans (hm.to_below _ h.b.size (λk e=>e ▸ h3))⟩
theorem aiy (s:List UInt8) (hs:s.length<=1073741824) (W:World) :
 Calls Tryz.prog 82 #[.string (S s)] W λe w'=>∃ a c,e=.returned (.tuple #[.agg (ae (ny s).1 a c),.bool (aa4 s)])/\Strs w' a ((ny s).1.keys.map S)/\Below W.heap.size W w'/\∀ ad,a=some ad->W.heap.size<=ad.block:=by
 have hM:=alg s hs;obtain ⟨k,r1,e1⟩:∃ k r1,dw 1 ⟨s,0⟩=(k,r1):=⟨_,_,rfl⟩;obtain ⟨q,r2,e2⟩:∃ q r2,dw 1 r1=(q,r2):=⟨_,_,rfl⟩;obtain ⟨rt,r3,e3⟩:∃ rt r3,dw 1 r2=(rt,r3):=⟨_,_,rfl⟩;obtain ⟨b,r4,e4⟩:∃ b r4,dw 6 r3=(b,r4):=⟨_,_,rfl⟩;obtain ⟨d,r5,e5⟩:∃ d r5,dw 6 r4=(d,r5):=⟨_,_,rfl⟩;obtain ⟨O,r6,e6⟩:∃ O r6,dw 6 r5=(O,r6):=⟨_,_,rfl⟩;obtain ⟨t,r7,e7⟩:∃ t r7,ib 16 r6=(t,r7):=⟨_,_,rfl⟩;obtain ⟨g,r8,e8⟩:∃ g r8,ib 16 r7=(g,r8):=⟨_,_,rfl⟩;obtain ⟨R,r9,e9⟩:∃ R r9,ib 200 r8=(R,r9):=⟨_,_,rfl⟩;obtain ⟨ks,Z,cb⟩:∃ ks Z,ql 3 16 r9=(ks,Z):=⟨_,_,rfl⟩
 have hE:ny s=(⟨k,q,d,rt,O,b,t,g,R,ks⟩,Z):=by
  unfold ny;simp only [e1,e2,e3,e4,e5,e6,e7,e8,e9,cb]
 have cw:(⟨s,0⟩:RS).s.length<=1073741824:=hs;have cx:r1.s.length<=1073741824:=by have:=OctW.ji 1 ⟨s,0⟩; rw [e1] at this; exact Nat.le_trans this cw
 have cy:r2.s.length<=1073741824:=by have:=OctW.ji 1 r1; rw [e2] at this; exact Nat.le_trans this cx
 have da:r3.s.length<=1073741824:=by have:=OctW.ji 1 r2; rw [e3] at this; exact Nat.le_trans this cy
 have db:r4.s.length<=1073741824:=by have:=OctW.ji 6 r3; rw [e4] at this; exact Nat.le_trans this da
 have dc:r5.s.length<=1073741824:=by have:=OctW.ji 6 r4; rw [e5] at this; exact Nat.le_trans this db
 have dd:r6.s.length<=1073741824:=by have:=OctW.ji 6 r5; rw [e6] at this; exact Nat.le_trans this dc
 have de:r7.s.length<=1073741824:=by have:=OctW.oo 16 r6; rw [e7] at this; exact Nat.le_trans this dd
 have dj:r8.s.length<=1073741824:=by have:=OctW.oo 16 r7; rw [e8] at this; exact Nat.le_trans this de
 have ei:r9.s.length<=1073741824:=by have:=OctW.oo 200 r8; rw [e9] at this; exact Nat.le_trans this dj
 have C1:=zq (λ(B:Nat) (w:World) (h:Rd B ⟨s,0⟩ w)=>OctW.pz B ⟨s,0⟩ 1 (by omega) (by omega) (by omega) w h);have C2:=zq (λ(B:Nat) (w:World) (h:Rd B r1 w)=>OctW.pz B r1 1 (by omega) (by omega) (by omega) w h);have C3:=zq (λ(B:Nat) (w:World) (h:Rd B r2 w)=>OctW.pz B r2 1 (by omega) (by omega) (by omega) w h);have C4:=zq (λ(B:Nat) (w:World) (h:Rd B r3 w)=>OctW.pz B r3 6 (by omega) (by omega) (by omega) w h);have C5:=zq (λ(B:Nat) (w:World) (h:Rd B r4 w)=>OctW.pz B r4 6 (by omega) (by omega) (by omega) w h);have C6:=zq (λ(B:Nat) (w:World) (h:Rd B r5 w)=>OctW.pz B r5 6 (by omega) (by omega) (by omega) w h);have C7:=zq (λ(B:Nat) (w:World) (h:Rd B r6 w)=>OctW.vg B r6 16 (by omega) (by omega) (by omega) w h);have C8:=zq (λ(B:Nat) (w:World) (h:Rd B r7 w)=>OctW.vg B r7 16 (by omega) (by omega) (by omega) w h);have C9:=zq (λ(B:Nat) (w:World) (h:Rd B r8 w)=>OctW.vg B r8 200 (by omega) (by omega) (by omega) w h);have C10:=zq (λ(B:Nat) (w:World) (h:Rd B r9 w)=>OctW.list_any B r9 3 16 (by omega) (by omega) (by omega) (by omega) (by omega) w h);have CE:=zq (λ(B:Nat) (w:World) (h:Rd B Z w)=>OctW.end_any B Z w h);rw [e1] at C1; rw [e2] at C2; rw [e3] at C3; rw [e4] at C4; rw [e5] at C5; rw [e6] at C6; rw [e7] at C7; rw [e8] at C8; rw [e9] at C9; rw [cb] at C10;simp only at C1 C2 C3 C4 C5 C6 C7 C8 C9 C10;have hB:aa4 s=(decide (abn Z=0) && decide ((k:Int)≠0) && df ⟨k,q,d,rt,O,b,t,g,R,ks⟩):=by unfold aa4; rw [hE]
 rw [hE] at hM ⊢;rw [hB];simp only at hM ⊢;have CR:=zq (λ(a:Option Addr) (c:Nat) (w:World) (h:Strs w a (ks.map S))=>right_any ⟨k,q,d,rt,O,b,t,g,R,ks⟩ hM a c w h);generalize hmm:(⟨k,q,d,rt,O,b,t,g,R,ks⟩:Msg)=mm at *
 have dk:∀ a c,ae mm a c=#[.int .i64 k,.int .i64 q,.int .i64 d,.int .i64 rt,.int .i64 O,.int .i64 b,.string (S t),.string (S g),.string (S R),.slice a ks.length c]:=λa c=>by rw [<- hmm]; rfl
 have bb:=zq dk;have eo:Zq (mm.keys=ks):=by show _=_; rw [<- hmm]
 have ep:mm.kind=(k:Int):=by rw [<- hmm]
 clear dk hmm hE hB hM e1 e2 e3 e4 e5 e6 e7 e8 e9 cb cw cx cy da db dc dd de dj ei;go_enter Tryz.func82,Tryz.ntmps82;go_wp2_with fail;refine (OctW.new_any s _).mono ?_;rintro e w1 ⟨rfl,cc,hb⟩;obtain ⟨Bt,bc⟩:∃ B,W.heap.size=B:=⟨_,rfl⟩;obtain ⟨Br,bd⟩:∃ B,W.heap.size+1=B:=⟨_,rfl⟩
 have M0:Zq (Mid0 W Bt Br ⟨s,0⟩ w1):=by
  rw [World.size_alloc,bd] at cc;refine ⟨?_,cc,((Below.refl _ _).alloc (Nat.le_refl _) _).trans (hb.mono (by rw [World.size_alloc]; omega))⟩;rw [<- bc,hb.block _ (by rw [World.size_alloc]; omega)];exact heap_alloc_new W _
 have dl:Bt≠Br:=by omega
 have dn:W.heap.size<=Br:=by omega
 clear cc hb;rw [World.size_alloc,bd,bc];have bh:=zq dl;have al:=zq dn;have er:=zq bd;have cd:=zq bc;clear dl dn bd bc;go_wp2_with fail;refine (C1.o Br _ M0.o.r).mono ?_;rintro e w2 ⟨rfl,hr,A⟩;have M1:=zq (M0.o.one hr A bh.o al.o);clear hr A M0 C1;go_wp2_with fail;refine (C2.o Br _ M1.o.r).mono ?_;rintro e w3 ⟨rfl,hr,A⟩;have M2:=zq (M1.o.one hr A bh.o al.o);clear hr A M1 C2;go_wp2_with fail;refine (C3.o Br _ M2.o.r).mono ?_;rintro e w4 ⟨rfl,hr,A⟩;have M3:=zq (M2.o.one hr A bh.o al.o);clear hr A M2 C3;go_wp2_with fail;obtain ⟨Bm,ce⟩:∃ B,w4.heap.size=B:=⟨_,rfl⟩;obtain ⟨w5,bj⟩:∃ w5:World,w5=w4.alloc (.cells #[.int .i64 (k:Int),.int .i64 (q:Int),.int .i64 0,.int .i64 (rt:Int),.int .i64 0,.int .i64 0,.string ⟨#[]⟩,.string ⟨#[]⟩,.string ⟨#[]⟩,.slice none 0 0] 69):=⟨_,rfl⟩
 have M4:Zq (Mid W Bt Br Bm #[.int .i64 (k:Int),.int .i64 (q:Int),.int .i64 0,.int .i64 (rt:Int),.int .i64 0,.int .i64 0,.string ⟨#[]⟩,.string ⟨#[]⟩,.string ⟨#[]⟩,.slice none 0 0] r3 w5):=by
  have cf:Below w4.heap.size w4 w5:=by rw [bj]; exact (Below.refl _ _).alloc (Nat.le_refl _) _
  have h0:=M3.o;refine ⟨?_,?_,?_,h0.b.trans (cf.mono h0.b.size)⟩
  . rw [cf.block _ (Array.getElem?_eq_some_iff.1 h0.t).1]; exact h0.t
  . rw [bj,<- ce]; exact heap_alloc_new w4 _
  . exact h0.r.mod (Mod.of_below (M:=λ_=>False) cf) (λh=>h)
 have an:=bh
 have ac:Zq (Bm≠Br):=by
  have:=M3.o.r.lt;show _≠_;omega
 have ao:Zq (Bt≠Bm):=by
  have:=(Array.getElem?_eq_some_iff.1 M3.o.t).1;show _≠_;omega
 have a6:Zq (W.heap.size<=Bm):=by
  have:=M3.o.b.size;show _<=_;omega
 rw [<- bj,ce];clear bj ce M3;refine (C4.o Br _ M4.o.r).mono ?_;rintro e w6 ⟨rfl,hr,A⟩;have M5:=zq (M4.o.one hr A an.o ac.o al.o);clear hr A M4 C4;go_wp2_with fail;refine (C5.o Br _ M5.o.r).mono ?_;rintro e w7 ⟨rfl,hr,A⟩;have M6:=zq (M5.o.one hr A an.o ac.o al.o);clear hr A M5 C5;go_wp2_with fail;refine (C6.o Br _ M6.o.r).mono ?_;rintro e w8 ⟨rfl,hr,A⟩;have M7:=zq (M6.o.one hr A an.o ac.o al.o);clear hr A M6 C6;have q5:w8.cell? ⟨Bm,5,none⟩=some (.int .i64 0):=M7.o.cell 5 _ rfl;have f5:w8.frozen? ⟨Bm,5,none⟩=false:=M7.o.free 5;have q2:w8.cell? ⟨Bm,2,none⟩=some (.int .i64 0):=M7.o.cell 2 _ rfl;have f2:w8.frozen? ⟨Bm,2,none⟩=false:=M7.o.free 2;have q4:w8.cell? ⟨Bm,4,none⟩=some (.int .i64 0):=M7.o.cell 4 _ rfl;have f4:w8.frozen? ⟨Bm,4,none⟩=false:=M7.o.free 4;go_wp2_with fail
 have M8:Zq (Mid W Bt Br Bm #[.int .i64 (k:Int),.int .i64 (q:Int),.int .i64 (d:Int),.int .i64 (rt:Int),.int .i64 (O:Int),.int .i64 (b:Int),.string ⟨#[]⟩,.string ⟨#[]⟩,.string ⟨#[]⟩,.slice none 0 0] r6 (((w8.setCell ⟨Bm,5,none⟩ (.int .i64 (b:Int))).setCell ⟨Bm,2,none⟩ (.int .i64 (d:Int))).setCell ⟨Bm,4,none⟩ (.int .i64 (O:Int)))) :=
  ((M7.o.set 5 _ rfl ao.o ac.o a6.o).set 2 _ rfl ao.o ac.o a6.o).set 4 _ rfl ao.o ac.o a6.o
 generalize ((w8.setCell ⟨Bm,5,none⟩ (.int .i64 (b:Int))).setCell ⟨Bm,2,none⟩ (.int .i64 (d:Int))).setCell ⟨Bm,4,none⟩ (.int .i64 (O:Int))=w9 at *
 clear M7 q5 f5 q2 f2 q4 f4;refine (C7.o Br _ M8.o.r).mono ?_;rintro e ez ⟨rfl,hr,A⟩;have M9:=zq (M8.o.one hr A an.o ac.o al.o);clear hr A M8 C7;go_wp2_with fail;refine (C8.o Br _ M9.o.r).mono ?_;rintro e e0 ⟨rfl,hr,A⟩;have M10:=zq (M9.o.one hr A an.o ac.o al.o);clear hr A M9 C8;go_wp2_with fail;refine (C9.o Br _ M10.o.r).mono ?_;rintro e ap ⟨rfl,hr,A⟩;have M11:=zq (M10.o.one hr A an.o ac.o al.o);clear hr A M10 C9;have q6:ap.cell? ⟨Bm,6,none⟩=some (.string ⟨#[]⟩):=M11.o.cell 6 _ rfl;have f6:ap.frozen? ⟨Bm,6,none⟩=false:=M11.o.free 6;have q7:ap.cell? ⟨Bm,7,none⟩=some (.string ⟨#[]⟩):=M11.o.cell 7 _ rfl;have f7:ap.frozen? ⟨Bm,7,none⟩=false:=M11.o.free 7;have q8:ap.cell? ⟨Bm,8,none⟩=some (.string ⟨#[]⟩):=M11.o.cell 8 _ rfl;have f8:ap.frozen? ⟨Bm,8,none⟩=false:=M11.o.free 8;go_wp2_with fail
 have M12:Zq (Mid W Bt Br Bm #[.int .i64 (k:Int),.int .i64 (q:Int),.int .i64 (d:Int),.int .i64 (rt:Int),.int .i64 (O:Int),.int .i64 (b:Int),.string (S t),.string (S g),.string (S R),.slice none 0 0] r9 (((ap.setCell ⟨Bm,6,none⟩ (.string (S t))).setCell ⟨Bm,7,none⟩ (.string (S g))).setCell ⟨Bm,8,none⟩ (.string (S R)))) :=
  ((M11.o.set 6 _ rfl ao.o ac.o a6.o).set 7 _ rfl ao.o ac.o a6.o).set 8 _ rfl ao.o ac.o a6.o
 generalize ((ap.setCell ⟨Bm,6,none⟩ (.string (S t))).setCell ⟨Bm,7,none⟩ (.string (S g))).setCell ⟨Bm,8,none⟩ (.string (S R))=w13 at *
 clear M11 q6 f6 q7 f7 q8 f8;refine (C10.o Br _ M12.o.r).mono ?_;rintro e a7 ⟨v,rfl,cg,hr,A⟩;have M13:=zq (M12.o.one hr A an.o ac.o al.o);obtain ⟨a,c,hv,dp⟩:=cg.strs;subst hv;have dq:=zq dp;have ff:Zq (w13.heap.size<=a7.heap.size):=A.size;have a8:Zq (∀ ad,a=some ad->w13.heap.size<=ad.block):=λad e=>ay cg ad.block (by rw [e]; rfl)
 have ci:Zq (W.heap.size<=w13.heap.size):=M12.o.b.size;have dr:Zq (Bm < w13.heap.size/\Bt < w13.heap.size):=⟨(Array.getElem?_eq_some_iff.1 M12.o.m).1,(Array.getElem?_eq_some_iff.1 M12.o.t).1⟩;clear hr A M12 C10 cg dp;have q9:a7.cell? ⟨Bm,9,none⟩=some (.slice none 0 0):=M13.o.cell 9 _ rfl;have f9:a7.frozen? ⟨Bm,9,none⟩=false:=M13.o.free 9;go_wp2_with fail
 --REGION
 have M14:Zq (Mid W Bt Br Bm #[.int .i64 (k:Int),.int .i64 (q:Int),.int .i64 (d:Int),.int .i64 (rt:Int),.int .i64 (O:Int),.int .i64 (b:Int),.string (S t),.string (S g),.string (S R),.slice a ks.length c] Z (a7.setCell ⟨Bm,9,none⟩ (.slice a ks.length c))):=M13.o.set 9 _ rfl ao.o ac.o a6.o;have ek:Zq (Strs (a7.setCell ⟨Bm,9,none⟩ (.slice a ks.length c)) a (ks.map S)):=zz dq.o (aqy (Mod.refl _ _) 9 _) (λad e _=>by have h1:=a8.o ad e; have h2:=dr.o; omega);clear M13 q9 f9 dq;generalize a7.setCell ⟨Bm,9,none⟩ (.slice a ks.length c)=w15 at *
 have bk:Zq (∀ w,Mod (λk=>k=Bt) w15 w->Strs w a (ks.map S)):=λw A=>zz ek.o A (λad e _=>by have h1:=a8.o ad e; have h2:=dr.o; omega)
 have E:Zq (∀ w,Mod (λk=>k=Bt) w15 w->∀ (i:Nat) (v:Value),(#[.int .i64 (k:Int),.int .i64 (q:Int),.int .i64 (d:Int),.int .i64 (rt:Int),.int .i64 (O:Int),.int .i64 (b:Int),.string (S t),.string (S g),.string (S R),.slice a ks.length c]:Array Value)[i]?=some v->w.cell? ⟨Bm,i,none⟩=some v):=λw A i v hv=>by
  rw [A.cell (Array.getElem?_eq_some_iff.1 M14.o.m).1 (λe=>ao.o e.symm)]; exact M14.o.cell i v hv
 have cj:Zq (∀ w,Mod (λk=>k=Bt) w15 w->Rd Br Z w):=λw A=>M14.o.r.mod A (λe=>an.o e.symm)
 have ds:Zq (Bt < w15.heap.size):=(Array.getElem?_eq_some_iff.1 M14.o.t).1;generalize hrl:df mm=rl at *
 generalize hki:(k:Int)=ki at *
 have ck:=zq hki;clear hki
 by_cases he:abn Z=0
 case neg =>
  have ar:Zq ((decide (abn Z=0) && decide (ki≠0) && rl)=false):=by show _=_; simp [he]
  have fi:((((abn Z:Nat):Int)) == 0)=false:=OctW.ao5 he;refine GrowN.au 14 [some (.inl (.agg #[.int .i64 ki,.int .i64 (q:Int),.int .i64 (d:Int),.int .i64 (rt:Int),.int .i64 (O:Int),.int .i64 (b:Int),.string (S t),.string (S g),.string (S R),.slice a ks.length c])),none,some (.inl (.int .i64 ((abn Z:Nat):Int))),none,none,none,none,none,none,none,none,none,none,some (.inr (λ_ _ w=>w.heap[Bt]?=some (.cells #[.int .i64 ki,.int .i64 (q:Int),.int .i64 (d:Int),.int .i64 (rt:Int),.int .i64 (O:Int),.int .i64 (b:Int),.string (S t),.string (S g),.string (S R),.slice a ks.length c] 69 (0,0))))] (Once Bt (.cells #[.int .i64 ki,.int .i64 (q:Int),.int .i64 (d:Int),.int .i64 (rt:Int),.int .i64 (O:Int),.int .i64 (b:Int),.string (S t),.string (S g),.string (S R),.slice a ks.length c] 69 (0,0))) (by kernel_rfl) (by kernel_rfl) (by kernel_rfl) (Once.refl _ _) (λ_ _ _=>Once.trans) ?_ ?_
  ·
   intro K hK Y hY l v w w' hR h;simp only [List.mem_cons,List.not_mem_nil,or_false] at hK
   rcases hK with rfl | rfl | rfl | rfl | rfl | rfl | rfl | rfl | rfl | rfl | rfl | rfl | rfl | rfl <;> simp only [reduceCtorEq,Option.some.injEq,Sum.inr.injEq] at hY
   subst hY;exact hR.stays h
  simp only [List.take_succ_cons,List.take_zero,List.drop_succ_cons,List.drop_zero];refine GrowN.g_con rfl (λw X N=>?_) ?_
  ·
   clear N;have A:=((Mod.refl (λk=>k=Bt) w15).drew).trans X.1;have k0:=E.o w A 0 _ rfl;have k1:=E.o w A 1 _ rfl;have k2:=E.o w A 2 _ rfl;have k3:=E.o w A 3 _ rfl;have k4:=E.o w A 4 _ rfl;have k5:=E.o w A 5 _ rfl;have k6:=E.o w A 6 _ rfl;have k7:=E.o w A 7 _ rfl;have k8:=E.o w A 8 _ rfl;have k9:=E.o w A 9 _ rfl;go_simp;exact Once.refl _ _ _
  go_frame;refine GrowN.g_det rfl ?_;apply Exists.intro;refine ⟨λw X N=>?_,?_⟩
  . clear N
    go_simp;exact ⟨rfl,Once.refl _ _ _⟩
  go_frame;refine GrowN.g_con rfl (λw X N=>?_) ?_
  . clear N
    have A:=((Mod.refl (λk=>k=Bt) w15).drew).trans X.1;go_simp;exact (CE.o Br w (cj.o w A)).mono λe w3 h=>⟨_,h.1,rfl,h.2 ▸ Once.refl _ _ _⟩
  go_frame
  iterate 10
   first
   | refine GrowN.g_skip rfl ?_
   | refine GrowN.g_det rfl ?_
     apply Exists.intro;refine ⟨λw X N=>?_,?_⟩
     . clear N
       go_simp;exact ⟨rfl,Once.refl _ _ _⟩
   go_frame
  refine GrowN.g_new rfl (λw X N=>?_) (λ_=>?_)
  ·
   clear N;obtain ⟨z,hz,F⟩:=(Once.drew X).cells M14.o.t rfl;obtain ⟨z0,z1,z2,z3,z4,z5,z6,z7,z8,z9,rfl⟩:=ten z hz;have k0:w.cell? ⟨Bt,0,none⟩=some z0:=by rw [Lib.cell_of_heap F]; rfl
   have k1:w.cell? ⟨Bt,1,none⟩=some z1:=by rw [Lib.cell_of_heap F]; rfl
   have k2:w.cell? ⟨Bt,2,none⟩=some z2:=by rw [Lib.cell_of_heap F]; rfl
   have k3:w.cell? ⟨Bt,3,none⟩=some z3:=by rw [Lib.cell_of_heap F]; rfl
   have k4:w.cell? ⟨Bt,4,none⟩=some z4:=by rw [Lib.cell_of_heap F]; rfl
   have k5:w.cell? ⟨Bt,5,none⟩=some z5:=by rw [Lib.cell_of_heap F]; rfl
   have k6:w.cell? ⟨Bt,6,none⟩=some z6:=by rw [Lib.cell_of_heap F]; rfl
   have k7:w.cell? ⟨Bt,7,none⟩=some z7:=by rw [Lib.cell_of_heap F]; rfl
   have k8:w.cell? ⟨Bt,8,none⟩=some z8:=by rw [Lib.cell_of_heap F]; rfl
   have k9:w.cell? ⟨Bt,9,none⟩=some z9:=by rw [Lib.cell_of_heap F]; rfl
   have dv:∀ j,w.frozen? ⟨Bt,j,none⟩=false:=λj=>Lib.frozen_of_heap F j
   have HH:=zq (mi (z:=#[z0,z1,z2,z3,z4,z5,z6,z7,z8,z9]) rfl F (.int .i64 ki) (.int .i64 (q:Int)) (.int .i64 (d:Int)) (.int .i64 (rt:Int)) (.int .i64 (O:Int)) (.int .i64 (b:Int)) (.string (S t)) (.string (S g)) (.string (S R)) (.slice a ks.length c));have ba:=zq (oz w Bt (.int .i64 ki) (.int .i64 (q:Int)) (.int .i64 (d:Int)) (.int .i64 (rt:Int)) (.int .i64 (O:Int)) (.int .i64 (b:Int)) (.string (S t)) (.string (S g)) (.string (S R)) (.slice a ks.length c));clear F;go_simp;exact ⟨HH.o,ba.o,.inr HH.o⟩
  go_frame;refine GrowN.g_nil λI ak N=>?_
  have J:I.heap[Bt]?=some (.cells #[.int .i64 ki,.int .i64 (q:Int),.int .i64 (d:Int),.int .i64 (rt:Int),.int .i64 (O:Int),.int .i64 (b:Int),.string (S t),.string (S g),.string (S R),.slice a ks.length c] 69 (0,0)):=N _ (List.mem_singleton.2 rfl);have U:=((Mod.refl (λk=>k=Bt) w15).drew).trans ak.1;have av:=zq (bk.o I U);have a1:Zq (Below W.heap.size W I):=M14.o.b.trans (U.to_below _ M14.o.b.size (λk e=>by rw [e,<- cd.o]; exact Nat.le_refl _));clear N ak U;have c0:I.cell? ⟨Bt,0,none⟩=some (.int .i64 ki):=by rw [Lib.cell_of_heap J]; rfl
  have c1:I.cell? ⟨Bt,1,none⟩=some (.int .i64 (q:Int)):=by rw [Lib.cell_of_heap J]; rfl
  have c2:I.cell? ⟨Bt,2,none⟩=some (.int .i64 (d:Int)):=by rw [Lib.cell_of_heap J]; rfl
  have c3:I.cell? ⟨Bt,3,none⟩=some (.int .i64 (rt:Int)):=by rw [Lib.cell_of_heap J]; rfl
  have c4:I.cell? ⟨Bt,4,none⟩=some (.int .i64 (O:Int)):=by rw [Lib.cell_of_heap J]; rfl
  have c5:I.cell? ⟨Bt,5,none⟩=some (.int .i64 (b:Int)):=by rw [Lib.cell_of_heap J]; rfl
  have c6:I.cell? ⟨Bt,6,none⟩=some (.string (S t)):=by rw [Lib.cell_of_heap J]; rfl
  have c7:I.cell? ⟨Bt,7,none⟩=some (.string (S g)):=by rw [Lib.cell_of_heap J]; rfl
  have c8:I.cell? ⟨Bt,8,none⟩=some (.string (S R)):=by rw [Lib.cell_of_heap J]; rfl
  have c9:I.cell? ⟨Bt,9,none⟩=some (.slice a ks.length c):=by rw [Lib.cell_of_heap J]; rfl
  go_wp2_with fail;refine bodyPost_ret (v:=.tuple #[.agg #[.int .i64 ki,.int .i64 (q:Int),.int .i64 (d:Int),.int .i64 (rt:Int),.int .i64 (O:Int),.int .i64 (b:Int),.string (S t),.string (S g),.string (S R),.slice a ks.length c],.bool false]) ?_ rfl ⟨a,c,?_,?_,?_⟩
  . clear J
    simp [results,Tryz.results82,go_sem,c0,c1,c2,c3,c4,c5,c6,c7,c8,c9]
  . rw [bb.o,hrl,ck.o,ar.o]
  . exact av.o
  . exact ⟨a1.o,λad e=>Nat.le_trans ci.o (a8.o ad e)⟩
 case pos =>
  have CE0:Zq (∀ (B:Nat) (w:World),Rd B Z w->Calls Tryz.prog 147 #[.pointer (some ⟨B,0,none⟩)] w λe w'=>e=.returned (.int .i64 0)/\w=w'):=by
   have h:=CE.o;rw [he] at h;exact h
  have HE:=zq he;clear CE he
  by_cases hk0:ki=0
  case pos =>
   have ar:Zq ((decide (abn Z=0) && decide (ki≠0) && rl)=false):=by show _=_; simp [hk0]
   subst hk0;refine GrowN.au 14 [some (.inl (.agg #[.int .i64 0,.int .i64 (q:Int),.int .i64 (d:Int),.int .i64 (rt:Int),.int .i64 (O:Int),.int .i64 (b:Int),.string (S t),.string (S g),.string (S R),.slice a ks.length c])),none,some (.inl (.int .i64 0)),none,none,none,none,none,none,none,none,none,none,some (.inr (λ_ _ w=>w.heap[Bt]?=some (.cells #[.int .i64 0,.int .i64 (q:Int),.int .i64 (d:Int),.int .i64 (rt:Int),.int .i64 (O:Int),.int .i64 (b:Int),.string (S t),.string (S g),.string (S R),.slice a ks.length c] 69 (0,0))))] (Once Bt (.cells #[.int .i64 0,.int .i64 (q:Int),.int .i64 (d:Int),.int .i64 (rt:Int),.int .i64 (O:Int),.int .i64 (b:Int),.string (S t),.string (S g),.string (S R),.slice a ks.length c] 69 (0,0))) (by kernel_rfl) (by kernel_rfl) (by kernel_rfl) (Once.refl _ _) (λ_ _ _=>Once.trans) ?_ ?_
   . intro K hK Y hY l v w w' hR h
     simp only [List.mem_cons,List.not_mem_nil,or_false] at hK
     rcases hK with rfl | rfl | rfl | rfl | rfl | rfl | rfl | rfl | rfl | rfl | rfl | rfl | rfl | rfl <;> simp only [reduceCtorEq,Option.some.injEq,Sum.inr.injEq] at hY
     subst hY;exact hR.stays h
   simp only [List.take_succ_cons,List.take_zero,List.drop_succ_cons,List.drop_zero];refine GrowN.g_con rfl (λw X N=>?_) ?_
   ·
    clear N;have A:=((Mod.refl (λk=>k=Bt) w15).drew).trans X.1;have k0:=E.o w A 0 _ rfl;have k1:=E.o w A 1 _ rfl;have k2:=E.o w A 2 _ rfl;have k3:=E.o w A 3 _ rfl;have k4:=E.o w A 4 _ rfl;have k5:=E.o w A 5 _ rfl;have k6:=E.o w A 6 _ rfl;have k7:=E.o w A 7 _ rfl;have k8:=E.o w A 8 _ rfl;have k9:=E.o w A 9 _ rfl;go_simp;exact Once.refl _ _ _
   go_frame;refine GrowN.g_det rfl ?_;apply Exists.intro;refine ⟨λw X N=>?_,?_⟩
   . clear N
     go_simp;exact ⟨rfl,Once.refl _ _ _⟩
   go_frame;refine GrowN.g_con rfl (λw X N=>?_) ?_
   . clear N
     have A:=((Mod.refl (λk=>k=Bt) w15).drew).trans X.1;go_simp;exact (CE0.o Br w (cj.o w A)).mono λe w3 h=>⟨_,h.1,rfl,h.2 ▸ Once.refl _ _ _⟩
   iterate 3
    go_frame;refine GrowN.g_det rfl ?_;apply Exists.intro;refine ⟨λw X N=>?_,?_⟩
    . clear N
      go_simp;exact ⟨rfl,Once.refl _ _ _⟩
   go_frame;refine GrowN.g_det rfl ?_;apply Exists.intro;refine ⟨λw X N=>?_,?_⟩
   . clear N
     have A:=((Mod.refl (λk=>k=Bt) w15).drew).trans X.1;have k0:=E.o w A 0 _ rfl;go_simp;exact ⟨rfl,Once.refl _ _ _⟩
   go_frame
   iterate 6
    first
    | refine GrowN.g_skip rfl ?_
    | refine GrowN.g_det rfl ?_
      apply Exists.intro;refine ⟨λw X N=>?_,?_⟩
      . clear N
        go_simp;exact ⟨rfl,Once.refl _ _ _⟩
    go_frame
   refine GrowN.g_new rfl (λw X N=>?_) (λ_=>?_)
   ·
    clear N;obtain ⟨z,hz,F⟩:=(Once.drew X).cells M14.o.t rfl;obtain ⟨z0,z1,z2,z3,z4,z5,z6,z7,z8,z9,rfl⟩:=ten z hz;have k0:w.cell? ⟨Bt,0,none⟩=some z0:=by rw [Lib.cell_of_heap F]; rfl
    have k1:w.cell? ⟨Bt,1,none⟩=some z1:=by rw [Lib.cell_of_heap F]; rfl
    have k2:w.cell? ⟨Bt,2,none⟩=some z2:=by rw [Lib.cell_of_heap F]; rfl
    have k3:w.cell? ⟨Bt,3,none⟩=some z3:=by rw [Lib.cell_of_heap F]; rfl
    have k4:w.cell? ⟨Bt,4,none⟩=some z4:=by rw [Lib.cell_of_heap F]; rfl
    have k5:w.cell? ⟨Bt,5,none⟩=some z5:=by rw [Lib.cell_of_heap F]; rfl
    have k6:w.cell? ⟨Bt,6,none⟩=some z6:=by rw [Lib.cell_of_heap F]; rfl
    have k7:w.cell? ⟨Bt,7,none⟩=some z7:=by rw [Lib.cell_of_heap F]; rfl
    have k8:w.cell? ⟨Bt,8,none⟩=some z8:=by rw [Lib.cell_of_heap F]; rfl
    have k9:w.cell? ⟨Bt,9,none⟩=some z9:=by rw [Lib.cell_of_heap F]; rfl
    have dv:∀ j,w.frozen? ⟨Bt,j,none⟩=false:=λj=>Lib.frozen_of_heap F j
    have HH:=zq (mi (z:=#[z0,z1,z2,z3,z4,z5,z6,z7,z8,z9]) rfl F (.int .i64 0) (.int .i64 (q:Int)) (.int .i64 (d:Int)) (.int .i64 (rt:Int)) (.int .i64 (O:Int)) (.int .i64 (b:Int)) (.string (S t)) (.string (S g)) (.string (S R)) (.slice a ks.length c));have ba:=zq (oz w Bt (.int .i64 0) (.int .i64 (q:Int)) (.int .i64 (d:Int)) (.int .i64 (rt:Int)) (.int .i64 (O:Int)) (.int .i64 (b:Int)) (.string (S t)) (.string (S g)) (.string (S R)) (.slice a ks.length c));clear F;go_simp;exact ⟨HH.o,ba.o,.inr HH.o⟩
   go_frame;refine GrowN.g_nil λI ak N=>?_
   have J:I.heap[Bt]?=some (.cells #[.int .i64 0,.int .i64 (q:Int),.int .i64 (d:Int),.int .i64 (rt:Int),.int .i64 (O:Int),.int .i64 (b:Int),.string (S t),.string (S g),.string (S R),.slice a ks.length c] 69 (0,0)):=N _ (List.mem_singleton.2 rfl);have U:=((Mod.refl (λk=>k=Bt) w15).drew).trans ak.1;have av:=zq (bk.o I U);have a1:Zq (Below W.heap.size W I):=M14.o.b.trans (U.to_below _ M14.o.b.size (λk e=>by rw [e,<- cd.o]; exact Nat.le_refl _));clear N ak U;have c0:I.cell? ⟨Bt,0,none⟩=some (.int .i64 0):=by rw [Lib.cell_of_heap J]; rfl
   have c1:I.cell? ⟨Bt,1,none⟩=some (.int .i64 (q:Int)):=by rw [Lib.cell_of_heap J]; rfl
   have c2:I.cell? ⟨Bt,2,none⟩=some (.int .i64 (d:Int)):=by rw [Lib.cell_of_heap J]; rfl
   have c3:I.cell? ⟨Bt,3,none⟩=some (.int .i64 (rt:Int)):=by rw [Lib.cell_of_heap J]; rfl
   have c4:I.cell? ⟨Bt,4,none⟩=some (.int .i64 (O:Int)):=by rw [Lib.cell_of_heap J]; rfl
   have c5:I.cell? ⟨Bt,5,none⟩=some (.int .i64 (b:Int)):=by rw [Lib.cell_of_heap J]; rfl
   have c6:I.cell? ⟨Bt,6,none⟩=some (.string (S t)):=by rw [Lib.cell_of_heap J]; rfl
   have c7:I.cell? ⟨Bt,7,none⟩=some (.string (S g)):=by rw [Lib.cell_of_heap J]; rfl
   have c8:I.cell? ⟨Bt,8,none⟩=some (.string (S R)):=by rw [Lib.cell_of_heap J]; rfl
   have c9:I.cell? ⟨Bt,9,none⟩=some (.slice a ks.length c):=by rw [Lib.cell_of_heap J]; rfl
   go_wp2_with fail;refine bodyPost_ret (v:=.tuple #[.agg #[.int .i64 0,.int .i64 (q:Int),.int .i64 (d:Int),.int .i64 (rt:Int),.int .i64 (O:Int),.int .i64 (b:Int),.string (S t),.string (S g),.string (S R),.slice a ks.length c],.bool false]) ?_ rfl ⟨a,c,?_,?_,?_⟩
   . clear J
     simp [results,Tryz.results82,go_sem,c0,c1,c2,c3,c4,c5,c6,c7,c8,c9]
   . rw [bb.o,hrl,ck.o,ar.o]
   . exact av.o
   . exact ⟨a1.o,λad e=>Nat.le_trans ci.o (a8.o ad e)⟩
  case neg =>
   have ar:Zq ((decide (abn Z=0) && decide (ki≠0) && rl)=rl):=by show _=_; rw [HE.o]; simp [hk0]
   have fl:(ki != 0)=true:=bne_iff_ne.2 hk0;refine GrowN.au 14 [some (.inl (.agg #[.int .i64 ki,.int .i64 (q:Int),.int .i64 (d:Int),.int .i64 (rt:Int),.int .i64 (O:Int),.int .i64 (b:Int),.string (S t),.string (S g),.string (S R),.slice a ks.length c])),none,some (.inl (.int .i64 0)),none,none,none,none,none,none,none,some (.inl (.agg #[.int .i64 ki,.int .i64 (q:Int),.int .i64 (d:Int),.int .i64 (rt:Int),.int .i64 (O:Int),.int .i64 (b:Int),.string (S t),.string (S g),.string (S R),.slice a ks.length c])),some (.inl (.bool rl)),none,some (.inr (λ_ _ w=>w.heap[Bt]?=some (.cells #[.int .i64 ki,.int .i64 (q:Int),.int .i64 (d:Int),.int .i64 (rt:Int),.int .i64 (O:Int),.int .i64 (b:Int),.string (S t),.string (S g),.string (S R),.slice a ks.length c] 69 (0,0))))] (Once Bt (.cells #[.int .i64 ki,.int .i64 (q:Int),.int .i64 (d:Int),.int .i64 (rt:Int),.int .i64 (O:Int),.int .i64 (b:Int),.string (S t),.string (S g),.string (S R),.slice a ks.length c] 69 (0,0))) (by kernel_rfl) (by kernel_rfl) (by kernel_rfl) (Once.refl _ _) (λ_ _ _=>Once.trans) ?_ ?_
   . intro K hK Y hY l v w w' hR h
     simp only [List.mem_cons,List.not_mem_nil,or_false] at hK
     rcases hK with rfl | rfl | rfl | rfl | rfl | rfl | rfl | rfl | rfl | rfl | rfl | rfl | rfl | rfl <;> simp only [reduceCtorEq,Option.some.injEq,Sum.inr.injEq] at hY
     subst hY;exact hR.stays h
   simp only [List.take_succ_cons,List.take_zero,List.drop_succ_cons,List.drop_zero];refine GrowN.g_con rfl (λw X N=>?_) ?_
   ·
    clear N;have A:=((Mod.refl (λk=>k=Bt) w15).drew).trans X.1;have k0:=E.o w A 0 _ rfl;have k1:=E.o w A 1 _ rfl;have k2:=E.o w A 2 _ rfl;have k3:=E.o w A 3 _ rfl;have k4:=E.o w A 4 _ rfl;have k5:=E.o w A 5 _ rfl;have k6:=E.o w A 6 _ rfl;have k7:=E.o w A 7 _ rfl;have k8:=E.o w A 8 _ rfl;have k9:=E.o w A 9 _ rfl;go_simp;exact Once.refl _ _ _
   go_frame;refine GrowN.g_det rfl ?_;apply Exists.intro;refine ⟨λw X N=>?_,?_⟩
   . clear N
     go_simp;exact ⟨rfl,Once.refl _ _ _⟩
   go_frame;refine GrowN.g_con rfl (λw X N=>?_) ?_
   . clear N
     have A:=((Mod.refl (λk=>k=Bt) w15).drew).trans X.1;go_simp;exact (CE0.o Br w (cj.o w A)).mono λe w3 h=>⟨_,h.1,rfl,h.2 ▸ Once.refl _ _ _⟩
   iterate 3
    go_frame;refine GrowN.g_det rfl ?_;apply Exists.intro;refine ⟨λw X N=>?_,?_⟩
    . clear N
      go_simp;exact ⟨rfl,Once.refl _ _ _⟩
   go_frame;refine GrowN.g_det rfl ?_;apply Exists.intro;refine ⟨λw X N=>?_,?_⟩
   . clear N
     have A:=((Mod.refl (λk=>k=Bt) w15).drew).trans X.1;have k0:=E.o w A 0 _ rfl;go_simp;exact ⟨rfl,Once.refl _ _ _⟩
   iterate 3
    go_frame;refine GrowN.g_det rfl ?_;apply Exists.intro;refine ⟨λw X N=>?_,?_⟩
    . clear N
      go_simp;exact ⟨rfl,Once.refl _ _ _⟩
   go_frame;refine GrowN.g_con rfl (λw X N=>?_) ?_
   ·
    clear N;have A:=((Mod.refl (λk=>k=Bt) w15).drew).trans X.1;have k0:=E.o w A 0 _ rfl;have k1:=E.o w A 1 _ rfl;have k2:=E.o w A 2 _ rfl;have k3:=E.o w A 3 _ rfl;have k4:=E.o w A 4 _ rfl;have k5:=E.o w A 5 _ rfl;have k6:=E.o w A 6 _ rfl;have k7:=E.o w A 7 _ rfl;have k8:=E.o w A 8 _ rfl;have k9:=E.o w A 9 _ rfl;go_simp;exact Once.refl _ _ _
   go_frame;refine GrowN.g_con rfl (λw X N=>?_) ?_
   ·
    clear N;have A:=((Mod.refl (λk=>k=Bt) w15).drew).trans X.1;go_simp;have em:Bt < w.heap.size:=Nat.lt_of_lt_of_le ds.o A.size;have d0:=CR.o a c w (bk.o w A);rw [bb.o] at d0;exact d0.mono λe w3 h=>⟨_,h.1,rfl,Once.below h.2 em⟩
   go_frame;refine GrowN.g_det rfl ?_;apply Exists.intro;refine ⟨λw X N=>?_,?_⟩
   . clear N
     go_simp;exact ⟨rfl,Once.refl _ _ _⟩
   go_frame;refine GrowN.g_new rfl (λw X N=>?_) (λ_=>?_)
   ·
    clear N;obtain ⟨z,hz,F⟩:=(Once.drew X).cells M14.o.t rfl;obtain ⟨z0,z1,z2,z3,z4,z5,z6,z7,z8,z9,rfl⟩:=ten z hz;have k0:w.cell? ⟨Bt,0,none⟩=some z0:=by rw [Lib.cell_of_heap F]; rfl
    have k1:w.cell? ⟨Bt,1,none⟩=some z1:=by rw [Lib.cell_of_heap F]; rfl
    have k2:w.cell? ⟨Bt,2,none⟩=some z2:=by rw [Lib.cell_of_heap F]; rfl
    have k3:w.cell? ⟨Bt,3,none⟩=some z3:=by rw [Lib.cell_of_heap F]; rfl
    have k4:w.cell? ⟨Bt,4,none⟩=some z4:=by rw [Lib.cell_of_heap F]; rfl
    have k5:w.cell? ⟨Bt,5,none⟩=some z5:=by rw [Lib.cell_of_heap F]; rfl
    have k6:w.cell? ⟨Bt,6,none⟩=some z6:=by rw [Lib.cell_of_heap F]; rfl
    have k7:w.cell? ⟨Bt,7,none⟩=some z7:=by rw [Lib.cell_of_heap F]; rfl
    have k8:w.cell? ⟨Bt,8,none⟩=some z8:=by rw [Lib.cell_of_heap F]; rfl
    have k9:w.cell? ⟨Bt,9,none⟩=some z9:=by rw [Lib.cell_of_heap F]; rfl
    have dv:∀ j,w.frozen? ⟨Bt,j,none⟩=false:=λj=>Lib.frozen_of_heap F j
    have HH:=zq (mi (z:=#[z0,z1,z2,z3,z4,z5,z6,z7,z8,z9]) rfl F (.int .i64 ki) (.int .i64 (q:Int)) (.int .i64 (d:Int)) (.int .i64 (rt:Int)) (.int .i64 (O:Int)) (.int .i64 (b:Int)) (.string (S t)) (.string (S g)) (.string (S R)) (.slice a ks.length c));have ba:=zq (oz w Bt (.int .i64 ki) (.int .i64 (q:Int)) (.int .i64 (d:Int)) (.int .i64 (rt:Int)) (.int .i64 (O:Int)) (.int .i64 (b:Int)) (.string (S t)) (.string (S g)) (.string (S R)) (.slice a ks.length c));clear F;go_simp;exact ⟨HH.o,ba.o,.inr HH.o⟩
   go_frame;refine GrowN.g_nil λI ak N=>?_
   have J:I.heap[Bt]?=some (.cells #[.int .i64 ki,.int .i64 (q:Int),.int .i64 (d:Int),.int .i64 (rt:Int),.int .i64 (O:Int),.int .i64 (b:Int),.string (S t),.string (S g),.string (S R),.slice a ks.length c] 69 (0,0)):=N _ (List.mem_singleton.2 rfl);have U:=((Mod.refl (λk=>k=Bt) w15).drew).trans ak.1;have av:=zq (bk.o I U);have a1:Zq (Below W.heap.size W I):=M14.o.b.trans (U.to_below _ M14.o.b.size (λk e=>by rw [e,<- cd.o]; exact Nat.le_refl _));clear N ak U;have c0:I.cell? ⟨Bt,0,none⟩=some (.int .i64 ki):=by rw [Lib.cell_of_heap J]; rfl
   have c1:I.cell? ⟨Bt,1,none⟩=some (.int .i64 (q:Int)):=by rw [Lib.cell_of_heap J]; rfl
   have c2:I.cell? ⟨Bt,2,none⟩=some (.int .i64 (d:Int)):=by rw [Lib.cell_of_heap J]; rfl
   have c3:I.cell? ⟨Bt,3,none⟩=some (.int .i64 (rt:Int)):=by rw [Lib.cell_of_heap J]; rfl
   have c4:I.cell? ⟨Bt,4,none⟩=some (.int .i64 (O:Int)):=by rw [Lib.cell_of_heap J]; rfl
   have c5:I.cell? ⟨Bt,5,none⟩=some (.int .i64 (b:Int)):=by rw [Lib.cell_of_heap J]; rfl
   have c6:I.cell? ⟨Bt,6,none⟩=some (.string (S t)):=by rw [Lib.cell_of_heap J]; rfl
   have c7:I.cell? ⟨Bt,7,none⟩=some (.string (S g)):=by rw [Lib.cell_of_heap J]; rfl
   have c8:I.cell? ⟨Bt,8,none⟩=some (.string (S R)):=by rw [Lib.cell_of_heap J]; rfl
   have c9:I.cell? ⟨Bt,9,none⟩=some (.slice a ks.length c):=by rw [Lib.cell_of_heap J]; rfl
   go_wp2_with fail;refine bodyPost_ret (v:=.tuple #[.agg #[.int .i64 ki,.int .i64 (q:Int),.int .i64 (d:Int),.int .i64 (rt:Int),.int .i64 (O:Int),.int .i64 (b:Int),.string (S t),.string (S g),.string (S R),.slice a ks.length c],.bool rl]) ?_ rfl ⟨a,c,?_,?_,?_⟩
   . clear J
     simp [results,Tryz.results82,go_sem,c0,c1,c2,c3,c4,c5,c6,c7,c8,c9]
   . rw [bb.o,hrl,ck.o,ar.o]
   . exact av.o
   . exact ⟨a1.o,λad e=>Nat.le_trans ci.o (a8.o ad e)⟩
end RecW
end Go.Proofs.YtcgonejkkpbepaaGreatDoor
